/-
  firth/inbox: New, may, Take.
-/
import Derived.Test.YtilagblpamhmkaaInboxMay
import Derived.Test.YtilagblpamhmkaaInboxDelete
import Derived.Test.YtilagblpamhmkaaInboxOwn
namespace Go.Proofs.Ytilagblpamhmkaa
open Go.RowKit
set_option linter.unusedVariables false

theorem takeA_bad {room : Int} {l : List Fa} {f : Fa} {v : List Int} (h : rightF f = false) : takeA room l f v = 0 ∧ takeI room l f v = l := by
  have e : takeA room l f v = 0 := by unfold takeA; rw [if_pos h]
  exact ⟨e, by unfold takeI; rw [e]; rfl⟩
theorem takeA_cov {room : Int} {l : List Fa} {f : Fa} {v : List Int} (h : rightF f = true) (h2 : covB v f = true) : takeA room l f v = 1 ∧ takeI room l f v = l := by
  have e : takeA room l f v = 1 := by unfold takeA; rw [if_neg (by rw [h]; simp), if_pos h2]
  exact ⟨e, by unfold takeI; rw [e]; rfl⟩
theorem takeA_twice {room : Int} {l : List Fa} {f : Fa} {v : List Int} (h : rightF f = true) (h2 : covB v f = false) (h3 : l.any (sameDot f) = true) : takeA room l f v = 3 ∧ takeI room l f v = l := by
  have e : takeA room l f v = 3 := by unfold takeA; rw [if_neg (by rw [h]; simp), if_neg (by rw [h2]; simp), if_pos h3]
  exact ⟨e, by unfold takeI; rw [e]; rfl⟩
theorem takeA_full {room : Int} {l : List Fa} {f : Fa} {v : List Int} (h : rightF f = true) (h2 : covB v f = false) (h3 : l.any (sameDot f) = false) (h4 : room ≤ (l.length : Int)) (h5 : mayB v f = false) : takeA room l f v = 4 ∧ takeI room l f v = l := by
  have e : takeA room l f v = 4 := by unfold takeA; rw [if_neg (by rw [h]; simp), if_neg (by rw [h2]; simp), if_neg (by rw [h3]; simp), if_pos ⟨h4, h5⟩]
  exact ⟨e, by unfold takeI; rw [e]; rfl⟩
theorem takeA_kept {room : Int} {l : List Fa} {f : Fa} {v : List Int} (h : rightF f = true) (h2 : covB v f = false) (h3 : l.any (sameDot f) = false) (h4 : ¬ (room ≤ (l.length : Int) ∧ mayB v f = false)) : takeA room l f v = 2 ∧ takeI room l f v = l ++ [f] := by
  have e : takeA room l f v = 2 := by unfold takeA; rw [if_neg (by rw [h]; simp), if_neg (by rw [h2]; simp), if_neg (by rw [h3]; simp), if_neg h4]
  exact ⟨e, by unfold takeI; rw [e]; rfl⟩
theorem rightF_rec {f : Fa} (h : rightF f = true) : rightR f.rc = true ∧ f.rc.vers.length = 1 := by
  unfold rightF at h
  rw [Bool.and_eq_true] at h
  exact ⟨h.1, of_decide_eq_true h.2⟩
/-- What a call leaves of an inbox. -/
def ITo (w : World) (fp : Nat → Prop) (p : Nat) (room : Int) (l : List Fa) (v : Value) (e : Ending) (w' : World) : Prop :=
  e = .returned v ∧ ∃ fp', InG w' fp' p room l ∧ Fr fp w w' ∧ Grow w fp fp'
set_option maxHeartbeats 1000000 in
theorem may_any (w : World) (Av : Option Addr) (nv cv : Nat) :
    Calls Try.prog 36 #[.slice Av nv cv] w fun e w' => e = .returned (.func (.func 49) #[] #[.pointer (some ⟨w.heap.size, 0, none⟩)]) ∧ w' = w.alloc (.cells #[.slice Av nv cv] 23) := by
  go_enter Try.func36, Try.ntmps36
  go_wp2
  go_ret
  exact ⟨rfl, rfl⟩
set_option maxHeartbeats 1000000 in
theorem new_any (room : Int) (w : World) :
    Calls Try.prog 11 #[.int .i64 room] w fun e w' => e = .returned (.pointer (some ⟨w.heap.size, 0, none⟩)) ∧ InG w' (fun b => b = w.heap.size) w.heap.size (max room 0) [] ∧ Below w.heap.size w w' := by
  have e : max room 0 = if room < 0 then 0 else room := by
    by_cases h : room < 0
    · rw [if_pos h]; exact Int.max_eq_right (by omega)
    · rw [if_neg h]; exact Int.max_eq_left (by omega)
  have HE : ∀ u : Int, max room 0 = u → InG (w.alloc (.cells #[.int .i64 u, .slice none 0 0] 81)) (fun b => b = w.heap.size) w.heap.size (max room 0) [] := by
    intro u hu
    subst hu
    exact ⟨rfl, ⟨.slice none 0 0, [], And.intro (heap_alloc_new _ _) (And.intro (World.ownsRow_nil _ _ _ _) (And.intro (fun g hg => nomatch hg) (And.intro rfl (fun y hy => nomatch hy))))⟩, fun b hb => by subst hb; simp⟩
  have HB : ∀ u : Int, Below w.heap.size w (w.alloc (.cells #[.int .i64 u, .slice none 0 0] 81)) := fun u => (Below.refl _ _).alloc (Nat.le_refl _) _
  rw [e] at HE ⊢
  have HE := Lib.hid HE
  have HB := Lib.hid HB
  by_cases h : room < 0
  · have q1 : decide (room < 0) = true := decide_eq_true h
    have HQ := Lib.hid (show (if room < 0 then (0 : Int) else room) = 0 from if_pos h)
    rw [HQ.out] at HE ⊢
    go_enter Try.func11, Try.ntmps11
    go_wp2
    go_ret
    exact ⟨rfl, HE.out _ rfl, HB.out _⟩
  · have q1 : decide (room < 0) = false := decide_eq_false h
    have HQ := Lib.hid (show (if room < 0 then (0 : Int) else room) = room from if_neg h)
    rw [HQ.out] at HE ⊢
    go_enter Try.func11, Try.ntmps11
    go_wp2
    go_ret
    exact ⟨rfl, HE.out _ rfl, HB.out _⟩
section
variable {w w' : World} {fp fp' : Nat → Prop} {p : Nat} {room : Int} {l : List Fa}
theorem grown_own {w1 w3 : World} {lv v : Value} {k B n sz : Nat} {ys xs : List Value} {t : TypeId} (ht : t ≠ 35) (o : w1.ownsRow B t sz v n xs) (ol : w1.ownsRow 0 35 5 lv k ys) (g3 : w1.grownBy w3 lv.ownBlock) : w3.ownsRow B t sz v n xs := by
  refine own_keep (fp := fun b => ∃ cs, w1.heap[b]? = some (.cells cs t (0, 0))) o (fun g hg => own_tag o hg) (Kept.grown g3 ?_)
  rintro g hg ⟨cs', hg'⟩
  obtain ⟨cs2, h2⟩ := own_tag ol hg
  rw [hg'] at h2
  injection h2 with h2
  injection h2 with _ h2
  exact ht h2
/-- Behind the append and the store of a write. -/
theorem InG.push (h : InG w fp p room l) {lv v3 : Value} {rows : List RFa} {w1 w3 : World} {f : Fa} {A1 A2 : Option Addr} {n1 c1 n2 c2 : Nat} {vr : List RV} (hp : IParts w fp p room l lv rows) (b1 : Below w.heap.size w w1)
    (hm : vr.map (·.1) = f.rc.vers) (ov : OwnV w1 w.heap.size (.slice A1 n1 c1) n1 vr) (hc1 : n1 ≤ c1) (o2 : w1.ownsRow w.heap.size 3 1 (.slice A2 n2 c2) n2 (f.route.map (Value.int .i64))) (hc2 : n2 ≤ c2) (hn2 : n2 * 8 ≤ 140737488351232) (hr : rightF f = true)
    (own3 : w3.ownsRow 0 35 5 v3 (l.length + 1) (rows.flatMap fV1 ++ fV1 (f, (A1, n1, c1), (A2, n2, c2)))) (g3 : (w1.alloc (.cells #[.int .i64 f.src, .int .i64 f.seq, .string f.rc.key, .slice A1 n1 c1, .slice A2 n2 c2] 35)).grownBy w3 lv.ownBlock)
    (hv3 : v3.ownBlock = lv.ownBlock ∨ v3.ownBlock = some (w1.heap.size + 1)) :
    ITo w fp p room (l ++ [f]) (.int .i64 2) (.returned (.int .i64 2)) (w3.setCell ⟨p, 1, none⟩ v3) ∧ w3.cell? ⟨p, 1, none⟩ = some lv ∧ (∀ j, w3.frozen? ⟨p, j, none⟩ = false) := by
  have hsz := b1.size
  have hF : Fr (fun b => lv.ownBlock = some b) w w3 := ((Fr.of_below b1).trans (Fr.alloc (fun _ => False) w1 _) (fun _ h => h.elim)).trans (Fr.of_grown g3) (fun i hi => .inl hi.symm)
  have ol := own_keep hp.2.1 (fp := fun b => b < w.heap.size) (fun g hg => (hp.2.1.lt g hg).2) (fun b o hb ho => (b1.block b hb).trans ho)
  have ola := ol.alloc (.cells #[.int .i64 f.src, .int .i64 f.seq, .string f.rc.key, .slice A1 n1 c1, .slice A2 n2 c2] 35)
  have o3 := grown_own (by decide) (o2.alloc (.cells #[.int .i64 f.src, .int .i64 f.seq, .string f.rc.key, .slice A1 n1 c1, .slice A2 n2 c2] 35)) ola g3
  have ov3 : OwnV w3 w.heap.size (.slice A1 n1 c1) n1 vr := ⟨grown_own (by decide) (ov.1.alloc _) ola g3, fun y hy => ⟨grown_own (by decide) ((ov.2 y hy).1.alloc _) ola g3, (ov.2 y hy).2⟩⟩
  obtain ⟨hrr, hr1⟩ := rightF_rec hr
  have hn1 : n1 = 1 := by
    have := ov.1.1
    rw [flat_len vV1_len] at this
    have h2 : vr.length = 1 := by rw [← hr1, ← hm, List.length_map]
    omega
  obtain ⟨k1, k2, _⟩ := rightR_true.1 hrr
  have hq : InG (w3.setCell ⟨p, 1, none⟩ v3) (fun b => fp b ∨ w.heap.size ≤ b ∧ b < w3.heap.size) p room (l ++ [f]) ∧ w3.cell? ⟨p, 1, none⟩ = some lv ∧ (∀ j, w3.frozen? ⟨p, j, none⟩ = false) ∧ Fr fp w (w3.setCell ⟨p, 1, none⟩ v3) := by
    refine h.relist (l' := l ++ [f]) (rows' := rows ++ [(f, (A1, n1, c1), (A2, n2, c2))]) (v3 := v3) hp hF ?_ ?_ ?_ ?_
    · have e1 : (l ++ [f]).length = l.length + 1 := by simp
      have e2 : (rows ++ [((f, (A1, n1, c1), (A2, n2, c2)) : RFa)]).flatMap fV1 = rows.flatMap fV1 ++ fV1 (f, (A1, n1, c1), (A2, n2, c2)) := by rw [List.flatMap_append]; simp
      rw [e1, e2]
      exact own3
    · intro g hg
      rcases hv3 with e | e
      · exact .inl (hp.2.2.1 g (by rw [← e]; exact hg))
      · rw [e] at hg
        injection hg with hg
        exact .inr (by omega)
    · rw [List.map_append, hp.2.2.2.1]; rfl
    · intro y hy
      rcases List.mem_append.1 hy with hy | hy
      · exact .inr (hp.2.2.2.2 y hy)
      · rw [List.mem_singleton.1 hy]
        refine .inl ⟨?_, hc1, by show n1 * 64 ≤ _; omega, by show f.rc.key.size ≤ _; omega, SlF.of_own o3 (fun i h1 h2 => .inr ⟨h1, h2⟩), hc2, hn2, hr⟩
        rw [← hm]
        exact SlVF.of_own ov3 (fun i h1 h2 => .inr ⟨h1, h2⟩)
  obtain ⟨a1, a2, a3, a4⟩ := hq
  exact ⟨⟨rfl, _, a1, a4, fun i hi => hi.elim .inl (fun hh => .inr hh.1)⟩, a2, a3⟩
end
end Go.Proofs.Ytilagblpamhmkaa
