/-
  firth/inbox: Ready.
-/
import Derived.Test.YtilagblpamhmkaaInboxTake
import Derived.Test.YtilagblpamhmkaaMB
namespace Go.Proofs.Ytilagblpamhmkaa
open Go.RowKit
set_option linter.unusedVariables false

theorem res_cell_tmp {P : Program} {fn : Func} {p u : Tmp} {ty : TypeId} (h : fn.results = #[.cell p ty, .tmp u]) (tmps : Array Value) (w : World) :
    (results fn tmps).run P w = (asAddr (tmps.getD p undef) |>.run P w).andThen fun a w1 => ((loadVar ty a).run P w1).andThen fun v w2 => .ok (.tuple #[v, tmps.getD u undef]) w2 := by
  unfold results
  rw [h]
  simp [Result.andThen]
theorem res_row_tmp {P : Program} {fn : Func} {p u : Tmp} {ty : TypeId} (h : fn.results = #[.cell p ty, .tmp u]) (tmps : Array Value) (w : World) (g : Nat) (t : TypeId) (cs : Array Value) (fr : Nat × Nat) (d : TypeDesc)
    (hp : tmps.getD p undef = .pointer (some ⟨g, 0, none⟩)) (hg : w.heap[g]? = some (.cells cs t fr))
    (hu : P.underlying ty = some d) (hd : (match d with | .struct _ | .array _ _ => true | _ => false) = true) (hi : (P.info? ty).map (·.size) = some cs.size) :
    (results fn tmps).run P w = .ok (.tuple #[.agg cs, tmps.getD u undef]) w := by
  rw [res_cell_tmp h, hp]
  simp [asAddr, run_loadVar_row w g t ty cs fr d hg hu hd hi, Result.andThen]
theorem flatI_take {α : Type} {f : α → List Value} {sz : Nat} (hf : ∀ x, (f x).length = sz) : ∀ (l : List α) (i : Nat), (l.flatMap f).take (i * sz) = (l.take i).flatMap f
  | [], i => by simp
  | x :: l, 0 => by simp
  | x :: l, i + 1 => by
    rw [List.flatMap_cons, List.take_append, hf, show (i + 1) * sz - sz = i * sz by rw [Nat.add_mul]; omega, flatI_take hf l i, List.take_of_length_le (by rw [hf, Nat.add_mul]; omega)]
    rfl
theorem flatI_drop {α : Type} {f : α → List Value} {sz : Nat} (hf : ∀ x, (f x).length = sz) : ∀ (l : List α) (i : Nat), (l.flatMap f).drop (i * sz) = (l.drop i).flatMap f
  | [], i => by simp
  | x :: l, 0 => by simp
  | x :: l, i + 1 => by
    rw [List.flatMap_cons, List.drop_append, hf, show (i + 1) * sz - sz = i * sz by rw [Nat.add_mul]; omega, flatI_drop hf l i, List.drop_of_length_le (by rw [hf, Nat.add_mul]; omega)]
    rfl
theorem cutAt_rows (rows : List RFa) (i : Nat) : cutAt (rows.flatMap fV1) i = (rows.eraseIdx i).flatMap fV1 := by
  unfold cutAt
  rw [flatI_take fV1_len, flatI_drop fV1_len, ← List.flatMap_append, List.eraseIdx_eq_take_drop_succ]
section
variable {w w' : World} {fp fp' : Nat → Prop} {p : Nat} {room : Int} {l : List Fa}
theorem tag_neI {W : World} {a b : Nat} {ca cb : Array Value} {ta tb : TypeId} (ha : W.heap[a]? = some (.cells ca ta (0, 0))) (hb : W.heap[b]? = some (.cells cb tb (0, 0))) (ht : ta ≠ tb) : a ≠ b := by
  intro e
  subst e
  rw [ha] at hb
  injection hb with hb
  injection hb with _ h2
  exact ht h2
theorem dtI {t : TypeId} (h : t = 42 ∨ t = 53 ∨ t = 3) : t ≠ 81 ∧ t ≠ 35 := by
  rcases h with rfl | rfl | rfl <;> exact ⟨by decide, by decide⟩
/-- The list's row has been turned to other rows of the same block; then the slice is stored. -/
theorem InG.turn (h : InG w fp p room l) {g kc n' : Nat} {rows rows' : List RFa} {cur : Array Value} {l' : List Fa} (hp : IParts w fp p room l (.slice (some ⟨g, 0, none⟩) l.length kc) rows) (hg : w.heap[g]? = some (.cells cur 35 (0, 0)))
    {w2 : World} (F1 : Fr (fun b => b = g) w w2) (own2 : w2.ownsRow 0 35 5 (.slice (some ⟨g, 0, none⟩) n' kc) l'.length (rows'.flatMap fV1)) (hm : rows'.map (·.1) = l') (hs : ∀ y ∈ rows', y ∈ rows) :
    w2.heap[p]? = some (.cells #[.int .i64 room, .slice (some ⟨g, 0, none⟩) l.length kc] 81 (0, 0)) ∧ (∀ y ∈ rows, FaD w2 fp y) ∧
    (∀ y ∈ rows, FaD (w2.setCell ⟨p, 1, none⟩ (.slice (some ⟨g, 0, none⟩) n' kc)) fp y) ∧ InG (w2.setCell ⟨p, 1, none⟩ (.slice (some ⟨g, 0, none⟩) n' kc)) fp p room l' ∧ Fr fp w (w2.setCell ⟨p, 1, none⟩ (.slice (some ⟨g, 0, none⟩) n' kc)) := by
  have hfg : fp g := hp.2.2.1 g rfl
  have hpg : p ≠ g := tag_neI hp.1 hg (by decide)
  have k1 : Kept (fun b => b ≠ g) w w2 := F1.kept fun b hb hh => hb hh
  have hp2 := k1 _ _ hpg hp.1
  have k2 : Kept (fun b => b ≠ p) w2 (w2.setCell ⟨p, 1, none⟩ (.slice (some ⟨g, 0, none⟩) n' kc)) := Kept.set _ (fun hh => hh rfl)
  have F : Fr fp w (w2.setCell ⟨p, 1, none⟩ (.slice (some ⟨g, 0, none⟩) n' kc)) := (F1.mono (fun i hi => .inl (by rw [hi]; exact hfg))).trans (Fr.set w2 ⟨p, 1, none⟩ _) (fun i hi => .inl (by subst hi; exact h.inp))
  have kd1 : ∀ y ∈ rows, FaD w2 fp y := fun y hy => (hp.2.2.2.2 y hy).keep (fun b cs t ht _ ho => k1 b _ (tag_neI ho hg (dtI ht).2) ho)
  have kd : ∀ y ∈ rows, FaD (w2.setCell ⟨p, 1, none⟩ (.slice (some ⟨g, 0, none⟩) n' kc)) fp y := fun y hy => (kd1 y hy).keep (fun b cs t ht _ ho => k2 b _ (tag_neI ho hp2 (dtI ht).1) ho)
  refine ⟨hp2, kd1, kd, ⟨h.inp, ⟨.slice (some ⟨g, 0, none⟩) n' kc, rows', And.intro ?_ (And.intro ?_ (And.intro (fun g' hg' => hp.2.2.1 g' hg') (And.intro hm (fun y hy => kd y (hs y hy)))))⟩, fun b hb => Nat.lt_of_lt_of_le (h.lt b hb) F.size⟩, F⟩
  · rw [heap_setCell_same w2 p 1 _ _ _ hp2]; rfl
  · refine own_keep own2 (fp := fun b => b ≠ p) (fun b hb => ?_) k2
    obtain ⟨cs, hcs⟩ := own_tag own2 hb
    exact tag_neI hcs hp2 (by decide)
theorem InG.cut_ (h : InG w fp p room l) {lv : Value} {rows : List RFa} (hp : IParts w fp p room l lv rows) {i : Nat} (hi : i < l.length) :
    ∃ (g kc : Nat) (cur : Array Value), lv = .slice (some ⟨g, 0, none⟩) l.length kc ∧ w.heap[g]? = some (.cells cur 35 (0, 0)) ∧ cur.size = kc * 5 ∧ l.length ≤ kc ∧ kc ≤ maxLen ∧
      (∀ u ∈ cur.toList.take (l.length * 5), u.oneCell' = true) ∧ fp g ∧
      ∀ w2, (∃ cur', w2.heap[g]? = some (.cells cur' 35 (0, 0)) ∧ cur'.size = cur.size ∧ cur'.toList.take ((l.length - 1) * 5) = cutAt (cur.toList.take (l.length * 5)) i) → Fr (fun b => b = g) w w2 →
        w2.heap[p]? = some (.cells #[.int .i64 room, .slice (some ⟨g, 0, none⟩) l.length kc] 81 (0, 0)) ∧
        (∀ y ∈ rows, FaD (w2.setCell ⟨p, 1, none⟩ (.slice (some ⟨g, 0, none⟩) (l.length - 1) kc)) fp y) ∧ InG (w2.setCell ⟨p, 1, none⟩ (.slice (some ⟨g, 0, none⟩) (l.length - 1) kc)) fp p room (l.eraseIdx i) ∧ Fr fp w (w2.setCell ⟨p, 1, none⟩ (.slice (some ⟨g, 0, none⟩) (l.length - 1) kc)) := by
  have hp0 := hp
  obtain ⟨h1, h2, h3, h4, h5⟩ := hp
  rcases h2.2 with ⟨_, h0⟩ | ⟨g, kc, cur, rfl, _, hg, hk1, hk2, hcs, htk⟩
  · omega
  have hrl : rows.length = l.length := by rw [← h4, List.length_map]
  refine ⟨g, kc, cur, rfl, hg, hcs, hk1, hk2, fun u hu => ?_, h3 g rfl, fun w2 ⟨cur', e1, e2, e3⟩ F1 => ?_⟩
  · rw [htk] at hu
    obtain ⟨y, _, hy⟩ := List.mem_flatMap.1 hu
    exact fV1_one y u hy
  have hlen : (l.eraseIdx i).length = l.length - 1 := List.length_eraseIdx_of_lt hi
  obtain ⟨a1, _, a2, a3, a4⟩ := h.turn (n' := l.length - 1) (rows' := rows.eraseIdx i) (l' := l.eraseIdx i) hp0 hg F1 (by
    rw [hlen]
    refine ⟨?_, .inr ⟨g, kc, cur', rfl, Nat.zero_le _, e1, by omega, hk2, by rw [e2]; exact hcs, ?_⟩⟩
    · rw [flat_len fV1_len, List.length_eraseIdx_of_lt (by omega), hrl]
    · rw [e3, htk, cutAt_rows]) (by rw [← h4]; simp [List.eraseIdx_eq_take_drop_succ, List.map_append]) (fun y hy => List.mem_of_mem_eraseIdx hy)
  exact ⟨a1, a2, a3, a4⟩
end
/-- What Ready leaves. -/
def RdTo (w : World) (fp : Nat → Prop) (p : Nat) (room : Int) (l : List Fa) (v : List Int) (e : Ending) (w' : World) : Prop :=
  match readyI l v with
  | none => e = .returned (.tuple #[.agg #[.int .i64 0, .int .i64 0, .string ⟨#[]⟩, .slice none 0 0, .slice none 0 0], .bool false]) ∧ InG w' fp p room l ∧ Fr fp w w'
  | some k => ∃ y : RFa, l[k]? = some y.1 ∧ e = .returned (.tuple #[.agg #[.int .i64 y.1.src, .int .i64 y.1.seq, .string y.1.rc.key, .slice y.2.1.1 y.2.1.2.1 y.2.1.2.2, .slice y.2.2.1 y.2.2.2.1 y.2.2.2.2], .bool true]) ∧ FaD w' fp y ∧ InG w' fp p room (l.eraseIdx k) ∧ Fr fp w w'
end Go.Proofs.Ytilagblpamhmkaa
