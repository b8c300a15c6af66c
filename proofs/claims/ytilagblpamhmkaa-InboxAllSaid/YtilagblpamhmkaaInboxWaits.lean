/-
  firth/inbox: Waits.
-/
import Derived.Test.YtilagblpamhmkaaInboxReady
import Derived.Test.YtilagblpamhmkaaInboxOwn
namespace Go.Proofs.Ytilagblpamhmkaa
open Go.RowKit
set_option linter.unusedVariables false

/-- The list so far. -/
structure WInv (w : World) (l : List Fa) (k : Nat) (wr : World) (A : Option Addr) (n c : Nat) (rows : List RFa) : Prop where
  own : wr.ownsRow w.heap.size 35 5 (.slice A n c) n (rows.flatMap fV1)
  map : rows.map (·.1) = l.take k
  fd : ∀ y ∈ rows, FaD wr (fun b => w.heap.size ≤ b) y
  below : Below w.heap.size w wr
/-- Far writes in new memory. -/
def NewFs (w : World) (l : List Fa) (e : Ending) (w' : World) : Prop :=
  ∃ (A : Option Addr) (n c : Nat) (rows : List RFa), e = .returned (.slice A n c) ∧ WInv w l l.length w' A n c rows
theorem WInv.len {w wr : World} {l : List Fa} {k n c : Nat} {A : Option Addr} {rows : List RFa} (h : WInv w l k wr A n c rows) (hk : k ≤ l.length) : n = k ∧ rows.length = k := by
  have h1 := h.own.1
  have h2 := congrArg List.length h.map
  rw [flat_len fV1_len] at h1
  rw [List.length_map, List.length_take] at h2
  omega
theorem keepD_grown {w1 w3 : World} {fp : Nat → Prop} {B k : Nat} {lv : Value} {ys : List Value} (ol : w1.ownsRow B 35 5 lv k ys) (g3 : w1.grownBy w3 lv.ownBlock) : KeepD fp w1 w3 := by
  intro b cs t ht _ ho
  refine Kept.grown (fp := fun b => ∃ cs t, w1.heap[b]? = some (.cells cs t (0, 0)) ∧ t ≠ 35) g3 ?_ b _ ⟨cs, t, ho, (dtI ht).2⟩ ho
  rintro g hg ⟨cs', t', hg', hne⟩
  obtain ⟨cs2, h2⟩ := own_tag ol hg
  rw [hg'] at h2
  injection h2 with h2
  injection h2 with _ h2
  exact hne h2
section
variable {w wr w2 w4 : World} {l : List Fa} {k n c : Nat} {A : Option Addr} {rows : List RFa}
theorem WInv.step (h : WInv w l k wr A n c rows) {f : Fa} {A1 A2 A4 : Option Addr} {n1 c1 n2 c2 c4 : Nat} {vr : List RV} {o : Obj} (hf : l[k]? = some f) (b2 : Below wr.heap.size wr w2)
    (hm : vr.map (·.1) = f.rc.vers) (ov : OwnV w2 wr.heap.size (.slice A1 n1 c1) n1 vr) (hc1 : n1 ≤ c1) (o2 : w2.ownsRow wr.heap.size 3 1 (.slice A2 n2 c2) n2 (f.route.map (Value.int .i64))) (hc2 : n2 ≤ c2) (hn2 : n2 * 8 ≤ 140737488351232) (hr : rightF f = true)
    (own4 : w4.ownsRow w.heap.size 35 5 (.slice A4 (n + 1) c4) (n + 1) (rows.flatMap fV1 ++ fV1 (f, (A1, n1, c1), (A2, n2, c2)))) (g4 : (w2.alloc o).grownBy w4 (Value.slice A n c).ownBlock) :
    WInv w l (k + 1) w4 A4 (n + 1) c4 (rows ++ [(f, (A1, n1, c1), (A2, n2, c2))]) := by
  have hs := h.below.size
  have hs2 := b2.size
  have olr := own_keep h.own (fp := fun b => b < wr.heap.size) (fun g hg => (h.own.lt g hg).2) (fun b o hb ho => (b2.block b hb).trans ho)
  have ola := olr.alloc o
  have kd : ∀ fp : Nat → Prop, KeepD fp w2 w4 := fun fp b cs t ht hb ho => keepD_grown ola g4 b cs t ht hb ((Below.heap_alloc w2 o b (Array.getElem?_eq_some_iff.1 ho).1).trans ho)
  have own_t : ∀ {t : TypeId} {B sz m : Nat} {v : Value} {xs : List Value}, (t = 42 ∨ t = 53 ∨ t = 3) → w2.ownsRow B t sz v m xs → w4.ownsRow B t sz v m xs := by
    intro t B sz m v xs ht ho
    exact grown_own (dtI ht).2 (ho.alloc o) (own_lower ola (Nat.zero_le _)) g4
  obtain ⟨hrr, hr1⟩ := rightF_rec hr
  have hn1 : n1 = 1 := by
    have := ov.1.1
    rw [flat_len vV1_len] at this
    have h2 : vr.length = 1 := by rw [← hr1, ← hm, List.length_map]
    omega
  obtain ⟨k1, k2, _⟩ := rightR_true.1 hrr
  have ov4 : OwnV w4 wr.heap.size (.slice A1 n1 c1) n1 vr := ⟨own_t (.inl rfl) ov.1, fun y hy => ⟨own_t (.inr (.inl rfl)) (ov.2 y hy).1, (ov.2 y hy).2⟩⟩
  refine ⟨?_, ?_, ?_, ?_⟩
  · rw [List.flatMap_append]
    simpa using own4
  · rw [List.map_append, h.map, List.take_add_one, hf]; rfl
  · intro y hy
    rcases List.mem_append.1 hy with hy | hy
    · exact ((h.fd y hy).keep (KeepD.of (Kept.below b2))).keep (kd _)
    · rw [List.mem_singleton.1 hy]
      refine ⟨?_, hc1, by show n1 * 64 ≤ _; omega, by show f.rc.key.size ≤ _; omega, SlF.of_own (own_t (.inr (.inr rfl)) o2) (fun i h1 h2 => Nat.le_trans hs h1), hc2, hn2, hr⟩
      rw [← hm]
      exact SlVF.of_own ov4 (fun i h1 h2 => Nat.le_trans hs h1)
  · have b4 : Below w.heap.size (w2.alloc o) w4 := Fr.below (Fr.of_grown g4) (fun i hi => (h.own.lt i hi.symm).1) (by simp; omega)
    exact ((h.below.trans (b2.mono hs)).alloc (by omega) o).trans b4
end
section
variable {w w' : World} {fp fp' : Nat → Prop} {p : Nat} {room : Int} {l : List Fa}
set_option maxHeartbeats 20000000 in
set_option maxRecDepth 100000 in
theorem waits_any (h : InG w fp p room l) (hl : l.length * 80 ≤ 140737488355328) :
    Calls Try.prog 17 #[.pointer (some ⟨p, 0, none⟩)] w (NewFs w l) := by
  obtain ⟨i0, hi, hz0, hz1, hz2⟩ := info_parts Try.infoFarD
  obtain ⟨lv, rows0, hp⟩ := h.ex
  obtain ⟨A0, k0, rfl, hk0, _⟩ := own_slice hp.2.1
  have c0 := row_cell (j := 1) hp.1 rfl
  have HSS := Lib.hid (fun (W' : World) (bl : Below w.heap.size w W') => hp.kept h.inp (Kept.below (fp := fp) bl))
  have hl0 : rows0.length = l.length := by rw [← hp.2.2.2.1, List.length_map]
  have HL0 := Lib.hid hl0
  clear h hp hl0
  go_enter Try.func17, Try.ntmps17
  go_wp2_with fail
  go_loopw [3, 11] (fun t3 t11 wr => ∃ (k : Nat) (A : Option Addr) (n c : Nat) (rows : List RFa), t3 = .slice A n c ∧ t11 = .int .i64 (k : Int) ∧ k ≤ l.length ∧ Hid (WInv w l k wr A n c rows)) (fun _ t11 _ => l.length - (intOf t11).toNat)
  case atStart => exact ⟨0, none, 0, 0, [], rfl, rfl, Nat.zero_le _, ⟨World.ownsRow_nil _ _ _ _, rfl, fun y hy => (nomatch hy), Below.refl _ _⟩⟩
  case round =>
    obtain ⟨k, A, n, c, rows, rfl, rfl, hk, HW⟩ := hrel
    by_cases hlt : k < l.length
    · obtain ⟨hn, hrl⟩ := HW.out.len hk
      subst hn
      have hpr := HSS.out wr HW.out.below
      obtain ⟨y, hy⟩ : ∃ y, rows0[n]? = some y := ⟨_, List.getElem?_eq_getElem (by rw [HL0.out]; exact hlt)⟩
      have hly : l[n]? = some y.1 := by rw [← hpr.2.2.2.1, List.getElem?_map, hy]; rfl
      obtain ⟨g, cc, hv, c1, hc, -, hgl⟩ := hpr.at_ hy
      injection hv with hv1 _ hv2
      subst hv1 hv2
      have x0 : wr.cell? ⟨g, n * 5, none⟩ = some (.int .i64 y.1.src) := hc 0 _ (by omega) rfl
      have x1 := hc 1 _ (by omega) rfl
      have x2 := hc 2 _ (by omega) rfl
      have x3 := hc 3 _ (by omega) rfl
      have x4 := hc 4 _ (by omega) rfl
      have i1 : (0 : Int) ≤ (n : Int) := by omega
      have i2 : (n : Int) < (l.length : Int) := by omega
      have hfd := hpr.2.2.2.2 y (List.mem_of_getElem? hy)
      have b1 : Below wr.heap.size wr (wr.alloc (.cells #[.int .i64 y.1.src, .int .i64 y.1.seq, .string y.1.rc.key, .slice y.2.1.1 y.2.1.2.1 y.2.1.2.2, .slice y.2.2.1 y.2.2.2.1 y.2.2.2.2] 35)) := (Below.refl _ _).alloc (Nat.le_refl _) _
      have CO := Lib.hid (ownF_any _ y.1 y.2.1.1 y.2.1.2.1 y.2.1.2.2 y.2.2.1 y.2.2.2.1 y.2.2.2.2 (hfd.rrow.below b1) (Sl.below hfd.ro.1 b1) hfd.rc hfd.rl (rightF_rec hfd.right).1)
      have HR := Lib.hid (And.intro hly (And.intro b1 hfd))
      clear hpr hy hly hc hfd b1
      go_wp2_with fail
      refine CO.out.mono ?_
      rintro e w2 ⟨A1, n1, A2, n2, n3, rfl, ⟨vr, hvr, ov⟩, hc1, hrl2, hc2, o2, b2⟩
      have b2w := HR.out.2.1.trans (b2.mono HR.out.2.1.size)
      have R2 := own_keep HW.out.own (fp := fun b => b < wr.heap.size) (fun g hg => (HW.out.own.lt g hg).2) (fun b o hb ho => (b2w.block b hb).trans ho)
      have hsz : w.heap.size ≤ w2.heap.size := Nat.le_trans HW.out.below.size b2w.size
      have HO := Lib.hid (fun (o : Obj) (A4 : Option Addr) (c4 : Nat) (w4 : World) own4 g4 => HW.out.step (o := o) (A4 := A4) (c4 := c4) (w4 := w4) HR.out.1 b2w hvr (ov.lower HR.out.2.1.size) hc1 (own_lower o2 HR.out.2.1.size) hc2 (by have h1 := HR.out.2.2.ro.1.1; have h2 := HR.out.2.2.rl; rw [List.length_map] at h1; omega) HR.out.2.2.right own4 g4)
      clear b2w b2 ov o2 hvr hc1 hc2 hrl2 CO x0 x1 x2 x3 x4
      go_wp2_with (first | (at_builtin; refine wpList_append_sl _ rfl (.tmp 15) (.tmp 18) 22 rfl (w.heap.size) 35 i0 (.agg #[.int .i64 0, .int .i64 0, .string ⟨#[]⟩, .slice none 0 0, .slice none 0 0]) 5 80 Try.underlying22 hi hz0 hz1 hz2 rfl (by decide) (.slice A n c) (n) (rows.flatMap fV1) rfl (R2.alloc _) (some ⟨w2.heap.size, 0, none⟩) (1) (1) (fV1 (y.1, (A1, y.1.rc.vers.length, n1), (A2, n2, n3))) rfl (sl_lit _ _ _ _ 1 5 _ rfl rfl rfl) (fV1_one _) (by unfold maxLen; omega) (by omega) (by simp; omega) ?_) | fail)
      intro v4 w4 own4 g4 hv4
      obtain ⟨A4, c4, rfl, -, -⟩ := own_slice own4
      have HS := Lib.hid (HO.out _ A4 c4 w4 own4 g4)
      clear own4 g4 hv4 HO R2
      go_wp2
      go_roundw
      case rel => exact ⟨n + 1, A4, n + 1, c4, _, rfl, by go_num, by omega, HS⟩
      case measure => simp [intOf]; omega
    · obtain rfl : k = l.length := by omega
      go_wp2
      go_ret
      exact ⟨A, n, c, rows, rfl, HW.out⟩
end
end Go.Proofs.Ytilagblpamhmkaa
