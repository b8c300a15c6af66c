/-
  slices.IndexFunc and ContainsFunc over waiting writes.
-/
import Derived.Test.YtilagblpamhmkaaInboxDot
namespace Go.Proofs.Ytilagblpamhmkaa
open Go.RowKit
set_option linter.unusedVariables false

theorem find_hit {α : Type} (P : α → Bool) : ∀ (l : List α) (k : Nat) (x : α), l[k]? = some x → P x = true → (l.take k).any P = false → l.findIdx? P = some k
  | [], _, _, h, _, _ => by simp at h
  | a :: l, 0, x, h, hp, _ => by
    simp only [List.getElem?_cons_zero, Option.some.injEq] at h
    subst h
    simp [List.findIdx?_cons, hp]
  | a :: l, k + 1, x, h, hp, hn => by
    simp only [List.getElem?_cons_succ] at h
    simp only [List.take_succ_cons, List.any_cons, Bool.or_eq_false_iff] at hn
    rw [List.findIdx?_cons, hn.1, find_hit P l k x h hp hn.2]
    rfl
theorem find_none {α : Type} (P : α → Bool) : ∀ l : List α, l.any P = false → l.findIdx? P = none
  | [], _ => rfl
  | a :: l, h => by
    simp only [List.any_cons, Bool.or_eq_false_iff] at h
    rw [List.findIdx?_cons, h.1, find_none P l h.2]
    rfl
def idxV (l : List Fa) (P : Fa → Bool) : Int := match l.findIdx? P with
  | some k => (k : Int)
  | none => -1
theorem idx_any (l : List Fa) (P : Fa → Bool) : decide (idxV l P ≥ 0) = l.any P := by
  unfold idxV
  cases h : l.any P
  · rw [find_none P l h]; rfl
  · obtain ⟨x, hx, hp⟩ := List.any_eq_true.1 h
    cases hf : l.findIdx? P with
    | none => exact absurd hp (by rw [List.findIdx?_eq_none_iff] at hf; simpa using hf x hx)
    | some k => simp
theorem far_at {w : World} {A : Option Addr} {n : Nat} {rows : List RFa} (h : Sl w A n 5 (rows.flatMap fV1)) {k : Nat} {y : RFa} (hy : rows[k]? = some y) :
    ∃ b off, A = some ⟨b, off, none⟩ ∧ ∀ r u, r < 5 → (fV1 y)[r]? = some u → w.cell? ⟨b, off + k * 5 + r, none⟩ = some u := by
  have hk := (List.getElem?_eq_some_iff.1 hy).1
  have hl := h.1
  rw [flat_len fV1_len] at hl
  obtain ⟨b, off, rfl, hc⟩ := h.2 (by omega)
  refine ⟨b, off, rfl, fun r u hr hu => ?_⟩
  have := hc (k * 5 + r) u ((flat_at fV1_len rows k r y hy hr).trans hu)
  rwa [← Nat.add_assoc] at this
set_option maxHeartbeats 4000000 in
theorem index_same (w : World) (A : Option Addr) (n c : Nat) (rows : List RFa) (cap : Addr) (P : Fa → Bool) (hs : Sl w A n 5 (rows.flatMap fV1)) (hn : n ≤ 140737488351232)
    (hC : Hid (∀ y ∈ rows, ∀ W : World, Below w.heap.size w W → Calls Try.prog 35 #[.agg #[.int .i64 y.1.src, .int .i64 y.1.seq, .string y.1.rc.key, .slice y.2.1.1 y.2.1.2.1 y.2.1.2.2, .slice y.2.2.1 y.2.2.2.1 y.2.2.2.2], .pointer (some cap)] W (ValE W (.bool (P y.1))))) :
    Calls Try.prog 38 #[.slice A n c, .func (.func 35) #[] #[.pointer (some cap)]] w (ValE w (.int .i64 (idxV (rows.map (·.1)) P))) := by
  have hl := hs.1
  rw [flat_len fV1_len] at hl
  have hrl : rows.length = n := by omega
  have HS := Lib.hid hs
  have HRL := Lib.hid hrl
  clear hs hl hrl
  go_enter Try.func38, Try.ntmps38
  go_wp2
  go_loopw [8] (fun i wr => ∃ k : Nat, i = .int .i64 (k : Int) ∧ k ≤ n ∧ Hid (((rows.map (·.1)).take k).any P = false) ∧ Hid (Below w.heap.size w wr)) (fun i _ => n - (intOf i).toNat)
  case atStart => exact ⟨0, rfl, Nat.zero_le _, Lib.hid rfl, Below.refl _ _⟩
  case round =>
    obtain ⟨k, rfl, hk, HA, HB⟩ := hrel
    by_cases hlt : k < n
    · obtain ⟨y, hy⟩ : ∃ y, rows[k]? = some y := ⟨_, List.getElem?_eq_getElem (by rw [HRL.out]; exact hlt)⟩
      obtain ⟨b, off, rfl, hc⟩ := far_at HS.out hy
      have x0 : wr.cell? ⟨b, off + k * 5, none⟩ = some (.int .i64 y.1.src) := cell_up (hc 0 _ (by omega) rfl) HB.out
      have x1 := cell_up (hc 1 _ (by omega) rfl) HB.out
      have x2 := cell_up (hc 2 _ (by omega) rfl) HB.out
      have x3 := cell_up (hc 3 _ (by omega) rfl) HB.out
      have x4 := cell_up (hc 4 _ (by omega) rfl) HB.out
      have HY := Lib.hid (show (rows.map (·.1))[k]? = some y.1 from by rw [List.getElem?_map, hy]; rfl)
      have CF := Lib.hid (hC.out y (List.mem_of_getElem? hy) wr HB.out)
      have i0 : (0 : Int) ≤ (k : Int) := by omega
      have i1 : (k : Int) < (n : Int) := by omega
      obtain ⟨bb, hbb⟩ : ∃ bb, P y.1 = bb := ⟨_, rfl⟩
      rw [hbb] at CF
      have HBB := Lib.hid hbb
      clear hc hy hbb
      go_wp2_with fail
      refine CF.out.mono ?_
      rintro e w3 ⟨rfl, b3⟩
      have HB3 := Lib.hid (HB.out.trans (b3.mono HB.out.size))
      clear b3 CF x0 x1 x2 x3 x4
      cases bb
      · have HA3 := Lib.hid (show ((rows.map (·.1)).take (k + 1)).any P = false from by rw [List.take_add_one, HY.out, List.any_append, HA.out]; simp [HBB.out])
        go_wp2
        go_roundw
        case rel => exact ⟨k + 1, by go_num, by omega, HA3, HB3⟩
        case measure => simp [intOf]; omega
      · have HI := Lib.hid (show idxV (rows.map (·.1)) P = (k : Int) from by unfold idxV; rw [find_hit P _ k y.1 HY.out HBB.out HA.out])
        go_wp2
        go_ret
        exact ⟨by rw [HI.out]; rfl, HB3.out⟩
    · obtain rfl : k = n := by omega
      have HI := Lib.hid (show idxV (rows.map (·.1)) P = -1 from by unfold idxV; rw [find_none P _ (by have h := HA.out; rwa [List.take_of_length_le (by rw [List.length_map, HRL.out]; exact Nat.le_refl _)] at h)])
      go_wp2
      go_ret
      exact ⟨by rw [HI.out]; rfl, HB.out⟩
set_option maxHeartbeats 4000000 in
theorem index_may (w : World) (A : Option Addr) (n c : Nat) (rows : List RFa) (cap : Addr) (P : Fa → Bool) (hs : Sl w A n 5 (rows.flatMap fV1)) (hn : n ≤ 140737488351232)
    (hC : Hid (∀ y ∈ rows, ∀ W : World, Below w.heap.size w W → Calls Try.prog 49 #[.agg #[.int .i64 y.1.src, .int .i64 y.1.seq, .string y.1.rc.key, .slice y.2.1.1 y.2.1.2.1 y.2.1.2.2, .slice y.2.2.1 y.2.2.2.1 y.2.2.2.2], .pointer (some cap)] W (ValE W (.bool (P y.1))))) :
    Calls Try.prog 38 #[.slice A n c, .func (.func 49) #[] #[.pointer (some cap)]] w (ValE w (.int .i64 (idxV (rows.map (·.1)) P))) := by
  have hl := hs.1
  rw [flat_len fV1_len] at hl
  have hrl : rows.length = n := by omega
  have HS := Lib.hid hs
  have HRL := Lib.hid hrl
  clear hs hl hrl
  go_enter Try.func38, Try.ntmps38
  go_wp2
  go_loopw [8] (fun i wr => ∃ k : Nat, i = .int .i64 (k : Int) ∧ k ≤ n ∧ Hid (((rows.map (·.1)).take k).any P = false) ∧ Hid (Below w.heap.size w wr)) (fun i _ => n - (intOf i).toNat)
  case atStart => exact ⟨0, rfl, Nat.zero_le _, Lib.hid rfl, Below.refl _ _⟩
  case round =>
    obtain ⟨k, rfl, hk, HA, HB⟩ := hrel
    by_cases hlt : k < n
    · obtain ⟨y, hy⟩ : ∃ y, rows[k]? = some y := ⟨_, List.getElem?_eq_getElem (by rw [HRL.out]; exact hlt)⟩
      obtain ⟨b, off, rfl, hc⟩ := far_at HS.out hy
      have x0 : wr.cell? ⟨b, off + k * 5, none⟩ = some (.int .i64 y.1.src) := cell_up (hc 0 _ (by omega) rfl) HB.out
      have x1 := cell_up (hc 1 _ (by omega) rfl) HB.out
      have x2 := cell_up (hc 2 _ (by omega) rfl) HB.out
      have x3 := cell_up (hc 3 _ (by omega) rfl) HB.out
      have x4 := cell_up (hc 4 _ (by omega) rfl) HB.out
      have HY := Lib.hid (show (rows.map (·.1))[k]? = some y.1 from by rw [List.getElem?_map, hy]; rfl)
      have CF := Lib.hid (hC.out y (List.mem_of_getElem? hy) wr HB.out)
      have i0 : (0 : Int) ≤ (k : Int) := by omega
      have i1 : (k : Int) < (n : Int) := by omega
      obtain ⟨bb, hbb⟩ : ∃ bb, P y.1 = bb := ⟨_, rfl⟩
      rw [hbb] at CF
      have HBB := Lib.hid hbb
      clear hc hy hbb
      go_wp2_with fail
      refine CF.out.mono ?_
      rintro e w3 ⟨rfl, b3⟩
      have HB3 := Lib.hid (HB.out.trans (b3.mono HB.out.size))
      clear b3 CF x0 x1 x2 x3 x4
      cases bb
      · have HA3 := Lib.hid (show ((rows.map (·.1)).take (k + 1)).any P = false from by rw [List.take_add_one, HY.out, List.any_append, HA.out]; simp [HBB.out])
        go_wp2
        go_roundw
        case rel => exact ⟨k + 1, by go_num, by omega, HA3, HB3⟩
        case measure => simp [intOf]; omega
      · have HI := Lib.hid (show idxV (rows.map (·.1)) P = (k : Int) from by unfold idxV; rw [find_hit P _ k y.1 HY.out HBB.out HA.out])
        go_wp2
        go_ret
        exact ⟨by rw [HI.out]; rfl, HB3.out⟩
    · obtain rfl : k = n := by omega
      have HI := Lib.hid (show idxV (rows.map (·.1)) P = -1 from by unfold idxV; rw [find_none P _ (by have h := HA.out; rwa [List.take_of_length_le (by rw [List.length_map, HRL.out]; exact Nat.le_refl _)] at h)])
      go_wp2
      go_ret
      exact ⟨by rw [HI.out]; rfl, HB.out⟩
set_option maxHeartbeats 1000000 in
theorem contains_same (w : World) (A : Option Addr) (n c : Nat) (rows : List RFa) (cap : Addr) (P : Fa → Bool) (hs : Sl w A n 5 (rows.flatMap fV1)) (hn : n ≤ 140737488351232)
    (hC : Hid (∀ y ∈ rows, ∀ W : World, Below w.heap.size w W → Calls Try.prog 35 #[.agg #[.int .i64 y.1.src, .int .i64 y.1.seq, .string y.1.rc.key, .slice y.2.1.1 y.2.1.2.1 y.2.1.2.2, .slice y.2.2.1 y.2.2.2.1 y.2.2.2.2], .pointer (some cap)] W (ValE W (.bool (P y.1))))) :
    Calls Try.prog 34 #[.slice A n c, .func (.func 35) #[] #[.pointer (some cap)]] w (ValE w (.bool ((rows.map (·.1)).any P))) := by
  have C := Lib.hid (index_same w A n c rows cap P hs hn hC)
  obtain ⟨iv, hiv⟩ : ∃ iv, idxV (rows.map (·.1)) P = iv := ⟨_, rfl⟩
  have hE := idx_any (rows.map (·.1)) P
  rw [hiv] at C hE
  obtain ⟨bb, hbb⟩ : ∃ bb, (rows.map (·.1)).any P = bb := ⟨_, rfl⟩
  rw [hbb] at hE ⊢
  have hE2 : decide (0 ≤ iv) = bb := hE
  clear hs hC hbb hiv
  go_enter Try.func34, Try.ntmps34
  go_wp2_with fail
  refine C.out.mono ?_
  rintro e w1 ⟨rfl, b1⟩
  have HB := Lib.hid b1
  clear b1 C
  go_wp2
  go_ret
  exact ⟨rfl, HB.out⟩
end Go.Proofs.Ytilagblpamhmkaa
