/-
  vect.Holds and firthref04.Holds tell whether a vector covers a set's last dots.
-/
import Derived.Test.YtjjemoiblbehoaaVectAt
import Derived.Test.YtjjemoiblbehoaaSpanMem
import Derived.Deep.RegionHeld3
namespace Go.Proofs.Ytjjemoiblbehoaa
open Go.RowKit
set_option linter.unusedVariables false

/-- All spans' last dots are covered. -/
def holdsB (v : List Int) (l : List Sp) : Bool := l.all fun x => coversB v x.1 x.2.2
def HoldsTo (v : List Int) (l : List Sp) (k : Nat) : Prop := holdsB v (l.take k) = true
theorem HoldsTo.step {v : List Int} {l : List Sp} {k : Nat} {x y z : Int} (h : HoldsTo v l k) (hx : l[k]? = some (x, y, z)) (hc : coversB v x z = true) : HoldsTo v l (k + 1) := by
  have e : l.take (k + 1) = l.take k ++ [(x, y, z)] := by rw [List.take_add_one, hx]; rfl
  unfold HoldsTo holdsB at *
  rw [e, List.all_append, h]
  simp [hc]
theorem HoldsTo.no {v : List Int} {l : List Sp} {k : Nat} {x y z : Int} (hx : l[k]? = some (x, y, z)) (hc : coversB v x z = false) : holdsB v l = false := by
  unfold holdsB
  rw [List.all_eq_false]
  exact ⟨_, List.mem_of_getElem? hx, by simp [hc]⟩
theorem HoldsTo.all {v : List Int} {l : List Sp} {n : Nat} (h : HoldsTo v l n) (hn : l.length = n) : holdsB v l = true := by
  unfold HoldsTo at h
  rwa [List.take_of_length_le (by omega)] at h

set_option maxHeartbeats 1000000 in
set_option maxRecDepth 100000 in
theorem holds_any (A : Option Addr) (n c : Nat) (v : List Int) (A2 : Option Addr) (n2 c2 : Nat) (l : List Sp) (w : World) (hs : SlI w A n v) (hn : n ≤ 140737488351232) (h2 : SlS w A2 n2 l) (hn2 : n2 ≤ 140737488351232) (hwf : ∀ x ∈ l, wfSp x) :
    Calls Try.prog 21 #[.slice A n c, .slice A2 n2 c2] w fun e w' => e = .returned (.bool (holdsB v l)) ∧ Below w.heap.size w w' := by
  have hll := h2.len
  go_enter Try.func21, Try.ntmps21
  go_wp2
  go_loopw [9] (fun i wr => ∃ k : Nat, i = .int .i64 (k : Int) ∧ k ≤ n2 ∧ Hid (HoldsTo v l k) ∧ Below w.heap.size w wr) (fun i _ => n2 - (intOf i).toNat)
  case atStart => exact ⟨0, rfl, Nat.zero_le _, rfl, Below.refl _ _⟩
  case round =>
    obtain ⟨k, rfl, hk, Hok, hbel⟩ := hrel
    have hsz := hbel.size
    by_cases hlt : k < n2
    · obtain ⟨b, off, x, y, z, rfl, hx, hc0, hc1, hc2⟩ := SlS.at_ (Sl.below h2 hbel) hlt
      have Hx := Lib.hid hx
      have hw := hwf _ (List.mem_of_getElem? hx)
      have hb := bounds_i64 hw.1
      have CC := Lib.hid (fun W (hW : SlI W A n v) => covers_any A n c v x z W hW hn hb.1)
      clear hx hw hb hwf
      have S0 : SlI (wr.alloc (.cells #[.int .i64 x, .int .i64 y, .int .i64 z] 55)) A n v := Sl.alloc (Sl.below hs hbel) _
      have B0 : Below w.heap.size w (wr.alloc (.cells #[.int .i64 x, .int .i64 y, .int .i64 z] 55)) := hbel.alloc hsz _
      have C := Lib.hid (CC.out _ S0)
      cases hcv : coversB v x z
      · rw [hcv] at C
        have HF := Lib.hid (HoldsTo.no Hx.out hcv)
        clear hcv CC S0 hbel
        go_wp2_with fail
        refine C.out.mono ?_
        rintro e w1 ⟨rfl, b1⟩
        have B1 := B0.trans (b1.mono B0.size)
        clear b1 B0 C
        go_wp2
        go_ret
        exact ⟨retb HF.out, B1⟩
      · rw [hcv] at C
        have HT := Lib.hid (Hok.out.step Hx.out hcv)
        clear hcv CC S0 hbel
        go_wp2_with fail
        refine C.out.mono ?_
        rintro e w1 ⟨rfl, b1⟩
        have B1 := B0.trans (b1.mono B0.size)
        clear b1 B0 C
        go_wp2
        go_roundw
        case rel => exact ⟨k + 1, by go_num, by omega, HT.out, B1⟩
        case measure => simp [intOf]; omega
    · obtain rfl : k = n2 := by omega
      go_wp2
      go_ret
      exact ⟨retb (Hok.out.all hll), hbel⟩

set_option maxHeartbeats 2000000 in
set_option maxRecDepth 100000 in
theorem refHolds_any (A : Option Addr) (n c : Nat) (v : List Int) (A2 : Option Addr) (n2 c2 : Nat) (l : List Sp) (w : World) (hs : SlI w A n v) (hn : n ≤ 140737488351232) (h2 : SlS w A2 n2 l) (hn2 : n2 ≤ 140737488351232) (hwf : ∀ x ∈ l, wfSp x) :
    Calls Try.prog 22 #[.slice A n c, .slice A2 n2 c2] w fun e w' => e = .returned (.bool (holdsB v l)) ∧ Below w.heap.size w w' := by
  have hll := h2.len
  go_enter Try.func22, Try.ntmps22
  go_wp2
  go_loopw [5] (fun i wr => ∃ k : Nat, i = .int .i64 (k : Int) ∧ k ≤ n2 ∧ Hid (HoldsTo v l k) ∧ Below w.heap.size w wr) (fun i _ => n2 - (intOf i).toNat)
  case atStart => exact ⟨0, rfl, Nat.zero_le _, rfl, Below.refl _ _⟩
  case round =>
    obtain ⟨k, rfl, hk, Hok, hbel⟩ := hrel
    have hsz := hbel.size
    by_cases hlt : k < n2
    · obtain ⟨b, off, x, y, z, rfl, hx, hc0, hc1, hc2⟩ := SlS.at_ (Sl.below h2 hbel) hlt
      have Hx := Lib.hid hx
      have hw := hwf _ (List.mem_of_getElem? hx)
      have hb := bounds_i64 hw.1
      have S0 : SlI wr.drew A n v := Sl.below hs hbel.drew
      have C := Lib.hid (refCovers_any A n c v x z wr.drew S0 hn hb.1 hb.2)
      have B0 : Below w.heap.size w wr.drew := hbel.drew
      have j0 : (0 : Int) ≤ (k : Int) := by omega
      have j1 : (k : Int) < (n2 : Int) := by omega
      clear hx hw hb hwf
      cases hcv : coversB v x z
      · rw [hcv] at C
        have HF := Lib.hid (HoldsTo.no Hx.out hcv)
        clear hcv S0 hbel
        go_wp2_with fail
        go_region_held3 (fun w' => w'.cell? ⟨b, off + k * 3, none⟩ = some (.int .i64 x) ∧ w'.cell? ⟨b, off + k * 3 + 2, none⟩ = some (.int .i64 z) ∧ Below w.heap.size w w')
          (first | exact ⟨hc0, hc2, B0⟩ | exact hS1 | assumption)
          (first
            | (go_at_call 20; refine C.out.mono ?_; rintro e w1 ⟨rfl, b1⟩; have hS1 : w1.cell? ⟨b, off + k * 3, none⟩ = some (.int .i64 x) ∧ w1.cell? ⟨b, off + k * 3 + 2, none⟩ = some (.int .i64 z) ∧ Below w.heap.size w w1 := ⟨(b1.cell (World.block_lt_of_cell? wr.drew _ hc0)).trans hc0, (b1.cell (World.block_lt_of_cell? wr.drew _ hc2)).trans hc2, B0.trans (b1.mono B0.size)⟩))
        go_wp2
        go_ret
        exact ⟨retb HF.out, hS1.2.2⟩
      · rw [hcv] at C
        have HT := Lib.hid (Hok.out.step Hx.out hcv)
        clear hcv S0 hbel
        go_wp2_with fail
        go_region_held3 (fun w' => w'.cell? ⟨b, off + k * 3, none⟩ = some (.int .i64 x) ∧ w'.cell? ⟨b, off + k * 3 + 2, none⟩ = some (.int .i64 z) ∧ Below w.heap.size w w')
          (first | exact ⟨hc0, hc2, B0⟩ | exact hS1 | assumption)
          (first
            | (go_at_call 20; refine C.out.mono ?_; rintro e w1 ⟨rfl, b1⟩; have hS1 : w1.cell? ⟨b, off + k * 3, none⟩ = some (.int .i64 x) ∧ w1.cell? ⟨b, off + k * 3 + 2, none⟩ = some (.int .i64 z) ∧ Below w.heap.size w w1 := ⟨(b1.cell (World.block_lt_of_cell? wr.drew _ hc0)).trans hc0, (b1.cell (World.block_lt_of_cell? wr.drew _ hc2)).trans hc2, B0.trans (b1.mono B0.size)⟩))
        have B1 := hS1.2.2
        clear hS1 C
        go_wp2
        go_roundw
        case rel => exact ⟨k + 1, by go_num, by omega, HT.out, B1⟩
        case measure => simp [intOf]; omega
    · obtain rfl : k = n2 := by omega
      go_wp2
      go_ret
      exact ⟨retb (Hok.out.all hll), hbel⟩
end Go.Proofs.Ytjjemoiblbehoaa
