/-
  firthref06.Same and its parts, of things that are the same.
-/
import Derived.Test.YtilagblpamhmkaaME
import Derived.Test.YtilagblpamhmkaaCodeRight
import Derived.Test.YtilagblpamhmkaaSameInts
namespace Go.Proofs.Ytilagblpamhmkaa
open Go.RowKit
set_option linter.unusedVariables false

theorem Sl.one_at {α : Type} {f : α → Value} {w : World} {A : Option Addr} {n k : Nat} {l : List α} (h : Sl w A n 1 (l.map f)) (hk : k < n) :
    ∃ b off x, A = some ⟨b, off, none⟩ ∧ l[k]? = some x ∧ w.cell? ⟨b, off + k, none⟩ = some (f x) := by
  obtain ⟨b, off, u, rfl, hu, hc⟩ := Sl.at1 h hk
  rw [List.getElem?_map, Option.map_eq_some_iff] at hu
  obtain ⟨z, h1, rfl⟩ := hu
  exact ⟨b, off, z, rfl, h1, hc⟩
set_option maxHeartbeats 1000000 in
set_option maxRecDepth 100000 in
theorem ints_true (A1 A2 : Option Addr) (n1 n2 c1 c2 : Nat) (l : List Int) (w : World) (h1 : Sl w A1 n1 1 (l.map (Value.int .i64))) (h2 : Sl w A2 n2 1 (l.map (Value.int .i64))) (hn : n1 ≤ 140737488351232) :
    Calls Try.prog 42 #[.slice A1 n1 c1, .slice A2 n2 c2] w (BoolE w true) := by
  have e1 : l.length = n1 := by have := h1.1; simpa using this
  have e2 : l.length = n2 := by have := h2.1; simpa using this
  obtain rfl : n1 = n2 := by omega
  have HL := Lib.hid e1
  clear e1 e2
  go_enter Try.func42, Try.ntmps42
  go_wp2
  go_loopw [5] (fun i wr => ∃ k : Nat, i = .int .i64 (k : Int) ∧ k ≤ n1 ∧ ∃ d, wr = w.drewN d) (fun i _ => n1 - (intOf i).toNat)
  case atStart => exact ⟨0, rfl, Nat.zero_le _, 0, rfl⟩
  case round =>
    obtain ⟨k, rfl, hk, d, rfl⟩ := hrel
    by_cases hlt : k < n1
    · obtain ⟨b, off, x, rfl, hx, hc0⟩ := Sl.one_at h1 hlt
      obtain ⟨b', off', y, rfl, hy, hd0⟩ := Sl.one_at h2 hlt
      obtain rfl : x = y := by rw [hx] at hy; exact Option.some.inj hy
      have i0 : (0 : Int) ≤ (k : Int) := by omega
      have i1 : (k : Int) < (n1 : Int) := by omega
      clear hx hy
      go_wp2
      try go_quiet (fail)
      go_wp2
      go_roundw
      case rel => exact ⟨k + 1, by go_num, by omega, _, rfl⟩
      case measure => simp [intOf]; omega
    · obtain rfl : k = n1 := by omega
      go_wp2
      go_ret
      exact ⟨rfl, below_drewN (Below.refl _ _) _⟩
set_option maxHeartbeats 2000000 in
set_option maxRecDepth 100000 in
theorem sameRecs_true (A1 A2 : Option Addr) (n1 n2 c1 c2 : Nat) (l : List Rc) (w : World) (h1 : SlR w A1 n1 l) (h2 : SlR w A2 n2 l) (hn : n1 ≤ 140737488351232) :
    Calls Try.prog 29 #[.slice A1 n1 c1, .slice A2 n2 c2] w (BoolE w true) := by
  obtain rfl : n1 = n2 := h1.len.symm.trans h2.len
  have H1 := Lib.hid h1
  have H2 := Lib.hid h2
  clear h1 h2
  go_enter Try.func29, Try.ntmps29
  go_wp2
  go_loopw [5] (fun i wr => ∃ (k : Nat), i = .int .i64 (k : Int) ∧ k ≤ n1 ∧ Below w.heap.size w wr) (fun i _ => n1 - (intOf i).toNat)
  case atStart => exact ⟨0, rfl, Nat.zero_le _, Below.refl _ _⟩
  case round =>
    obtain ⟨k, rfl, hk, hbel⟩ := hrel
    by_cases hlt : k < n1
    · obtain ⟨b, off, r, Ap, np, cp, rfl, hx, hr, hc0, hc1⟩ := (H1.out.below hbel).at_ hlt
      obtain ⟨b', off', r', Ap', np', cp', rfl, hy, hr', hd0, hd1⟩ := (H2.out.below hbel).at_ hlt
      obtain rfl : r = r' := by rw [hx] at hy; exact Option.some.inj hy
      clear hx hy
      obtain ⟨key, vers⟩ := r
      have G0 := Ext.cell hc0
      have G1 := Ext.cell hc1
      have K0 := Ext.cell hd0
      have K1 := Ext.cell hd1
      simp only at G0 K0
      have hsz := hbel.size
      have j0 : (0 : Int) ≤ (k : Int) := by omega
      have j1 : (k : Int) < (n1 : Int) := by omega
      have HC := Lib.hid (fun x : Ext wr => (show Calls Try.prog 47 #[.slice Ap np cp, .slice Ap' np' cp'] x.w (fun e w' => e = .returned (.bool true) ∧ Below x.w.heap.size x.w w') from by
        have h := refSameV_any Ap Ap' np np' cp cp' vers vers x.w (hr.sl.below x.below) (hr'.sl.below x.below) (by have := hr.len; omega) (by have := hr'.len; omega)
        have e : lEq vers vers = true := decide_eq_true rfl
        rw [e] at h
        exact h))
      clear hr hr' hc0 hc1 hd0 hd1
      go_wp2_with fail
      refine wp_region_ext (by kernel_rfl) (by kernel_rfl) ?_
      repeat (go_big_quiet_step ((go_at_call 47; exact Calls.ext_of (HC.out _))))
      refine wpQuiet_nil ?_
      intro w1 hw1
      have R4 := Lib.hid (hbel.trans ((ext_end hw1).mono hsz))
      clear hw1 G0 G1 K0 K1
      go_wp2
      go_roundw
      case rel => exact ⟨k + 1, by go_num, by omega, R4.out⟩
      case measure => simp [intOf]; omega
    · obtain rfl : k = n1 := by omega
      go_wp2
      go_ret
      exact ⟨rfl, hbel⟩
end Go.Proofs.Ytilagblpamhmkaa
