/-
  num.Num at every place, right or not.
-/
import Derived.Test.YtlhcohpcjleekaaNumRefRead
namespace Go.Proofs.Ytlhcohpcjleekaa
open Go.RowKit
set_option linter.unusedVariables false

set_option maxHeartbeats 400000 in
set_option maxRecDepth 100000 in
theorem num_edge (A : Option Addr) (n c : Nat) (l : List UInt8) (w : World) (hs : SlB w A n l) (hc : n ≤ c) (hcap : n ≤ 140737488351232) :
    Calls Try.prog 28 #[.slice A n c, .int .i64 (n : Int)] w (NumAns w n (rdNum (l.drop n))) := by
  have hll := hs.len
  have e : rdNum (l.drop n) = .error 4 := by rw [List.drop_of_length_le (by omega)]; rfl
  rw [e]
  clear e
  by_cases hcn : c = n
  all_goals
    go_enter Try.func28, Try.ntmps28
    go_wp2
    go_step3
    go_wp2
    go_step3
    go_wp2
    go_loop [7, 23] (fun e i => e = .int .i64 4 ∧ i = .int .i64 0) (fun _ _ => 0)
    case atStart => exact ⟨rfl, rfl⟩
    case round =>
      obtain ⟨rfl, rfl⟩ := hrel
      go_wp2
      go_ret3
      exact ⟨rfl, rfl⟩

set_option maxHeartbeats 400000 in
set_option maxRecDepth 100000 in
theorem num_out (A : Option Addr) (n c : Nat) (a : Int) (w : World) (h : a < 0 ∨ (n : Int) < a) :
    Calls Try.prog 28 #[.slice A n c, .int .i64 a] w fun e w' => e = .returned (.tuple #[.int .i64 0, .int .i64 0, .int .i64 1]) ∧ w = w' := by
  by_cases h0 : a < 0
  · go_enter Try.func28, Try.ntmps28
    go_wp2
    go_step3
    go_wp2
    rw [Exit.noGoto_ret]
    go_ret3
    exact ⟨rfl, rfl⟩
  · have h1 : (n : Int) < a := by omega
    clear h
    go_enter Try.func28, Try.ntmps28
    go_wp2
    go_step3
    go_wp2
    rw [Exit.noGoto_ret]
    go_ret3
    exact ⟨rfl, rfl⟩

theorem num_any (A : Option Addr) (n c at_ : Nat) (l : List UInt8) (w : World) (hs : SlB w A n l) (hc : n ≤ c) (hcap : n ≤ 140737488351232) (hat : at_ ≤ n) :
    Calls Try.prog 28 #[.slice A n c, .int .i64 (at_ : Int)] w (NumAns w at_ (rdNum (l.drop at_))) := by
  rcases Nat.lt_or_ge at_ n with h | h
  · exact num_in A n c at_ l w hs hc hcap h
  · obtain rfl : at_ = n := by omega
    exact num_edge A at_ c l w hs hc hcap

theorem num_ok {A : Option Addr} {n c at_ : Nat} {l : List UInt8} {w : World} {m k : Nat} (hs : SlB w A n l) (hc : n ≤ c) (hcap : n ≤ 140737488351232) (hat : at_ ≤ n) (hr : rdNum (l.drop at_) = .ok (m, k)) :
    Calls Try.prog 28 #[.slice A n c, .int .i64 (at_ : Int)] w fun e w' => e = .returned (.tuple #[.int .i64 (m : Int), .int .i64 ((at_ : Int) + k), .int .i64 0]) ∧ w = w' := by
  have h := num_any A n c at_ l w hs hc hcap hat
  rw [hr] at h
  exact h
theorem num_err {A : Option Addr} {n c at_ : Nat} {l : List UInt8} {w : World} {x : Int} (hs : SlB w A n l) (hc : n ≤ c) (hcap : n ≤ 140737488351232) (hat : at_ ≤ n) (hr : rdNum (l.drop at_) = .error x) :
    Calls Try.prog 28 #[.slice A n c, .int .i64 (at_ : Int)] w fun e w' => e = .returned (.tuple #[.int .i64 0, .int .i64 0, .int .i64 x]) ∧ w = w' := by
  have h := num_any A n c at_ l w hs hc hcap hat
  rw [hr] at h
  exact h
theorem refNum_ok {A : Option Addr} {n c at_ : Nat} {l : List UInt8} {w : World} {m k : Nat} (hs : SlB w A n l) (hc : n ≤ c) (hcap : n ≤ 140737488351232) (hat : at_ ≤ n) (hr : rdNum (l.drop at_) = .ok (m, k)) :
    Calls Try.prog 30 #[.slice A n c, .int .i64 (at_ : Int)] w fun e w' => e = .returned (.tuple #[.int .i64 (m : Int), .int .i64 ((at_ : Int) + k), .int .i64 0]) ∧ w = w' := by
  have h := refNum_in A n c at_ l w hs hc hcap hat
  rw [hr] at h
  exact h
theorem refNum_err {A : Option Addr} {n c at_ : Nat} {l : List UInt8} {w : World} {x : Int} (hs : SlB w A n l) (hc : n ≤ c) (hcap : n ≤ 140737488351232) (hat : at_ ≤ n) (hr : rdNum (l.drop at_) = .error x) :
    Calls Try.prog 30 #[.slice A n c, .int .i64 (at_ : Int)] w fun e w' => e = .returned (.tuple #[.int .i64 0, .int .i64 0, .int .i64 x]) ∧ w = w' := by
  have h := refNum_in A n c at_ l w hs hc hcap hat
  rw [hr] at h
  exact h
end Go.Proofs.Ytlhcohpcjleekaa
