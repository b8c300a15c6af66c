/-
  num.Hash and firthref01.Hash answer one number, the same one.
-/
import Derived.Test.YtlhcohpcjleekaaNumReadAll
import Derived.Laws.BitsAllLaws
import Derived.Deep.QuietTactic
import Derived.BigQuiet
namespace Go.Proofs.Ytlhcohpcjleekaa
open Go.RowKit
set_option linter.unusedVariables false

theorem snoc_ind' {α : Type} {P : List α → Prop} (h0 : P []) (h1 : ∀ l x, P l → P (l ++ [x])) (l : List α) : P l := by
  have h : ∀ m : List α, P m.reverse := by
    intro m
    induction m with
    | nil => exact h0
    | cons x m ih => rw [List.reverse_cons]; exact h1 _ _ ih
  have := h l.reverse
  rwa [List.reverse_reverse] at this
def hstep (h : Int) (c : UInt8) : Int := IntKind.u64.wrap (bits .xor .u64 h (c.toNat : Int) * 1099511628211)
def hfold (l : List UInt8) : Int := l.foldl hstep 14695981039346656037
def hfin (h : Int) : Int := bits .xor .u64 (IntKind.u64.wrap (bits .xor .u64 h (h / 8589934592) * 18397679294719823053)) (IntKind.u64.wrap (bits .xor .u64 h (h / 8589934592) * 18397679294719823053) / 8589934592)
def hashB (l : List UInt8) : Int := hfin (hfold l)
theorem hfold_step {l : List UInt8} {k c : Nat} (h : l[k]? = some (UInt8.ofNat c)) (hc : c < 256) : hfold (l.take (k + 1)) = IntKind.u64.wrap (bits .xor .u64 (hfold (l.take k)) (c : Int) * 1099511628211) := by
  unfold hfold
  rw [List.take_add_one, h, Option.toList_some, List.foldl_append]
  show hstep _ _ = _
  unfold hstep
  rw [byte_toNat c hc]
set_option maxHeartbeats 1000000 in
theorem hash_any (A : Option Addr) (n c : Nat) (l : List UInt8) (w : World) (hs : SlB w A n l) (hn : n ≤ 140737488355328) :
    Calls Try.prog 37 #[.slice A n c] w fun e w' => e = .returned (.int .u64 (hashB l)) ∧ w' = w := by
  have hll := hs.len
  have HS := Lib.hid hs
  clear hs
  go_enter Try.func37, Try.ntmps37
  go_wp2
  go_loop [3, 8] (fun h i => ∃ (k : Nat) (x : Int), h = .int .u64 x ∧ i = .int .i64 (k : Int) ∧ k ≤ n ∧ Hid (x = hfold (l.take k))) (fun _ i => n - (intOf i).toNat)
  case atStart => exact ⟨0, _, rfl, rfl, Nat.zero_le _, rfl⟩
  case round =>
    obtain ⟨k, x, rfl, rfl, hk, HX⟩ := hrel
    by_cases hlt : k < n
    · obtain ⟨b, off, cc, rfl, hcc, hx, hcell⟩ := SlB.at_ HS.out hlt
      have HX2 := Lib.hid (hfold_step hx hcc)
      clear hx
      go_wp2
      go_round
      case rel => exact ⟨k + 1, _, rfl, by go_num, by omega, by rw [HX2.out, ← HX.out]; exact Lib.hid rfl⟩
      case measure => simp [intOf]; omega
    · obtain rfl : k = n := by omega
      have HE := Lib.hid (show hashB l = hfin x from by unfold hashB; rw [HX.out, List.take_of_length_le (by omega)])
      go_wp2
      go_ret
      exact ⟨by rw [HE.out]; rfl, rfl⟩
theorem u64_nonneg (z : Int) : 0 ≤ IntKind.u64.wrap z := by rw [IntKind.wrap_u64]; omega
/-- A number of 64 bits. -/
def U64 (x : Int) : Prop := x = 14695981039346656037 ∨ ∃ z, x = IntKind.u64.wrap z
theorem hfold_nonneg (l : List UInt8) : U64 (hfold l) := by
  induction l using snoc_ind' with
  | h0 => exact .inl rfl
  | h1 l c _ =>
    unfold hfold
    rw [List.foldl_append]
    exact .inr ⟨_, rfl⟩
theorem quo33 {x : Int} (h : U64 x) : IntKind.u64.wrap (x.tdiv 8589934592) = x / 8589934592 := by
  have h2 : 0 ≤ x ∧ x < 18446744073709551616 := by
    rcases h with rfl | ⟨z, rfl⟩
    · omega
    · rw [IntKind.wrap_u64]; omega
  rw [Int.tdiv_eq_ediv_of_nonneg h2.1, IntKind.wrap_u64]
  omega
set_option maxHeartbeats 1000000 in
theorem refHash_any (A : Option Addr) (n c : Nat) (l : List UInt8) (w : World) (hs : SlB w A n l) (hn : n ≤ 140737488355328) :
    Calls Try.prog 27 #[.slice A n c] w fun e w' => e = .returned (.int .u64 (hashB l)) ∧ w' = w := by
  have hll := hs.len
  have HS := Lib.hid hs
  clear hs
  go_enter Try.func27, Try.ntmps27
  go_wp2
  go_loop [3, 4] (fun h i => ∃ (k : Nat) (x : Int), h = .int .u64 x ∧ i = .int .i64 (k : Int) ∧ k ≤ n ∧ Hid (x = hfold (l.take k))) (fun _ i => n - (intOf i).toNat)
  case atStart => exact ⟨0, _, rfl, rfl, Nat.zero_le _, rfl⟩
  case round =>
    obtain ⟨k, x, rfl, rfl, hk, HX⟩ := hrel
    by_cases hlt : k < n
    · obtain ⟨b, off, cc, rfl, hcc, hx, hcell⟩ := SlB.at_ HS.out hlt
      have HX2 := Lib.hid (hfold_step hx hcc)
      clear hx
      go_wp2
      go_round
      case rel => exact ⟨k + 1, _, rfl, by go_num, by omega, by rw [HX2.out, ← HX.out]; exact Lib.hid rfl⟩
      case measure => simp [intOf]; omega
    · obtain rfl : k = n := by omega
      have HE := Lib.hid (show hashB l = hfin x from by unfold hashB; rw [HX.out, List.take_of_length_le (by omega)])
      have q1 : IntKind.u64.wrap (x.tdiv 8589934592) = x / 8589934592 := by rw [HX.out]; exact quo33 (hfold_nonneg _)
      have q2 := quo33 (Or.inr ⟨bits .xor .u64 x (x / 8589934592) * 18397679294719823053, rfl⟩)
      go_wp2
      go_ret
      exact ⟨by rw [HE.out]; rfl, rfl⟩
end Go.Proofs.Ytlhcohpcjleekaa
