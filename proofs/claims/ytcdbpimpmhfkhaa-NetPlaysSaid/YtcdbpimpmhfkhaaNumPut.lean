/-
  num.PutNum and firthref01.PutNum write the number's bytes, in new memory.
-/
import Derived.Test.YtcdbpimpmhfkhaaNumPlain
import Derived.Test.YtcdbpimpmhfkhaaProg
import Derived.Laws.BitsAllLaws
namespace Go.Proofs.Ytcdbpimpmhfkhaa
open Go.RowKit

theorem Try.infoU8 : (Try.prog.info? 5).map (fun i => (i.zero, i.size, i.bytes)) = some (some (.int .u8 0), 1, 1) := by kernel_rfl

/-- What a call leaves that answers new bytes. -/
def NewBytes (w : World) (l : List UInt8) (e : Ending) (w' : World) : Prop :=
  ∃ v, e = .returned v ∧ w'.ownsRow w.heap.size 5 1 v l.length (bsV l) ∧ Below w.heap.size w w'

theorem NewBytes.read {w w' : World} {l : List UInt8} {e : Ending} (h : NewBytes w l e w') :
    ∃ A n c, e = .returned (.slice A n c) ∧ SlB w' A n l ∧ n ≤ c ∧ c ≤ maxLen ∧ Below w.heap.size w w' ∧ w'.ownsRow w.heap.size 5 1 (.slice A n c) n (bsV l) := by
  obtain ⟨v, rfl, hown, hbel⟩ := h
  obtain ⟨A, c, rfl, h1, h2⟩ := own_slice hown
  exact ⟨A, l.length, c, rfl, Sl.of_own hown, h1, h2, hbel, hown⟩

theorem byte_or (m : Nat) : (Value.int .u8 (bits .or .u8 ((m : Int) % 256) 128)) = bV (UInt8.ofNat (m % 128 + 128)) := by
  rw [u8_or _ _ (by omega) (by omega) (by omega) (by omega)]
  have e : ((m : Int) % 256).toNat = m % 256 := by omega
  rw [e]
  have h2 := or_128 (m % 256) (by omega)
  simp only [bV, UInt8.toNat_ofNat']
  congr 1
  rw [show ((128 : Int).toNat) = 128 from rfl, h2]
  omega
theorem byte_low (m : Nat) (h : m ≤ 127) : (Value.int .u8 (m : Int)) = bV (UInt8.ofNat m) := by
  simp only [bV, UInt8.toNat_ofNat']
  congr 1
  omega

theorem byte_high (m : Nat) : (Value.int .u8 ((m : Int) % 128 + 128)) = bV (UInt8.ofNat (m % 128 + 128)) := by
  simp only [bV, UInt8.toNat_ofNat']
  congr 1
  omega

end Go.Proofs.Ytcdbpimpmhfkhaa
