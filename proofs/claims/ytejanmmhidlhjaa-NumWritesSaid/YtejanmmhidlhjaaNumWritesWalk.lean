/-
  The walk of firthlaw01.NumWrites: it returns true, and writes nothing that was there.
-/
import Derived.Test.YtejanmmhidlhjaaNumSame
import Derived.OpenShut
namespace Go.Proofs.Ytejanmmhidlhjaa
open Go.RowKit

set_option maxHeartbeats 400000 in
theorem numWrites_walk (a0 : Int) (a1 : ByteArray) (w : World) (w0 : (Lit.int .i64 a0).wf = true) (z1 : a1.size ≤ 140737488351232) :
    Calls Try.prog 3 #[.int .i64 a0, .string a1] w fun e w' => e = .returned (.bool true) ∧ Below w.heap.size w w' := by
  have hb := bounds_i64 w0
  go_enter Try.func3, Try.ntmps3
  go_wp2_with fail
  refine (putNum_any a0 _ hb.2).mono ?_
  intro e w1 h
  obtain ⟨A1, n1, c1, rfl, s1, -, -, b1, -⟩ := h.read
  clear h
  go_wp2_with fail
  refine (refPutNum_any a0 _ hb.2).mono ?_
  intro e w2 h
  obtain ⟨A2, n2, c2, rfl, s2, -, -, b2, -⟩ := h.read
  clear h
  have s1' := s1.below b2
  go_wp2_with fail
  refine (same_any _ _ _ _ _ _ _ _ _ s1' s2).mono ?_
  rintro e w' ⟨rfl, rfl⟩
  go_wp2_with fail
  refine (putText_any a1 _ z1).mono ?_
  intro e w3 h
  obtain ⟨A3, n3, c3, rfl, s3, -, -, b3, -⟩ := h.read
  clear h
  go_wp2_with fail
  refine (refPutText_any a1 _ z1).mono ?_
  intro e w4 h
  obtain ⟨A4, n4, c4, rfl, s4, -, -, b4, -⟩ := h.read
  clear h
  have s3' := s3.below b4
  go_wp2_with fail
  refine (same_any _ _ _ _ _ _ _ _ _ s3' s4).mono ?_
  rintro e w' ⟨rfl, rfl⟩
  go_wp2
  go_ret
  have hs1 := b1.size
  have hs2 := b2.size
  have hs3 := b3.size
  have hs4 := b4.size
  exact ⟨by simp, b1.trans ((b2.mono hs1).trans ((b3.mono (by omega)).trans (b4.mono (by omega))))⟩
end Go.Proofs.Ytejanmmhidlhjaa
