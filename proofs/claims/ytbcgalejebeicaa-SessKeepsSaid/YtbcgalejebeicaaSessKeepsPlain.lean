/-
  Two sessions, in plain Lean.
-/
import Derived.Test.YtbcgalejebeicaaSessPlain
import Derived.Test.YtbcgalejebeicaaShape
import Derived.Test.YtbcgalejebeicaaBytesMem
namespace Go.Proofs.Ytbcgalejebeicaa
set_option linter.unusedVariables false

theorem Rd.bytess {w : World} {A : Option Addr} {n c b : Nat} {ls : List (List UInt8)} (h : Rd w (.sl b (.sl 1 .u8)) [.slice A n c] ls) : SlBB w A n ls := by
  obtain ⟨A', n', c', e, h1, h2, h3, h4, h5⟩ := h
  simp only [List.cons.injEq, Value.slice.injEq, and_true] at e
  obtain ⟨rfl, rfl, rfl⟩ := e
  refine ⟨h4, fun hn => ?_⟩
  obtain ⟨g, off, rfl, hc⟩ := h5 hn
  refine ⟨g, off, rfl, fun k l hl => ?_⟩
  obtain ⟨xs, k1, k2, k3⟩ := hc k l hl
  have k4 := k3
  obtain ⟨Ak, nk, ck, rfl, _⟩ := k4
  obtain ⟨b1, b2, b3⟩ := Rd.bytes k3
  exact ⟨Ak, nk, ck, by simpa [Sh.size] using k2 0 _ rfl, b1, b2, by omega⟩

/-- The two sessions of firthlaw21.SessKeeps. -/
def twoS (a : Int) (t1 : List UInt8) (o1 : Int) (t2 : List UInt8) (o2 : Int) : List Ses := [⟨a, t1, o1⟩, ⟨4, t2, o2⟩]
section
variable {a o1 o2 op s : Int} {t1 t2 tok : List UInt8}
theorem two_find0 (h1 : op ≠ o1) (h2 : op ≠ o2) : findS (twoS a t1 o1 t2 o2) op = 0 := by
  refine findS_no fun x hx _ => ?_
  simp only [twoS, List.mem_cons, List.not_mem_nil, or_false] at hx
  rcases hx with rfl | rfl
  · exact fun e => h1 e.symm
  · exact fun e => h2 e.symm
theorem two_find1 (h : 0 < op) : findS (twoS a t1 op t2 o2) op = 1 := by
  simp [findS, twoS, List.findIdx?_cons, h]
theorem two_find2 (h : 0 < op) (h1 : op ≠ o1) : findS (twoS a t1 o1 t2 op) op = 2 := by
  have : (o1 == op) = false := by simp; exact fun e => h1 e.symm
  simp [findS, twoS, List.findIdx?_cons, h, this]
theorem two_get1 : getS (twoS a t1 o1 t2 o2) 1 = some ⟨a, t1, o1⟩ := rfl
theorem two_get2 : getS (twoS a t1 o1 t2 o2) 2 = some ⟨4, t2, o2⟩ := rfl
theorem two_begin1 (h : 0 < op) : beginA (twoS a t1 0 t2 0) 1 op = (a, t1, 0) ∧ beginL (twoS a t1 0 t2 0) 1 op = twoS a t1 op t2 0 := by
  unfold beginA beginL
  rw [two_get1]
  simp only []
  rw [two_find0 (by omega) (by omega), if_neg (by omega), if_neg (by omega), if_neg (by omega), if_neg (by omega)]
  exact ⟨rfl, rfl⟩
theorem two_busy (h : 0 < op) (h1 : op ≠ o1) (h0 : o1 ≠ 0) : beginA (twoS a t1 o1 t2 0) 1 op = (0, [], 202) ∧ beginL (twoS a t1 o1 t2 0) 1 op = twoS a t1 o1 t2 0 := by
  unfold beginA beginL
  rw [two_get1]
  simp only []
  rw [two_find0 h1 (by omega), if_neg (by omega), if_pos h0, if_neg (by omega), if_pos h0]
  exact ⟨rfl, rfl⟩
theorem two_begin2 (h : 0 < op) (h1 : op ≠ o1) : beginA (twoS a t1 o1 t2 0) 2 op = (4, t2, 0) ∧ beginL (twoS a t1 o1 t2 0) 2 op = twoS a t1 o1 t2 op := by
  unfold beginA beginL
  rw [two_get2]
  simp only []
  rw [two_find0 h1 (by omega), if_neg (by omega), if_neg (by omega), if_neg (by omega), if_neg (by omega)]
  exact ⟨rfl, rfl⟩
theorem two_end2 (h : 0 < op) (h1 : op ≠ o1) (ht : tok ≠ []) : endL (twoS a t1 o1 t2 op) op tok = twoS a t1 o1 tok 0 := by
  unfold endL
  rw [two_find2 h h1]
  show (twoS a t1 o1 t2 op).set 1 { site := 4, tok := if tok = [] then t2 else tok, op := 0 } = _
  rw [if_neg ht]; rfl
theorem two_end1 (h : 0 < op) : endL (twoS a t1 op t2 0) op tok = twoS a (if tok = [] then t1 else tok) 0 t2 0 := by
  unfold endL
  rw [two_find1 h]; rfl
theorem two_end0 (h : 0 < op) : endL (twoS a t1 0 t2 0) op tok = twoS a t1 0 t2 0 := by
  unfold endL
  rw [two_find0 (by omega) (by omega)]
theorem two_goBusy (h : o1 ≠ 0) : goA 16 (twoS a t1 o1 t2 0) 1 5 = 202 ∧ goL 16 (twoS a t1 o1 t2 0) 1 5 = twoS a t1 o1 t2 0 := by
  unfold goA goL
  rw [two_get1]
  simp only []
  rw [if_neg (by omega), if_pos h, if_neg (by omega), if_pos h]
  exact ⟨rfl, rfl⟩
theorem two_goYes (h : 1 ≤ s ∧ s ≤ 16) : goA 16 (twoS a t1 0 t2 0) 1 s = 0 ∧ goL 16 (twoS a t1 0 t2 0) 1 s = twoS s t1 0 t2 0 := by
  unfold goA goL
  rw [two_get1]
  simp only []
  rw [if_neg (by omega), if_neg (by omega), if_neg (by omega), if_neg (by omega)]
  exact ⟨rfl, rfl⟩
theorem two_goNo (h : ¬ (1 ≤ s ∧ s ≤ 16)) : goA 16 (twoS a t1 0 t2 0) 1 s = 1 ∧ goL 16 (twoS a t1 0 t2 0) 1 s = twoS a t1 0 t2 0 := by
  unfold goA goL
  rw [two_get1]
  simp only []
  rw [if_pos (by omega), if_pos (by omega)]
  exact ⟨rfl, rfl⟩
end
end Go.Proofs.Ytbcgalejebeicaa
