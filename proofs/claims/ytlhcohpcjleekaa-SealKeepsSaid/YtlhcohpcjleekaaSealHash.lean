/-
  seal.hash: the mark of parts, one behind the other.
-/
import Derived.Test.YtlhcohpcjleekaaHash
import Derived.Test.YtlhcohpcjleekaaNumPut
import Derived.Test.YtlhcohpcjleekaaFoot
namespace Go.Proofs.Ytlhcohpcjleekaa
open Go.RowKit
set_option linter.unusedVariables false

/-- Bytes somewhere. -/
structure Pt where
  A : Option Addr
  n : Nat
  c : Nat
  l : List UInt8
def Pt.v (p : Pt) : Value := .slice p.A p.n p.c
def Pts (w : World) (ps : List Pt) : Prop := ∀ p ∈ ps, SlB w p.A p.n p.l
theorem Pts.below {w w' : World} {ps : List Pt} (h : Pts w ps) (b : Below w.heap.size w w') : Pts w' ps := fun p hp => (h p hp).below b
theorem pts_step {ps : List Pt} {k : Nat} {p : Pt} (h : ps[k]? = some p) : (ps.take (k + 1)).flatMap (·.l) = (ps.take k).flatMap (·.l) ++ p.l := by
  rw [List.take_add_one, h, Option.toList_some, List.flatMap_append]
  simp
theorem pts_len (ps : List Pt) (k : Nat) : ((ps.take k).flatMap (·.l)).length ≤ (ps.flatMap (·.l)).length := by
  conv => rhs; rw [← List.take_append_drop k ps, List.flatMap_append, List.length_append]
  omega
set_option maxHeartbeats 1000000 in
set_option maxRecDepth 100000 in
theorem sealHash_any (A : Option Addr) (n c : Nat) (ps : List Pt) (w : World) (hs : Sl w A n 1 (ps.map (·.v))) (hp : Pts w ps) (hn : n ≤ 100) (hl : (ps.flatMap (·.l)).length ≤ 140737488355328) :
    Calls Try.prog 25 #[.slice A n c] w fun e w' => e = .returned (.int .u64 (hashB (ps.flatMap (·.l)))) ∧ Below w.heap.size w w' := by
  obtain ⟨i0, hi, hz0, hz1, hz2⟩ := info_parts Try.infoU8
  have hpl : ps.length = n := by have := hs.1; rw [List.length_map] at this; omega
  have HS := Lib.hid hs
  have HP := Lib.hid hp
  clear hs hp
  go_enter Try.func25, Try.ntmps25
  go_wp2
  go_loopw [3, 8] (fun v i wr => ∃ (k m co : Nat) (Ao : Option Addr), v = .slice Ao m co ∧ i = .int .i64 (k : Int) ∧ k ≤ n ∧ Hid (m = ((ps.take k).flatMap (·.l)).length) ∧ Hid (wr.ownsRow w.heap.size 5 1 (.slice Ao m co) m (bsV ((ps.take k).flatMap (·.l)))) ∧ Hid (Below w.heap.size w wr)) (fun _ i _ => n - (intOf i).toNat)
  case atStart => exact ⟨0, 0, 0, none, rfl, rfl, Nat.zero_le _, rfl, World.ownsRow_nil _ _ _ _, Below.refl _ _⟩
  case round =>
    obtain ⟨k, m, co, Ao, rfl, rfl, hk, HM, HO, HB⟩ := hrel
    have hm1 := pts_len ps k
    have hsz := HB.out.size
    by_cases hlt : k < n
    · obtain ⟨p, hpk⟩ : ∃ p, ps[k]? = some p := ⟨_, List.getElem?_eq_getElem (by omega)⟩
      obtain ⟨b, off, u, rfl, hu, hc⟩ := Sl.at1 (Sl.below HS.out HB.out) hlt
      rw [List.getElem?_map, hpk] at hu
      simp only [Option.map_some, Option.some.injEq] at hu
      subst hu
      have hsp := HP.out p (List.mem_of_getElem? hpk)
      have hst := pts_step hpk
      have hm2 := pts_len ps (k + 1)
      rw [hst, List.length_append] at hm2
      have hpn := hsp.len
      obtain ⟨Ap, np, cp, lp⟩ := p
      simp only [Pt.v] at hc hsp hst hm2 hpn
      have hm3 : m + np ≤ 140737488355328 := by have := HM.out; omega
      have HSP := Lib.hid (hsp.below HB.out)
      have HST := Lib.hid hst
      clear hsp hst hpk hm2 hm1
      go_wp2_with (first | (at_builtin; refine wpList_append_sl _ rfl (.tmp 12) (.tmp 13) 25 rfl (w.heap.size) 5 i0 (.int .u8 0) 1 1 Try.underlying25 hi hz0 hz1 hz2 rfl (by decide) (.slice Ao m co) (m) (bsV ((ps.take k).flatMap (·.l))) rfl (HO.out) (Ap) (np) (cp) (bsV lp) rfl (HSP.out) (bsV_one _) (by unfold maxLen; omega) (by omega) (hsz) ?_) | fail)
      intro v3 w3 own3 g3 _
      obtain ⟨A3, c3, rfl, -, -⟩ := own_slice own3
      have HB3 := Lib.hid (below_grow HB.out HO.out g3 hsz (Nat.le_refl _))
      rw [← bsV_append, ← HST.out] at own3
      have HO3 := Lib.hid own3
      have HM3 := Lib.hid (show m + np = ((ps.take (k + 1)).flatMap (·.l)).length from by rw [HST.out, List.length_append, ← HM.out, hpn])
      clear own3 g3
      go_wp2
      go_roundw
      case rel => exact ⟨k + 1, m + np, c3, A3, rfl, by go_num, by omega, HM3, HO3, HB3⟩
      case measure => simp [intOf]; omega
    · obtain rfl : n = k := by omega
      have e1 : ps.take n = ps := List.take_of_length_le (by omega)
      have h1 := Sl.of_own HO.out
      have h2 := HM.out
      rw [e1] at h1 h2 hm1
      have C := Lib.hid (hash_any Ao m co _ wr h1 (by omega))
      clear h1 h2 e1
      go_wp2_with fail
      refine C.out.mono ?_
      rintro e w4 ⟨rfl, rfl⟩
      go_wp2
      go_ret
      exact ⟨rfl, HB.out⟩
end Go.Proofs.Ytlhcohpcjleekaa
