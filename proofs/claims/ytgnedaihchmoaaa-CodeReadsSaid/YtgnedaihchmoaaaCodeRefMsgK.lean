/-
  firthref06.Msg answers what code.Msg does. (Printed by tools/refread.py.)
-/
import Derived.Test.YtgnedaihchmoaaaCodeRefMsgMem
import Derived.Test.YtgnedaihchmoaaaCodeRefSet
import Derived.Test.YtgnedaihchmoaaaCodeRefRightM
import Derived.Test.YtgnedaihchmoaaaFrameRefNext
import Derived.Test.YtgnedaihchmoaaaCodeMsgTop
import Derived.Deep.CutBlock
import Derived.Deep.DeepCutAuto
import Derived.Deep.AppendLies
namespace Go.Proofs.Ytgnedaihchmoaaa
open Go.RowKit
set_option linter.unusedVariables false

theorem qst_at2 (w : World) (A : Option Addr) (n c g : Nat) (L : List UInt8) (hg : g = w.heap.size) (hs : SlB w A n L) (hc : n ≤ c) (h9 : n ≤ 4000000000000) :
    QSt (w.alloc (.cells #[.slice A n c, .int .i64 0, .bool false] 109)) g A n c L 0 false := by
  subst hg
  exact qst_new w A n c L hs hc h9
theorem msgRd_bad {L i : List UInt8} {a : Nat} (h : nextF L 0 = .ok (i, a)) (hm : msgR okQ i = none) : msgRd L = (none, 2) := by
  by_cases ha : a = L.length
  · exact msgRd_none h ha ((msgR_eq okP_small okQ_small i).trans hm)
  · exact msgRd_far h ha
theorem msgRd_good {L i : List UInt8} {a : Nat} {m : Mg} (h : nextF L 0 = .ok (i, a)) (ha : a = L.length) (hm : msgR okQ i = some m) : msgRd L = (some m, 0) :=
  msgRd_some h ha ((msgR_eq okP_small okQ_small i).trans hm)
/-- A step over an address. -/
theorem QG.stepA {β : Type} {k : Int → Int → Nat → Option β} {L : List UInt8} {o : Option β} {bad bad' : Bool} {a a' : Nat} {s m : Int} (h : QG o bad (bindP gInt (fun s a => bindP gInt (fun n a => k s n a) L a) L a)) (hq : QRes (gAddr L a) bad (s, m) a' bad') : QG o bad' (k s m a') := by
  refine ⟨fun hb => ?_, fun hb => ?_⟩
  · obtain ⟨h1, h2⟩ := hq.1 hb
    exact (h.1 h1).trans (bindA_yes h2)
  · rcases hq.2 hb with h1 | h1
    · exact h.2 h1
    · cases hbb : bad
      · exact (h.1 hbb).trans (bindA_no h1)
      · exact h.2 hbb
/-- A row of records, of numbers, that is the call's own. -/
def OwnRs (w : World) (B : Nat) (v : Value) (k : Nat) (xs : List Rc) : Prop := ∃ rows : List RR, rows.map (·.1) = xs ∧ OwnR w B v k rows
theorem OwnRs.keepF {w1 w2 : World} {B k : Nat} {FP : Nat → Prop} {v : Value} {xs : List Rc} (h : OwnRs w1 B v k xs) (f : Fr FP w1 w2) (hf : ∀ i, B ≤ i → ¬ FP i) : OwnRs w2 B v k xs := by
  obtain ⟨rows, h1, h2⟩ := h
  exact ⟨rows, h1, h2.keepF f hf⟩
theorem OwnRs.nil (w : World) (B : Nat) : OwnRs w B (.slice none 0 0) 0 [] := ⟨[], rfl, OwnR.nil _ _⟩
theorem fr2_trans {a b c : World} {r g : Nat} (f : Fr (fun i => i = r ∨ i = g) a b) (h : Fr (fun i => i = r) b c) : Fr (fun i => i = r ∨ i = g) a c := f.trans h fun i hi => .inl (.inl hi)
theorem fr2_low {a b c : World} {r g B : Nat} (f : Fr (fun i => i = r ∨ i = g) a b) (h : Below B b c) (hB : a.heap.size ≤ B) : Fr (fun i => i = r ∨ i = g) a c :=
  ⟨h.os.trans f.os, h.tape.trans f.tape, h.output.trans f.output, Nat.le_trans f.size h.size, fun i hi hn => (h.block i (by omega)).trans (f.block i hi hn)⟩
theorem fr2_set {a b : World} {r g j : Nat} (f : Fr (fun i => i = r ∨ i = g) a b) (u : Value) : Fr (fun i => i = r ∨ i = g) a (b.setCell ⟨g, j, none⟩ u) := f.more (b := g) (j := j) (.inr rfl) u
/-! The code's pieces. -/
def sndM : Code → Code
  | .seq _ b => b
  | c => c
def fstM : Code → Code
  | .seq a _ => a
  | c => c
def bodyM (f : Func) : Code := match f.body with
  | some c => c
  | none => .skip
noncomputable def rmBlk_r : Code := sndM (fstM (sndM (sndM (sndM (sndM (sndM (sndM (sndM (sndM (sndM (sndM (sndM (sndM (sndM (bodyM Try.f16)))))))))))))))
noncomputable def rmBlk_v : Code := sndM (fstM (sndM (sndM (sndM (sndM (sndM (sndM (sndM (sndM (sndM (sndM (sndM (sndM (sndM (sndM (sndM (bodyM Try.f16)))))))))))))))))
noncomputable def rmBlk_p : Code := sndM (fstM (sndM (sndM (sndM (sndM (sndM (sndM (sndM (sndM (sndM (sndM (sndM (sndM (sndM (sndM (sndM (sndM (sndM (bodyM Try.f16)))))))))))))))))))
noncomputable def rmBlk_h : Code := sndM (fstM (sndM (sndM (sndM (sndM (sndM (sndM (sndM (sndM (sndM (sndM (sndM (sndM (sndM (sndM (sndM (sndM (sndM (sndM (sndM (bodyM Try.f16)))))))))))))))))))))
noncomputable def rmBlk_o : Code := sndM (fstM (sndM (sndM (sndM (sndM (sndM (sndM (sndM (sndM (sndM (sndM (sndM (sndM (sndM (sndM (sndM (sndM (sndM (sndM (sndM (sndM (sndM (bodyM Try.f16)))))))))))))))))))))))
noncomputable def rmTail : Code := (sndM (sndM (sndM (sndM (sndM (sndM (sndM (sndM (sndM (sndM (sndM (sndM (sndM (sndM (sndM (sndM (sndM (sndM (sndM (sndM (sndM (sndM (bodyM Try.f16)))))))))))))))))))))))
end Go.Proofs.Ytgnedaihchmoaaa
