/-
  frame.frames and its iterator.
-/
import Derived.Test.YtoeeiancbiaajaaFrameNext
import Derived.Test.YtoeeiancbiaajaaRangeSeen
import Derived.Shelf.RegionOpen
import Derived.WalkKit
import Derived.OwnWalkIn
import Derived.TacticsInMore
import Derived.LoopNIn
import Derived.LoopIn
import Derived.Maps.AppendAt
namespace Go.Proofs.Ytoeeiancbiaajaa
open Go.RowKit Go.Shelf
set_option linter.unusedVariables false
attribute [local go_sem] Oper.semAt_some

/-- What is handed to a round: the bytes, and the place behind the frame. -/
structure Fr where
  A : Option Addr
  n : Nat
  c : Nat
  l : List UInt8
  en : Nat
def Fr.v (x : Fr) : Value := .slice x.A x.n x.c
def encFr (x : Fr) : Array Value := #[x.v, .int .i64 (x.en : Int)]

/-- The frames so far, and the place behind them. -/
inductive Went (b : List UInt8) : List Fr → Nat → Prop
  | nil : Went b [] 0
  | snoc {xs : List Fr} {k : Nat} {x : Fr} : Went b xs k → k < b.length → nextF b k = .ok (x.l, x.en) → Went b (xs ++ [x]) x.en
theorem nextF_ne {b : List UInt8} {k : Nat} {x : Int} (h : nextF b k = .error x) : x ≠ 0 := by
  unfold nextF at h
  split at h
  · rename_i y hy
    have := rdN_err _ _ _ _ hy
    injection h with h
    subst h
    omega
  · split at h
    · injection h with h; subst h; decide
    · split at h
      · injection h with h; subst h; decide
      · split at h
        · cases h
        · injection h with h; subst h; decide
theorem nextF_grows {b : List UInt8} {k en : Nat} {l : List UInt8} (h : nextF b k = .ok (l, en)) : k + 5 ≤ en ∧ en ≤ b.length ∧ l.length ≤ 1048576 := by
  obtain ⟨h1, h2, h3, h4⟩ := nextF_ok h
  have hpl := putNum_len (l.length : Int)
  have hF := putF_len l
  omega
theorem Went.le {b : List UInt8} {xs : List Fr} {k : Nat} (h : Went b xs k) : 5 * xs.length ≤ k ∧ k ≤ b.length := by
  induction h with
  | nil => simp
  | snoc _ _ hn ih =>
    have := nextF_grows hn
    simp
    omega
def OkFr (n0 : Nat) (b : List UInt8) (pre : List Fr) (x : Fr) (W : World) : Prop :=
  (∃ k, Went b pre k ∧ k < b.length ∧ nextF b k = .ok (x.l, x.en)) ∧ x.n ≤ x.c ∧ W.ownsRow n0 5 1 x.v x.n (bsV x.l)
def EndFr (b : List UInt8) (xs : List Fr) (k : Nat) (e : Int) : Prop := Went b xs k ∧ ((b.length ≤ k ∧ e = 0) ∨ (k < b.length ∧ nextF b k = .error e))
def FinFr (eb : Nat) (b : List UInt8) (xs : List Fr) (W : World) : Prop := ∃ k e, EndFr b xs k e ∧ Boxed W eb 27 (.int .i64 e)
/-- What a round leaves: all that lay ahead of the loop but two boxes. -/
def KpFr (N0 Bo Ba : Nat) (W W' : World) : Prop := W.heap.size ≤ W'.heap.size ∧ ∀ k, k < N0 → k ≠ Bo → k ≠ Ba → W'.heap[k]? = W.heap[k]?
theorem KpFr.trans {N0 Bo Ba : Nat} {A B C : World} (h : KpFr N0 Bo Ba A B) (k : KpFr N0 Bo Ba B C) : KpFr N0 Bo Ba A C :=
  ⟨Nat.le_trans h.1 k.1, fun j h1 h2 h3 => (k.2 j h1 h2 h3).trans (h.2 j h1 h2 h3)⟩
def KpE (N0 Bo Ba eb : Nat) (W W' : World) : Prop := W.heap.size ≤ W'.heap.size ∧ ∀ k, k < N0 → k ≠ Bo → k ≠ Ba → k ≠ eb → W'.heap[k]? = W.heap[k]?
theorem KpE.trans {N0 Bo Ba eb : Nat} {A B C : World} (h : KpE N0 Bo Ba eb A B) (k : KpE N0 Bo Ba eb B C) : KpE N0 Bo Ba eb A C :=
  ⟨Nat.le_trans h.1 k.1, fun j h1 h2 h3 h4 => (k.2 j h1 h2 h3 h4).trans (h.2 j h1 h2 h3 h4)⟩
theorem KpE.refl (N0 Bo Ba eb : Nat) (A : World) : KpE N0 Bo Ba eb A A := ⟨Nat.le_refl _, fun _ _ _ _ _ => rfl⟩
theorem KpE.of {N0 Bo Ba eb : Nat} {A B : World} (h : KpFr N0 Bo Ba A B) : KpE N0 Bo Ba eb A B := ⟨h.1, fun j h1 h2 h3 _ => h.2 j h1 h2 h3⟩
theorem KpE.grown {N0 Bo Ba eb : Nat} {A B : World} {row : Option Nat} (h : A.grownBy B row) (hN : N0 ≤ A.heap.size) (hr : ∀ k, row = some k → N0 ≤ k ∨ k = eb) : KpE N0 Bo Ba eb A B :=
  ⟨h.size, fun j h1 _ _ h4 => h.block j (by omega) (fun e => by have := hr j e.symm; omega)⟩
theorem KpE.cell {N0 Bo Ba eb : Nat} {A B : World} (h : KpE N0 Bo Ba eb A B) {p : Addr} {v : Value} (hp : A.cell? p = some v) (h1 : p.block < N0) (h2 : p.block ≠ Bo) (h3 : p.block ≠ Ba) (h4 : p.block ≠ eb) : B.cell? p = some v :=
  (World.cell?_of_block (h.2 p.block h1 h2 h3 h4)).trans hp

set_option maxHeartbeats 2000000 in
set_option maxRecDepth 100000 in
theorem framesIter_in (n : Nat) (h1 : 1 ≤ n) (l Bb Be eb N0 Bo Ba n0 : Nat) (A : Option Addr) (len cap : Nat) (b : List UInt8) (J : List Fr → World → Prop) (W : World)
    (q1 : Bb < N0) (q2 : Be < N0) (q3 : eb < N0) (q4 : N0 ≤ W.heap.size) (q5 : Bb ≠ Bo) (q6 : Bb ≠ Ba) (q7 : Be ≠ Bo) (q8 : Be ≠ Ba) (q9 : eb ≠ Bo) (q10 : eb ≠ Ba) (q11 : Bb ≠ eb) (q12 : Be ≠ eb)
    (q13 : n0 ≤ Bo) (q14 : n0 ≤ Ba) (q15 : n0 ≤ eb) (q16 : n0 ≤ N0)
    (hBb : W.cell? ⟨Bb, 0, none⟩ = some (.slice A len cap)) (hBe : W.cell? ⟨Be, 0, none⟩ = some (.pointer (some ⟨eb, 0, none⟩))) (hE : Boxed W eb 27 (.int .i64 0))
    (hS : SlB W A len b) (hSl : ∀ k off, A = some ⟨k, off, none⟩ → 0 < len → k < n0) (hc : len ≤ cap) (hlen : len ≤ 1099511627776)
    (hJr : ∀ xs W W', J xs W → Own1 (· = eb) W W' → J xs W')
    (hY : ∀ pre x W1, J pre W1 → OkFr N0 b pre x W1 → YieldAt Fence.wide (n - 1) Try.prog l (encFr x) W1 fun e W' => e = .returned (.bool true) ∧ J (pre ++ [x]) W' ∧ KpFr N0 Bo Ba W1 W')
    (h0 : J [] W) :
    CallsIn Fence.wide n Try.prog 26 #[.func (.yield l) #[] #[], .pointer (some ⟨Bb, 0, none⟩), .pointer (some ⟨Be, 0, none⟩)] W fun e W' => (∃ v, e = .returned v) ∧ ∃ xs, J xs W' ∧ FinFr eb b xs W' := by
  have hbl := hS.len
  refine callsIn_of_wp Try.func26 rfl trivial ?_ rfl
  simp only [Try.ntmps26, List.size_toArray, List.length_cons, List.length_nil, Nat.reduceAdd, Nat.reduceSub, Array.replicate_succ, Array.replicate_zero, List.push_toArray, List.append_toArray, List.nil_append, List.cons_append]
  gi_wp2
  gi_loopw [4] (fun i wr => ∃ (k : Nat) (pre : List Fr), i = .int .i64 (k : Int) ∧ Went b pre k ∧ J pre wr ∧ Boxed wr eb 27 (.int .i64 0) ∧ KpE N0 Bo Ba eb W wr) (fun i _ => len - (intOf i).toNat)
  case atStart => exact ⟨0, [], rfl, .nil, h0, hE, KpE.refl _ _ _ _ _⟩
  case round =>
    obtain ⟨k, pre, rfl, hw, hJ, hEr, hK⟩ := hrel
    have hkl := hw.le
    have c1 := hK.cell hBb q1 q5 q6 q11
    have c2 := hK.cell hBe q2 q7 q8 q12
    have c3 := hEr.cell
    have c4 := hEr.frozen
    have y1 := hK.1
    have hSr : SlB wr A len b := ⟨hS.1, fun hn => by
      obtain ⟨bb, off, e, hcc⟩ := hS.2 hn
      have hb := hSl bb off e (by omega)
      exact ⟨bb, off, e, fun j u hu => hK.cell (hcc j u hu) (show bb < N0 by omega) (show bb ≠ Bo by omega) (show bb ≠ Ba by omega) (show bb ≠ eb by omega)⟩⟩
    by_cases hlt : k < len
    · have C1 : Calls Try.prog 15 #[.slice A len cap, .int .i64 (k : Int)] wr (NextAns wr (nextF b k)) := frameNext_any A len cap k b wr hSr hc (by omega) (by omega)
      have y4 : N0 ≤ wr.heap.size := Nat.le_trans q4 y1
      rcases hr : nextF b k with x | ⟨bx, en⟩
      · rw [hr] at C1
        have hx : (x != 0) = true := by simpa using nextF_ne hr
        have C1 := Lib.hid C1
        have HR := Lib.hid hr
        clear hr
        gi_wp2_with
          (refine ⟨trivial, ?_⟩
           gi_at_call 15
           refine (callsIn_wide.2 C1.out).mono ?_
           rintro e w2 ⟨rfl, b3⟩
           have E2 := hEr.kept (grown_of_below b3 none) (by simp)
           have c2 := (b3.cell (World.block_lt_of_cell? wr _ c2)).trans c2
           have c3 := E2.cell
           have c4 := E2.frozen)
        refine ⟨fun _ h => (by cases h), ?_⟩
        gi_wp2
        refine bodyPost_ret (results_none rfl _ _ _) rfl ?_
        exact ⟨⟨_, rfl⟩, pre, hJr pre wr _ hJ ⟨some eb, World.grownBy.trans (grown_of_below ‹Below wr.heap.size wr _› (some eb)) (grownBy_setCell' _ eb (.int .i64 x)), fun r h => by cases h; rfl⟩, k, x, ⟨hw, .inr ⟨by omega, HR.out⟩⟩, Boxed.set _ ‹Boxed _ eb _ _›⟩
      · rw [hr] at C1
        have C1 := Lib.hid C1
        have HR := Lib.hid hr
        clear hr
        gi_wp2_with
          (refine ⟨trivial, ?_⟩
           gi_at_call 15
           refine (callsIn_wide.2 C1.out).mono ?_
           rintro e w2 ⟨A3, n3, c3', rfl, s3, m3, o3, b3⟩
           have E2 := hEr.kept (grown_of_below b3 none) (by simp)
           have c2 := (b3.cell (World.block_lt_of_cell? wr _ c2)).trans c2
           have c3 := E2.cell
           have c4 := E2.frozen
           have G2 := World.grownBy.trans (grown_of_below b3 (some eb)) (grownBy_setCell' w2 eb (.int .i64 0))
           have J3 : J pre (w2.setCell ⟨eb, 0, none⟩ (.int .i64 0)) := hJr pre wr _ hJ ⟨some eb, G2, fun r h => by cases h; rfl⟩
           have O3 : OkFr N0 b pre ⟨A3, n3, c3', bx, en⟩ (w2.setCell ⟨eb, 0, none⟩ (.int .i64 0)) := ⟨⟨k, hw, by omega, HR.out⟩, m3, (own_lower o3 y4).kept (grownBy_setCell' w2 eb _) (.inr fun h => by have := (o3.lt eb h).1; omega)⟩
           obtain ⟨fn, tmps, assign, body, hy, hR⟩ := hY pre ⟨A3, n3, c3', bx, en⟩ _ J3 O3
           dsimp only [encFr, Fr.v] at hy)
        refine hR.mono ?_
        rintro e w4 ⟨rfl, J4, k4⟩
        have hgr := nextF_grows HR.out
        have K4 := (hK.trans (KpE.grown (N0 := N0) (Bo := Bo) (Ba := Ba) (eb := eb) G2 y4 (fun r h => by cases h; exact .inr rfl))).trans (KpE.of k4)
        have E4 : Boxed w4 eb 27 (.int .i64 0) := (k4.2 eb q3 q9 q10).trans (Boxed.set _ E2)
        have W4 : Went b (pre ++ [⟨A3, n3, c3', bx, en⟩]) en := Went.snoc (x := ⟨A3, n3, c3', bx, en⟩) hw (by omega) HR.out
        clear hY hy hR J3 O3 G2 k4 C1 HR
        gi_wp2
        go_roundw
        case rel => exact ⟨en, _, rfl, W4, J4, E4, K4⟩
        case measure => simp [intOf]; omega
    · clear hY
      gi_wp2
      go_end0
      exact ⟨⟨_, rfl⟩, pre, hJ, k, 0, ⟨hw, .inl ⟨by omega, rfl⟩⟩, hEr⟩
end Go.Proofs.Ytoeeiancbiaajaa
