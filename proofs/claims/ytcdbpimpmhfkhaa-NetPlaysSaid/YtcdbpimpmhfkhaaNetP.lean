/-
  The network for a law: what else lay there stays.
-/
import Derived.Test.YtcdbpimpmhfkhaaNetFlip
import Derived.Deep.QuietTactic
import Derived.BigQuiet
import Derived.Lib.SlBytesConst
namespace Go.Proofs.Ytcdbpimpmhfkhaa
open Go.RowKit
set_option linter.unusedVariables false

theorem Calls.quiet_same' {P : Program} {f : FuncId} {args : Array Value} {w : World} {n : Nat} {v : Value}
    (h : Calls P f args (w.drewN n) fun e w' => e = .returned v ∧ w.drewN n = w') : Calls P f args (w.drewN n) fun e w'' => e = .returned v ∧ ∃ m, w'' = w.drewN m :=
  Calls.quiet_of_same (h.mono fun _ _ ⟨a, b⟩ => ⟨a, b.symm⟩)
section
variable {w w' : World} {fp fp' : Nat → Prop} {G : NGeo} {l : List Pk} {C : K4 → Bool} {c : Cnt} {m : Nat}
set_option maxHeartbeats 1000000 in
theorem tally_any (h : NetG w fp G l C c m) :
    Calls Try.prog 17 #[.pointer (some ⟨G.p, 0, none⟩)] w fun e w' => e = .returned (.tuple #[.int .i64 c.s, .int .i64 c.t, .int .i64 c.x]) ∧ ∃ k, w' = w.drewN k := by
  obtain ⟨t2, t3, t4, _⟩ := h.cnt_
  clear h
  have C2 := Lib.hid (fun n => Calls.quiet_same' (n := n) (loadI_any G.p 2 c.s (w.drewN n) t2))
  have C3 := Lib.hid (fun n => Calls.quiet_same' (n := n) (loadI_any G.p 3 c.t (w.drewN n) t3))
  have C4 := Lib.hid (fun n => Calls.quiet_same' (n := n) (loadI_any G.p 4 c.x (w.drewN n) t4))
  clear t2 t3 t4
  go_enter Try.func17, Try.ntmps17
  go_wp2_with fail
  go_quiet (first
    | (go_at_call 29; first | exact C2.out _ | exact C3.out _ | exact C4.out _))
  go_wp2
  go_ret3
  exact ⟨rfl, _, rfl⟩
end
/-- The network behind pointer p; what is in K is as it was in w0. -/
def NetP (K : Nat → Prop) (w0 w : World) (p : Nat) (l : List Pk) (C : K4 → Bool) (c : Cnt) (m : Nat) : Prop :=
  ∃ G fp, G.p = p ∧ NetG w fp G l C c m ∧ (∀ b, fp b → ¬ K b) ∧ Fr (fun b => ¬ K b) w0 w ∧ ∀ b, K b → b < w0.heap.size
section
variable {K : Nat → Prop} {w0 w w' : World} {p m : Nat} {l l' : List Pk} {C C' : K4 → Bool} {c c' : Cnt} {m' : Nat}
theorem NetP.step {G' : NGeo} {fp fp' : Nat → Prop} (hF : Fr (fun b => ¬ K b) w0 w) (hk : ∀ b, fp b → ¬ K b) (hK : ∀ b, K b → b < w0.heap.size) (hG : G'.p = p) (h' : NetG w' fp' G' l' C' c' m') (F : Fr fp w w') (gr : Grow w fp fp') : NetP K w0 w' p l' C' c' m' :=
  ⟨G', fp', hG, h', fun b hb hKb => (gr b hb).elim (fun h => hk b h hKb) (fun h => by have := hK b hKb; have := hF.size; omega), hF.trans F (fun i hi => .inl (hk i hi)), hK⟩
theorem NetP.below (h : NetP K w0 w p l C c m) (hb : Below w.heap.size w w') : NetP K w0 w' p l C c m := by
  obtain ⟨G, fp, hG, h1, h2, h3, h4⟩ := h
  exact ⟨G, fp, hG, h1.below hb, h2, h3.trans (Fr.of_below hb (fp := fun _ => False)) (fun _ h => h.elim), h4⟩
theorem NetP.fr (h : NetP K w0 w p l C c m) : Fr (fun b => ¬ K b) w0 w := by obtain ⟨G, fp, hG, h1, h2, h3, h4⟩ := h; exact h3
theorem NetP.len (h : NetP K w0 w p l C c m) : l.length ≤ 4096 := by obtain ⟨G, fp, hG, h1, h2, h3, h4⟩ := h; exact h1.len
theorem NetP.wf (h : NetP K w0 w p l C c m) {i : Nat} {q : Pk} (hq : l[i]? = some q) : q.wf ∧ q.d.length ≤ tokMax := by
  obtain ⟨G, fp, hG, h1, h2, h3, h4⟩ := h
  obtain ⟨_, _, _, _, _, _, _, s1, _, s3, hwf, _, _⟩ := h1.at_ hq
  exact ⟨hwf, by have := SlB.len s1; omega⟩
/-- From here on more is kept: what is new since. -/
theorem NetP.over {K2 : Nat → Prop} {w1 : World} (h : NetP K w0 w p l C c m) (hb : Below w.heap.size w w1) (hK : ∀ b, K2 b → K b ∨ w.heap.size ≤ b ∧ b < w1.heap.size) : NetP K2 w1 w1 p l C c m := by
  obtain ⟨G, fp, hG, h1, h2, h3, h4⟩ := h
  refine ⟨G, fp, hG, h1.below hb, fun b hb' hk => (hK b hk).elim (h2 b hb') (fun hh => by have := h1.lt b hb'; omega), Fr.refl _ _, fun b hk => (hK b hk).elim (fun hk => ?_) (fun hh => hh.2)⟩
  have := h4 b hk
  have := h3.size
  have := hb.size
  omega
theorem NetP.back {K2 : Nat → Prop} {w1 wb : World} (h : NetP K2 wb w' p l C c m) (F : Fr (fun b => ¬ K b) w1 wb) (hK : ∀ b, K b → K2 b) (hl : ∀ b, K b → b < w1.heap.size) : NetP K w1 w' p l C c m := by
  obtain ⟨G, fp, hG, h1, h2, h3, h4⟩ := h
  exact ⟨G, fp, hG, h1, fun b hb hk => h2 b hb (hK b hk), F.trans h3 (fun i hi => .inl fun hk => hi (hK i hk)), hl⟩
theorem sendP (q : Pk) (A : Option Addr) (n k : Nat) (h : NetP K w0 w p l C c m) (hx : c.s < 8000000000000000000) (hwf : q.wf) (hs : SlB w A n q.d) (hc : n ≤ k) (hn : n ≤ tokMax) :
    Calls Try.prog 11 #[.pointer (some ⟨p, 0, none⟩), .agg #[.int .i64 q.fs, .int .i64 q.fn, .int .i64 q.ts, .int .i64 q.tn, .slice A n k]] w fun e w' => e = .returned (.bool (decide (l.length ≠ 4096))) ∧ NetP K w0 w' p (addL l q) C (sendC l c) m := by
  obtain ⟨G, fp, rfl, h1, h2, h3, h4⟩ := h
  refine (send_any q A n k h1 hx hwf hs hc hn).mono ?_
  rintro e w' ⟨he, fp', h', F, gr⟩
  exact ⟨he, .step h3 h2 h4 rfl h' F gr⟩
theorem copyP (i : Int) (h : NetP K w0 w p l C c m) :
    Calls Try.prog 16 #[.pointer (some ⟨p, 0, none⟩), .int .i64 i] w fun e w' => e = .returned (.bool (copyB l i)) ∧ NetP K w0 w' p (copyL l i) C c m := by
  obtain ⟨G, fp, rfl, h1, h2, h3, h4⟩ := h
  refine (copy_any i h1).mono ?_
  rintro e w' ⟨he, fp', h', F, gr⟩
  exact ⟨he, .step h3 h2 h4 rfl h' F gr⟩
theorem flipP_ (i a : Int) (x : UInt8) (h : NetP K w0 w p l C c m) :
    Calls Try.prog 19 #[.pointer (some ⟨p, 0, none⟩), .int .i64 i, .int .i64 a, bV x] w fun e w' => e = .returned (.bool (flipB l i a)) ∧ NetP K w0 w' p (flipL l i a x) C c m := by
  obtain ⟨G, fp, rfl, h1, h2, h3, h4⟩ := h
  refine (flip_any i a x h1).mono ?_
  rintro e w' ⟨he, h', F⟩
  exact ⟨he, .step h3 h2 h4 rfl h' F (Grow.refl _ _)⟩
theorem loseP (i : Int) (h : NetP K w0 w p l C c m) (hx : c.x < 8000000000000000000) :
    Calls Try.prog 18 #[.pointer (some ⟨p, 0, none⟩), .int .i64 i] w fun e w' => e = .returned (.bool (lookP l i).isSome) ∧ NetP K w0 w' p (loseL l i) C (loseC l i c) m := by
  obtain ⟨G, fp, rfl, h1, h2, h3, h4⟩ := h
  refine (lose_any i h1 hx).mono ?_
  rintro e w' ⟨he, h', F⟩
  exact ⟨he, .step h3 h2 h4 rfl h' F (Grow.refl _ _)⟩
theorem lenP (h : NetP K w0 w p l C c m) :
    Calls Try.prog 14 #[.pointer (some ⟨p, 0, none⟩)] w fun e w' => e = .returned (.int .i64 (l.length : Int)) ∧ w = w' := by
  obtain ⟨G, fp, rfl, h1, h2, h3, h4⟩ := h
  exact len_any h1
theorem tallyP (h : NetP K w0 w p l C c m) :
    Calls Try.prog 17 #[.pointer (some ⟨p, 0, none⟩)] w fun e w' => e = .returned (.tuple #[.int .i64 c.s, .int .i64 c.t, .int .i64 c.x]) ∧ ∃ k, w' = w.drewN k := by
  obtain ⟨G, fp, rfl, h1, h2, h3, h4⟩ := h
  exact tally_any h1
theorem lookPP (i : Int) (h : NetP K w0 w p l C c m) :
    Calls Try.prog 15 #[.pointer (some ⟨p, 0, none⟩), .int .i64 i] w (NewPkB w ((lookP l i).getD zeroPk) (lookP l i).isSome) := by
  obtain ⟨G, fp, rfl, h1, h2, h3, h4⟩ := h
  exact look_any i h1
/-- What is taken is new memory: it may be kept. -/
theorem takePP (i : Int) (h : NetP K w0 w p l C c m) (hx : c.x < 8000000000000000000) (hx2 : c.t < 8000000000000000000) :
    Calls Try.prog 12 #[.pointer (some ⟨p, 0, none⟩), .int .i64 i] w fun e w' => ∃ A n k, e = .returned (.tuple #[.agg #[.int .i64 (takeP C l i).fs, .int .i64 (takeP C l i).fn, .int .i64 (takeP C l i).ts, .int .i64 (takeP C l i).tn, .slice A n k], .bool (takeB C l i)]) ∧
      SlB w' A n (takeP C l i).d ∧ n ≤ k ∧ n ≤ tokMax ∧ w'.ownsRow w.heap.size 5 1 (.slice A n k) n (bsV (takeP C l i).d) ∧ NetP K w0 w' p (loseL l i) C (takeC C l i c) m ∧ NetP (fun b => K b ∨ w.heap.size ≤ b ∧ b < w'.heap.size) w' w' p (loseL l i) C (takeC C l i c) m := by
  obtain ⟨G, fp, rfl, h1, h2, h3, h4⟩ := h
  refine (take_any i h1 hx hx2).mono ?_
  rintro e w' ⟨A, n, k, he, hs, hn, hn2, ho, h', F⟩
  refine ⟨A, n, k, he, hs, hn, hn2, ho, .step h3 h2 h4 rfl h' F (Grow.refl _ _), G, fp, rfl, h', fun b hb hh => hh.elim (h2 b hb) (fun hh => by have := h1.lt b hb; omega), Fr.refl _ _, fun b hb => hb.elim (fun hb => ?_) (fun hb => hb.2)⟩
  have := h4 b hb
  have := h3.size
  have := F.size
  omega
end
theorem newP (w : World) : Calls Try.prog 10 #[] w fun e w' => ∃ p, e = .returned (.pointer (some ⟨p, 0, none⟩)) ∧ NetP (fun b => b < w.heap.size) w w' p [] (fun _ => false) ⟨0, 0, 0⟩ 0 := by
  refine (new_any w).mono ?_
  rintro e w' ⟨G, fp, he, h, b, f⟩
  exact ⟨G.p, he, G, fp, rfl, h, fun b hb => by have := f b hb; omega, Fr.of_below b, fun _ h => h⟩
theorem Fr.toBelow {w w' : World} (h : Fr (fun b => ¬ b < w.heap.size) w w') : Below w.heap.size w w' := h.below (fun i hi => by omega) (Nat.le_refl _)
theorem take_none {l : List Pk} {i : Int} (h : lookP l i = none) (C : K4 → Bool) (c : Cnt) : takeP C l i = zeroPk ∧ takeB C l i = false ∧ takeC C l i c = c ∧ loseL l i = l := by
  unfold takeP takeB takeC loseL; rw [h]; exact ⟨rfl, rfl, rfl, rfl⟩
theorem take_free {l : List Pk} {i : Int} {q : Pk} (h : lookP l i = some q) (c : Cnt) : takeP (fun _ => false) l i = q ∧ takeB (fun _ => false) l i = true ∧ takeC (fun _ => false) l i c = { c with t := c.t + 1 } ∧ loseL l i = l.eraseIdx i.toNat := by
  unfold takeP takeB takeC loseL; rw [h]; exact ⟨rfl, rfl, rfl, rfl⟩
theorem Fr.cellK {w w' : World} {K : Nat → Prop} {a : Addr} {v : Value} (F : Fr (fun b => ¬ K b) w w') (hK : K a.block) (h : w.cell? a = some v) : w'.cell? a = some v := by
  rw [World.cell?_of_block (w := w) (F.block _ (World.block_lt_of_cell? w a h) (fun hh => hh hK))]; exact h
theorem Sl.frK {w w' : World} {K : Nat → Prop} {A : Option Addr} {n sz : Nat} {xs : List Value} (h : Sl w A n sz xs) (F : Fr (fun b => ¬ K b) w w') (hK : ∀ b off s, 0 < n * sz → A = some ⟨b, off, s⟩ → K b) : Sl w' A n sz xs :=
  Sl.keepB h fun b off hn e => F.block b (Sl.blk_lt h hn e) (fun hh => hh (hK b off none hn e))
theorem Sl.fr' {w w' : World} {A : Option Addr} {n sz : Nat} {xs : List Value} {fp : Nat → Prop} (h : Sl w A n sz xs) (F : Fr fp w w') (hf : ∀ b, fp b → w.heap.size ≤ b) : Sl w' A n sz xs :=
  h.below (F.below hf (Nat.le_refl _))
theorem Fr.cell' {w w' : World} {q : Addr} {v : Value} (F : Fr (fun b => ¬ b < w.heap.size) w w') (h : w.cell? q = some v) : w'.cell? q = some v :=
  ((F.toBelow).cell (World.block_lt_of_cell? w q h)).trans h

def pk1 : Pk := ⟨1, 0, 2, 0, [112]⟩
theorem pk1_wf : pk1.wf := ⟨by decide, by decide, by decide, by decide⟩
set_option maxHeartbeats 4000000 in
set_option maxRecDepth 100000 in
theorem awake_any (w : World) : Calls Try.prog 9 #[] w fun e w' => e = .returned (.bool true) ∧ Below w.heap.size w w' := by
  go_enter Try.func9, Try.ntmps9
  go_wp2_with fail
  refine (newP w).mono ?_
  rintro e w1 ⟨p, rfl, H1⟩
  have CS := Lib.hid (show Calls Try.prog 11 #[.pointer (some ⟨p, 0, none⟩), .agg #[.int .i64 1, .int .i64 0, .int .i64 2, .int .i64 0, .slice (some ⟨w1.heap.size, 0, none⟩) 1 1]] (w1.alloc (.cells #[.int .u8 112] 5 (1, 2))) (fun e w' => e = .returned (.bool true) ∧ NetP (fun b => b < w.heap.size) w w' p [pk1] (fun _ => false) ⟨1, 0, 0⟩ 0) from
    sendP pk1 (some ⟨w1.heap.size, 0, none⟩) 1 1 (H1.below ((Below.refl _ _).alloc (Nat.le_refl _) _)) (by decide) pk1_wf (sl_const w1 [112] _ _ _ _ 1 rfl rfl rfl) (Nat.le_refl _) (by rw [tokMax_eq]; omega))
  have kc := fun (w : World) (C : Array Value) (n c : Nat) => Lib.run_convert_bytes_const (P := Try.prog) w 30 5 C n c Try.underlying30 Try.underlying5
  clear H1
  go_wp2_with fail
  refine CS.out.mono ?_
  rintro e w2 ⟨rfl, H2⟩
  have CC := Lib.hid (show Calls Try.prog 16 #[.pointer (some ⟨p, 0, none⟩), .int .i64 0] w2 (fun e w' => e = .returned (.bool true) ∧ NetP (fun b => b < w.heap.size) w w' p [pk1, pk1] (fun _ => false) ⟨1, 0, 0⟩ 0) from copyP 0 H2)
  clear CS H2
  go_wp2_with fail
  refine CC.out.mono ?_
  rintro e w3 ⟨rfl, H3⟩
  have CT := Lib.hid (show Calls Try.prog 12 #[.pointer (some ⟨p, 0, none⟩), .int .i64 1] w3 (fun e w' => ∃ A n k, e = .returned (.tuple #[.agg #[.int .i64 1, .int .i64 0, .int .i64 2, .int .i64 0, .slice A n k], .bool true]) ∧ SlB w' A n [112] ∧ n ≤ k ∧ n ≤ tokMax ∧ w'.ownsRow w3.heap.size 5 1 (.slice A n k) n (bsV [112]) ∧ NetP (fun b => b < w.heap.size) w w' p [pk1] (fun _ => false) ⟨1, 1, 0⟩ 0 ∧ _) from takePP 1 H3 (by decide) (by decide))
  clear CC H3
  go_wp2_with fail
  refine CT.out.mono ?_
  rintro e w4 ⟨A, n, k, rfl, s4, _, _, _, H4, _⟩
  have HA := H4.below ((Below.refl _ w4).alloc (Nat.le_refl _) (.cells #[.int .i64 1, .int .i64 0, .int .i64 2, .int .i64 0, .slice A n k] 32))
  have q4 := run_convert_SlB (P := Try.prog) (Sl.alloc s4 (.cells #[.int .i64 1, .int .i64 0, .int .i64 2, .int .i64 0, .slice A n k] 32)) 30 5 9 Try.underlying30 Try.underlying5 Try.underlying9 k
  have CL := Lib.hid (lenP HA)
  have F4 := Lib.hid HA.fr
  clear CT s4 H4 HA
  go_wp2_with fail
  refine CL.out.mono ?_
  rintro e w' ⟨rfl, rfl⟩
  go_wp2
  go_ret
  exact ⟨rfl, F4.out.toBelow⟩
end Go.Proofs.Ytcdbpimpmhfkhaa
