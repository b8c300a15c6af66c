/-
  Sessions: New; firthlaw21.awake.
-/
import Derived.Test.YtbcgalejebeicaaSessEnd
namespace Go.Proofs.Ytbcgalejebeicaa
open Go.RowKit
set_option linter.unusedVariables false

/-- What New leaves. -/
def NewS (w : World) (sites : Int) (e : Ending) (w' : World) : Prop :=
  ∃ G fp, e = .returned (.tuple #[.pointer (some ⟨G.p, 0, none⟩), .int .i64 0]) ∧ SessG w' fp G sites [] 0 ∧ Below w.heap.size w w' ∧ ∀ b, fp b → w.heap.size ≤ b
theorem newS_mk (w : World) (sites : Int) : NewS w sites (.returned (.tuple #[.pointer (some ⟨w.heap.size + 1, 0, none⟩), .int .i64 0])) ((w.alloc (.map #[] 0)).alloc (.cells #[.int .i64 sites, .slice none 0 0, .map (some w.heap.size)] 63)) := by
  refine ⟨⟨w.heap.size + 1, w.heap.size, .slice none 0 0, []⟩, fun b => b = w.heap.size ∨ b = w.heap.size + 1, rfl, ?_, ((Below.refl _ _).alloc (Nat.le_refl _) _).alloc (by simp) _, fun b hb => by omega⟩
  refine ⟨.inr rfl, .inl rfl, ?_, World.ownsRow_nil _ _ _ _, fun g hg => by simp [Value.ownBlock] at hg, ⟨.map [], ?_, AskMap.nil⟩, List.nodup_nil, rfl, fun i g x hg => by simp at hg, ⟨by simp, fun i j x y hx => by simp at hx⟩, fun b hb => by simp; omega⟩
  · have := heap_alloc_new (w.alloc (.map #[] 0)) (.cells #[.int .i64 sites, .slice none 0 0, .map (some w.heap.size)] 63)
    simpa using this
  · exact (World.ownsMap_made w _ _ _).alloc _
set_option maxHeartbeats 1000000 in
theorem newS_yes (sites : Int) (w : World) (h1 : 1 ≤ sites) (h2 : sites ≤ 16) : Calls Try.prog 7 #[.int .i64 sites] w (NewS w sites) := by
  have hmm := @run_makeMap Try.prog
  have H := Lib.hid (newS_mk w sites)
  go_enter Try.func7, Try.ntmps7
  go_wp2
  go_ret2
  exact H.out
set_option maxHeartbeats 1000000 in
theorem newS_no (sites : Int) (w : World) (h : ¬ (1 ≤ sites ∧ sites ≤ 16)) : Calls Try.prog 7 #[.int .i64 sites] w fun e w' => e = .returned (.tuple #[.pointer none, .int .i64 1]) ∧ w = w' := by
  by_cases h1 : sites < 1
  · clear h
    go_enter Try.func7, Try.ntmps7
    go_wp2
    go_ret2
    exact ⟨rfl, rfl⟩
  · have h2 : 16 < sites := by omega
    clear h
    go_enter Try.func7, Try.ntmps7
    go_wp2
    go_ret2
    exact ⟨rfl, rfl⟩
/-- The sessions behind pointer p; what is in K is as it was in w0. -/
def SessP (K : Nat → Prop) (w0 w : World) (p : Nat) (sites : Int) (l : List Ses) (m : Nat) : Prop :=
  ∃ G fp, G.p = p ∧ SessG w fp G sites l m ∧ (∀ b, fp b → ¬ K b) ∧ Fr (fun b => ¬ K b) w0 w ∧ ∀ b, K b → b < w0.heap.size
section
variable {K : Nat → Prop} {w0 w w' : World} {p m : Nat} {sites : Int} {l l' : List Ses} {m' : Nat}
theorem SessP.step {G' : SGeo} {fp fp' : Nat → Prop} (hF : Fr (fun b => ¬ K b) w0 w) (hk : ∀ b, fp b → ¬ K b) (hK : ∀ b, K b → b < w0.heap.size) (hG : G'.p = p) (h' : SessG w' fp' G' sites l' m') (F : Fr fp w w') (gr : Grow w fp fp') : SessP K w0 w' p sites l' m' :=
  ⟨G', fp', hG, h', fun b hb hKb => (gr b hb).elim (fun h => hk b h hKb) (fun h => by have := hK b hKb; have := hF.size; omega), hF.trans F (fun i hi => .inl (hk i hi)), hK⟩
theorem SessP.below (h : SessP K w0 w p sites l m) (hb : Below w.heap.size w w') : SessP K w0 w' p sites l m := by
  obtain ⟨G, fp, hG, h1, h2, h3, h4⟩ := h
  exact ⟨G, fp, hG, h1.below hb, h2, h3.trans (Fr.of_below hb (fp := fun _ => False)) (fun _ h => h.elim), h4⟩
theorem SessP.fr (h : SessP K w0 w p sites l m) : Fr (fun b => ¬ K b) w0 w := by obtain ⟨G, fp, hG, h1, h2, h3, h4⟩ := h; exact h3
/-- From here on more is kept: what is new since. -/
theorem SessP.over {K2 : Nat → Prop} {w1 : World} (h : SessP K w0 w p sites l m) (hb : Below w.heap.size w w1) (hK : ∀ b, K2 b → K b ∨ w.heap.size ≤ b ∧ b < w1.heap.size) : SessP K2 w1 w1 p sites l m := by
  obtain ⟨G, fp, hG, h1, h2, h3, h4⟩ := h
  refine ⟨G, fp, hG, h1.below hb, fun b hb' hk => (hK b hk).elim (h2 b hb') (fun hh => by have := h1.lt b hb'; omega), Fr.refl _ _, fun b hk => (hK b hk).elim (fun hk => ?_) (fun hh => hh.2)⟩
  have := h4 b hk
  have := h3.size
  have := hb.size
  omega
theorem openP (s : Int) (h : SessP K w0 w p sites l m) (hl : l.length ≤ 4000000000000) :
    Calls Try.prog 8 #[.pointer (some ⟨p, 0, none⟩), .int .i64 s] w fun e w' => e = .returned (.tuple #[.int .i64 (openA sites l s).1, .int .i64 (openA sites l s).2]) ∧ SessP K w0 w' p sites (openL sites l s) m := by
  obtain ⟨G, fp, rfl, h1, h2, h3, h4⟩ := h
  refine (open_any_ s h1 hl).mono ?_
  rintro e w' ⟨he, G', fp', hG, h', F, gr⟩
  exact ⟨he, .step h3 h2 h4 hG h' F gr⟩
/-- The token that Begin tells is new memory: none of K, and the state stands when it is written. -/
theorem beginP (n op : Int) (h : SessP K w0 w p sites l m) (hm : m < maxLen) (hw : (Lit.int .i64 op).wf = true) :
    Calls Try.prog 9 #[.pointer (some ⟨p, 0, none⟩), .int .i64 n, .int .i64 op] w fun e w' => ∃ A k c, e = .returned (.tuple #[.int .i64 (beginA l n op).1, .slice A k c, .int .i64 (beginA l n op).2.2]) ∧
      SlB w' A k (beginA l n op).2.1 ∧ k ≤ c ∧ w'.ownsRow w.heap.size 5 1 (.slice A k c) k (bsV (beginA l n op).2.1) ∧ SessP K w0 w' p sites (beginL l n op) (m + 1) ∧ SessP (fun b => K b ∨ w.heap.size ≤ b ∧ b < w'.heap.size) w' w' p sites (beginL l n op) (m + 1) := by
  obtain ⟨G, fp, rfl, h1, h2, h3, h4⟩ := h
  refine (begin_any n op h1 hm hw).mono ?_
  rintro e w' ⟨A, k, c, he, hs, hc, ho, h', F⟩
  refine ⟨A, k, c, he, hs, hc, ho, .step h3 h2 h4 rfl h' F (Grow.refl _ _), G, fp, rfl, h', fun b hb hh => hh.elim (h2 b hb) (fun hh => by have := h1.lt b hb; omega), Fr.refl _ _, fun b hb => hb.elim (fun hb => ?_) (fun hb => hb.2)⟩
  have := h4 b hb
  have := h3.size
  have := F.size
  omega
theorem endP (op : Int) (At : Option Addr) (nt ct : Nat) (tok : List UInt8) (h : SessP K w0 w p sites l m) (hw : (Lit.int .i64 op).wf = true) (ht : SlB w At nt tok) (hnt : nt ≤ 140737488351232) (hct : nt ≤ ct) (hta : ∀ b off s, 0 < nt → At = some ⟨b, off, s⟩ → K b) :
    Calls Try.prog 10 #[.pointer (some ⟨p, 0, none⟩), .int .i64 op, .slice At nt ct] w fun e w' => e = .returned (.tuple #[.int .i64 (findS l op : Int), .bool (decide (0 < findS l op))]) ∧ SessP K w0 w' p sites (endL l op tok) m := by
  obtain ⟨G, fp, rfl, h1, h2, h3, h4⟩ := h
  refine (end_any op At nt ct tok h1 hw ht hnt hct (fun b off s hn e hb => h2 b hb (hta b off s hn e))).mono ?_
  rintro e w' ⟨he, fp', h', F, gr⟩
  exact ⟨he, .step h3 h2 h4 rfl h' F gr⟩
theorem goP (n s : Int) (h : SessP K w0 w p sites l m) :
    Calls Try.prog 12 #[.pointer (some ⟨p, 0, none⟩), .int .i64 n, .int .i64 s] w fun e w' => e = .returned (.int .i64 (goA sites l n s)) ∧ SessP K w0 w' p sites (goL sites l n s) m := by
  obtain ⟨G, fp, rfl, h1, h2, h3, h4⟩ := h
  refine (goM_any n s h1).mono ?_
  rintro e w' ⟨he, fp', h', F, gr⟩
  exact ⟨he, .step h3 h2 h4 rfl h' F gr⟩
theorem siteP (n : Int) (h : SessP K w0 w p sites l m) :
    Calls Try.prog 13 #[.pointer (some ⟨p, 0, none⟩), .int .i64 n] w fun e w' => e = .returned (.int .i64 (siteS l n)) ∧ w = w' := by
  obtain ⟨G, fp, rfl, h1, h2, h3, h4⟩ := h
  exact site_any n h1
theorem tokenP (n : Int) (h : SessP K w0 w p sites l m) :
    Calls Try.prog 11 #[.pointer (some ⟨p, 0, none⟩), .int .i64 n] w (NewB w (tokS l n)) := by
  obtain ⟨G, fp, rfl, h1, h2, h3, h4⟩ := h
  exact token_any n h1
theorem lenP (h : SessP K w0 w p sites l m) :
    Calls Try.prog 21 #[.pointer (some ⟨p, 0, none⟩)] w fun e w' => e = .returned (.int .i64 (l.length : Int)) ∧ w = w' := by
  obtain ⟨G, fp, rfl, h1, h2, h3, h4⟩ := h
  exact len_any h1
end
/-- New, for a law: what lay there stays. -/
theorem newP (sites : Int) (w : World) (h1 : 1 ≤ sites) (h2 : sites ≤ 16) : Calls Try.prog 7 #[.int .i64 sites] w fun e w' => ∃ p, e = .returned (.tuple #[.pointer (some ⟨p, 0, none⟩), .int .i64 0]) ∧ SessP (fun b => b < w.heap.size) w w' p sites [] 0 := by
  refine (newS_yes sites w h1 h2).mono ?_
  rintro e w' ⟨G, fp, he, h, b, f⟩
  exact ⟨G.p, he, G, fp, rfl, h, fun b hb => by have := f b hb; omega, (Fr.of_below b), fun _ h => h⟩
theorem Fr.toBelow {w w' : World} (h : Fr (fun b => ¬ b < w.heap.size) w w') : Below w.heap.size w w' := h.below (fun i hi => by omega) (Nat.le_refl _)

set_option maxHeartbeats 2000000 in
set_option maxRecDepth 100000 in
theorem awake_any (w : World) : Calls Try.prog 6 #[] w fun e w' => e = .returned (.bool true) ∧ Below w.heap.size w w' := by
  go_enter Try.func6, Try.ntmps6
  go_wp2_with fail
  refine (newP 2 w (by omega) (by omega)).mono ?_
  rintro e w1 ⟨p, rfl, H1⟩
  have C := Lib.hid (show Calls Try.prog 8 #[.pointer (some ⟨p, 0, none⟩), .int .i64 1] w1 (fun e w' => e = .returned (.tuple #[.int .i64 1, .int .i64 0]) ∧ SessP (fun b => b < w.heap.size) w w' p 2 [⟨1, [], 0⟩] 0) from openP 1 H1 (by simp))
  clear H1
  go_wp2_with fail
  refine C.out.mono ?_
  rintro e w2 ⟨rfl, H2⟩
  have C2 := Lib.hid (show Calls Try.prog 9 #[.pointer (some ⟨p, 0, none⟩), .int .i64 1, .int .i64 7] w2 (fun e w' => ∃ A k c, e = .returned (.tuple #[.int .i64 1, .slice A k c, .int .i64 0]) ∧ SlB w' A k [] ∧ k ≤ c ∧ w'.ownsRow w2.heap.size 5 1 (.slice A k c) k (bsV []) ∧ SessP (fun b => b < w.heap.size) w w' p 2 [⟨1, [], 7⟩] 1 ∧ _) from beginP 1 7 H2 (by unfold maxLen; omega) (by decide))
  clear H2 C
  go_wp2_with fail
  refine C2.out.mono ?_
  rintro e w3 ⟨A3, k3, c3, rfl, s3, _, _, H3, _⟩
  have C3 := Lib.hid (show Calls Try.prog 9 #[.pointer (some ⟨p, 0, none⟩), .int .i64 1, .int .i64 8] w3 (fun e w' => ∃ A k c, e = .returned (.tuple #[.int .i64 0, .slice A k c, .int .i64 202]) ∧ SlB w' A k [] ∧ k ≤ c ∧ w'.ownsRow w3.heap.size 5 1 (.slice A k c) k (bsV []) ∧ SessP (fun b => b < w.heap.size) w w' p 2 [⟨1, [], 7⟩] 2 ∧ _) from beginP 1 8 H3 (by unfold maxLen; omega) (by decide))
  obtain rfl : k3 = 0 := (SlB.len s3).symm
  clear H3 C2 s3
  go_wp2_with fail
  refine C3.out.mono ?_
  rintro e w4 ⟨A4, k4, c4, rfl, s4, _, _, H4, _⟩
  have F4 := Lib.hid H4.fr
  have H5 := H4.over (K2 := fun b => b < w.heap.size ∨ b = w4.heap.size) (w1 := w4.alloc (.cells #[.int .u8 116] 5 (1, 2))) ((Below.refl _ _).alloc (Nat.le_refl _) _) (fun b hb => hb.imp id (fun e => by simp; omega))
  have C5 := Lib.hid (show Calls Try.prog 10 #[.pointer (some ⟨p, 0, none⟩), .int .i64 7, .slice (some ⟨w4.heap.size, 0, none⟩) 1 1] (w4.alloc (.cells #[.int .u8 116] 5 (1, 2))) (fun e w' => e = .returned (.tuple #[.int .i64 1, .bool true]) ∧ SessP (fun b => b < w.heap.size ∨ b = w4.heap.size) (w4.alloc (.cells #[.int .u8 116] 5 (1, 2))) w' p 2 [⟨1, [116], 0⟩] 2) from
    endP 7 (some ⟨w4.heap.size, 0, none⟩) 1 1 [116] H5 (by decide) (sl_const w4 [116] _ _ _ _ 1 rfl rfl rfl) (by omega) (by omega) (fun b off s _ e => .inr (by injection e with e; injection e with e1; exact e1.symm)))
  clear H4 C3 s4 H5
  have kc := fun (w : World) (C : Array Value) (n c : Nat) => Lib.run_convert_bytes_const (P := Try.prog) w 22 5 C n c Try.underlying22 Try.underlying5
  go_wp2_with fail
  refine C5.out.mono ?_
  rintro e w5 ⟨rfl, H6⟩
  have C6 := Lib.hid (show Calls Try.prog 12 #[.pointer (some ⟨p, 0, none⟩), .int .i64 1, .int .i64 2] w5 (fun e w' => e = .returned (.int .i64 0) ∧ SessP (fun b => b < w.heap.size ∨ b = w4.heap.size) (w4.alloc (.cells #[.int .u8 116] 5 (1, 2))) w' p 2 [⟨2, [116], 0⟩] 2) from goP 1 2 H6)
  clear C5 H6
  go_wp2_with fail
  refine C6.out.mono ?_
  rintro e w6 ⟨rfl, H7⟩
  have C7 := Lib.hid (show Calls Try.prog 9 #[.pointer (some ⟨p, 0, none⟩), .int .i64 1, .int .i64 9] w6 (fun e w' => ∃ A k c, e = .returned (.tuple #[.int .i64 2, .slice A k c, .int .i64 0]) ∧ SlB w' A k [116] ∧ k ≤ c ∧ w'.ownsRow w6.heap.size 5 1 (.slice A k c) k (bsV [116]) ∧ SessP (fun b => b < w.heap.size ∨ b = w4.heap.size) (w4.alloc (.cells #[.int .u8 116] 5 (1, 2))) w' p 2 [⟨2, [116], 9⟩] 3 ∧ _) from beginP 1 9 H7 (by unfold maxLen; omega) (by decide))
  clear C6 H7
  go_wp2_with fail
  refine C7.out.mono ?_
  rintro e w7 ⟨A7, k7, c7, rfl, s7, _, _, H8, _⟩
  have q7 := run_convert_SlB (P := Try.prog) s7 22 5 9 Try.underlying22 Try.underlying5 Try.underlying9 c7
  have F8 := Lib.hid H8.fr
  clear C7 s7 H8
  go_wp2
  go_ret
  refine ⟨rfl, Fr.toBelow ((F4.out.trans (Fr.alloc _ _ _) (fun i hi => .inl hi)).trans F8.out (fun i hi => .inl (fun h => hi (.inl h))))⟩
end Go.Proofs.Ytbcgalejebeicaa
