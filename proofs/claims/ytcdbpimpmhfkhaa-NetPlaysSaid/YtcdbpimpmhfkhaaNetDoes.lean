/-
  firthlaw08.does: one call of the program's network and of the document's.
-/
import Derived.Test.YtcdbpimpmhfkhaaNetBoth
import Derived.Test.YtcdbpimpmhfkhaaHeld
namespace Go.Proofs.Ytcdbpimpmhfkhaa
open Go.RowKit
set_option linter.unusedVariables false

/-- A counter has gone on by one at most. -/
def CntLe (c c' : Cnt) : Prop := (c.s ≤ c'.s ∧ c'.s ≤ c.s + 1) ∧ (c.t ≤ c'.t ∧ c'.t ≤ c.t + 1) ∧ (c.x ≤ c'.x ∧ c'.x ≤ c.x + 1)
theorem CntLe.refl (c : Cnt) : CntLe c c := ⟨⟨Int.le_refl _, by omega⟩, ⟨Int.le_refl _, by omega⟩, ⟨Int.le_refl _, by omega⟩⟩
theorem CntLe.send (l : List Pk) (c : Cnt) : CntLe c (sendC l c) := by
  unfold sendC
  split
  · exact CntLe.refl c
  · exact ⟨⟨by simp only; omega, by simp only; omega⟩, ⟨by simp only; omega, by simp only; omega⟩, ⟨by simp only; omega, by simp only; omega⟩⟩
theorem CntLe.lose (l : List Pk) (i : Int) (c : Cnt) : CntLe c (loseC l i c) := by
  unfold loseC
  split
  · exact ⟨⟨by simp only; omega, by simp only; omega⟩, ⟨by simp only; omega, by simp only; omega⟩, ⟨by simp only; omega, by simp only; omega⟩⟩
  · exact CntLe.refl c
theorem CntLe.take (C : K4 → Bool) (l : List Pk) (i : Int) (c : Cnt) : CntLe c (takeC C l i c) := by
  unfold takeC
  split
  · exact CntLe.refl c
  · split <;> exact ⟨⟨by simp only; omega, by simp only; omega⟩, ⟨by simp only; omega, by simp only; omega⟩, ⟨by simp only; omega, by simp only; omega⟩⟩
def DoesTo (K : Nat → Prop) (w0 : World) (p q : Nat) (c : Cnt) (m : Nat) (cl : List K4) (e : Ending) (w' : World) : Prop :=
  e = .returned (.bool true) ∧ ∃ l' C' c' m' cl', NBoth K w0 w' p q l' C' c' m' l' cl' c' ∧ Par cl' C' ∧ m' ≤ m + 1 ∧ cl'.length ≤ cl.length + 1 ∧ CntLe c c'
section
variable {K : Nat → Prop} {w0 w : World} {p q m : Nat} {l : List Pk} {C : K4 → Bool} {cl : List K4} {c : Cnt}
set_option maxHeartbeats 20000000 in
set_option maxRecDepth 100000 in
theorem does_any (h : NBoth K w0 w p q l C c m l cl c) (hC : Par cl C) (hc : (0 ≤ c.s ∧ c.s < 8000000000000000000) ∧ (0 ≤ c.t ∧ c.t < 8000000000000000000) ∧ (0 ≤ c.x ∧ c.x < 8000000000000000000)) (hm : m ≤ 2000000000000) (hcl : cl.length ≤ 2000000000000)
    (kd i a : Int) (pk : Pk) (At : Option Addr) (nt ct : Nat) (x : UInt8) (hwf : pk.wf) (hs : SlB w At nt pk.d) (hnc : nt ≤ ct) (hnt : nt ≤ tokMax) (hK : ∀ b off s, 0 < nt → At = some ⟨b, off, s⟩ → K b) :
    Calls Try.prog 22 #[.pointer (some ⟨p, 0, none⟩), .pointer (some ⟨q, 0, none⟩), .agg #[.int .i64 kd, .int .i64 pk.fs, .int .i64 pk.fn, .int .i64 pk.ts, .int .i64 pk.tn, .slice At nt ct, .int .i64 i, .int .i64 a, bV x]] w (DoesTo K w0 p q c m cl) := by
  have bA : Below w.heap.size w (w.alloc (.cells #[.int .i64 kd, .int .i64 pk.fs, .int .i64 pk.fn, .int .i64 pk.ts, .int .i64 pk.tn, .slice At nt ct, .int .i64 i, .int .i64 a, bV x] 54)) := (Below.refl _ _).alloc (Nat.le_refl _) _
  have kb := heap_alloc_new w (.cells #[.int .i64 kd, .int .i64 pk.fs, .int .i64 pk.fn, .int .i64 pk.ts, .int .i64 pk.tn, .slice At nt ct, .int .i64 i, .int .i64 a, bV x] 54)
  have hl4 := h.len
  have hklt := h.klt
  have hksz := h.fr.size
  have HK := Lib.hid (h.over (K2 := fun b => K b ∨ b = w.heap.size) bA (fun b hb => hb.elim .inl (fun e => .inr ⟨by omega, by rw [e]; simp⟩)))
  have FB := Lib.hid (h.fr.trans (Fr.of_below bA (fp := fun _ => False)) (fun _ h => h.elim))
  have HT := Lib.hid (show SlB _ At nt pk.d from Sl.below hs bA)
  have HTB := Lib.hid (fun (b off : Nat) (s : Option Nat) (hn : 0 < nt * 1) (e : At = some ⟨b, off, s⟩) => show K b ∨ b = w.heap.size from .inl (hK b off s (by omega) e))
  have HC0 := Lib.hid (fun (j : Nat) (v : Value) (hj : (#[.int .i64 kd, .int .i64 pk.fs, .int .i64 pk.fn, .int .i64 pk.ts, .int .i64 pk.tn, .slice At nt ct, .int .i64 i, .int .i64 a, bV x] : Array Value)[j]? = some v) (w' : World) (F : Fr (fun b => ¬ (K b ∨ b = w.heap.size)) (w.alloc (.cells #[.int .i64 kd, .int .i64 pk.fs, .int .i64 pk.fn, .int .i64 pk.ts, .int .i64 pk.tn, .slice At nt ct, .int .i64 i, .int .i64 a, bV x] 54)) w') =>
    show w'.cell? ⟨w.heap.size, j, none⟩ = some v from blk_cell ((F.block w.heap.size (lt_of_block kb) (fun hh => hh (.inr rfl))).trans kb) hj)
  have HP := Lib.hid hC
  have HWF := Lib.hid hwf
  have HKL := Lib.hid (fun b (hb : K b) => hklt b hb)
  have hpw := pairK_wf hwf.1 hwf.2.1 hwf.2.2.1 hwf.2.2.2
  have HPW := Lib.hid hpw
  have b0 := blk_cell (j := 0) kb rfl
  clear h hC hs hwf bA kb hklt hksz hpw hK
  obtain ⟨⟨s1, s2⟩, ⟨s3, s4⟩, s5, s6⟩ := hc
  obtain ⟨wb, hwb⟩ : ∃ wb, w.alloc (.cells #[.int .i64 kd, .int .i64 pk.fs, .int .i64 pk.fn, .int .i64 pk.ts, .int .i64 pk.tn, .slice At nt ct, .int .i64 i, .int .i64 a, bV x] 54) = wb := ⟨_, rfl⟩
  rw [hwb] at HK FB HT HC0
  have HWB := Lib.hid hwb
  clear hwb
  have b1 := b0
  have hen : Calls Try.prog 22 #[.pointer (some ⟨p, 0, none⟩), .pointer (some ⟨q, 0, none⟩), .agg #[.int .i64 kd, .int .i64 pk.fs, .int .i64 pk.fn, .int .i64 pk.ts, .int .i64 pk.tn, .slice At nt ct, .int .i64 i, .int .i64 a, bV x]] w (DoesTo K w0 p q c m cl) := by
    clear b1
    by_cases k1 : kd = 1
    · subst k1
      obtain ⟨bb, hbb⟩ : ∃ bb, decide (l.length ≠ 4096) = bb := ⟨_, rfl⟩
      have CS := Lib.hid (fun (W : World) (H : NBoth (fun b => K b ∨ b = w.heap.size) wb W p q l C c m l cl c) => show Calls Try.prog 11 _ W (fun e w' => e = .returned (.bool bb) ∧ NBoth (fun b => K b ∨ b = w.heap.size) wb w' p q (addL l pk) C (sendC l c) m l cl c) from by rw [← hbb]; exact sendN pk At nt ct H s2 HWF.out (HT.out.frK H.fr HTB.out) hnc hnt)
      have CT := Lib.hid (fun (W : World) (H : NBoth (fun b => K b ∨ b = w.heap.size) wb W p q (addL l pk) C (sendC l c) m l cl c) => show Calls Try.prog 31 _ W (fun e w' => e = .returned (.bool bb) ∧ NBoth (fun b => K b ∨ b = w.heap.size) wb w' p q (addL l pk) C (sendC l c) m (addL l pk) cl (sendC l c)) from by rw [← hbb]; exact sendRN pk At nt ct H ⟨s1, s2⟩ hl4 HWF.out (HT.out.frK H.fr HTB.out) hnc hnt)
      have HCC := Lib.hid (fun (w' : World) (F : Fr (fun b => ¬ (K b ∨ b = w.heap.size)) wb w') => And.intro (HC0.out 1 _ rfl w' F) (And.intro (HC0.out 2 _ rfl w' F) (And.intro (HC0.out 3 _ rfl w' F) (And.intro (HC0.out 4 _ rfl w' F) (HC0.out 5 _ rfl w' F)))))
      clear hbb
      go_enter Try.func22, Try.ntmps22
      go_wp2_with fail
      rw [HWB.out]
      refine wp_region_noPanic ?_
      refine wp_region_held_drew (S := (fun w' => w'.cell? ⟨w.heap.size, 1, none⟩ = some (.int .i64 pk.fs) ∧ w'.cell? ⟨w.heap.size, 2, none⟩ = some (.int .i64 pk.fn) ∧ w'.cell? ⟨w.heap.size, 3, none⟩ = some (.int .i64 pk.ts) ∧ w'.cell? ⟨w.heap.size, 4, none⟩ = some (.int .i64 pk.tn) ∧ w'.cell? ⟨w.heap.size, 5, none⟩ = some (.slice At nt ct))) (by kernel_rfl) ?_ (fun hHeld => ?_)
      · exact HCC.out _ ((Fr.refl _ wb).drew)
      first
        | (refine wpAnyH_take (i := 0) (oi := _) (v := undef) (dropAt rfl) (by kernel_rfl) (by kernel_rfl) (by kernel_rfl) (fun _ _ _ h => h) (Or.inr ⟨by rfl, rfl⟩) (by assumption) ?_)
        | (refine wpAnyH_take (i := 0) (oi := _) (v := ?_) (dropAt rfl) (by kernel_rfl) (by kernel_rfl) (by kernel_rfl) (fun _ _ _ h => h) (Or.inl ⟨by rfl, ?_⟩) (by assumption) ?_; rotate_left; (focus (intro w2 hSw; (try dsimp only at hSw); go_simp; try with_reducible rfl)))
        | fail
      try simp only [Act.put, List.setIfInBounds_toArray, List.set_cons_zero, List.set_cons_succ]
      first
        | (refine wpAnyH_take (i := 1) (oi := _) (v := undef) (dropAt rfl) (by kernel_rfl) (by kernel_rfl) (by kernel_rfl) (fun _ _ _ h => h) (Or.inr ⟨by rfl, rfl⟩) (by assumption) ?_)
        | (refine wpAnyH_take (i := 1) (oi := _) (v := ?_) (dropAt rfl) (by kernel_rfl) (by kernel_rfl) (by kernel_rfl) (fun _ _ _ h => h) (Or.inl ⟨by rfl, ?_⟩) (by assumption) ?_; rotate_left; (focus (intro w2 hSw; (try dsimp only at hSw); go_simp; try with_reducible rfl)))
        | fail
      try simp only [Act.put, List.setIfInBounds_toArray, List.set_cons_zero, List.set_cons_succ]
      first
        | (refine wpAnyH_take (i := 2) (oi := _) (v := undef) (dropAt rfl) (by kernel_rfl) (by kernel_rfl) (by kernel_rfl) (fun _ _ _ h => h) (Or.inr ⟨by rfl, rfl⟩) (by assumption) ?_)
        | (refine wpAnyH_take (i := 2) (oi := _) (v := ?_) (dropAt rfl) (by kernel_rfl) (by kernel_rfl) (by kernel_rfl) (fun _ _ _ h => h) (Or.inl ⟨by rfl, ?_⟩) (by assumption) ?_; rotate_left; (focus (intro w2 hSw; (try dsimp only at hSw); go_simp; try with_reducible rfl)))
        | fail
      try simp only [Act.put, List.setIfInBounds_toArray, List.set_cons_zero, List.set_cons_succ]
      first
        | (refine wpAnyH_take (i := 4) (oi := _) (v := undef) (dropAt rfl) (by kernel_rfl) (by kernel_rfl) (by kernel_rfl) (fun _ _ _ h => h) (Or.inr ⟨by rfl, rfl⟩) (by assumption) ?_)
        | (refine wpAnyH_take (i := 4) (oi := _) (v := ?_) (dropAt rfl) (by kernel_rfl) (by kernel_rfl) (by kernel_rfl) (fun _ _ _ h => h) (Or.inl ⟨by rfl, ?_⟩) (by assumption) ?_; rotate_left; (focus (intro w2 hSw; (try dsimp only at hSw); go_simp; try with_reducible rfl)))
        | fail
      try simp only [Act.put, List.setIfInBounds_toArray, List.set_cons_zero, List.set_cons_succ]
      first
        | (refine wpAnyH_take (i := 5) (oi := _) (v := undef) (dropAt rfl) (by kernel_rfl) (by kernel_rfl) (by kernel_rfl) (fun _ _ _ h => h) (Or.inr ⟨by rfl, rfl⟩) (by assumption) ?_)
        | (refine wpAnyH_take (i := 5) (oi := _) (v := ?_) (dropAt rfl) (by kernel_rfl) (by kernel_rfl) (by kernel_rfl) (fun _ _ _ h => h) (Or.inl ⟨by rfl, ?_⟩) (by assumption) ?_; rotate_left; (focus (intro w2 hSw; (try dsimp only at hSw); go_simp; try with_reducible rfl)))
        | fail
      try simp only [Act.put, List.setIfInBounds_toArray, List.set_cons_zero, List.set_cons_succ]
      first
        | (refine wpAnyH_take (i := 6) (oi := _) (v := undef) (dropAt rfl) (by kernel_rfl) (by kernel_rfl) (by kernel_rfl) (fun _ _ _ h => h) (Or.inr ⟨by rfl, rfl⟩) (by assumption) ?_)
        | (refine wpAnyH_take (i := 6) (oi := _) (v := ?_) (dropAt rfl) (by kernel_rfl) (by kernel_rfl) (by kernel_rfl) (fun _ _ _ h => h) (Or.inl ⟨by rfl, ?_⟩) (by assumption) ?_; rotate_left; (focus (intro w2 hSw; (try dsimp only at hSw); go_simp; try with_reducible rfl)))
        | fail
      try simp only [Act.put, List.setIfInBounds_toArray, List.set_cons_zero, List.set_cons_succ]
      refine wpAnyH_ready (rs := [3]) (by kernel_rfl) (by simp) ?_
      refine AllReadyH.cons (o := _) (dropAt rfl) (fun K hK => ?_) AllReadyH.nil
      go_simp
      (go_at_call 11; refine (CS.out _ (HK.out.below ((Below.refl _ _).drew))).mono ?_; rintro e w3 ⟨rfl, H3⟩)
      refine hK.out _ _ ?_ (fun hHeld => ?_)
      · exact HCC.out _ H3.fr
      clear hK K
      try simp only [Act.put, List.setIfInBounds_toArray, List.set_cons_zero, List.set_cons_succ]
      have CR := Lib.hid (CT.out _ H3)
      clear H3
      refine wpAnyH_ready (rs := [7]) (by kernel_rfl) (by simp) ?_
      refine AllReadyH.cons (o := _) (dropAt rfl) (fun K hK => ?_) AllReadyH.nil
      go_simp
      (go_at_call 31; refine CR.out.mono ?_; rintro e w4 ⟨rfl, H4⟩)
      refine hK.out _ _ ?_ (fun hHeld => ?_)
      · exact HCC.out _ H4.fr
      clear hK K
      try simp only [Act.put, List.setIfInBounds_toArray, List.set_cons_zero, List.set_cons_succ]
      have HN := Lib.hid H4
      clear H4 CR
      first
        | (refine wpAnyH_take (i := 8) (oi := _) (v := undef) (dropAt rfl) (by kernel_rfl) (by kernel_rfl) (by kernel_rfl) (fun _ _ _ h => h) (Or.inr ⟨by rfl, rfl⟩) (by assumption) ?_)
        | (refine wpAnyH_take (i := 8) (oi := _) (v := ?_) (dropAt rfl) (by kernel_rfl) (by kernel_rfl) (by kernel_rfl) (fun _ _ _ h => h) (Or.inl ⟨by rfl, ?_⟩) (by assumption) ?_; rotate_left; (focus (intro w2 hSw; (try dsimp only at hSw); go_simp; try with_reducible rfl)))
        | fail
      try simp only [Act.put, List.setIfInBounds_toArray, List.set_cons_zero, List.set_cons_succ]
      first
        | (refine wpAnyH_take (i := 9) (oi := _) (v := undef) (dropAt rfl) (by kernel_rfl) (by kernel_rfl) (by kernel_rfl) (fun _ _ _ h => h) (Or.inr ⟨by rfl, rfl⟩) (by assumption) ?_)
        | (refine wpAnyH_take (i := 9) (oi := _) (v := ?_) (dropAt rfl) (by kernel_rfl) (by kernel_rfl) (by kernel_rfl) (fun _ _ _ h => h) (Or.inl ⟨by rfl, ?_⟩) (by assumption) ?_; rotate_left; (focus (intro w2 hSw; (try dsimp only at hSw); go_simp; try with_reducible rfl)))
        | fail
      try simp only [Act.put, List.setIfInBounds_toArray, List.set_cons_zero, List.set_cons_succ]
      refine wpAnyH_done (by kernel_rfl) ?_ _
      refine NoPanic.normal ?_
      clear hHeld
      go_wp2
      go_ret
      exact ⟨by simp, _, C, _, m, cl, HN.out.back FB.out (fun b hb => .inl hb) (fun b hb => HKL.out b hb), HP.out, by omega, by omega, CntLe.send l c⟩
    by_cases k3 : kd = 3
    · subst k3
      clear k1
      obtain ⟨bb, hbb⟩ : ∃ bb, (lookP l i).isSome = bb := ⟨_, rfl⟩
      have CS := Lib.hid (fun (W : World) (H : NBoth (fun b => K b ∨ b = w.heap.size) wb W p q l C c m l cl c) => show Calls Try.prog 18 _ W (fun e w' => e = .returned (.bool bb) ∧ NBoth (fun b => K b ∨ b = w.heap.size) wb w' p q (loseL l i) C (loseC l i c) m l cl c) from by rw [← hbb]; exact loseN i H s6)
      have CT := Lib.hid (fun (W : World) (H : NBoth (fun b => K b ∨ b = w.heap.size) wb W p q (loseL l i) C (loseC l i c) m l cl c) => show Calls Try.prog 33 _ W (fun e w' => e = .returned (.bool bb) ∧ NBoth (fun b => K b ∨ b = w.heap.size) wb w' p q (loseL l i) C (loseC l i c) m (loseL l i) cl (loseC l i c)) from by rw [← hbb]; exact loseRN i H ⟨s5, s6⟩ hl4)
      have HCC := Lib.hid (fun (w' : World) (F : Fr (fun b => ¬ (K b ∨ b = w.heap.size)) wb w') => HC0.out 6 _ rfl w' F)
      clear hbb
      go_enter Try.func22, Try.ntmps22
      go_wp2_with fail
      rw [HWB.out]
      refine wp_region_noPanic ?_
      refine wp_region_held_drew (S := (fun w' => w'.cell? ⟨w.heap.size, 6, none⟩ = some (.int .i64 i))) (by kernel_rfl) ?_ (fun hHeld => ?_)
      · exact HCC.out _ ((Fr.refl _ wb).drew)
      first
        | (refine wpAnyH_take (i := 0) (oi := _) (v := undef) (dropAt rfl) (by kernel_rfl) (by kernel_rfl) (by kernel_rfl) (fun _ _ _ h => h) (Or.inr ⟨by rfl, rfl⟩) (by assumption) ?_)
        | (refine wpAnyH_take (i := 0) (oi := _) (v := ?_) (dropAt rfl) (by kernel_rfl) (by kernel_rfl) (by kernel_rfl) (fun _ _ _ h => h) (Or.inl ⟨by rfl, ?_⟩) (by assumption) ?_; rotate_left; (focus (intro w2 hSw; (try dsimp only at hSw); go_simp; try with_reducible rfl)))
        | fail
      try simp only [Act.put, List.setIfInBounds_toArray, List.set_cons_zero, List.set_cons_succ]
      first
        | (refine wpAnyH_take (i := 1) (oi := _) (v := undef) (dropAt rfl) (by kernel_rfl) (by kernel_rfl) (by kernel_rfl) (fun _ _ _ h => h) (Or.inr ⟨by rfl, rfl⟩) (by assumption) ?_)
        | (refine wpAnyH_take (i := 1) (oi := _) (v := ?_) (dropAt rfl) (by kernel_rfl) (by kernel_rfl) (by kernel_rfl) (fun _ _ _ h => h) (Or.inl ⟨by rfl, ?_⟩) (by assumption) ?_; rotate_left; (focus (intro w2 hSw; (try dsimp only at hSw); go_simp; try with_reducible rfl)))
        | fail
      try simp only [Act.put, List.setIfInBounds_toArray, List.set_cons_zero, List.set_cons_succ]
      first
        | (refine wpAnyH_take (i := 2) (oi := _) (v := undef) (dropAt rfl) (by kernel_rfl) (by kernel_rfl) (by kernel_rfl) (fun _ _ _ h => h) (Or.inr ⟨by rfl, rfl⟩) (by assumption) ?_)
        | (refine wpAnyH_take (i := 2) (oi := _) (v := ?_) (dropAt rfl) (by kernel_rfl) (by kernel_rfl) (by kernel_rfl) (fun _ _ _ h => h) (Or.inl ⟨by rfl, ?_⟩) (by assumption) ?_; rotate_left; (focus (intro w2 hSw; (try dsimp only at hSw); go_simp; try with_reducible rfl)))
        | fail
      try simp only [Act.put, List.setIfInBounds_toArray, List.set_cons_zero, List.set_cons_succ]
      first
        | (refine wpAnyH_take (i := 4) (oi := _) (v := undef) (dropAt rfl) (by kernel_rfl) (by kernel_rfl) (by kernel_rfl) (fun _ _ _ h => h) (Or.inr ⟨by rfl, rfl⟩) (by assumption) ?_)
        | (refine wpAnyH_take (i := 4) (oi := _) (v := ?_) (dropAt rfl) (by kernel_rfl) (by kernel_rfl) (by kernel_rfl) (fun _ _ _ h => h) (Or.inl ⟨by rfl, ?_⟩) (by assumption) ?_; rotate_left; (focus (intro w2 hSw; (try dsimp only at hSw); go_simp; try with_reducible rfl)))
        | fail
      try simp only [Act.put, List.setIfInBounds_toArray, List.set_cons_zero, List.set_cons_succ]
      first
        | (refine wpAnyH_take (i := 5) (oi := _) (v := undef) (dropAt rfl) (by kernel_rfl) (by kernel_rfl) (by kernel_rfl) (fun _ _ _ h => h) (Or.inr ⟨by rfl, rfl⟩) (by assumption) ?_)
        | (refine wpAnyH_take (i := 5) (oi := _) (v := ?_) (dropAt rfl) (by kernel_rfl) (by kernel_rfl) (by kernel_rfl) (fun _ _ _ h => h) (Or.inl ⟨by rfl, ?_⟩) (by assumption) ?_; rotate_left; (focus (intro w2 hSw; (try dsimp only at hSw); go_simp; try with_reducible rfl)))
        | fail
      try simp only [Act.put, List.setIfInBounds_toArray, List.set_cons_zero, List.set_cons_succ]
      first
        | (refine wpAnyH_take (i := 6) (oi := _) (v := undef) (dropAt rfl) (by kernel_rfl) (by kernel_rfl) (by kernel_rfl) (fun _ _ _ h => h) (Or.inr ⟨by rfl, rfl⟩) (by assumption) ?_)
        | (refine wpAnyH_take (i := 6) (oi := _) (v := ?_) (dropAt rfl) (by kernel_rfl) (by kernel_rfl) (by kernel_rfl) (fun _ _ _ h => h) (Or.inl ⟨by rfl, ?_⟩) (by assumption) ?_; rotate_left; (focus (intro w2 hSw; (try dsimp only at hSw); go_simp; try with_reducible rfl)))
        | fail
      try simp only [Act.put, List.setIfInBounds_toArray, List.set_cons_zero, List.set_cons_succ]
      refine wpAnyH_ready (rs := [3]) (by kernel_rfl) (by simp) ?_
      refine AllReadyH.cons (o := _) (dropAt rfl) (fun K hK => ?_) AllReadyH.nil
      go_simp
      (go_at_call 18; refine (CS.out _ (HK.out.below ((Below.refl _ _).drew))).mono ?_; rintro e w3 ⟨rfl, H3⟩)
      refine hK.out _ _ ?_ (fun hHeld => ?_)
      · exact HCC.out _ H3.fr
      clear hK K
      try simp only [Act.put, List.setIfInBounds_toArray, List.set_cons_zero, List.set_cons_succ]
      have CR := Lib.hid (CT.out _ H3)
      clear H3
      refine wpAnyH_ready (rs := [7]) (by kernel_rfl) (by simp) ?_
      refine AllReadyH.cons (o := _) (dropAt rfl) (fun K hK => ?_) AllReadyH.nil
      go_simp
      (go_at_call 33; refine CR.out.mono ?_; rintro e w4 ⟨rfl, H4⟩)
      refine hK.out _ _ ?_ (fun hHeld => ?_)
      · exact HCC.out _ H4.fr
      clear hK K
      try simp only [Act.put, List.setIfInBounds_toArray, List.set_cons_zero, List.set_cons_succ]
      have HN := Lib.hid H4
      clear H4 CR
      first
        | (refine wpAnyH_take (i := 8) (oi := _) (v := undef) (dropAt rfl) (by kernel_rfl) (by kernel_rfl) (by kernel_rfl) (fun _ _ _ h => h) (Or.inr ⟨by rfl, rfl⟩) (by assumption) ?_)
        | (refine wpAnyH_take (i := 8) (oi := _) (v := ?_) (dropAt rfl) (by kernel_rfl) (by kernel_rfl) (by kernel_rfl) (fun _ _ _ h => h) (Or.inl ⟨by rfl, ?_⟩) (by assumption) ?_; rotate_left; (focus (intro w2 hSw; (try dsimp only at hSw); go_simp; try with_reducible rfl)))
        | fail
      try simp only [Act.put, List.setIfInBounds_toArray, List.set_cons_zero, List.set_cons_succ]
      first
        | (refine wpAnyH_take (i := 9) (oi := _) (v := undef) (dropAt rfl) (by kernel_rfl) (by kernel_rfl) (by kernel_rfl) (fun _ _ _ h => h) (Or.inr ⟨by rfl, rfl⟩) (by assumption) ?_)
        | (refine wpAnyH_take (i := 9) (oi := _) (v := ?_) (dropAt rfl) (by kernel_rfl) (by kernel_rfl) (by kernel_rfl) (fun _ _ _ h => h) (Or.inl ⟨by rfl, ?_⟩) (by assumption) ?_; rotate_left; (focus (intro w2 hSw; (try dsimp only at hSw); go_simp; try with_reducible rfl)))
        | fail
      try simp only [Act.put, List.setIfInBounds_toArray, List.set_cons_zero, List.set_cons_succ]
      refine wpAnyH_done (by kernel_rfl) ?_ _
      refine NoPanic.normal ?_
      clear hHeld
      go_wp2
      go_ret
      exact ⟨by simp, _, C, _, m, cl, HN.out.back FB.out (fun b hb => .inl hb) (fun b hb => HKL.out b hb), HP.out, by omega, by omega, CntLe.lose l i c⟩
    by_cases k4 : kd = 4
    · subst k4
      clear k1 k3
      obtain ⟨bb, hbb⟩ : ∃ bb, copyB l i = bb := ⟨_, rfl⟩
      have CS := Lib.hid (fun (W : World) (H : NBoth (fun b => K b ∨ b = w.heap.size) wb W p q l C c m l cl c) => show Calls Try.prog 16 _ W (fun e w' => e = .returned (.bool bb) ∧ NBoth (fun b => K b ∨ b = w.heap.size) wb w' p q (copyL l i) C (c) m l cl c) from by rw [← hbb]; exact copyN i H)
      have CT := Lib.hid (fun (W : World) (H : NBoth (fun b => K b ∨ b = w.heap.size) wb W p q (copyL l i) C (c) m l cl c) => show Calls Try.prog 34 _ W (fun e w' => e = .returned (.bool bb) ∧ NBoth (fun b => K b ∨ b = w.heap.size) wb w' p q (copyL l i) C (c) m (copyL l i) cl (c)) from by rw [← hbb]; exact copyRN i H hl4)
      have HCC := Lib.hid (fun (w' : World) (F : Fr (fun b => ¬ (K b ∨ b = w.heap.size)) wb w') => HC0.out 6 _ rfl w' F)
      clear hbb
      go_enter Try.func22, Try.ntmps22
      go_wp2_with fail
      rw [HWB.out]
      refine wp_region_noPanic ?_
      refine wp_region_held_drew (S := (fun w' => w'.cell? ⟨w.heap.size, 6, none⟩ = some (.int .i64 i))) (by kernel_rfl) ?_ (fun hHeld => ?_)
      · exact HCC.out _ ((Fr.refl _ wb).drew)
      first
        | (refine wpAnyH_take (i := 0) (oi := _) (v := undef) (dropAt rfl) (by kernel_rfl) (by kernel_rfl) (by kernel_rfl) (fun _ _ _ h => h) (Or.inr ⟨by rfl, rfl⟩) (by assumption) ?_)
        | (refine wpAnyH_take (i := 0) (oi := _) (v := ?_) (dropAt rfl) (by kernel_rfl) (by kernel_rfl) (by kernel_rfl) (fun _ _ _ h => h) (Or.inl ⟨by rfl, ?_⟩) (by assumption) ?_; rotate_left; (focus (intro w2 hSw; (try dsimp only at hSw); go_simp; try with_reducible rfl)))
        | fail
      try simp only [Act.put, List.setIfInBounds_toArray, List.set_cons_zero, List.set_cons_succ]
      first
        | (refine wpAnyH_take (i := 1) (oi := _) (v := undef) (dropAt rfl) (by kernel_rfl) (by kernel_rfl) (by kernel_rfl) (fun _ _ _ h => h) (Or.inr ⟨by rfl, rfl⟩) (by assumption) ?_)
        | (refine wpAnyH_take (i := 1) (oi := _) (v := ?_) (dropAt rfl) (by kernel_rfl) (by kernel_rfl) (by kernel_rfl) (fun _ _ _ h => h) (Or.inl ⟨by rfl, ?_⟩) (by assumption) ?_; rotate_left; (focus (intro w2 hSw; (try dsimp only at hSw); go_simp; try with_reducible rfl)))
        | fail
      try simp only [Act.put, List.setIfInBounds_toArray, List.set_cons_zero, List.set_cons_succ]
      first
        | (refine wpAnyH_take (i := 2) (oi := _) (v := undef) (dropAt rfl) (by kernel_rfl) (by kernel_rfl) (by kernel_rfl) (fun _ _ _ h => h) (Or.inr ⟨by rfl, rfl⟩) (by assumption) ?_)
        | (refine wpAnyH_take (i := 2) (oi := _) (v := ?_) (dropAt rfl) (by kernel_rfl) (by kernel_rfl) (by kernel_rfl) (fun _ _ _ h => h) (Or.inl ⟨by rfl, ?_⟩) (by assumption) ?_; rotate_left; (focus (intro w2 hSw; (try dsimp only at hSw); go_simp; try with_reducible rfl)))
        | fail
      try simp only [Act.put, List.setIfInBounds_toArray, List.set_cons_zero, List.set_cons_succ]
      first
        | (refine wpAnyH_take (i := 4) (oi := _) (v := undef) (dropAt rfl) (by kernel_rfl) (by kernel_rfl) (by kernel_rfl) (fun _ _ _ h => h) (Or.inr ⟨by rfl, rfl⟩) (by assumption) ?_)
        | (refine wpAnyH_take (i := 4) (oi := _) (v := ?_) (dropAt rfl) (by kernel_rfl) (by kernel_rfl) (by kernel_rfl) (fun _ _ _ h => h) (Or.inl ⟨by rfl, ?_⟩) (by assumption) ?_; rotate_left; (focus (intro w2 hSw; (try dsimp only at hSw); go_simp; try with_reducible rfl)))
        | fail
      try simp only [Act.put, List.setIfInBounds_toArray, List.set_cons_zero, List.set_cons_succ]
      first
        | (refine wpAnyH_take (i := 5) (oi := _) (v := undef) (dropAt rfl) (by kernel_rfl) (by kernel_rfl) (by kernel_rfl) (fun _ _ _ h => h) (Or.inr ⟨by rfl, rfl⟩) (by assumption) ?_)
        | (refine wpAnyH_take (i := 5) (oi := _) (v := ?_) (dropAt rfl) (by kernel_rfl) (by kernel_rfl) (by kernel_rfl) (fun _ _ _ h => h) (Or.inl ⟨by rfl, ?_⟩) (by assumption) ?_; rotate_left; (focus (intro w2 hSw; (try dsimp only at hSw); go_simp; try with_reducible rfl)))
        | fail
      try simp only [Act.put, List.setIfInBounds_toArray, List.set_cons_zero, List.set_cons_succ]
      first
        | (refine wpAnyH_take (i := 6) (oi := _) (v := undef) (dropAt rfl) (by kernel_rfl) (by kernel_rfl) (by kernel_rfl) (fun _ _ _ h => h) (Or.inr ⟨by rfl, rfl⟩) (by assumption) ?_)
        | (refine wpAnyH_take (i := 6) (oi := _) (v := ?_) (dropAt rfl) (by kernel_rfl) (by kernel_rfl) (by kernel_rfl) (fun _ _ _ h => h) (Or.inl ⟨by rfl, ?_⟩) (by assumption) ?_; rotate_left; (focus (intro w2 hSw; (try dsimp only at hSw); go_simp; try with_reducible rfl)))
        | fail
      try simp only [Act.put, List.setIfInBounds_toArray, List.set_cons_zero, List.set_cons_succ]
      refine wpAnyH_ready (rs := [3]) (by kernel_rfl) (by simp) ?_
      refine AllReadyH.cons (o := _) (dropAt rfl) (fun K hK => ?_) AllReadyH.nil
      go_simp
      (go_at_call 16; refine (CS.out _ (HK.out.below ((Below.refl _ _).drew))).mono ?_; rintro e w3 ⟨rfl, H3⟩)
      refine hK.out _ _ ?_ (fun hHeld => ?_)
      · exact HCC.out _ H3.fr
      clear hK K
      try simp only [Act.put, List.setIfInBounds_toArray, List.set_cons_zero, List.set_cons_succ]
      have CR := Lib.hid (CT.out _ H3)
      clear H3
      refine wpAnyH_ready (rs := [7]) (by kernel_rfl) (by simp) ?_
      refine AllReadyH.cons (o := _) (dropAt rfl) (fun K hK => ?_) AllReadyH.nil
      go_simp
      (go_at_call 34; refine CR.out.mono ?_; rintro e w4 ⟨rfl, H4⟩)
      refine hK.out _ _ ?_ (fun hHeld => ?_)
      · exact HCC.out _ H4.fr
      clear hK K
      try simp only [Act.put, List.setIfInBounds_toArray, List.set_cons_zero, List.set_cons_succ]
      have HN := Lib.hid H4
      clear H4 CR
      first
        | (refine wpAnyH_take (i := 8) (oi := _) (v := undef) (dropAt rfl) (by kernel_rfl) (by kernel_rfl) (by kernel_rfl) (fun _ _ _ h => h) (Or.inr ⟨by rfl, rfl⟩) (by assumption) ?_)
        | (refine wpAnyH_take (i := 8) (oi := _) (v := ?_) (dropAt rfl) (by kernel_rfl) (by kernel_rfl) (by kernel_rfl) (fun _ _ _ h => h) (Or.inl ⟨by rfl, ?_⟩) (by assumption) ?_; rotate_left; (focus (intro w2 hSw; (try dsimp only at hSw); go_simp; try with_reducible rfl)))
        | fail
      try simp only [Act.put, List.setIfInBounds_toArray, List.set_cons_zero, List.set_cons_succ]
      first
        | (refine wpAnyH_take (i := 9) (oi := _) (v := undef) (dropAt rfl) (by kernel_rfl) (by kernel_rfl) (by kernel_rfl) (fun _ _ _ h => h) (Or.inr ⟨by rfl, rfl⟩) (by assumption) ?_)
        | (refine wpAnyH_take (i := 9) (oi := _) (v := ?_) (dropAt rfl) (by kernel_rfl) (by kernel_rfl) (by kernel_rfl) (fun _ _ _ h => h) (Or.inl ⟨by rfl, ?_⟩) (by assumption) ?_; rotate_left; (focus (intro w2 hSw; (try dsimp only at hSw); go_simp; try with_reducible rfl)))
        | fail
      try simp only [Act.put, List.setIfInBounds_toArray, List.set_cons_zero, List.set_cons_succ]
      refine wpAnyH_done (by kernel_rfl) ?_ _
      refine NoPanic.normal ?_
      clear hHeld
      go_wp2
      go_ret
      exact ⟨by simp, _, C, _, m, cl, HN.out.back FB.out (fun b hb => .inl hb) (fun b hb => HKL.out b hb), HP.out, by omega, by omega, CntLe.refl c⟩
    by_cases k5 : kd = 5
    · subst k5
      clear k1 k3 k4
      obtain ⟨bb, hbb⟩ : ∃ bb, flipB l i a = bb := ⟨_, rfl⟩
      have CS := Lib.hid (fun (W : World) (H : NBoth (fun b => K b ∨ b = w.heap.size) wb W p q l C c m l cl c) => show Calls Try.prog 19 _ W (fun e w' => e = .returned (.bool bb) ∧ NBoth (fun b => K b ∨ b = w.heap.size) wb w' p q (flipL l i a x) C (c) m l cl c) from by rw [← hbb]; exact flipN i a x H)
      have CT := Lib.hid (fun (W : World) (H : NBoth (fun b => K b ∨ b = w.heap.size) wb W p q (flipL l i a x) C (c) m l cl c) => show Calls Try.prog 35 _ W (fun e w' => e = .returned (.bool bb) ∧ NBoth (fun b => K b ∨ b = w.heap.size) wb w' p q (flipL l i a x) C (c) m (flipL l i a x) cl (c)) from by rw [← hbb]; exact flipRN i a x H hl4)
      have HCC := Lib.hid (fun (w' : World) (F : Fr (fun b => ¬ (K b ∨ b = w.heap.size)) wb w') => And.intro (HC0.out 6 _ rfl w' F) (And.intro (HC0.out 7 _ rfl w' F) (HC0.out 8 _ rfl w' F)))
      clear hbb
      go_enter Try.func22, Try.ntmps22
      go_wp2_with fail
      rw [HWB.out]
      refine wp_region_noPanic ?_
      refine wp_region_held_drew (S := (fun w' => w'.cell? ⟨w.heap.size, 6, none⟩ = some (.int .i64 i) ∧ w'.cell? ⟨w.heap.size, 7, none⟩ = some (.int .i64 a) ∧ w'.cell? ⟨w.heap.size, 8, none⟩ = some (bV x))) (by kernel_rfl) ?_ (fun hHeld => ?_)
      · exact HCC.out _ ((Fr.refl _ wb).drew)
      first
        | (refine wpAnyH_take (i := 0) (oi := _) (v := undef) (dropAt rfl) (by kernel_rfl) (by kernel_rfl) (by kernel_rfl) (fun _ _ _ h => h) (Or.inr ⟨by rfl, rfl⟩) (by assumption) ?_)
        | (refine wpAnyH_take (i := 0) (oi := _) (v := ?_) (dropAt rfl) (by kernel_rfl) (by kernel_rfl) (by kernel_rfl) (fun _ _ _ h => h) (Or.inl ⟨by rfl, ?_⟩) (by assumption) ?_; rotate_left; (focus (intro w2 hSw; (try dsimp only at hSw); go_simp; try with_reducible rfl)))
        | fail
      try simp only [Act.put, List.setIfInBounds_toArray, List.set_cons_zero, List.set_cons_succ]
      first
        | (refine wpAnyH_take (i := 1) (oi := _) (v := undef) (dropAt rfl) (by kernel_rfl) (by kernel_rfl) (by kernel_rfl) (fun _ _ _ h => h) (Or.inr ⟨by rfl, rfl⟩) (by assumption) ?_)
        | (refine wpAnyH_take (i := 1) (oi := _) (v := ?_) (dropAt rfl) (by kernel_rfl) (by kernel_rfl) (by kernel_rfl) (fun _ _ _ h => h) (Or.inl ⟨by rfl, ?_⟩) (by assumption) ?_; rotate_left; (focus (intro w2 hSw; (try dsimp only at hSw); go_simp; try with_reducible rfl)))
        | fail
      try simp only [Act.put, List.setIfInBounds_toArray, List.set_cons_zero, List.set_cons_succ]
      first
        | (refine wpAnyH_take (i := 2) (oi := _) (v := undef) (dropAt rfl) (by kernel_rfl) (by kernel_rfl) (by kernel_rfl) (fun _ _ _ h => h) (Or.inr ⟨by rfl, rfl⟩) (by assumption) ?_)
        | (refine wpAnyH_take (i := 2) (oi := _) (v := ?_) (dropAt rfl) (by kernel_rfl) (by kernel_rfl) (by kernel_rfl) (fun _ _ _ h => h) (Or.inl ⟨by rfl, ?_⟩) (by assumption) ?_; rotate_left; (focus (intro w2 hSw; (try dsimp only at hSw); go_simp; try with_reducible rfl)))
        | fail
      try simp only [Act.put, List.setIfInBounds_toArray, List.set_cons_zero, List.set_cons_succ]
      first
        | (refine wpAnyH_take (i := 3) (oi := _) (v := undef) (dropAt rfl) (by kernel_rfl) (by kernel_rfl) (by kernel_rfl) (fun _ _ _ h => h) (Or.inr ⟨by rfl, rfl⟩) (by assumption) ?_)
        | (refine wpAnyH_take (i := 3) (oi := _) (v := ?_) (dropAt rfl) (by kernel_rfl) (by kernel_rfl) (by kernel_rfl) (fun _ _ _ h => h) (Or.inl ⟨by rfl, ?_⟩) (by assumption) ?_; rotate_left; (focus (intro w2 hSw; (try dsimp only at hSw); go_simp; try with_reducible rfl)))
        | fail
      try simp only [Act.put, List.setIfInBounds_toArray, List.set_cons_zero, List.set_cons_succ]
      first
        | (refine wpAnyH_take (i := 4) (oi := _) (v := undef) (dropAt rfl) (by kernel_rfl) (by kernel_rfl) (by kernel_rfl) (fun _ _ _ h => h) (Or.inr ⟨by rfl, rfl⟩) (by assumption) ?_)
        | (refine wpAnyH_take (i := 4) (oi := _) (v := ?_) (dropAt rfl) (by kernel_rfl) (by kernel_rfl) (by kernel_rfl) (fun _ _ _ h => h) (Or.inl ⟨by rfl, ?_⟩) (by assumption) ?_; rotate_left; (focus (intro w2 hSw; (try dsimp only at hSw); go_simp; try with_reducible rfl)))
        | fail
      try simp only [Act.put, List.setIfInBounds_toArray, List.set_cons_zero, List.set_cons_succ]
      first
        | (refine wpAnyH_take (i := 5) (oi := _) (v := undef) (dropAt rfl) (by kernel_rfl) (by kernel_rfl) (by kernel_rfl) (fun _ _ _ h => h) (Or.inr ⟨by rfl, rfl⟩) (by assumption) ?_)
        | (refine wpAnyH_take (i := 5) (oi := _) (v := ?_) (dropAt rfl) (by kernel_rfl) (by kernel_rfl) (by kernel_rfl) (fun _ _ _ h => h) (Or.inl ⟨by rfl, ?_⟩) (by assumption) ?_; rotate_left; (focus (intro w2 hSw; (try dsimp only at hSw); go_simp; try with_reducible rfl)))
        | fail
      try simp only [Act.put, List.setIfInBounds_toArray, List.set_cons_zero, List.set_cons_succ]
      first
        | (refine wpAnyH_take (i := 6) (oi := _) (v := undef) (dropAt rfl) (by kernel_rfl) (by kernel_rfl) (by kernel_rfl) (fun _ _ _ h => h) (Or.inr ⟨by rfl, rfl⟩) (by assumption) ?_)
        | (refine wpAnyH_take (i := 6) (oi := _) (v := ?_) (dropAt rfl) (by kernel_rfl) (by kernel_rfl) (by kernel_rfl) (fun _ _ _ h => h) (Or.inl ⟨by rfl, ?_⟩) (by assumption) ?_; rotate_left; (focus (intro w2 hSw; (try dsimp only at hSw); go_simp; try with_reducible rfl)))
        | fail
      try simp only [Act.put, List.setIfInBounds_toArray, List.set_cons_zero, List.set_cons_succ]
      first
        | (refine wpAnyH_take (i := 8) (oi := _) (v := undef) (dropAt rfl) (by kernel_rfl) (by kernel_rfl) (by kernel_rfl) (fun _ _ _ h => h) (Or.inr ⟨by rfl, rfl⟩) (by assumption) ?_)
        | (refine wpAnyH_take (i := 8) (oi := _) (v := ?_) (dropAt rfl) (by kernel_rfl) (by kernel_rfl) (by kernel_rfl) (fun _ _ _ h => h) (Or.inl ⟨by rfl, ?_⟩) (by assumption) ?_; rotate_left; (focus (intro w2 hSw; (try dsimp only at hSw); go_simp; try with_reducible rfl)))
        | fail
      try simp only [Act.put, List.setIfInBounds_toArray, List.set_cons_zero, List.set_cons_succ]
      first
        | (refine wpAnyH_take (i := 9) (oi := _) (v := undef) (dropAt rfl) (by kernel_rfl) (by kernel_rfl) (by kernel_rfl) (fun _ _ _ h => h) (Or.inr ⟨by rfl, rfl⟩) (by assumption) ?_)
        | (refine wpAnyH_take (i := 9) (oi := _) (v := ?_) (dropAt rfl) (by kernel_rfl) (by kernel_rfl) (by kernel_rfl) (fun _ _ _ h => h) (Or.inl ⟨by rfl, ?_⟩) (by assumption) ?_; rotate_left; (focus (intro w2 hSw; (try dsimp only at hSw); go_simp; try with_reducible rfl)))
        | fail
      try simp only [Act.put, List.setIfInBounds_toArray, List.set_cons_zero, List.set_cons_succ]
      first
        | (refine wpAnyH_take (i := 10) (oi := _) (v := undef) (dropAt rfl) (by kernel_rfl) (by kernel_rfl) (by kernel_rfl) (fun _ _ _ h => h) (Or.inr ⟨by rfl, rfl⟩) (by assumption) ?_)
        | (refine wpAnyH_take (i := 10) (oi := _) (v := ?_) (dropAt rfl) (by kernel_rfl) (by kernel_rfl) (by kernel_rfl) (fun _ _ _ h => h) (Or.inl ⟨by rfl, ?_⟩) (by assumption) ?_; rotate_left; (focus (intro w2 hSw; (try dsimp only at hSw); go_simp; try with_reducible rfl)))
        | fail
      try simp only [Act.put, List.setIfInBounds_toArray, List.set_cons_zero, List.set_cons_succ]
      first
        | (refine wpAnyH_take (i := 11) (oi := _) (v := undef) (dropAt rfl) (by kernel_rfl) (by kernel_rfl) (by kernel_rfl) (fun _ _ _ h => h) (Or.inr ⟨by rfl, rfl⟩) (by assumption) ?_)
        | (refine wpAnyH_take (i := 11) (oi := _) (v := ?_) (dropAt rfl) (by kernel_rfl) (by kernel_rfl) (by kernel_rfl) (fun _ _ _ h => h) (Or.inl ⟨by rfl, ?_⟩) (by assumption) ?_; rotate_left; (focus (intro w2 hSw; (try dsimp only at hSw); go_simp; try with_reducible rfl)))
        | fail
      try simp only [Act.put, List.setIfInBounds_toArray, List.set_cons_zero, List.set_cons_succ]
      first
        | (refine wpAnyH_take (i := 12) (oi := _) (v := undef) (dropAt rfl) (by kernel_rfl) (by kernel_rfl) (by kernel_rfl) (fun _ _ _ h => h) (Or.inr ⟨by rfl, rfl⟩) (by assumption) ?_)
        | (refine wpAnyH_take (i := 12) (oi := _) (v := ?_) (dropAt rfl) (by kernel_rfl) (by kernel_rfl) (by kernel_rfl) (fun _ _ _ h => h) (Or.inl ⟨by rfl, ?_⟩) (by assumption) ?_; rotate_left; (focus (intro w2 hSw; (try dsimp only at hSw); go_simp; try with_reducible rfl)))
        | fail
      try simp only [Act.put, List.setIfInBounds_toArray, List.set_cons_zero, List.set_cons_succ]
      first
        | (refine wpAnyH_take (i := 13) (oi := _) (v := undef) (dropAt rfl) (by kernel_rfl) (by kernel_rfl) (by kernel_rfl) (fun _ _ _ h => h) (Or.inr ⟨by rfl, rfl⟩) (by assumption) ?_)
        | (refine wpAnyH_take (i := 13) (oi := _) (v := ?_) (dropAt rfl) (by kernel_rfl) (by kernel_rfl) (by kernel_rfl) (fun _ _ _ h => h) (Or.inl ⟨by rfl, ?_⟩) (by assumption) ?_; rotate_left; (focus (intro w2 hSw; (try dsimp only at hSw); go_simp; try with_reducible rfl)))
        | fail
      try simp only [Act.put, List.setIfInBounds_toArray, List.set_cons_zero, List.set_cons_succ]
      first
        | (refine wpAnyH_take (i := 14) (oi := _) (v := undef) (dropAt rfl) (by kernel_rfl) (by kernel_rfl) (by kernel_rfl) (fun _ _ _ h => h) (Or.inr ⟨by rfl, rfl⟩) (by assumption) ?_)
        | (refine wpAnyH_take (i := 14) (oi := _) (v := ?_) (dropAt rfl) (by kernel_rfl) (by kernel_rfl) (by kernel_rfl) (fun _ _ _ h => h) (Or.inl ⟨by rfl, ?_⟩) (by assumption) ?_; rotate_left; (focus (intro w2 hSw; (try dsimp only at hSw); go_simp; try with_reducible rfl)))
        | fail
      try simp only [Act.put, List.setIfInBounds_toArray, List.set_cons_zero, List.set_cons_succ]
      refine wpAnyH_ready (rs := [7]) (by kernel_rfl) (by simp) ?_
      refine AllReadyH.cons (o := _) (dropAt rfl) (fun K hK => ?_) AllReadyH.nil
      go_simp
      (go_at_call 19; refine (CS.out _ (HK.out.below ((Below.refl _ _).drew))).mono ?_; rintro e w3 ⟨rfl, H3⟩)
      refine hK.out _ _ ?_ (fun hHeld => ?_)
      · exact HCC.out _ H3.fr
      clear hK K
      try simp only [Act.put, List.setIfInBounds_toArray, List.set_cons_zero, List.set_cons_succ]
      have CR := Lib.hid (CT.out _ H3)
      clear H3
      refine wpAnyH_ready (rs := [15]) (by kernel_rfl) (by simp) ?_
      refine AllReadyH.cons (o := _) (dropAt rfl) (fun K hK => ?_) AllReadyH.nil
      go_simp
      (go_at_call 35; refine CR.out.mono ?_; rintro e w4 ⟨rfl, H4⟩)
      refine hK.out _ _ ?_ (fun hHeld => ?_)
      · exact HCC.out _ H4.fr
      clear hK K
      try simp only [Act.put, List.setIfInBounds_toArray, List.set_cons_zero, List.set_cons_succ]
      have HN := Lib.hid H4
      clear H4 CR
      first
        | (refine wpAnyH_take (i := 16) (oi := _) (v := undef) (dropAt rfl) (by kernel_rfl) (by kernel_rfl) (by kernel_rfl) (fun _ _ _ h => h) (Or.inr ⟨by rfl, rfl⟩) (by assumption) ?_)
        | (refine wpAnyH_take (i := 16) (oi := _) (v := ?_) (dropAt rfl) (by kernel_rfl) (by kernel_rfl) (by kernel_rfl) (fun _ _ _ h => h) (Or.inl ⟨by rfl, ?_⟩) (by assumption) ?_; rotate_left; (focus (intro w2 hSw; (try dsimp only at hSw); go_simp; try with_reducible rfl)))
        | fail
      try simp only [Act.put, List.setIfInBounds_toArray, List.set_cons_zero, List.set_cons_succ]
      first
        | (refine wpAnyH_take (i := 17) (oi := _) (v := undef) (dropAt rfl) (by kernel_rfl) (by kernel_rfl) (by kernel_rfl) (fun _ _ _ h => h) (Or.inr ⟨by rfl, rfl⟩) (by assumption) ?_)
        | (refine wpAnyH_take (i := 17) (oi := _) (v := ?_) (dropAt rfl) (by kernel_rfl) (by kernel_rfl) (by kernel_rfl) (fun _ _ _ h => h) (Or.inl ⟨by rfl, ?_⟩) (by assumption) ?_; rotate_left; (focus (intro w2 hSw; (try dsimp only at hSw); go_simp; try with_reducible rfl)))
        | fail
      try simp only [Act.put, List.setIfInBounds_toArray, List.set_cons_zero, List.set_cons_succ]
      refine wpAnyH_done (by kernel_rfl) ?_ _
      refine NoPanic.normal ?_
      clear hHeld
      go_wp2
      go_ret
      exact ⟨by simp, _, C, _, m, cl, HN.out.back FB.out (fun b hb => .inl hb) (fun b hb => HKL.out b hb), HP.out, by omega, by omega, CntLe.refl c⟩
    by_cases k6 : kd = 6
    · subst k6
      clear k1 k3 k4 k5
      have CS := Lib.hid (partN pk.fs pk.fn pk.ts pk.tn true HK.out HPW.out (by unfold maxLen; omega))
      go_enter Try.func22, Try.ntmps22
      go_wp2_with fail
      rw [HWB.out]
      refine CS.out.mono ?_
      rintro e w3 ⟨rfl, m3, hm3, H3⟩
      have d1 := HC0.out 1 _ rfl _ H3.fr
      have d2 := HC0.out 2 _ rfl _ H3.fr
      have d3 := HC0.out 3 _ rfl _ H3.fr
      have d4 := HC0.out 4 _ rfl _ H3.fr
      have CR := Lib.hid (partRN pk.fs pk.fn pk.ts pk.tn true H3 hcl)
      clear CS H3
      go_wp2_with fail
      refine CR.out.mono ?_
      rintro e w4 ⟨rfl, H4⟩
      have HN := Lib.hid H4
      clear CR H4 d1 d2 d3 d4
      go_wp2
      go_ret
      exact ⟨rfl, l, _, c, m3, _, HN.out.back FB.out (fun b hb => .inl hb) (fun b hb => HKL.out b hb), HP.out.part _ _ _ _ _, hm3, partL_len _ _ _ _ _ _, CntLe.refl c⟩
    by_cases k7 : kd = 7
    · subst k7
      clear k1 k3 k4 k5 k6
      have CS := Lib.hid (partN pk.fs pk.fn pk.ts pk.tn false HK.out HPW.out (by unfold maxLen; omega))
      go_enter Try.func22, Try.ntmps22
      go_wp2_with fail
      rw [HWB.out]
      refine CS.out.mono ?_
      rintro e w3 ⟨rfl, m3, hm3, H3⟩
      have d1 := HC0.out 1 _ rfl _ H3.fr
      have d2 := HC0.out 2 _ rfl _ H3.fr
      have d3 := HC0.out 3 _ rfl _ H3.fr
      have d4 := HC0.out 4 _ rfl _ H3.fr
      have CR := Lib.hid (partRN pk.fs pk.fn pk.ts pk.tn false H3 hcl)
      clear CS H3
      go_wp2_with fail
      refine CR.out.mono ?_
      rintro e w4 ⟨rfl, H4⟩
      have HN := Lib.hid H4
      clear CR H4 d1 d2 d3 d4
      go_wp2
      go_ret
      exact ⟨rfl, l, _, c, m3, _, HN.out.back FB.out (fun b hb => .inl hb) (fun b hb => HKL.out b hb), HP.out.part _ _ _ _ _, hm3, partL_len _ _ _ _ _ _, CntLe.refl c⟩
    by_cases k2 : kd = 2
    · subst k2
      clear k1 k3 k4 k5 k6 k7
      have cs := takeN i HK.out s6 s4
      obtain ⟨bb, hbb⟩ : ∃ bb, takeB C l i = bb := ⟨_, rfl⟩
      obtain ⟨p2, hp2⟩ : ∃ p2, takeP C l i = p2 := ⟨_, rfl⟩
      rw [hbb, hp2] at cs
      have CS := Lib.hid cs
      have CT := Lib.hid (fun (K3 : Nat → Prop) (W0 W : World) (H : NBoth K3 W0 W p q (loseL l i) C (takeC C l i c) m l cl c) => show Calls Try.prog 32 _ W (fun e w' => ∃ A n k, e = .returned (.tuple #[.agg #[.int .i64 p2.fs, .int .i64 p2.fn, .int .i64 p2.ts, .int .i64 p2.tn, .slice A n k], .bool bb]) ∧ SlB w' A n p2.d ∧ NBoth K3 W0 w' p q (loseL l i) C (takeC C l i c) m (loseL l i) cl (takeC C l i c)) from by rw [← hbb, ← hp2]; exact takeRN i HP.out H ⟨s5, s6⟩ ⟨s3, s4⟩ hl4)
      clear cs hbb hp2
      go_enter Try.func22, Try.ntmps22
      go_wp2_with fail
      rw [HWB.out]
      refine CS.out.mono ?_
      rintro e w3 ⟨A3, n3, k3', rfl, t3, r3, F3, H3⟩
      have bA3 : Below w3.heap.size w3 (w3.alloc (.cells #[.int .i64 p2.fs, .int .i64 p2.fn, .int .i64 p2.ts, .int .i64 p2.tn, .slice A3 n3 k3'] 32)) := (Below.refl _ _).alloc (Nat.le_refl _) _
      have kb3 := heap_alloc_new w3 (.cells #[.int .i64 p2.fs, .int .i64 p2.fn, .int .i64 p2.ts, .int .i64 p2.tn, .slice A3 n3 k3'] 32)
      have FW := F3.trans (Fr.of_below bA3 (fp := fun _ => False)) (fun _ h => h.elim)
      have d6 := HC0.out 6 _ rfl _ FW
      have H3o := H3.over (K2 := fun b => (((K b ∨ b = w.heap.size) ∨ wb.heap.size ≤ b ∧ b < w3.heap.size) ∨ b = w3.heap.size)) bA3 (fun b hb => hb.elim .inl (fun e => .inr ⟨by omega, by rw [e]; simp⟩))
      have CR := Lib.hid (CT.out _ _ _ H3o)
      have HFW := Lib.hid FW
      have HB3 := Lib.hid kb3
      have HT3 := Lib.hid (show SlB _ A3 n3 p2.d from Sl.below t3 bA3)
      have HR3 := Lib.hid (fun (b off : Nat) (s : Option Nat) (hn : 0 < n3 * 1) (e : A3 = some ⟨b, off, s⟩) => show (((K b ∨ b = w.heap.size) ∨ wb.heap.size ≤ b ∧ b < w3.heap.size) ∨ b = w3.heap.size) from .inl (.inr (r3 b off s hn e)))
      clear CS t3 r3 F3 H3 bA3 kb3 FW H3o CT
      go_wp2_with fail
      refine CR.out.mono ?_
      rintro e w4 ⟨A4, n4, k4', rfl, t4, H4⟩
      have k4b := (H4.fr.block w3.heap.size (lt_of_block HB3.out) (fun hh => hh (.inr rfl))).trans HB3.out
      have hlt := lt_of_block k4b
      have y0 := blk_cell (j := 0) k4b rfl
      have y1 := blk_cell (j := 1) k4b rfl
      have y2 := blk_cell (j := 2) k4b rfl
      have y3 := blk_cell (j := 3) k4b rfl
      have y4 := blk_cell (j := 4) k4b rfl
      have bA4 : Below w4.heap.size w4 (w4.alloc (.cells #[.int .i64 p2.fs, .int .i64 p2.fn, .int .i64 p2.ts, .int .i64 p2.tn, .slice A4 n4 k4'] 32)) := (Below.refl _ _).alloc (Nat.le_refl _) _
      have C5 := Lib.hid (same_true p2 A3 A4 n3 k3' n4 k4' (w4.alloc (.cells #[.int .i64 p2.fs, .int .i64 p2.fn, .int .i64 p2.ts, .int .i64 p2.tn, .slice A4 n4 k4'] 32)) (Sl.below (HT3.out.frK H4.fr HR3.out) bA4) (Sl.below t4 bA4))
      have HN := Lib.hid (H4.below bA4)
      clear CR k4b bA4 t4 H4 d6
      go_wp2_with fail
      refine C5.out.mono ?_
      rintro e w5 ⟨rfl, b5⟩
      have HN5 := Lib.hid (HN.out.below b5)
      clear C5 b5 y0 y1 y2 y3 y4
      go_wp2
      go_ret
      exact ⟨by simp, _, C, _, m, cl, HN5.out.back (FB.out.trans HFW.out (fun i hi => .inl (fun hk => hi (.inl hk)))) (fun b hb => .inl (.inl (.inl hb))) (fun b hb => HKL.out b hb), HP.out, by omega, by omega, CntLe.take C l i c⟩
    by_cases k8 : kd = 8
    · subst k8
      clear k1 k2 k3 k4 k5 k6 k7
      have cs := lookN i HK.out
      obtain ⟨bb, hbb⟩ : ∃ bb, (lookP l i).isSome = bb := ⟨_, rfl⟩
      obtain ⟨p2, hp2⟩ : ∃ p2, (lookP l i).getD zeroPk = p2 := ⟨_, rfl⟩
      rw [hbb, hp2] at cs
      have CS := Lib.hid cs
      have CT := Lib.hid (fun (W : World) (H : NBoth (fun b => K b ∨ b = w.heap.size) wb W p q l C c m l cl c) => show Calls Try.prog 37 _ W (fun e w' => ∃ A n k, e = .returned (.tuple #[.agg #[.int .i64 p2.fs, .int .i64 p2.fn, .int .i64 p2.ts, .int .i64 p2.tn, .slice A n k], .bool bb]) ∧ SlB w' A n p2.d ∧ Below W.heap.size W w') from by rw [← hbb, ← hp2]; exact lookRN i H)
      clear cs hbb hp2
      go_enter Try.func22, Try.ntmps22
      go_wp2_with fail
      rw [HWB.out]
      refine CS.out.mono ?_
      rintro e w3 ⟨A3, n3, k3', rfl, t3, -, -, -, b3⟩
      have bA3 := b3.alloc b3.size (.cells #[.int .i64 p2.fs, .int .i64 p2.fn, .int .i64 p2.ts, .int .i64 p2.tn, .slice A3 n3 k3'] 32)
      have kb3 := heap_alloc_new w3 (.cells #[.int .i64 p2.fs, .int .i64 p2.fn, .int .i64 p2.ts, .int .i64 p2.tn, .slice A3 n3 k3'] 32)
      have H3 := HK.out.below bA3
      have d6 := HC0.out 6 _ rfl _ H3.fr
      have CR := Lib.hid (CT.out _ H3)
      have HB3 := Lib.hid kb3
      have HH3 := Lib.hid H3
      have HT3 := Lib.hid (show SlB (w3.alloc (.cells #[.int .i64 p2.fs, .int .i64 p2.fn, .int .i64 p2.ts, .int .i64 p2.tn, .slice A3 n3 k3'] 32)) A3 n3 p2.d from Sl.alloc t3 _)
      clear CS t3 b3 H3 bA3 kb3 CT
      go_wp2_with fail
      refine CR.out.mono ?_
      rintro e w4 ⟨A4, n4, k4', rfl, t4, b4⟩
      have k4b := (b4.block _ (lt_of_block HB3.out)).trans HB3.out
      have hlt := lt_of_block k4b
      have y0 := blk_cell (j := 0) k4b rfl
      have y1 := blk_cell (j := 1) k4b rfl
      have y2 := blk_cell (j := 2) k4b rfl
      have y3 := blk_cell (j := 3) k4b rfl
      have y4 := blk_cell (j := 4) k4b rfl
      have bA4 : Below w4.heap.size w4 (w4.alloc (.cells #[.int .i64 p2.fs, .int .i64 p2.fn, .int .i64 p2.ts, .int .i64 p2.tn, .slice A4 n4 k4'] 32)) := (Below.refl _ _).alloc (Nat.le_refl _) _
      have C5 := Lib.hid (same_true p2 A3 A4 n3 k3' n4 k4' (w4.alloc (.cells #[.int .i64 p2.fs, .int .i64 p2.fn, .int .i64 p2.ts, .int .i64 p2.tn, .slice A4 n4 k4'] 32)) (Sl.below (Sl.below HT3.out b4) bA4) (Sl.below t4 bA4))
      have HN := Lib.hid ((HH3.out.below b4).below bA4)
      clear CR k4b bA4 t4 b4 d6
      go_wp2_with fail
      refine C5.out.mono ?_
      rintro e w5 ⟨rfl, b5⟩
      have HN5 := Lib.hid (HN.out.below b5)
      clear C5 b5 y0 y1 y2 y3 y4
      go_wp2
      go_ret
      exact ⟨by simp, l, C, c, m, cl, HN5.out.back FB.out (fun b hb => .inl hb) (fun b hb => HKL.out b hb), HP.out, by omega, by omega, CntLe.refl c⟩
    go_enter Try.func22, Try.ntmps22
    go_wp2
    go_ret
    rw [HWB.out]
    exact ⟨rfl, l, C, c, m, cl, HK.out.back FB.out (fun b hb => .inl hb) (fun b hb => HKL.out b hb), HP.out, by omega, by omega, CntLe.refl c⟩
  exact hen
end
end Go.Proofs.Ytcdbpimpmhfkhaa
