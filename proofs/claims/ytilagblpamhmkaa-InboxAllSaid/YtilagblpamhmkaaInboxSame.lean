/-
  firthref10.Own, and firthlaw18.same of things that are the same.
-/
import Derived.Test.YtilagblpamhmkaaInboxRight
import Derived.Test.YtilagblpamhmkaaCodeSame
namespace Go.Proofs.Ytilagblpamhmkaa
open Go.RowKit
set_option linter.unusedVariables false

theorem Try.infoRecSize : (Try.prog.info? 32).map (·.size) = some 2 := by kernel_rfl
theorem slr_one' {w : World} {x : Rc} {A : Option Addr} {n c g : Nat} (hg : w.heap[g]? = some (.cells #[.string x.key, .slice A n c] 32 (0, 0))) (hr : RRow w x A n c) : SlR w (some ⟨g, 0, none⟩) 1 [x] := by
  refine ⟨[(x, A, n, c)], rfl, ⟨rfl, fun _ => ⟨g, 0, rfl, fun j u hj => ?_⟩⟩, fun y hy => by rw [List.mem_singleton.1 hy]; exact hr⟩
  rw [Nat.zero_add, cell_of_row w g j _ _ (0, 0) hg]
  match j, hj with
  | 0, hj => simpa [rV1, rV] using hj
  | 1, hj => simpa [rV1, rV] using hj
set_option maxHeartbeats 1000000 in
set_option maxRecDepth 100000 in
theorem same_true (w : World) (f : Fa) (A : Option Addr) (n c : Nat) (A2 : Option Addr) (n2 c2 : Nat) (B : Option Addr) (m d : Nat) (B2 : Option Addr) (m2 d2 : Nat) (hv : RRow w f.rc A n c) (hr : Sl w A2 n2 1 (f.route.map (Value.int .i64))) (hv' : RRow w f.rc B m d) (hr' : Sl w B2 m2 1 (f.route.map (Value.int .i64))) (hn : n2 ≤ 140737488351232) :
    Calls Try.prog 23 #[.agg #[.int .i64 f.src, .int .i64 f.seq, .string f.rc.key, .slice A n c, .slice A2 n2 c2], .agg #[.int .i64 f.src, .int .i64 f.seq, .string f.rc.key, .slice B m d, .slice B2 m2 d2]] w (ValE w (.bool true)) := by
  obtain ⟨src, seq, ⟨key, vers⟩, route⟩ := f
  simp only at hv hr hv' hr' ⊢
  have b1 : Below w.heap.size w (w.alloc (.cells #[.int .i64 src, .int .i64 seq, .string key, .slice A n c, .slice A2 n2 c2] 35)) := (Below.refl _ _).alloc (Nat.le_refl _) _
  have k1 := heap_alloc_new w (.cells #[.int .i64 src, .int .i64 seq, .string key, .slice A n c, .slice A2 n2 c2] 35)
  have hs1 : (w.alloc (.cells #[.int .i64 src, .int .i64 seq, .string key, .slice A n c, .slice A2 n2 c2] 35)).heap.size = w.heap.size + 1 := by simp
  obtain ⟨W1, hW1⟩ : ∃ W1, w.alloc (.cells #[.int .i64 src, .int .i64 seq, .string key, .slice A n c, .slice A2 n2 c2] 35) = W1 := ⟨_, rfl⟩
  rw [hW1] at b1 k1 hs1
  have b2 : Below W1.heap.size W1 (W1.alloc (.cells #[.int .i64 src, .int .i64 seq, .string key, .slice B m d, .slice B2 m2 d2] 61)) := (Below.refl _ _).alloc (Nat.le_refl _) _
  have k2 := heap_alloc_new W1 (.cells #[.int .i64 src, .int .i64 seq, .string key, .slice B m d, .slice B2 m2 d2] 61)
  have hs2 : (W1.alloc (.cells #[.int .i64 src, .int .i64 seq, .string key, .slice B m d, .slice B2 m2 d2] 61)).heap.size = W1.heap.size + 1 := by simp
  obtain ⟨W2, hW2⟩ : ∃ W2, W1.alloc (.cells #[.int .i64 src, .int .i64 seq, .string key, .slice B m d, .slice B2 m2 d2] 61) = W2 := ⟨_, rfl⟩
  rw [hW2] at b2 k2 hs2
  have b3 : Below W2.heap.size W2 (W2.alloc (.cells #[.string key, .slice A n c] 32)) := (Below.refl _ _).alloc (Nat.le_refl _) _
  have k3 := heap_alloc_new W2 (.cells #[.string key, .slice A n c] 32)
  have hs3 : (W2.alloc (.cells #[.string key, .slice A n c] 32)).heap.size = W2.heap.size + 1 := by simp
  obtain ⟨W3, hW3⟩ : ∃ W3, W2.alloc (.cells #[.string key, .slice A n c] 32) = W3 := ⟨_, rfl⟩
  rw [hW3] at b3 k3 hs3
  have b4 : Below W3.heap.size W3 (W3.alloc (.cells #[.string key, .slice B m d] 32)) := (Below.refl _ _).alloc (Nat.le_refl _) _
  have k4 := heap_alloc_new W3 (.cells #[.string key, .slice B m d] 32)
  obtain ⟨W4, hW4⟩ : ∃ W4, W3.alloc (.cells #[.string key, .slice B m d] 32) = W4 := ⟨_, rfl⟩
  rw [hW4] at b4 k4
  have bw : Below w.heap.size w W4 := ((b1.trans (b2.mono (by omega))).trans (b3.mono (by omega))).trans (b4.mono (by omega))
  have k14 := (b4.block _ (by omega)).trans ((b3.block _ (by omega)).trans ((b2.block _ (by omega)).trans k1))
  have k24 := (b4.block _ (by omega)).trans ((b3.block _ (by omega)).trans k2)
  have k34 := (b4.block _ (by omega)).trans k3
  rw [hs1] at k24
  rw [show W2.heap.size = w.heap.size + 1 + 1 by omega] at k34
  rw [show W3.heap.size = w.heap.size + 1 + 1 + 1 by omega] at k4
  have C1 := Lib.hid (sameRecs_true (some ⟨w.heap.size + 1 + 1, 0, none⟩) (some ⟨w.heap.size + 1 + 1 + 1, 0, none⟩) 1 1 1 1 [⟨key, vers⟩] W4 (slr_one' (x := ⟨key, vers⟩) k34 (hv.below bw)) (slr_one' (x := ⟨key, vers⟩) k4 (hv'.below bw)) (by omega))
  have C2 := Lib.hid (fun (W' : World) (bl : Below W4.heap.size W4 W') => ints_true A2 B2 n2 m2 c2 d2 route W' (Sl.below (Sl.below hr bw) bl) (Sl.below (Sl.below hr' bw) bl) hn)
  have HC := Lib.hid (fun (W' : World) (bl : Below W4.heap.size W4 W') => And.intro ((bl.block _ (lt_of_block k14)).trans k14) ((bl.block _ (lt_of_block k24)).trans k24))
  have HB := Lib.hid bw
  have HW := Lib.hid (show (((w.alloc (.cells #[.int .i64 src, .int .i64 seq, .string key, .slice A n c, .slice A2 n2 c2] 35)).alloc (.cells #[.int .i64 src, .int .i64 seq, .string key, .slice B m d, .slice B2 m2 d2] 61)).alloc (.cells #[.string key, .slice A n c] 32)).alloc (.cells #[.string key, .slice B m d] 32) = W4 from by rw [hW1, hW2, hW3, hW4])
  clear b1 k1 hs1 hW1 b2 k2 hs2 hW2 b3 k3 hs3 hW3 b4 k4 hW4 bw k14 k24 k34 hv hr hv' hr'
  go_enter Try.func23, Try.ntmps23
  go_wp2_with fail
  rw [HW.out]
  refine C1.out.mono ?_
  rintro e w5 ⟨rfl, b5⟩
  obtain ⟨u1, u2⟩ := HC.out w5 b5
  have x4 := row_cell (j := 4) u1 rfl
  have y4 := row_cell (j := 4) u2 rfl
  have C3 := Lib.hid (C2.out w5 b5)
  have HB5 := Lib.hid (HB.out.trans (b5.mono HB.out.size))
  clear b5 u1 u2 C1 C2 HC
  go_wp2_with fail
  refine C3.out.mono ?_
  rintro e w6 ⟨rfl, b6⟩
  have HE := Lib.hid (HB5.out.trans (b6.mono HB5.out.size))
  clear b6 C3
  go_wp2
  go_ret
  exact ⟨rfl, HE.out⟩
/-! ### firthref10.Own -/
theorem OwnV.copyB {w w3 w6 : World} {B : Nat} {Ao : Option Addr} {no co : Nat} {rows : List RV} {v : Vr} {A' : Option Addr} {np c' : Nat} {v' : Option Addr} {cv : Nat} {B3 : Nat} {o : Obj}
    (h : OwnV w B (.slice Ao no co) no rows) (hsz : B ≤ w.heap.size) (hp : w3.ownsRow B3 53 3 (.slice A' np c') np (spV v.past)) (hf : VFix v np c') (hB3 : w.heap.size < B3) (b3 : Below w.heap.size w w3)
    (own' : w6.ownsRow B 42 5 (.slice v' (no + 1) cv) (no + 1) (rows.flatMap vV1 ++ [.int .i64 v.s, .int .i64 v.n, .slice A' np c', .bool v.gone, .string v.val]))
    (hg : ((w3.setCell ⟨w.heap.size, 2, none⟩ (.slice A' np c')).alloc o).grownBy w6 (Value.slice Ao no co).ownBlock) :
    OwnV w6 B (.slice v' (no + 1) cv) (no + 1) (rows ++ [(v, A', np, c')]) := by
  have hfar := h.far (Nat.le_refl w.heap.size)
  have o4 : OwnV (w3.setCell ⟨w.heap.size, 2, none⟩ (.slice A' np c')) B (.slice Ao no co) no rows := (h.below b3).setCell hfar.1 hfar.2 _
  have p4 : (w3.setCell ⟨w.heap.size, 2, none⟩ (.slice A' np c')).ownsRow B 53 3 (.slice A' np c') np (spV v.past) :=
    own_lower (ownsRow_setCell_other hp (fun e => by have := (hp.lt w.heap.size e).1; omega) _) (by omega)
  exact OwnV.push (y := (v, A', np, c')) (o4.alloc o) (p4.alloc o) hf own' hg
/-- The copy so far. -/
structure CpInv (w W3 : World) (key : ByteArray) (vers : List Vr) (k : Nat) (wr : World) (A : Option Addr) (c : Nat) (rows : List RV) : Prop where
  own : OwnV wr W3.heap.size (.slice A k c) k rows
  map : rows.map (·.1) = vers.take k
  fr : Fr (fun b => b = w.heap.size + 2) W3 wr
  head : wr.heap[w.heap.size + 2]? = some (.cells #[.string key, .slice A k c] 32 (0, 0))
theorem CpInv.below {w W3 wr : World} {key : ByteArray} {vers : List Vr} {k : Nat} {A : Option Addr} {c : Nat} {rows : List RV} (h : CpInv w W3 key vers k wr A c rows) (b : Below w.heap.size w W3) : Below w.heap.size w wr :=
  b.trans (h.fr.below (fun i hi => by omega) b.size)
theorem kb_of {w W3 wr : World} {o : Obj} (h : Fr (fun b => b = w.heap.size + 2) W3 wr) (hk : W3.heap[w.heap.size + 1]? = some o) (hs : w.heap.size + 1 < W3.heap.size) : wr.heap[w.heap.size + 1]? = some o := (h.block _ hs (by omega)).trans hk
theorem own_capI {w : World} {B : Nat} {e : TypeId} {sz n c : Nat} {A : Option Addr} {xs : List Value} (h : w.ownsRow B e sz (.slice A n c) n xs) : n ≤ c := by
  obtain ⟨_, _, e, h1, _⟩ := own_slice h
  injection e with _ _ e
  omega
/-- A record in memory of its own. -/
def NewRc (w : World) (r : Rc) (e : Ending) (w' : World) : Prop :=
  ∃ (A : Option Addr) (n c : Nat) (rows : List RV), e = .returned (.agg #[.string r.key, .slice A n c]) ∧ rows.map (·.1) = r.vers ∧ OwnV w' w.heap.size (.slice A n c) n rows ∧ r.vers.length = n ∧ n ≤ c ∧ Below w.heap.size w w'
set_option maxHeartbeats 4000000 in
set_option maxRecDepth 100000 in
theorem refOwn_any (w : World) (r : Rc) (A : Option Addr) (n c : Nat) (hv : RRow w r A n c) :
    Calls Try.prog 22 #[.agg #[.string r.key, .slice A n c]] w (NewRc w r) := by
  obtain ⟨i0, hi, hz0, hz1, hz2⟩ := info_parts Try.infoVer
  obtain ⟨j0, ki, kz0, kz1, kz2⟩ := info_parts Try.infoSpan
  obtain ⟨key, vers⟩ := r
  have hl64 := hv.len
  have hvs := hv.sl
  simp only at hvs ⊢
  have hll := hvs.len
  have bA : Below w.heap.size w (((w.alloc (.cells #[.string key, .slice A n c] 32)).alloc (.cells #[.string ⟨#[]⟩, .slice none 0 0] 32)).alloc (.cells #[.string key, .slice none 0 0] 32)) := (((Below.refl _ _).alloc (Nat.le_refl _) _).alloc (by simp) _).alloc (by simp; omega) _
  have kA : (((w.alloc (.cells #[.string key, .slice A n c] 32)).alloc (.cells #[.string ⟨#[]⟩, .slice none 0 0] 32)).alloc (.cells #[.string key, .slice none 0 0] 32)).heap[w.heap.size]? = some (.cells #[.string key, .slice A n c] 32 (0, 0)) :=
    (Below.heap_alloc _ _ w.heap.size (by simp; omega)).trans ((Below.heap_alloc _ _ w.heap.size (by simp)).trans (heap_alloc_new w _))
  have kB : (((w.alloc (.cells #[.string key, .slice A n c] 32)).alloc (.cells #[.string ⟨#[]⟩, .slice none 0 0] 32)).alloc (.cells #[.string key, .slice none 0 0] 32)).heap[w.heap.size + 1]? = some (.cells #[.string ⟨#[]⟩, .slice none 0 0] 32 (0, 0)) := by
    have h := heap_alloc_new (w.alloc (.cells #[.string key, .slice A n c] 32)) (.cells #[.string ⟨#[]⟩, .slice none 0 0] 32)
    rw [show (w.alloc (.cells #[.string key, .slice A n c] 32)).heap.size = w.heap.size + 1 by simp] at h
    exact (Below.heap_alloc _ _ (w.heap.size + 1) (by simp)).trans h
  have kC : (((w.alloc (.cells #[.string key, .slice A n c] 32)).alloc (.cells #[.string ⟨#[]⟩, .slice none 0 0] 32)).alloc (.cells #[.string key, .slice none 0 0] 32)).heap[w.heap.size + 2]? = some (.cells #[.string key, .slice none 0 0] 32 (0, 0)) := by
    have h := heap_alloc_new ((w.alloc (.cells #[.string key, .slice A n c] 32)).alloc (.cells #[.string ⟨#[]⟩, .slice none 0 0] 32)) (.cells #[.string key, .slice none 0 0] 32)
    rw [show ((w.alloc (.cells #[.string key, .slice A n c] 32)).alloc (.cells #[.string ⟨#[]⟩, .slice none 0 0] 32)).heap.size = w.heap.size + 2 by simp] at h
    exact h
  have hs3 : (((w.alloc (.cells #[.string key, .slice A n c] 32)).alloc (.cells #[.string ⟨#[]⟩, .slice none 0 0] 32)).alloc (.cells #[.string key, .slice none 0 0] 32)).heap.size = w.heap.size + 3 := by simp
  obtain ⟨W3, hW3⟩ : ∃ W3, ((w.alloc (.cells #[.string key, .slice A n c] 32)).alloc (.cells #[.string ⟨#[]⟩, .slice none 0 0] 32)).alloc (.cells #[.string key, .slice none 0 0] 32) = W3 := ⟨_, rfl⟩
  rw [hW3] at bA kA kB kC hs3
  have HV := Lib.hid (fun (W' : World) (b : Below w.heap.size w W') => hvs.below b)
  have HW := Lib.hid hW3
  have HB := Lib.hid bA
  have HK := Lib.hid (And.intro kA kB)
  have H0 := Lib.hid (show CpInv w W3 key vers 0 W3 none 0 [] from ⟨OwnV.nil _ _, rfl, Fr.refl _ _, kC⟩)
  have HLL := Lib.hid hll
  clear hv hvs bA kA kB kC hW3 hll
  go_enter Try.func22, Try.ntmps22
  go_wp2_with fail
  rw [HW.out]
  go_loopw [4] (fun t4 wr => ∃ (k : Nat) (Ao : Option Addr) (co : Nat) (rows : List RV), t4 = .int .i64 (k : Int) ∧ k ≤ n ∧ Hid (CpInv w W3 key vers k wr Ao co rows)) (fun t4 _ => n - (intOf t4).toNat)
  case atStart => exact ⟨0, none, 0, [], rfl, Nat.zero_le _, H0⟩
  case round =>
    obtain ⟨k, Ao, co, rows, rfl, hk, HI⟩ := hrel
    have hsz := HI.out.fr.size
    have hbw := HI.out.below HB.out
    have ka : wr.heap[w.heap.size]? = some (.cells #[.string key, .slice A n c] 32 (0, 0)) := (HI.out.fr.block w.heap.size (by omega) (by omega)).trans HK.out.1
    have x1 := row_cell (j := 1) ka rfl
    by_cases hlt : k < n
    · obtain ⟨b, off, v, Ap, np, cp, rfl, hx, hr, hc0, hc1, hc2', hc3, hc4⟩ := (HV.out _ hbw).at_ hlt
      obtain ⟨s, m, past, g, val⟩ := v
      simp only at hc0 hc1 hc2' hc3 hc4
      have HX := Lib.hid hx
      have HR := Lib.hid hr
      have hlen := hr.len
      have HBX := Lib.hid (BoxV.new wr ⟨s, m, past, g, val⟩ Ap np cp)
      have HBA := Lib.hid (show Below wr.heap.size wr (wr.alloc (.cells #[.int .i64 s, .int .i64 m, .slice Ap np cp, .bool g, .string val] 42)) from (Below.refl _ _).alloc (Nat.le_refl _) _)
      have j0' : (0 : Int) ≤ (k : Int) := by omega
      have j1' : (k : Int) < (n : Int) := by omega
      clear hx hr
      go_wp2_with (first | (at_builtin; refine wpList_append_sl _ rfl (.tmp 22) (.tmp 24) 40 rfl (wr.heap.size + 1) 53 j0 (.agg #[.int .i64 0, .int .i64 0, .int .i64 0]) 3 24 Try.underlying40 ki kz0 kz1 kz2 rfl (by decide) (.slice none 0 0) (0) ([]) rfl (World.ownsRow_nil _ _ _ _) (Ap) (np) (cp) (spV past) rfl (Sl.alloc HR.out.sl _) (spV_one _) (by unfold maxLen; omega) (by omega) (by simp) ?_) | fail)
      intro v3 w3 own3 g3 _
      obtain ⟨A3, c3, rfl, hc3', -⟩ := own_slice own3
      have b3 : Below (wr.heap.size + 1) (wr.alloc (.cells #[.int .i64 s, .int .i64 m, .slice Ap np cp, .bool g, .string val] 42)) w3 := (Below.refl _ _).grown g3 (by simp) (fun q hq => by simp [Value.ownBlock] at hq)
      have b3' := HBA.out.trans (b3.mono (Nat.le_succ _))
      have HB3 := Lib.hid (show BoxV w3 wr.heap.size ⟨s, m, past, g, val⟩ Ap np cp from (b3.block wr.heap.size (by omega)).trans HBX.out)
      have HW3 := Lib.hid b3'
      have HP := Lib.hid own3
      have r0 := HB3.out.c0
      have r1 := HB3.out.c1
      have r2 := HB3.out.c2
      have r3 := HB3.out.c3
      have r4 := HB3.out.c4
      have r5 := frozen_of_row w3 wr.heap.size 2 _ 42 HB3.out
      have ls3 := HW3.out.size
      have ls3' := HB3.out.lt
      have kc := (b3'.block _ (lt_of_block HI.out.head)).trans HI.out.head
      have kc2 := (Below.heap_setCell w3 ⟨wr.heap.size, 2, none⟩ (.slice A3 np c3) (w.heap.size + 2) (by simp; omega)).trans kc
      have q1 := row_cell (j := 1) kc2 rfl
      have hfar := HI.out.own.far (Nat.le_refl wr.heap.size)
      have HO4 := Lib.hid ((ownsRow_setCell_other (own_below HI.out.own.1 HW3.out) hfar.1 (.slice A3 np c3) (a := ⟨wr.heap.size, 2, none⟩)).alloc (.cells #[.int .i64 s, .int .i64 m, .slice A3 np c3, .bool g, .string val] 42))
      have hsl := sl_ver (w3.setCell ⟨wr.heap.size, 2, none⟩ (.slice A3 np c3)) (⟨s, m, past, g, val⟩, A3, np, c3) 42
      rw [World.size_setCell] at hsl
      have HSL := Lib.hid hsl
      have HKC := Lib.hid kc2
      have F4 : Fr (fun b => b = w.heap.size + 2) W3 (w3.setCell ⟨wr.heap.size, 2, none⟩ (.slice A3 np c3)) := (HI.out.fr.trans (Fr.of_below b3' (fp := fun _ => False)) (fun _ h => h.elim)).trans (Fr.set w3 ⟨wr.heap.size, 2, none⟩ _) (fun i hi => .inr (by have hi' : i = wr.heap.size := hi; omega))
      have HF4 := Lib.hid F4
      clear b3 b3' own3 g3 hfar hsl hc0 hc1 hc2' hc3 hc4 kc kc2 F4 ka x1
      go_wp2_with (first | (at_builtin; refine wpList_append_sl _ rfl (.tmp 29) (.tmp 31) 30 rfl (W3.heap.size) 42 i0 (.agg #[.int .i64 0, .int .i64 0, .slice none 0 0, .bool false, .string ⟨#[]⟩]) 5 64 Try.underlying30 hi hz0 hz1 hz2 rfl (by decide) (.slice Ao k co) (k) (rows.flatMap vV1) rfl (HO4.out) (some ⟨w3.heap.size, 0, none⟩) (1) (1) ([.int .i64 s, .int .i64 m, .slice A3 np c3, .bool g, .string val]) rfl (HSL.out) (vV1_one (⟨s, m, past, g, val⟩, A3, np, c3)) (by unfold maxLen; omega) (by omega) (by simp; omega) ?_) | fail)
      intro v5 w6 own6 hg6 _
      obtain ⟨A5, c5, rfl, h5, _⟩ := own_slice own6
      rw [← hs3] at own6
      have MP := Lib.hid (OwnV.copyB (v := ⟨s, m, past, g, val⟩) HI.out.own hsz HP.out (VFix.mk hc3' HR.out.len HR.out.wf HR.out.wfp HR.out.str) (by omega) HW3.out own6 hg6)
      have HS := Lib.hid (show vers.take (k + 1) = vers.take k ++ [(⟨s, m, past, g, val⟩ : Vr)] from by rw [List.take_add_one, HX.out]; rfl)
      have hrow : ∀ q, (Value.slice Ao k co).ownBlock = some q → W3.heap.size ≤ q := fun q hq => (HI.out.own.1.lt q hq).1
      have k6 : w6.heap[w.heap.size + 2]? = some (.cells #[.string key, .slice Ao k co] 32 (0, 0)) :=
        ((Fr.of_grown hg6).block _ (by simp; omega) (fun e => by have := hrow _ e.symm; omega)).trans ((Below.heap_alloc _ _ (w.heap.size + 2) (by simp; omega)).trans HKC.out)
      have f6 := frozen_of_row w6 (w.heap.size + 2) 1 _ _ k6
      have q6 := row_cell (j := 1) k6 rfl
      have F6 : Fr (fun b => b = w.heap.size + 2) W3 (w6.setCell ⟨w.heap.size + 2, 1, none⟩ (.slice A5 (k + 1) c5)) :=
        ((HF4.out.trans (Fr.alloc (fun _ => False) _ _) (fun _ h => h.elim)).trans (Fr.of_grown hg6) (fun i hi => .inr (hrow i hi.symm))).trans (Fr.set w6 ⟨w.heap.size + 2, 1, none⟩ _) (fun i hi => .inl hi)
      have HS2 := Lib.hid (show CpInv w W3 key vers (k + 1) (w6.setCell ⟨w.heap.size + 2, 1, none⟩ (.slice A5 (k + 1) c5)) A5 c5 (rows ++ [((⟨s, m, past, g, val⟩ : Vr), A3, np, c3)]) from
        ⟨MP.out.setCell (fun e => by have := (MP.out.1.lt _ e).1; simp at this; omega) (fun y hy e => by have := ((MP.out.2 y hy).1.lt _ e).1; simp at this; omega) _, by rw [HS.out, List.map_append, HI.out.map]; rfl, F6, by rw [heap_setCell_same w6 (w.heap.size + 2) 1 _ _ _ k6]; rfl⟩)
      clear own6 hg6 MP HS hrow k6 F6
      go_wp2
      go_roundw
      case rel => exact ⟨k + 1, A5, c5, _, by go_num, by omega, HS2⟩
      case measure => simp [intOf]; omega
    · obtain rfl : k = n := by omega
      have ho := HI.out.head
      have hrw := kb_of HI.out.fr HK.out.2 (by omega)
      have y0 := row_cell (j := 0) ho rfl
      have y1 := row_cell (j := 1) ho rfl
      have z0 := row_cell (j := 0) hrw rfl
      have z1 := row_cell (j := 1) hrw rfl
      have g0 := frozen_of_row wr (w.heap.size + 1) 0 _ _ hrw
      have g1 := frozen_of_row wr (w.heap.size + 1) 1 _ _ hrw
      have F2 : Fr (fun b => b = w.heap.size + 1) wr ((wr.setCell ⟨w.heap.size + 1, 0, none⟩ (.string key)).setCell ⟨w.heap.size + 1, 1, none⟩ (.slice Ao k co)) :=
        (Fr.set wr ⟨w.heap.size + 1, 0, none⟩ _).trans (Fr.set _ ⟨w.heap.size + 1, 1, none⟩ _) (fun i hi => .inl hi)
      have HR2 := Lib.hid (heap_setCell_same _ (w.heap.size + 1) 1 _ _ (.slice Ao k co) (heap_setCell_same wr (w.heap.size + 1) 0 _ _ (.string key) hrw))
      have HE := Lib.hid (show NewRc w ⟨key, vers⟩ (.returned (.agg #[.string key, .slice Ao k co])) _ from
        ⟨Ao, k, co, rows, rfl, by rw [HI.out.map, List.take_of_length_le (by have := HLL.out; omega)], (HI.out.own.keepI F2 (fun i hi e => by omega)).lower (by omega), HLL.out, own_capI HI.out.own.1, hbw.trans (F2.below (B := w.heap.size) (fun i hi => by omega) hbw.size)⟩)
      clear ho hrw F2 ka hbw
      go_wp2
      refine bodyPost_ret (results_cell_row rfl _ _ (w.heap.size + 1) _ #[.string key, .slice Ao k co] _ _ rfl HR2.out Try.underlying32 rfl Try.infoRecSize) rfl HE.out
end Go.Proofs.Ytilagblpamhmkaa
