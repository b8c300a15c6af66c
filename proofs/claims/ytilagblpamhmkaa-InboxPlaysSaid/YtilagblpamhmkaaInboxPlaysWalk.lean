/-
  firthlaw18.InboxPlays
-/
import Derived.Test.YtilagblpamhmkaaInboxBoth
import Derived.Test.YtilagblpamhmkaaMB
namespace Go.Proofs.Ytilagblpamhmkaa
open Go.RowKit
set_option linter.unusedVariables false

abbrev iopSh : Sh := .pair (.int .i64) (.pair farSh (.sl 8 (.int .i64)))
theorem iop_at {w : World} {A : Option Addr} {n c k : Nat} {ls : List iopSh.T} (r : Rd w (.sl 112 iopSh) [.slice A n c] ls) (hk : k < n) :
    ∃ (g off : Nat) (kd : Int) (f : Fa) (A1 : Option Addr) (n1 c1 : Nat) (A2 : Option Addr) (n2 c2 : Nat) (Av : Option Addr) (nv cv : Nat) (v : List Int), A = some ⟨g, off, none⟩ ∧ w.cell? ⟨g, off + k * 7, none⟩ = some (.int .i64 kd) ∧ w.cell? ⟨g, off + k * 7 + 1, none⟩ = some (.int .i64 f.src) ∧ w.cell? ⟨g, off + k * 7 + 2, none⟩ = some (.int .i64 f.seq) ∧
      w.cell? ⟨g, off + k * 7 + 3, none⟩ = some (.string f.rc.key) ∧ w.cell? ⟨g, off + k * 7 + 4, none⟩ = some (.slice A1 n1 c1) ∧ w.cell? ⟨g, off + k * 7 + 5, none⟩ = some (.slice A2 n2 c2) ∧ w.cell? ⟨g, off + k * 7 + 6, none⟩ = some (.slice Av nv cv) ∧ FaV w f A1 n1 c1 A2 n2 c2 ∧ SlI w Av nv v ∧ nv ≤ 140737488351232 := by
  obtain ⟨_, _, _, _, h⟩ := r.elem
  obtain ⟨g, off, x, xs, rfl, _, _, hc, hx⟩ := h k hk
  obtain ⟨kd, xf, xv⟩ := x
  obtain ⟨c1, c2, rfl, ⟨rfl, _⟩, d1, d2, rfl, hf, hv⟩ := hx
  obtain ⟨A1, n1, c1, A2, n2, c2, rfl, hfv, -, -⟩ := fa_open hf
  obtain ⟨Av, nv, cv, rfl, -⟩ := _root_.id hv
  obtain ⟨t1, t2, t3⟩ := Rd.ints hv
  exact ⟨g, off, kd, faOf xf, A1, n1, c1, A2, n2, c2, Av, nv, cv, xv, rfl, hc 0 _ rfl, hc 1 _ rfl, hc 2 _ rfl, hc 3 _ rfl, hc 4 _ rfl, hc 5 _ rfl, hc 6 _ rfl, hfv, t1, by omega⟩
/-- Both inboxes in the law. -/
def BSt (W : World) (wr : World) (p q : Nat) (room : Int) (l : List Fa) : Prop :=
  ∃ K w0, IBoth K w0 wr p q (max room 0) room l l XT ∧ (∀ b, b < W.heap.size → K b) ∧ W.heap.size ≤ w0.heap.size ∧ Below W.heap.size W w0
theorem bothI {K : Nat → Prop} {w0 w : World} {p : Nat} {rp : Int} (room : Int) (h : IP K w0 w p rp []) : IBoth K w0 (w.alloc (.cells #[.int .i64 room, .slice none 0 0] 66)) p w.heap.size rp room [] [] XT := by
  have hb : Below w.heap.size w (w.alloc (.cells #[.int .i64 room, .slice none 0 0] 66)) := (Below.refl _ _).alloc (Nat.le_refl _) _
  obtain ⟨fp, h1, h2, h3, h4⟩ := h
  have := h3.size
  refine ⟨fp, fun b => b = w.heap.size, h1.below hb, ⟨rfl, ⟨.slice none 0 0, [], And.intro (heap_alloc_new _ _) (And.intro (World.ownsRow_nil _ _ _ _) (And.intro (fun g hg => nomatch hg) (And.intro rfl (fun y hy => nomatch hy))))⟩, fun b hb => by subst hb; simp⟩,
    fun b hb e => by have := h1.lt b hb; omega, h2, fun b e hk => by have := h4 b hk; omega, h3.trans (Fr.of_below hb (fp := fun _ => False)) (fun _ h => h.elim), h4, trivial, fun _ _ _ _ => trivial⟩
theorem BSt.below_ {W wr : World} {p q : Nat} {room : Int} {l : List Fa} (h : BSt W wr p q room l) : Below W.heap.size W wr := by
  obtain ⟨K, w0, h1, h2, h3, h4⟩ := h
  exact h1.outer h4 h2 h3
/-- What holds through a round. -/
structure RoundI (W W5 : World) (K : Nat → Prop) (ob : Nat) (kd : Int) (f : Fa) (A1 : Option Addr) (n1 c1 : Nat) (A2 : Option Addr) (n2 c2 : Nat) (Av : Option Addr) (nv cv : Nat) (v : List Int) : Prop where
  kb : ∀ b, b < W.heap.size → K b
  ko : K ob
  bel : Below W.heap.size W W5
  box : W5.heap[ob]? = some (.cells #[.int .i64 kd, .int .i64 f.src, .int .i64 f.seq, .string f.rc.key, .slice A1 n1 c1, .slice A2 n2 c2, .slice Av nv cv] 68 (0, 0))
  fv : ∀ W', Below W.heap.size W W' → FaV W' f A1 n1 c1 A2 n2 c2
  vec : ∀ W', Below W.heap.size W W' → SlI W' Av nv v
  vk : ∀ b off, 0 < nv * 1 → Av = some ⟨b, off, none⟩ → K b
  nvl : nv ≤ 140737488351232
theorem RoundI.low {W W5 w : World} {K : Nat → Prop} {ob : Nat} {kd : Int} {f : Fa} {A1 : Option Addr} {n1 c1 : Nat} {A2 : Option Addr} {n2 c2 : Nat} {Av : Option Addr} {nv cv : Nat} {v : List Int} (R : RoundI W W5 K ob kd f A1 n1 c1 A2 n2 c2 Av nv cv v)
    {p q : Nat} {rp rr : Int} {l r : List Fa} {X : World → Prop} (h : IBoth K W5 w p q rp rr l r X) : Below W.heap.size W w := h.outer R.bel R.kb R.bel.size
theorem RoundI.next {W W5 w6 W6 : World} {K : Nat → Prop} {ob : Nat} {kd : Int} {f : Fa} {A1 : Option Addr} {n1 c1 : Nat} {A2 : Option Addr} {n2 c2 : Nat} {Av : Option Addr} {nv cv : Nat} {v : List Int} (R : RoundI W W5 K ob kd f A1 n1 c1 A2 n2 c2 Av nv cv v)
    {p q : Nat} {rp rr : Int} {l r : List Fa} {X : World → Prop} (h : IBoth K W5 w6 p q rp rr l r X) (b : Below w6.heap.size w6 W6) : RoundI W W6 (fun b => K b ∨ w6.heap.size ≤ b ∧ b < W6.heap.size) ob kd f A1 n1 c1 A2 n2 c2 Av nv cv v := by
  have h1 := h.row R.ko R.box
  exact ⟨fun b hb => .inl (R.kb b hb), .inl R.ko, (R.low h).trans (b.mono (R.low h).size), (b.block ob (lt_of_block h1)).trans h1, R.fv, R.vec, fun b o hn e => .inl (R.vk b o hn e), R.nvl⟩
def f0 : Fa := ⟨0, 0, ⟨⟨#[]⟩, []⟩, []⟩
theorem f0_row (w : World) : RRow w f0.rc none 0 0 := ⟨SlV.nil _ _, Nat.le_refl _, show 0 * 64 ≤ _ by omega, show 0 ≤ 140737488351232 by omega⟩
set_option maxHeartbeats 20000000 in
set_option maxRecDepth 100000 in
theorem inboxPlays_walk (room : Int) (a1 : Option Addr) (len0 cap0 : Nat) (x0 : List iopSh.T) (W : World)
    (wf0 : (Lit.int .i64 room).wf = true) (t0 : Rd W (.sl 112 iopSh) [.slice a1 len0 cap0] x0) :
    Calls Try.prog 7 #[.int .i64 room, .slice a1 len0 cap0] W fun e w' => e = .returned (.bool true) ∧ Below W.heap.size W w' := by
  obtain ⟨-, z1, z2, -, -⟩ := t0.elem
  have hl80 : len0 * 112 ≤ 140737488351232 := by omega
  have HT := Lib.hid t0
  have C0 := Lib.hid (awake_any W)
  clear t0 z1 z2
  go_enter Try.func7, Try.ntmps7
  go_wp2_with fail
  refine C0.out.mono ?_
  rintro e w1 ⟨rfl, bw1⟩
  have HB1 := Lib.hid bw1
  have C2 := Lib.hid (newP room w1)
  obtain ⟨p, hp⟩ : ∃ p, w1.heap.size = p := ⟨_, rfl⟩
  rw [hp] at C2
  have HP := Lib.hid hp
  clear bw1 C0 hp
  go_wp2_with fail
  refine C2.out.mono ?_
  rintro e w3 ⟨rfl, h3, b3⟩
  have h4 := bothI room h3
  obtain ⟨q, hq⟩ : ∃ q, w3.heap.size = q := ⟨_, rfl⟩
  rw [hq] at h4
  have H4 := Lib.hid (show BSt W (w3.alloc (.cells #[.int .i64 room, .slice none 0 0] 66)) p q room [] from ⟨_, w1, h4, fun b hb => by have := HB1.out.size; have := HP.out; omega, HB1.out.size, HB1.out⟩)
  have HQ := Lib.hid hq
  clear h3 h4 C2 hq b3
  go_wp2_with fail
  rw [HQ.out]
  go_loopw [7] (fun t7 wr => ∃ (i : Nat) (l : List Fa), t7 = .int .i64 (i : Int) ∧ i ≤ len0 ∧ l.length ≤ i ∧ Hid (BSt W wr p q room l)) (fun t7 _ => len0 - (intOf t7).toNat)
  case atStart => exact ⟨0, [], rfl, Nat.zero_le _, Nat.le_refl _, H4⟩
  case round =>
    clear H4
    obtain ⟨i, l, rfl, hi, hli, HO⟩ := hrel
    by_cases hlt : i < len0
    · obtain ⟨g, off, kd, f, A1, n1, c1, A2, n2, c2, Av, nv, cv, v, rfl, x0, x1, x2, x3, x4, x5, x6, hfv, hsv, hnv⟩ := iop_at HT.out hlt
      have hbl := HO.out.below_
      have y0 := cell_up x0 hbl
      have y1 := cell_up x1 hbl
      have y2 := cell_up x2 hbl
      have y3 := cell_up x3 hbl
      have y4 := cell_up x4 hbl
      have y5 := cell_up x5 hbl
      have y6 := cell_up x6 hbl
      have b5 : Below wr.heap.size wr (wr.alloc (.cells #[.int .i64 kd, .int .i64 f.src, .int .i64 f.seq, .string f.rc.key, .slice A1 n1 c1, .slice A2 n2 c2, .slice Av nv cv] 68)) := (Below.refl _ _).alloc (Nat.le_refl _) _
      have k5 := heap_alloc_new wr (.cells #[.int .i64 kd, .int .i64 f.src, .int .i64 f.seq, .string f.rc.key, .slice A1 n1 c1, .slice A2 n2 c2, .slice Av nv cv] 68)
      obtain ⟨W5, hW5⟩ : ∃ W5, wr.alloc (.cells #[.int .i64 kd, .int .i64 f.src, .int .i64 f.seq, .string f.rc.key, .slice A1 n1 c1, .slice A2 n2 c2, .slice Av nv cv] 68) = W5 := ⟨_, rfl⟩
      rw [hW5] at b5 k5
      obtain ⟨ob, hob⟩ : ∃ ob, wr.heap.size = ob := ⟨_, rfl⟩
      obtain ⟨K0, w0, g1, g2, g3, g4⟩ := HO.out
      have g5 := g1.over b5 (K2 := fun b => K0 b ∨ b = ob) (fun b hb => hb.imp (fun h => h) (fun e => ⟨by omega, by have := lt_of_block k5; omega⟩))
      rw [hob] at k5
      have hr5 : RoundI W W5 (fun b => K0 b ∨ b = ob) ob kd f A1 n1 c1 A2 n2 c2 Av nv cv v :=
        ⟨fun b hb => .inl (g2 b hb), .inr rfl, hbl.trans (b5.mono hbl.size), k5, fun W' b => hfv.below b, fun W' b => Sl.below hsv b, fun b o hn e => .inl (g2 b (Sl.blk_lt hsv hn e)), hnv⟩
      obtain ⟨K, hK⟩ : ∃ K : Nat → Prop, (fun b => K0 b ∨ b = ob) = K := ⟨_, rfl⟩
      rw [hK] at g5 hr5
      have H5 := Lib.hid g5
      have HR := Lib.hid hr5
      have HW5 := Lib.hid hW5
      have HOB := Lib.hid hob
      have j0 : (0 : Int) ≤ (i : Int) := by omega
      have j1 : (i : Int) < (len0 : Int) := by omega
      clear x0 x1 x2 x3 x4 x5 x6 hfv hsv hnv hbl b5 k5 hW5 g1 g2 g3 g4 g5 hr5 hK hob
      by_cases hk1 : kd = 1
      · subst hk1
        clear HO
        go_wp2_with fail
        rw [HW5.out, HOB.out]
        clear y0 y1 y2 y3 y4 y5 y6
        have HSS := Lib.hid (fun (w' : World) (h : w'.heap[ob]? = some (.cells #[.int .i64 1, .int .i64 f.src, .int .i64 f.seq, .string f.rc.key, .slice A1 n1 c1, .slice A2 n2 c2, .slice Av nv cv] 68 (0, 0))) => And.intro (row_cell (j := 1) h rfl) (And.intro (row_cell (j := 2) h rfl) (And.intro (row_cell (j := 3) h rfl) (And.intro (row_cell (j := 4) h rfl) (And.intro (row_cell (j := 5) h rfl) (row_cell (j := 6) h rfl))))))
        obtain ⟨e1, e2⟩ := takeA_max room l f v
        have hll := takeI_len room l f v
        have CS := fun (W' : World) (h : IBoth K W5 W' p q (max room 0) room l l XT) => takeBS f A1 n1 c1 A2 n2 c2 Av nv cv v h ((HR.out.fv _ (HR.out.low h)).rc) ((HR.out.fv _ (HR.out.low h)).ro) ((HR.out.fv _ (HR.out.low h)).cap) ((HR.out.fv _ (HR.out.low h)).len) (HR.out.vec _ (HR.out.low h)) HR.out.nvl (by omega)
        rw [e1, e2] at CS
        obtain ⟨l', hl'⟩ : ∃ l', takeI room l f v = l' := ⟨_, rfl⟩
        obtain ⟨tk, htk⟩ : ∃ tk, takeA room l f v = tk := ⟨_, rfl⟩
        have CR := fun (W' : World) (h : IBoth K W5 W' p q (max room 0) room l' l XT) => takeBR f A1 n1 c1 A2 n2 c2 Av nv cv v h ((HR.out.fv _ (HR.out.low h)).rc) ((HR.out.fv _ (HR.out.low h)).ro) ((HR.out.fv _ (HR.out.low h)).cap) ((HR.out.fv _ (HR.out.low h)).len) (HR.out.vec _ (HR.out.low h)) HR.out.nvl (by omega)
        rw [hl', htk] at CS CR
        rw [hl'] at hll
        have CS := Lib.hid CS
        have CR := Lib.hid CR
        clear e1 e2 hl' htk
        refine wp_region_noPanic ?_
        refine wp_region_held_drew (S := (fun w' => w'.cell? ⟨ob, 1, none⟩ = some (.int .i64 f.src) ∧ w'.cell? ⟨ob, 2, none⟩ = some (.int .i64 f.seq) ∧ w'.cell? ⟨ob, 3, none⟩ = some (.string f.rc.key) ∧ w'.cell? ⟨ob, 4, none⟩ = some (.slice A1 n1 c1) ∧ w'.cell? ⟨ob, 5, none⟩ = some (.slice A2 n2 c2) ∧ w'.cell? ⟨ob, 6, none⟩ = some (.slice Av nv cv))) (by kernel_rfl) ?_ (fun hHeld => ?_)
        · exact HSS.out _ HR.out.box
        first
          | (refine wpAnyH_take (i := 0) (oi := _) (v := undef) (dropAt rfl) (by kernel_rfl) (by kernel_rfl) (by kernel_rfl) (fun _ _ _ h => h) (Or.inr ⟨by rfl, rfl⟩) (by assumption) ?_)
          | (refine wpAnyH_take (i := 0) (oi := _) (v := ?_) (dropAt rfl) (by kernel_rfl) (by kernel_rfl) (by kernel_rfl) (fun _ _ _ h => h) (Or.inl ⟨by rfl, ?_⟩) (by assumption) ?_; rotate_left; (focus (intro w2 hSw; (try dsimp only at hSw); go_simp; try with_reducible rfl)))
          | fail
        try simp only [Act.put, List.setIfInBounds_toArray, List.set_cons_zero, List.set_cons_succ]
        first
          | (refine wpAnyH_take (i := 1) (oi := _) (v := undef) (dropAt rfl) (by kernel_rfl) (by kernel_rfl) (by kernel_rfl) (fun _ _ _ h => h) (Or.inr ⟨by rfl, rfl⟩) (by assumption) ?_)
          | (refine wpAnyH_take (i := 1) (oi := _) (v := ?_) (dropAt rfl) (by kernel_rfl) (by kernel_rfl) (by kernel_rfl) (fun _ _ _ h => h) (Or.inl ⟨by rfl, ?_⟩) (by assumption) ?_; rotate_left; (focus (intro w2 hSw; (try dsimp only at hSw); go_simp; try with_reducible rfl)))
          | fail
        try simp only [Act.put, List.setIfInBounds_toArray, List.set_cons_zero, List.set_cons_succ]
        first
          | (refine wpAnyH_take (i := 2) (oi := _) (v := undef) (dropAt rfl) (by kernel_rfl) (by kernel_rfl) (by kernel_rfl) (fun _ _ _ h => h) (Or.inr ⟨by rfl, rfl⟩) (by assumption) ?_)
          | (refine wpAnyH_take (i := 2) (oi := _) (v := ?_) (dropAt rfl) (by kernel_rfl) (by kernel_rfl) (by kernel_rfl) (fun _ _ _ h => h) (Or.inl ⟨by rfl, ?_⟩) (by assumption) ?_; rotate_left; (focus (intro w2 hSw; (try dsimp only at hSw); go_simp; try with_reducible rfl)))
          | fail
        try simp only [Act.put, List.setIfInBounds_toArray, List.set_cons_zero, List.set_cons_succ]
        first
          | (refine wpAnyH_take (i := 3) (oi := _) (v := undef) (dropAt rfl) (by kernel_rfl) (by kernel_rfl) (by kernel_rfl) (fun _ _ _ h => h) (Or.inr ⟨by rfl, rfl⟩) (by assumption) ?_)
          | (refine wpAnyH_take (i := 3) (oi := _) (v := ?_) (dropAt rfl) (by kernel_rfl) (by kernel_rfl) (by kernel_rfl) (fun _ _ _ h => h) (Or.inl ⟨by rfl, ?_⟩) (by assumption) ?_; rotate_left; (focus (intro w2 hSw; (try dsimp only at hSw); go_simp; try with_reducible rfl)))
          | fail
        try simp only [Act.put, List.setIfInBounds_toArray, List.set_cons_zero, List.set_cons_succ]
        first
          | (refine wpAnyH_take (i := 4) (oi := _) (v := undef) (dropAt rfl) (by kernel_rfl) (by kernel_rfl) (by kernel_rfl) (fun _ _ _ h => h) (Or.inr ⟨by rfl, rfl⟩) (by assumption) ?_)
          | (refine wpAnyH_take (i := 4) (oi := _) (v := ?_) (dropAt rfl) (by kernel_rfl) (by kernel_rfl) (by kernel_rfl) (fun _ _ _ h => h) (Or.inl ⟨by rfl, ?_⟩) (by assumption) ?_; rotate_left; (focus (intro w2 hSw; (try dsimp only at hSw); go_simp; try with_reducible rfl)))
          | fail
        try simp only [Act.put, List.setIfInBounds_toArray, List.set_cons_zero, List.set_cons_succ]
        first
          | (refine wpAnyH_take (i := 6) (oi := _) (v := undef) (dropAt rfl) (by kernel_rfl) (by kernel_rfl) (by kernel_rfl) (fun _ _ _ h => h) (Or.inr ⟨by rfl, rfl⟩) (by assumption) ?_)
          | (refine wpAnyH_take (i := 6) (oi := _) (v := ?_) (dropAt rfl) (by kernel_rfl) (by kernel_rfl) (by kernel_rfl) (fun _ _ _ h => h) (Or.inl ⟨by rfl, ?_⟩) (by assumption) ?_; rotate_left; (focus (intro w2 hSw; (try dsimp only at hSw); go_simp; try with_reducible rfl)))
          | fail
        try simp only [Act.put, List.setIfInBounds_toArray, List.set_cons_zero, List.set_cons_succ]
        first
          | (refine wpAnyH_take (i := 7) (oi := _) (v := undef) (dropAt rfl) (by kernel_rfl) (by kernel_rfl) (by kernel_rfl) (fun _ _ _ h => h) (Or.inr ⟨by rfl, rfl⟩) (by assumption) ?_)
          | (refine wpAnyH_take (i := 7) (oi := _) (v := ?_) (dropAt rfl) (by kernel_rfl) (by kernel_rfl) (by kernel_rfl) (fun _ _ _ h => h) (Or.inl ⟨by rfl, ?_⟩) (by assumption) ?_; rotate_left; (focus (intro w2 hSw; (try dsimp only at hSw); go_simp; try with_reducible rfl)))
          | fail
        try simp only [Act.put, List.setIfInBounds_toArray, List.set_cons_zero, List.set_cons_succ]
        first
          | (refine wpAnyH_take (i := 8) (oi := _) (v := undef) (dropAt rfl) (by kernel_rfl) (by kernel_rfl) (by kernel_rfl) (fun _ _ _ h => h) (Or.inr ⟨by rfl, rfl⟩) (by assumption) ?_)
          | (refine wpAnyH_take (i := 8) (oi := _) (v := ?_) (dropAt rfl) (by kernel_rfl) (by kernel_rfl) (by kernel_rfl) (fun _ _ _ h => h) (Or.inl ⟨by rfl, ?_⟩) (by assumption) ?_; rotate_left; (focus (intro w2 hSw; (try dsimp only at hSw); go_simp; try with_reducible rfl)))
          | fail
        try simp only [Act.put, List.setIfInBounds_toArray, List.set_cons_zero, List.set_cons_succ]
        first
          | (refine wpAnyH_take (i := 9) (oi := _) (v := undef) (dropAt rfl) (by kernel_rfl) (by kernel_rfl) (by kernel_rfl) (fun _ _ _ h => h) (Or.inr ⟨by rfl, rfl⟩) (by assumption) ?_)
          | (refine wpAnyH_take (i := 9) (oi := _) (v := ?_) (dropAt rfl) (by kernel_rfl) (by kernel_rfl) (by kernel_rfl) (fun _ _ _ h => h) (Or.inl ⟨by rfl, ?_⟩) (by assumption) ?_; rotate_left; (focus (intro w2 hSw; (try dsimp only at hSw); go_simp; try with_reducible rfl)))
          | fail
        try simp only [Act.put, List.setIfInBounds_toArray, List.set_cons_zero, List.set_cons_succ]
        first
          | (refine wpAnyH_take (i := 10) (oi := _) (v := undef) (dropAt rfl) (by kernel_rfl) (by kernel_rfl) (by kernel_rfl) (fun _ _ _ h => h) (Or.inr ⟨by rfl, rfl⟩) (by assumption) ?_)
          | (refine wpAnyH_take (i := 10) (oi := _) (v := ?_) (dropAt rfl) (by kernel_rfl) (by kernel_rfl) (by kernel_rfl) (fun _ _ _ h => h) (Or.inl ⟨by rfl, ?_⟩) (by assumption) ?_; rotate_left; (focus (intro w2 hSw; (try dsimp only at hSw); go_simp; try with_reducible rfl)))
          | fail
        try simp only [Act.put, List.setIfInBounds_toArray, List.set_cons_zero, List.set_cons_succ]
        first
          | (refine wpAnyH_take (i := 11) (oi := _) (v := undef) (dropAt rfl) (by kernel_rfl) (by kernel_rfl) (by kernel_rfl) (fun _ _ _ h => h) (Or.inr ⟨by rfl, rfl⟩) (by assumption) ?_)
          | (refine wpAnyH_take (i := 11) (oi := _) (v := ?_) (dropAt rfl) (by kernel_rfl) (by kernel_rfl) (by kernel_rfl) (fun _ _ _ h => h) (Or.inl ⟨by rfl, ?_⟩) (by assumption) ?_; rotate_left; (focus (intro w2 hSw; (try dsimp only at hSw); go_simp; try with_reducible rfl)))
          | fail
        try simp only [Act.put, List.setIfInBounds_toArray, List.set_cons_zero, List.set_cons_succ]
        first
          | (refine wpAnyH_take (i := 12) (oi := _) (v := undef) (dropAt rfl) (by kernel_rfl) (by kernel_rfl) (by kernel_rfl) (fun _ _ _ h => h) (Or.inr ⟨by rfl, rfl⟩) (by assumption) ?_)
          | (refine wpAnyH_take (i := 12) (oi := _) (v := ?_) (dropAt rfl) (by kernel_rfl) (by kernel_rfl) (by kernel_rfl) (fun _ _ _ h => h) (Or.inl ⟨by rfl, ?_⟩) (by assumption) ?_; rotate_left; (focus (intro w2 hSw; (try dsimp only at hSw); go_simp; try with_reducible rfl)))
          | fail
        try simp only [Act.put, List.setIfInBounds_toArray, List.set_cons_zero, List.set_cons_succ]
        first
          | (refine wpAnyH_take (i := 13) (oi := _) (v := undef) (dropAt rfl) (by kernel_rfl) (by kernel_rfl) (by kernel_rfl) (fun _ _ _ h => h) (Or.inr ⟨by rfl, rfl⟩) (by assumption) ?_)
          | (refine wpAnyH_take (i := 13) (oi := _) (v := ?_) (dropAt rfl) (by kernel_rfl) (by kernel_rfl) (by kernel_rfl) (fun _ _ _ h => h) (Or.inl ⟨by rfl, ?_⟩) (by assumption) ?_; rotate_left; (focus (intro w2 hSw; (try dsimp only at hSw); go_simp; try with_reducible rfl)))
          | fail
        try simp only [Act.put, List.setIfInBounds_toArray, List.set_cons_zero, List.set_cons_succ]
        first
          | (refine wpAnyH_take (i := 14) (oi := _) (v := undef) (dropAt rfl) (by kernel_rfl) (by kernel_rfl) (by kernel_rfl) (fun _ _ _ h => h) (Or.inr ⟨by rfl, rfl⟩) (by assumption) ?_)
          | (refine wpAnyH_take (i := 14) (oi := _) (v := ?_) (dropAt rfl) (by kernel_rfl) (by kernel_rfl) (by kernel_rfl) (fun _ _ _ h => h) (Or.inl ⟨by rfl, ?_⟩) (by assumption) ?_; rotate_left; (focus (intro w2 hSw; (try dsimp only at hSw); go_simp; try with_reducible rfl)))
          | fail
        try simp only [Act.put, List.setIfInBounds_toArray, List.set_cons_zero, List.set_cons_succ]
        first
          | (refine wpAnyH_take (i := 15) (oi := _) (v := undef) (dropAt rfl) (by kernel_rfl) (by kernel_rfl) (by kernel_rfl) (fun _ _ _ h => h) (Or.inr ⟨by rfl, rfl⟩) (by assumption) ?_)
          | (refine wpAnyH_take (i := 15) (oi := _) (v := ?_) (dropAt rfl) (by kernel_rfl) (by kernel_rfl) (by kernel_rfl) (fun _ _ _ h => h) (Or.inl ⟨by rfl, ?_⟩) (by assumption) ?_; rotate_left; (focus (intro w2 hSw; (try dsimp only at hSw); go_simp; try with_reducible rfl)))
          | fail
        try simp only [Act.put, List.setIfInBounds_toArray, List.set_cons_zero, List.set_cons_succ]
        first
          | (refine wpAnyH_take (i := 16) (oi := _) (v := undef) (dropAt rfl) (by kernel_rfl) (by kernel_rfl) (by kernel_rfl) (fun _ _ _ h => h) (Or.inr ⟨by rfl, rfl⟩) (by assumption) ?_)
          | (refine wpAnyH_take (i := 16) (oi := _) (v := ?_) (dropAt rfl) (by kernel_rfl) (by kernel_rfl) (by kernel_rfl) (fun _ _ _ h => h) (Or.inl ⟨by rfl, ?_⟩) (by assumption) ?_; rotate_left; (focus (intro w2 hSw; (try dsimp only at hSw); go_simp; try with_reducible rfl)))
          | fail
        try simp only [Act.put, List.setIfInBounds_toArray, List.set_cons_zero, List.set_cons_succ]
        first
          | (refine wpAnyH_take (i := 17) (oi := _) (v := undef) (dropAt rfl) (by kernel_rfl) (by kernel_rfl) (by kernel_rfl) (fun _ _ _ h => h) (Or.inr ⟨by rfl, rfl⟩) (by assumption) ?_)
          | (refine wpAnyH_take (i := 17) (oi := _) (v := ?_) (dropAt rfl) (by kernel_rfl) (by kernel_rfl) (by kernel_rfl) (fun _ _ _ h => h) (Or.inl ⟨by rfl, ?_⟩) (by assumption) ?_; rotate_left; (focus (intro w2 hSw; (try dsimp only at hSw); go_simp; try with_reducible rfl)))
          | fail
        try simp only [Act.put, List.setIfInBounds_toArray, List.set_cons_zero, List.set_cons_succ]
        first
          | (refine wpAnyH_take (i := 18) (oi := _) (v := undef) (dropAt rfl) (by kernel_rfl) (by kernel_rfl) (by kernel_rfl) (fun _ _ _ h => h) (Or.inr ⟨by rfl, rfl⟩) (by assumption) ?_)
          | (refine wpAnyH_take (i := 18) (oi := _) (v := ?_) (dropAt rfl) (by kernel_rfl) (by kernel_rfl) (by kernel_rfl) (fun _ _ _ h => h) (Or.inl ⟨by rfl, ?_⟩) (by assumption) ?_; rotate_left; (focus (intro w2 hSw; (try dsimp only at hSw); go_simp; try with_reducible rfl)))
          | fail
        try simp only [Act.put, List.setIfInBounds_toArray, List.set_cons_zero, List.set_cons_succ]
        first
          | (refine wpAnyH_take (i := 19) (oi := _) (v := undef) (dropAt rfl) (by kernel_rfl) (by kernel_rfl) (by kernel_rfl) (fun _ _ _ h => h) (Or.inr ⟨by rfl, rfl⟩) (by assumption) ?_)
          | (refine wpAnyH_take (i := 19) (oi := _) (v := ?_) (dropAt rfl) (by kernel_rfl) (by kernel_rfl) (by kernel_rfl) (fun _ _ _ h => h) (Or.inl ⟨by rfl, ?_⟩) (by assumption) ?_; rotate_left; (focus (intro w2 hSw; (try dsimp only at hSw); go_simp; try with_reducible rfl)))
          | fail
        try simp only [Act.put, List.setIfInBounds_toArray, List.set_cons_zero, List.set_cons_succ]
        first
          | (refine wpAnyH_take (i := 20) (oi := _) (v := undef) (dropAt rfl) (by kernel_rfl) (by kernel_rfl) (by kernel_rfl) (fun _ _ _ h => h) (Or.inr ⟨by rfl, rfl⟩) (by assumption) ?_)
          | (refine wpAnyH_take (i := 20) (oi := _) (v := ?_) (dropAt rfl) (by kernel_rfl) (by kernel_rfl) (by kernel_rfl) (fun _ _ _ h => h) (Or.inl ⟨by rfl, ?_⟩) (by assumption) ?_; rotate_left; (focus (intro w2 hSw; (try dsimp only at hSw); go_simp; try with_reducible rfl)))
          | fail
        try simp only [Act.put, List.setIfInBounds_toArray, List.set_cons_zero, List.set_cons_succ]
        first
          | (refine wpAnyH_take (i := 21) (oi := _) (v := undef) (dropAt rfl) (by kernel_rfl) (by kernel_rfl) (by kernel_rfl) (fun _ _ _ h => h) (Or.inr ⟨by rfl, rfl⟩) (by assumption) ?_)
          | (refine wpAnyH_take (i := 21) (oi := _) (v := ?_) (dropAt rfl) (by kernel_rfl) (by kernel_rfl) (by kernel_rfl) (fun _ _ _ h => h) (Or.inl ⟨by rfl, ?_⟩) (by assumption) ?_; rotate_left; (focus (intro w2 hSw; (try dsimp only at hSw); go_simp; try with_reducible rfl)))
          | fail
        try simp only [Act.put, List.setIfInBounds_toArray, List.set_cons_zero, List.set_cons_succ]
        refine wpAnyH_ready (rs := [5]) (by kernel_rfl) (by simp) ?_
        refine AllReadyH.cons (o := _) (dropAt rfl) (fun K hK => ?_) AllReadyH.nil
        go_simp
        (go_at_call 12; refine (CS.out _ (H5.out.below (Below.refl _ _).drew)).mono ?_; rintro e w6 ⟨rfl, h6⟩)
        refine hK.out _ _ ?_ (fun hHeld => ?_)
        · exact HSS.out _ (h6.row HR.out.ko HR.out.box)
        clear hK K
        try simp only [Act.put, List.setIfInBounds_toArray, List.set_cons_zero, List.set_cons_succ]
        have H6 := Lib.hid h6
        clear h6
        refine wpAnyH_ready (rs := [22]) (by kernel_rfl) (by simp) ?_
        refine AllReadyH.cons (o := _) (dropAt rfl) (fun K hK => ?_) AllReadyH.nil
        go_simp
        (go_at_call 24; refine (CR.out _ H6.out).mono ?_; rintro e wE ⟨rfl, h7⟩)
        refine hK.out _ _ ?_ (fun hHeld => ?_)
        · exact HSS.out _ (h7.row HR.out.ko HR.out.box)
        clear hK K
        try simp only [Act.put, List.setIfInBounds_toArray, List.set_cons_zero, List.set_cons_succ]
        have HBE := Lib.hid h7
        clear h7
        first
          | (refine wpAnyH_take (i := 23) (oi := _) (v := undef) (dropAt rfl) (by kernel_rfl) (by kernel_rfl) (by kernel_rfl) (fun _ _ _ h => h) (Or.inr ⟨by rfl, rfl⟩) (by assumption) ?_)
          | (refine wpAnyH_take (i := 23) (oi := _) (v := ?_) (dropAt rfl) (by kernel_rfl) (by kernel_rfl) (by kernel_rfl) (fun _ _ _ h => h) (Or.inl ⟨by rfl, ?_⟩) (by assumption) ?_; rotate_left; (focus (intro w2 hSw; (try dsimp only at hSw); go_simp; try with_reducible rfl)))
          | fail
        try simp only [Act.put, List.setIfInBounds_toArray, List.set_cons_zero, List.set_cons_succ]
        refine wpAnyH_done (by kernel_rfl) ?_ _
        refine NoPanic.normal ?_
        clear hHeld CS CR HSS H6 H5
        have hll' : l'.length ≤ i + 1 := by omega
        -- HBE : IBoth K W5 wE p q (max room 0) room L L XT
        obtain ⟨Al, cl, rowsR, kq, hmR, frR⟩ := HBE.out.rlist
        have HRR := Lib.hid (And.intro hmR frR)
        have CW := Lib.hid (fun (W' : World) (b : Below wE.heap.size wE W') => waitsB (HBE.out.below b) (show (l').length * 80 ≤ 140737488355328 by omega))
        have HSS := Lib.hid (fun (W' : World) (bl : Below wE.heap.size wE W') => And.intro ((bl.cell (p := ⟨q, 1, none⟩) (lt_of_block kq)).trans (row_cell (j := 1) kq rfl)) bl)
        clear hmR frR kq
        go_wp2_with fail
        refine wp_region_noPanic ?_
        refine wp_region_held_drew (S := (fun w' => w'.cell? ⟨q, 1, none⟩ = some (.slice Al (l').length cl) ∧ Below wE.heap.size wE w')) (by kernel_rfl) ?_ (fun hHeld => ?_)
        · exact HSS.out _ (Below.refl _ _).drew
        first
          | (refine wpAnyH_take (i := 0) (oi := _) (v := undef) (dropAt rfl) (by kernel_rfl) (by kernel_rfl) (by kernel_rfl) (fun _ _ _ h => h) (Or.inr ⟨by rfl, rfl⟩) (by assumption) ?_)
          | (refine wpAnyH_take (i := 0) (oi := _) (v := ?_) (dropAt rfl) (by kernel_rfl) (by kernel_rfl) (by kernel_rfl) (fun _ _ _ h => h) (Or.inl ⟨by rfl, ?_⟩) (by assumption) ?_; rotate_left; (focus (intro w2 hSw; (try dsimp only at hSw); go_simp; try with_reducible rfl)))
          | fail
        try simp only [Act.put, List.setIfInBounds_toArray, List.set_cons_zero, List.set_cons_succ]
        first
          | (refine wpAnyH_take (i := 2) (oi := _) (v := undef) (dropAt rfl) (by kernel_rfl) (by kernel_rfl) (by kernel_rfl) (fun _ _ _ h => h) (Or.inr ⟨by rfl, rfl⟩) (by assumption) ?_)
          | (refine wpAnyH_take (i := 2) (oi := _) (v := ?_) (dropAt rfl) (by kernel_rfl) (by kernel_rfl) (by kernel_rfl) (fun _ _ _ h => h) (Or.inl ⟨by rfl, ?_⟩) (by assumption) ?_; rotate_left; (focus (intro w2 hSw; (try dsimp only at hSw); go_simp; try with_reducible rfl)))
          | fail
        try simp only [Act.put, List.setIfInBounds_toArray, List.set_cons_zero, List.set_cons_succ]
        first
          | (refine wpAnyH_take (i := 3) (oi := _) (v := undef) (dropAt rfl) (by kernel_rfl) (by kernel_rfl) (by kernel_rfl) (fun _ _ _ h => h) (Or.inr ⟨by rfl, rfl⟩) (by assumption) ?_)
          | (refine wpAnyH_take (i := 3) (oi := _) (v := ?_) (dropAt rfl) (by kernel_rfl) (by kernel_rfl) (by kernel_rfl) (fun _ _ _ h => h) (Or.inl ⟨by rfl, ?_⟩) (by assumption) ?_; rotate_left; (focus (intro w2 hSw; (try dsimp only at hSw); go_simp; try with_reducible rfl)))
          | fail
        try simp only [Act.put, List.setIfInBounds_toArray, List.set_cons_zero, List.set_cons_succ]
        first
          | (refine wpAnyH_take (i := 4) (oi := _) (v := undef) (dropAt rfl) (by kernel_rfl) (by kernel_rfl) (by kernel_rfl) (fun _ _ _ h => h) (Or.inr ⟨by rfl, rfl⟩) (by assumption) ?_)
          | (refine wpAnyH_take (i := 4) (oi := _) (v := ?_) (dropAt rfl) (by kernel_rfl) (by kernel_rfl) (by kernel_rfl) (fun _ _ _ h => h) (Or.inl ⟨by rfl, ?_⟩) (by assumption) ?_; rotate_left; (focus (intro w2 hSw; (try dsimp only at hSw); go_simp; try with_reducible rfl)))
          | fail
        try simp only [Act.put, List.setIfInBounds_toArray, List.set_cons_zero, List.set_cons_succ]
        first
          | (refine wpAnyH_take (i := 5) (oi := _) (v := undef) (dropAt rfl) (by kernel_rfl) (by kernel_rfl) (by kernel_rfl) (fun _ _ _ h => h) (Or.inr ⟨by rfl, rfl⟩) (by assumption) ?_)
          | (refine wpAnyH_take (i := 5) (oi := _) (v := ?_) (dropAt rfl) (by kernel_rfl) (by kernel_rfl) (by kernel_rfl) (fun _ _ _ h => h) (Or.inl ⟨by rfl, ?_⟩) (by assumption) ?_; rotate_left; (focus (intro w2 hSw; (try dsimp only at hSw); go_simp; try with_reducible rfl)))
          | fail
        try simp only [Act.put, List.setIfInBounds_toArray, List.set_cons_zero, List.set_cons_succ]
        refine wpAnyH_ready (rs := [1]) (by kernel_rfl) (by simp) ?_
        refine AllReadyH.cons (o := _) (dropAt rfl) (fun K hK => ?_) AllReadyH.nil
        go_simp
        (go_at_call 17; refine (CW.out _ (Below.refl _ _).drew).mono ?_; rintro e w8 ⟨A8, n8, c8, rows8, rfl, hw8⟩; have h8 := (Below.refl wE.heap.size wE).drew.trans (hw8.below.mono (by simp)))
        refine hK.out _ _ ?_ (fun hHeld => ?_)
        · exact HSS.out _ h8
        clear hK K
        try simp only [Act.put, List.setIfInBounds_toArray, List.set_cons_zero, List.set_cons_succ]
        have hn8 := (hw8.len (Nat.le_refl _)).1
        subst hn8
        have HW8 := Lib.hid hw8
        have H8 := Lib.hid h8
        clear hw8 h8
        refine wpAnyH_ready (rs := [6]) (by kernel_rfl) (by simp) ?_
        refine AllReadyH.cons (o := _) (dropAt rfl) (fun K hK => ?_) AllReadyH.nil
        go_simp
        (go_at_call 26; refine (lists_true _ A8 (l').length c8 rows8 Al (l').length cl rowsR (FRow.of (Sl.of_own HW8.out.own) HW8.out.fd) (HRR.out.2.below H8.out) (by rw [HRR.out.1, HW8.out.map, List.take_length]) (by omega)).mono ?_; rintro e w9 ⟨rfl, b9⟩)
        refine hK.out _ _ ?_ (fun hHeld => ?_)
        · exact HSS.out _ (H8.out.trans (b9.mono H8.out.size))
        clear hK K
        try simp only [Act.put, List.setIfInBounds_toArray, List.set_cons_zero, List.set_cons_succ]
        have HB9 := Lib.hid (HBE.out.below (H8.out.trans (b9.mono H8.out.size)))
        clear b9
        first
          | (refine wpAnyH_take (i := 7) (oi := _) (v := undef) (dropAt rfl) (by kernel_rfl) (by kernel_rfl) (by kernel_rfl) (fun _ _ _ h => h) (Or.inr ⟨by rfl, rfl⟩) (by assumption) ?_)
          | (refine wpAnyH_take (i := 7) (oi := _) (v := ?_) (dropAt rfl) (by kernel_rfl) (by kernel_rfl) (by kernel_rfl) (fun _ _ _ h => h) (Or.inl ⟨by rfl, ?_⟩) (by assumption) ?_; rotate_left; (focus (intro w2 hSw; (try dsimp only at hSw); go_simp; try with_reducible rfl)))
          | fail
        try simp only [Act.put, List.setIfInBounds_toArray, List.set_cons_zero, List.set_cons_succ]
        refine wpAnyH_done (by kernel_rfl) ?_ _
        refine NoPanic.normal ?_
        have HE := Lib.hid (show BSt W w9 p q room (l') from ⟨K, W5, HB9.out, HR.out.kb, HR.out.bel.size, HR.out.bel⟩)
        clear hHeld CW HW8 H8 HRR HSS HB9
        go_wp2
        go_roundw
        case rel => exact ⟨i + 1, l', by go_num, by omega, by omega, HE⟩
        case measure => simp [intOf]; omega
      · by_cases hk2 : kd = 2
        · subst hk2
          clear HO hk1
          have CSr := fun (W' : World) (h : IBoth K W5 W' p q (max room 0) room l l XT) (hr : readyI l v = none) => readyBS_none Av nv cv v h (HR.out.vec _ (HR.out.low h)) HR.out.nvl (by omega) hr
          cases hr : readyI l v with
          | none =>
            have CS := Lib.hid (CSr W5 H5.out hr)
            have HRN := Lib.hid hr
            clear CSr hr
            go_wp2_with fail
            rw [HW5.out, HOB.out]
            refine CS.out.mono ?_
            rintro e w6 ⟨rfl, h6⟩
            have b6 : Below w6.heap.size w6 (w6.alloc (.cells #[.int .i64 0, .int .i64 0, .string ⟨#[]⟩, .slice none 0 0, .slice none 0 0] 35)) := (Below.refl _ _).alloc (Nat.le_refl _) _
            have kx := heap_alloc_new w6 (.cells #[.int .i64 0, .int .i64 0, .string ⟨#[]⟩, .slice none 0 0, .slice none 0 0] 35)
            obtain ⟨W6, hW6⟩ : ∃ W6, w6.alloc (.cells #[.int .i64 0, .int .i64 0, .string ⟨#[]⟩, .slice none 0 0, .slice none 0 0] 35) = W6 := ⟨_, rfl⟩
            rw [hW6] at b6 kx
            have hr6 := HR.out.next h6 b6
            have h6' := h6.over b6 (K2 := fun b => K b ∨ w6.heap.size ≤ b ∧ b < W6.heap.size) (fun b hb => hb)
            have hkx : (fun b => K b ∨ w6.heap.size ≤ b ∧ b < W6.heap.size) w6.heap.size := .inr ⟨Nat.le_refl _, lt_of_block kx⟩
            obtain ⟨K2, hK2⟩ : ∃ K2 : Nat → Prop, (fun b => K b ∨ w6.heap.size ≤ b ∧ b < W6.heap.size) = K2 := ⟨_, rfl⟩
            rw [hK2] at hr6 h6' hkx
            have z6 := row_cell (j := 6) hr6.box rfl
            rw [← hW6] at z6
            have CR := Lib.hid (readyBR_none Av nv cv v h6' (hr6.vec _ (hr6.low h6')) hr6.nvl (by omega) HRN.out)
            have HR6 := Lib.hid hr6
            have HW6 := Lib.hid hW6
            have HKX := Lib.hid (And.intro kx hkx)
            clear h6 b6 kx hW6 hr6 h6' hkx hK2 CS y0 y1 y2 y3 y4 y5 y6
            go_wp2_with fail
            rw [HW6.out]
            refine CR.out.mono ?_
            rintro e w7 ⟨rfl, h7⟩
            have k7 := h7.row HKX.out.2 HKX.out.1
            have b8 : Below w7.heap.size w7 (w7.alloc (.cells #[.int .i64 0, .int .i64 0, .string ⟨#[]⟩, .slice none 0 0, .slice none 0 0] 61)) := (Below.refl _ _).alloc (Nat.le_refl _) _
            have k8 := (b8.block _ (lt_of_block k7)).trans k7
            have H8 := Lib.hid (h7.below b8)
            have u0 := row_cell (j := 0) k8 rfl
            have u1 := row_cell (j := 1) k8 rfl
            have u2 := row_cell (j := 2) k8 rfl
            have u3 := row_cell (j := 3) k8 rfl
            have u4 := row_cell (j := 4) k8 rfl
            have CE := Lib.hid (same_true (w7.alloc (.cells #[.int .i64 0, .int .i64 0, .string ⟨#[]⟩, .slice none 0 0, .slice none 0 0] 61)) f0 none 0 0 none 0 0 none 0 0 none 0 0 (f0_row _) (Sl.nil _ _ _) (f0_row _) (Sl.nil _ _ _) (by omega))
            clear h7 k7 b8 k8 CR z6
            go_wp2_with fail
            refine CE.out.mono ?_
            rintro e wE ⟨rfl, b9⟩
            have HBE := Lib.hid (H8.out.below b9)
            clear b9 CE H8 u0 u1 u2 u3 u4 H5
            -- HBE : IBoth K W5 wE p q (max room 0) room L L XT
            obtain ⟨Al, cl, rowsR, kq, hmR, frR⟩ := HBE.out.rlist
            have HRR := Lib.hid (And.intro hmR frR)
            have CW := Lib.hid (fun (W' : World) (b : Below wE.heap.size wE W') => waitsB (HBE.out.below b) (show (l).length * 80 ≤ 140737488355328 by omega))
            have HSS := Lib.hid (fun (W' : World) (bl : Below wE.heap.size wE W') => And.intro ((bl.cell (p := ⟨q, 1, none⟩) (lt_of_block kq)).trans (row_cell (j := 1) kq rfl)) bl)
            clear hmR frR kq
            go_wp2_with fail
            refine wp_region_noPanic ?_
            refine wp_region_held_drew (S := (fun w' => w'.cell? ⟨q, 1, none⟩ = some (.slice Al (l).length cl) ∧ Below wE.heap.size wE w')) (by kernel_rfl) ?_ (fun hHeld => ?_)
            · exact HSS.out _ (Below.refl _ _).drew
            first
              | (refine wpAnyH_take (i := 0) (oi := _) (v := undef) (dropAt rfl) (by kernel_rfl) (by kernel_rfl) (by kernel_rfl) (fun _ _ _ h => h) (Or.inr ⟨by rfl, rfl⟩) (by assumption) ?_)
              | (refine wpAnyH_take (i := 0) (oi := _) (v := ?_) (dropAt rfl) (by kernel_rfl) (by kernel_rfl) (by kernel_rfl) (fun _ _ _ h => h) (Or.inl ⟨by rfl, ?_⟩) (by assumption) ?_; rotate_left; (focus (intro w2 hSw; (try dsimp only at hSw); go_simp; try with_reducible rfl)))
              | fail
            try simp only [Act.put, List.setIfInBounds_toArray, List.set_cons_zero, List.set_cons_succ]
            first
              | (refine wpAnyH_take (i := 2) (oi := _) (v := undef) (dropAt rfl) (by kernel_rfl) (by kernel_rfl) (by kernel_rfl) (fun _ _ _ h => h) (Or.inr ⟨by rfl, rfl⟩) (by assumption) ?_)
              | (refine wpAnyH_take (i := 2) (oi := _) (v := ?_) (dropAt rfl) (by kernel_rfl) (by kernel_rfl) (by kernel_rfl) (fun _ _ _ h => h) (Or.inl ⟨by rfl, ?_⟩) (by assumption) ?_; rotate_left; (focus (intro w2 hSw; (try dsimp only at hSw); go_simp; try with_reducible rfl)))
              | fail
            try simp only [Act.put, List.setIfInBounds_toArray, List.set_cons_zero, List.set_cons_succ]
            first
              | (refine wpAnyH_take (i := 3) (oi := _) (v := undef) (dropAt rfl) (by kernel_rfl) (by kernel_rfl) (by kernel_rfl) (fun _ _ _ h => h) (Or.inr ⟨by rfl, rfl⟩) (by assumption) ?_)
              | (refine wpAnyH_take (i := 3) (oi := _) (v := ?_) (dropAt rfl) (by kernel_rfl) (by kernel_rfl) (by kernel_rfl) (fun _ _ _ h => h) (Or.inl ⟨by rfl, ?_⟩) (by assumption) ?_; rotate_left; (focus (intro w2 hSw; (try dsimp only at hSw); go_simp; try with_reducible rfl)))
              | fail
            try simp only [Act.put, List.setIfInBounds_toArray, List.set_cons_zero, List.set_cons_succ]
            first
              | (refine wpAnyH_take (i := 4) (oi := _) (v := undef) (dropAt rfl) (by kernel_rfl) (by kernel_rfl) (by kernel_rfl) (fun _ _ _ h => h) (Or.inr ⟨by rfl, rfl⟩) (by assumption) ?_)
              | (refine wpAnyH_take (i := 4) (oi := _) (v := ?_) (dropAt rfl) (by kernel_rfl) (by kernel_rfl) (by kernel_rfl) (fun _ _ _ h => h) (Or.inl ⟨by rfl, ?_⟩) (by assumption) ?_; rotate_left; (focus (intro w2 hSw; (try dsimp only at hSw); go_simp; try with_reducible rfl)))
              | fail
            try simp only [Act.put, List.setIfInBounds_toArray, List.set_cons_zero, List.set_cons_succ]
            first
              | (refine wpAnyH_take (i := 5) (oi := _) (v := undef) (dropAt rfl) (by kernel_rfl) (by kernel_rfl) (by kernel_rfl) (fun _ _ _ h => h) (Or.inr ⟨by rfl, rfl⟩) (by assumption) ?_)
              | (refine wpAnyH_take (i := 5) (oi := _) (v := ?_) (dropAt rfl) (by kernel_rfl) (by kernel_rfl) (by kernel_rfl) (fun _ _ _ h => h) (Or.inl ⟨by rfl, ?_⟩) (by assumption) ?_; rotate_left; (focus (intro w2 hSw; (try dsimp only at hSw); go_simp; try with_reducible rfl)))
              | fail
            try simp only [Act.put, List.setIfInBounds_toArray, List.set_cons_zero, List.set_cons_succ]
            refine wpAnyH_ready (rs := [1]) (by kernel_rfl) (by simp) ?_
            refine AllReadyH.cons (o := _) (dropAt rfl) (fun K hK => ?_) AllReadyH.nil
            go_simp
            (go_at_call 17; refine (CW.out _ (Below.refl _ _).drew).mono ?_; rintro e w8 ⟨A8, n8, c8, rows8, rfl, hw8⟩; have h8 := (Below.refl wE.heap.size wE).drew.trans (hw8.below.mono (by simp)))
            refine hK.out _ _ ?_ (fun hHeld => ?_)
            · exact HSS.out _ h8
            clear hK K
            try simp only [Act.put, List.setIfInBounds_toArray, List.set_cons_zero, List.set_cons_succ]
            have hn8 := (hw8.len (Nat.le_refl _)).1
            subst hn8
            have HW8 := Lib.hid hw8
            have H8 := Lib.hid h8
            clear hw8 h8
            refine wpAnyH_ready (rs := [6]) (by kernel_rfl) (by simp) ?_
            refine AllReadyH.cons (o := _) (dropAt rfl) (fun K hK => ?_) AllReadyH.nil
            go_simp
            (go_at_call 26; refine (lists_true _ A8 (l).length c8 rows8 Al (l).length cl rowsR (FRow.of (Sl.of_own HW8.out.own) HW8.out.fd) (HRR.out.2.below H8.out) (by rw [HRR.out.1, HW8.out.map, List.take_length]) (by omega)).mono ?_; rintro e w9 ⟨rfl, b9⟩)
            refine hK.out _ _ ?_ (fun hHeld => ?_)
            · exact HSS.out _ (H8.out.trans (b9.mono H8.out.size))
            clear hK K
            try simp only [Act.put, List.setIfInBounds_toArray, List.set_cons_zero, List.set_cons_succ]
            have HB9 := Lib.hid (HBE.out.below (H8.out.trans (b9.mono H8.out.size)))
            clear b9
            first
              | (refine wpAnyH_take (i := 7) (oi := _) (v := undef) (dropAt rfl) (by kernel_rfl) (by kernel_rfl) (by kernel_rfl) (fun _ _ _ h => h) (Or.inr ⟨by rfl, rfl⟩) (by assumption) ?_)
              | (refine wpAnyH_take (i := 7) (oi := _) (v := ?_) (dropAt rfl) (by kernel_rfl) (by kernel_rfl) (by kernel_rfl) (fun _ _ _ h => h) (Or.inl ⟨by rfl, ?_⟩) (by assumption) ?_; rotate_left; (focus (intro w2 hSw; (try dsimp only at hSw); go_simp; try with_reducible rfl)))
              | fail
            try simp only [Act.put, List.setIfInBounds_toArray, List.set_cons_zero, List.set_cons_succ]
            refine wpAnyH_done (by kernel_rfl) ?_ _
            refine NoPanic.normal ?_
            have HE := Lib.hid (show BSt W w9 p q room (l) from ⟨K2, W6, HB9.out, HR6.out.kb, HR6.out.bel.size, HR6.out.bel⟩)
            clear hHeld CW HW8 H8 HRR HSS HB9
            go_wp2
            go_roundw
            case rel => exact ⟨i + 1, l, by go_num, by omega, by omega, HE⟩
            case measure => simp [intOf]; omega
          | some k =>
            obtain ⟨x, hx, -, hkl⟩ := readyI_lt hr
            have CS := Lib.hid (readyBS_some Av nv cv v H5.out (HR.out.vec _ (HR.out.low H5.out)) HR.out.nvl (by omega) hr hx)
            have HRN := Lib.hid (And.intro hr hx)
            have hel : (l.eraseIdx k).length = l.length - 1 := List.length_eraseIdx_of_lt hkl
            have hel' : (l.eraseIdx k).length ≤ i := by omega
            clear CSr hr hx hkl hel
            go_wp2_with fail
            rw [HW5.out, HOB.out]
            refine CS.out.mono ?_
            rintro e w6 ⟨B1, m1, d1, B2, m2, d2, fs, rfl, h6⟩
            have b6 : Below w6.heap.size w6 (w6.alloc (.cells #[.int .i64 x.src, .int .i64 x.seq, .string x.rc.key, .slice B1 m1 d1, .slice B2 m2 d2] 35)) := (Below.refl _ _).alloc (Nat.le_refl _) _
            have kx := heap_alloc_new w6 (.cells #[.int .i64 x.src, .int .i64 x.seq, .string x.rc.key, .slice B1 m1 d1, .slice B2 m2 d2] 35)
            obtain ⟨W6, hW6⟩ : ∃ W6, w6.alloc (.cells #[.int .i64 x.src, .int .i64 x.seq, .string x.rc.key, .slice B1 m1 d1, .slice B2 m2 d2] 35) = W6 := ⟨_, rfl⟩
            rw [hW6] at b6 kx
            have hr6 := HR.out.next h6 b6
            have h6' := h6.over b6 (K2 := fun b => K b ∨ w6.heap.size ≤ b ∧ b < W6.heap.size) (fun b hb => hb)
            have hkx : (fun b => K b ∨ w6.heap.size ≤ b ∧ b < W6.heap.size) w6.heap.size := .inr ⟨Nat.le_refl _, lt_of_block kx⟩
            obtain ⟨K2, hK2⟩ : ∃ K2 : Nat → Prop, (fun b => K b ∨ w6.heap.size ≤ b ∧ b < W6.heap.size) = K2 := ⟨_, rfl⟩
            rw [hK2] at hr6 h6' hkx
            have z6 := row_cell (j := 6) hr6.box rfl
            rw [← hW6] at z6
            have CR := Lib.hid (readyBR_some Av nv cv v h6' (hr6.vec _ (hr6.low h6')) hr6.nvl (by omega) HRN.out.1 HRN.out.2)
            have HR6 := Lib.hid hr6
            have HW6 := Lib.hid hW6
            have HKX := Lib.hid (And.intro kx hkx)
            clear h6 b6 kx hW6 hr6 h6' hkx hK2 CS y0 y1 y2 y3 y4 y5 y6
            go_wp2_with fail
            rw [HW6.out]
            refine CR.out.mono ?_
            rintro e w7 ⟨E1, o1, q1, E2, o2, q2, ft, rfl, hd7, h7⟩
            have k7 := h7.row HKX.out.2 HKX.out.1
            have b8 : Below w7.heap.size w7 (w7.alloc (.cells #[.int .i64 x.src, .int .i64 x.seq, .string x.rc.key, .slice E1 o1 q1, .slice E2 o2 q2] 61)) := (Below.refl _ _).alloc (Nat.le_refl _) _
            have k8 := (b8.block _ (lt_of_block k7)).trans k7
            have h8 := h7.below b8
            have H8 := Lib.hid h8.drop
            have hs8 := h8.x
            have hd8 := hd7.keep (KeepD.of (Kept.below b8))
            have hm2 : m2 ≤ 140737488351232 := by have : m2 * 8 ≤ 140737488351232 := hs8.rl; omega
            have u0 := row_cell (j := 0) k8 rfl
            have u1 := row_cell (j := 1) k8 rfl
            have u2 := row_cell (j := 2) k8 rfl
            have u3 := row_cell (j := 3) k8 rfl
            have u4 := row_cell (j := 4) k8 rfl
            have CE := Lib.hid (same_true (w7.alloc (.cells #[.int .i64 x.src, .int .i64 x.seq, .string x.rc.key, .slice E1 o1 q1, .slice E2 o2 q2] 61)) x B1 m1 d1 B2 m2 d2 E1 o1 q1 E2 o2 q2 hs8.rrow hs8.ro.1 hd8.rrow hd8.ro.1 hm2)
            clear h7 k7 b8 k8 h8 hs8 hd8 hd7 hm2 CR z6
            go_wp2_with fail
            refine CE.out.mono ?_
            rintro e wE ⟨rfl, b9⟩
            have HBE := Lib.hid (H8.out.below b9)
            clear b9 CE H8 u0 u1 u2 u3 u4 H5
            -- HBE : IBoth K W5 wE p q (max room 0) room L L XT
            obtain ⟨Al, cl, rowsR, kq, hmR, frR⟩ := HBE.out.rlist
            have HRR := Lib.hid (And.intro hmR frR)
            have CW := Lib.hid (fun (W' : World) (b : Below wE.heap.size wE W') => waitsB (HBE.out.below b) (show (l.eraseIdx k).length * 80 ≤ 140737488355328 by omega))
            have HSS := Lib.hid (fun (W' : World) (bl : Below wE.heap.size wE W') => And.intro ((bl.cell (p := ⟨q, 1, none⟩) (lt_of_block kq)).trans (row_cell (j := 1) kq rfl)) bl)
            clear hmR frR kq
            go_wp2_with fail
            refine wp_region_noPanic ?_
            refine wp_region_held_drew (S := (fun w' => w'.cell? ⟨q, 1, none⟩ = some (.slice Al (l.eraseIdx k).length cl) ∧ Below wE.heap.size wE w')) (by kernel_rfl) ?_ (fun hHeld => ?_)
            · exact HSS.out _ (Below.refl _ _).drew
            first
              | (refine wpAnyH_take (i := 0) (oi := _) (v := undef) (dropAt rfl) (by kernel_rfl) (by kernel_rfl) (by kernel_rfl) (fun _ _ _ h => h) (Or.inr ⟨by rfl, rfl⟩) (by assumption) ?_)
              | (refine wpAnyH_take (i := 0) (oi := _) (v := ?_) (dropAt rfl) (by kernel_rfl) (by kernel_rfl) (by kernel_rfl) (fun _ _ _ h => h) (Or.inl ⟨by rfl, ?_⟩) (by assumption) ?_; rotate_left; (focus (intro w2 hSw; (try dsimp only at hSw); go_simp; try with_reducible rfl)))
              | fail
            try simp only [Act.put, List.setIfInBounds_toArray, List.set_cons_zero, List.set_cons_succ]
            first
              | (refine wpAnyH_take (i := 2) (oi := _) (v := undef) (dropAt rfl) (by kernel_rfl) (by kernel_rfl) (by kernel_rfl) (fun _ _ _ h => h) (Or.inr ⟨by rfl, rfl⟩) (by assumption) ?_)
              | (refine wpAnyH_take (i := 2) (oi := _) (v := ?_) (dropAt rfl) (by kernel_rfl) (by kernel_rfl) (by kernel_rfl) (fun _ _ _ h => h) (Or.inl ⟨by rfl, ?_⟩) (by assumption) ?_; rotate_left; (focus (intro w2 hSw; (try dsimp only at hSw); go_simp; try with_reducible rfl)))
              | fail
            try simp only [Act.put, List.setIfInBounds_toArray, List.set_cons_zero, List.set_cons_succ]
            first
              | (refine wpAnyH_take (i := 3) (oi := _) (v := undef) (dropAt rfl) (by kernel_rfl) (by kernel_rfl) (by kernel_rfl) (fun _ _ _ h => h) (Or.inr ⟨by rfl, rfl⟩) (by assumption) ?_)
              | (refine wpAnyH_take (i := 3) (oi := _) (v := ?_) (dropAt rfl) (by kernel_rfl) (by kernel_rfl) (by kernel_rfl) (fun _ _ _ h => h) (Or.inl ⟨by rfl, ?_⟩) (by assumption) ?_; rotate_left; (focus (intro w2 hSw; (try dsimp only at hSw); go_simp; try with_reducible rfl)))
              | fail
            try simp only [Act.put, List.setIfInBounds_toArray, List.set_cons_zero, List.set_cons_succ]
            first
              | (refine wpAnyH_take (i := 4) (oi := _) (v := undef) (dropAt rfl) (by kernel_rfl) (by kernel_rfl) (by kernel_rfl) (fun _ _ _ h => h) (Or.inr ⟨by rfl, rfl⟩) (by assumption) ?_)
              | (refine wpAnyH_take (i := 4) (oi := _) (v := ?_) (dropAt rfl) (by kernel_rfl) (by kernel_rfl) (by kernel_rfl) (fun _ _ _ h => h) (Or.inl ⟨by rfl, ?_⟩) (by assumption) ?_; rotate_left; (focus (intro w2 hSw; (try dsimp only at hSw); go_simp; try with_reducible rfl)))
              | fail
            try simp only [Act.put, List.setIfInBounds_toArray, List.set_cons_zero, List.set_cons_succ]
            first
              | (refine wpAnyH_take (i := 5) (oi := _) (v := undef) (dropAt rfl) (by kernel_rfl) (by kernel_rfl) (by kernel_rfl) (fun _ _ _ h => h) (Or.inr ⟨by rfl, rfl⟩) (by assumption) ?_)
              | (refine wpAnyH_take (i := 5) (oi := _) (v := ?_) (dropAt rfl) (by kernel_rfl) (by kernel_rfl) (by kernel_rfl) (fun _ _ _ h => h) (Or.inl ⟨by rfl, ?_⟩) (by assumption) ?_; rotate_left; (focus (intro w2 hSw; (try dsimp only at hSw); go_simp; try with_reducible rfl)))
              | fail
            try simp only [Act.put, List.setIfInBounds_toArray, List.set_cons_zero, List.set_cons_succ]
            refine wpAnyH_ready (rs := [1]) (by kernel_rfl) (by simp) ?_
            refine AllReadyH.cons (o := _) (dropAt rfl) (fun K hK => ?_) AllReadyH.nil
            go_simp
            (go_at_call 17; refine (CW.out _ (Below.refl _ _).drew).mono ?_; rintro e w8 ⟨A8, n8, c8, rows8, rfl, hw8⟩; have h8 := (Below.refl wE.heap.size wE).drew.trans (hw8.below.mono (by simp)))
            refine hK.out _ _ ?_ (fun hHeld => ?_)
            · exact HSS.out _ h8
            clear hK K
            try simp only [Act.put, List.setIfInBounds_toArray, List.set_cons_zero, List.set_cons_succ]
            have hn8 := (hw8.len (Nat.le_refl _)).1
            subst hn8
            have HW8 := Lib.hid hw8
            have H8 := Lib.hid h8
            clear hw8 h8
            refine wpAnyH_ready (rs := [6]) (by kernel_rfl) (by simp) ?_
            refine AllReadyH.cons (o := _) (dropAt rfl) (fun K hK => ?_) AllReadyH.nil
            go_simp
            (go_at_call 26; refine (lists_true _ A8 (l.eraseIdx k).length c8 rows8 Al (l.eraseIdx k).length cl rowsR (FRow.of (Sl.of_own HW8.out.own) HW8.out.fd) (HRR.out.2.below H8.out) (by rw [HRR.out.1, HW8.out.map, List.take_length]) (by omega)).mono ?_; rintro e w9 ⟨rfl, b9⟩)
            refine hK.out _ _ ?_ (fun hHeld => ?_)
            · exact HSS.out _ (H8.out.trans (b9.mono H8.out.size))
            clear hK K
            try simp only [Act.put, List.setIfInBounds_toArray, List.set_cons_zero, List.set_cons_succ]
            have HB9 := Lib.hid (HBE.out.below (H8.out.trans (b9.mono H8.out.size)))
            clear b9
            first
              | (refine wpAnyH_take (i := 7) (oi := _) (v := undef) (dropAt rfl) (by kernel_rfl) (by kernel_rfl) (by kernel_rfl) (fun _ _ _ h => h) (Or.inr ⟨by rfl, rfl⟩) (by assumption) ?_)
              | (refine wpAnyH_take (i := 7) (oi := _) (v := ?_) (dropAt rfl) (by kernel_rfl) (by kernel_rfl) (by kernel_rfl) (fun _ _ _ h => h) (Or.inl ⟨by rfl, ?_⟩) (by assumption) ?_; rotate_left; (focus (intro w2 hSw; (try dsimp only at hSw); go_simp; try with_reducible rfl)))
              | fail
            try simp only [Act.put, List.setIfInBounds_toArray, List.set_cons_zero, List.set_cons_succ]
            refine wpAnyH_done (by kernel_rfl) ?_ _
            refine NoPanic.normal ?_
            have HE := Lib.hid (show BSt W w9 p q room (l.eraseIdx k) from ⟨K2, W6, HB9.out, HR6.out.kb, HR6.out.bel.size, HR6.out.bel⟩)
            clear hHeld CW HW8 H8 HRR HSS HB9
            go_wp2
            go_roundw
            case rel => exact ⟨i + 1, l.eraseIdx k, by go_num, by omega, by omega, HE⟩
            case measure => simp [intOf]; omega
        · by_cases hk3 : kd = 3
          · subst hk3
            clear HO hk1 hk2
            have HSS := Lib.hid (fun (w' : World) (h : w'.heap[ob]? = some (.cells #[.int .i64 3, .int .i64 f.src, .int .i64 f.seq, .string f.rc.key, .slice A1 n1 c1, .slice A2 n2 c2, .slice Av nv cv] 68 (0, 0))) => row_cell (j := 6) h rfl)
            have CS := Lib.hid (fun (W' : World) (h : IBoth K W5 W' p q (max room 0) room l l XT) => cleanBS Av nv cv v h (HR.out.vec _ (HR.out.low h)) HR.out.nvl HR.out.vk (by omega))
            have CR := Lib.hid (fun (W' : World) (X : World → Prop) (h : IBoth K W5 W' p q (max room 0) room (l.filter fun f => !covB v f) l X) => cleanBR Av nv cv v h (HR.out.vec _ (HR.out.low h)) HR.out.nvl (by omega))
            have hfl := List.length_filter_le (fun f => !covB v f) l
            have hfl2 := List.length_filter_le (covB v) l
            go_wp2_with fail
            rw [HW5.out, HOB.out]
            clear y0 y1 y2 y3 y4 y5 y6
            refine wp_region_noPanic ?_
            refine wp_region_held_drew (S := (fun w' => w'.cell? ⟨ob, 6, none⟩ = some (.slice Av nv cv))) (by kernel_rfl) ?_ (fun hHeld => ?_)
            · exact HSS.out _ HR.out.box
            first
              | (refine wpAnyH_take (i := 0) (oi := _) (v := undef) (dropAt rfl) (by kernel_rfl) (by kernel_rfl) (by kernel_rfl) (fun _ _ _ h => h) (Or.inr ⟨by rfl, rfl⟩) (by assumption) ?_)
              | (refine wpAnyH_take (i := 0) (oi := _) (v := ?_) (dropAt rfl) (by kernel_rfl) (by kernel_rfl) (by kernel_rfl) (fun _ _ _ h => h) (Or.inl ⟨by rfl, ?_⟩) (by assumption) ?_; rotate_left; (focus (intro w2 hSw; (try dsimp only at hSw); go_simp; try with_reducible rfl)))
              | fail
            try simp only [Act.put, List.setIfInBounds_toArray, List.set_cons_zero, List.set_cons_succ]
            first
              | (refine wpAnyH_take (i := 1) (oi := _) (v := undef) (dropAt rfl) (by kernel_rfl) (by kernel_rfl) (by kernel_rfl) (fun _ _ _ h => h) (Or.inr ⟨by rfl, rfl⟩) (by assumption) ?_)
              | (refine wpAnyH_take (i := 1) (oi := _) (v := ?_) (dropAt rfl) (by kernel_rfl) (by kernel_rfl) (by kernel_rfl) (fun _ _ _ h => h) (Or.inl ⟨by rfl, ?_⟩) (by assumption) ?_; rotate_left; (focus (intro w2 hSw; (try dsimp only at hSw); go_simp; try with_reducible rfl)))
              | fail
            try simp only [Act.put, List.setIfInBounds_toArray, List.set_cons_zero, List.set_cons_succ]
            first
              | (refine wpAnyH_take (i := 2) (oi := _) (v := undef) (dropAt rfl) (by kernel_rfl) (by kernel_rfl) (by kernel_rfl) (fun _ _ _ h => h) (Or.inr ⟨by rfl, rfl⟩) (by assumption) ?_)
              | (refine wpAnyH_take (i := 2) (oi := _) (v := ?_) (dropAt rfl) (by kernel_rfl) (by kernel_rfl) (by kernel_rfl) (fun _ _ _ h => h) (Or.inl ⟨by rfl, ?_⟩) (by assumption) ?_; rotate_left; (focus (intro w2 hSw; (try dsimp only at hSw); go_simp; try with_reducible rfl)))
              | fail
            try simp only [Act.put, List.setIfInBounds_toArray, List.set_cons_zero, List.set_cons_succ]
            first
              | (refine wpAnyH_take (i := 4) (oi := _) (v := undef) (dropAt rfl) (by kernel_rfl) (by kernel_rfl) (by kernel_rfl) (fun _ _ _ h => h) (Or.inr ⟨by rfl, rfl⟩) (by assumption) ?_)
              | (refine wpAnyH_take (i := 4) (oi := _) (v := ?_) (dropAt rfl) (by kernel_rfl) (by kernel_rfl) (by kernel_rfl) (fun _ _ _ h => h) (Or.inl ⟨by rfl, ?_⟩) (by assumption) ?_; rotate_left; (focus (intro w2 hSw; (try dsimp only at hSw); go_simp; try with_reducible rfl)))
              | fail
            try simp only [Act.put, List.setIfInBounds_toArray, List.set_cons_zero, List.set_cons_succ]
            first
              | (refine wpAnyH_take (i := 5) (oi := _) (v := undef) (dropAt rfl) (by kernel_rfl) (by kernel_rfl) (by kernel_rfl) (fun _ _ _ h => h) (Or.inr ⟨by rfl, rfl⟩) (by assumption) ?_)
              | (refine wpAnyH_take (i := 5) (oi := _) (v := ?_) (dropAt rfl) (by kernel_rfl) (by kernel_rfl) (by kernel_rfl) (fun _ _ _ h => h) (Or.inl ⟨by rfl, ?_⟩) (by assumption) ?_; rotate_left; (focus (intro w2 hSw; (try dsimp only at hSw); go_simp; try with_reducible rfl)))
              | fail
            try simp only [Act.put, List.setIfInBounds_toArray, List.set_cons_zero, List.set_cons_succ]
            first
              | (refine wpAnyH_take (i := 6) (oi := _) (v := undef) (dropAt rfl) (by kernel_rfl) (by kernel_rfl) (by kernel_rfl) (fun _ _ _ h => h) (Or.inr ⟨by rfl, rfl⟩) (by assumption) ?_)
              | (refine wpAnyH_take (i := 6) (oi := _) (v := ?_) (dropAt rfl) (by kernel_rfl) (by kernel_rfl) (by kernel_rfl) (fun _ _ _ h => h) (Or.inl ⟨by rfl, ?_⟩) (by assumption) ?_; rotate_left; (focus (intro w2 hSw; (try dsimp only at hSw); go_simp; try with_reducible rfl)))
              | fail
            try simp only [Act.put, List.setIfInBounds_toArray, List.set_cons_zero, List.set_cons_succ]
            refine wpAnyH_ready (rs := [3]) (by kernel_rfl) (by simp) ?_
            refine AllReadyH.cons (o := _) (dropAt rfl) (fun K hK => ?_) AllReadyH.nil
            go_simp
            (go_at_call 27; refine (CS.out _ (H5.out.below (Below.refl _ _).drew)).mono ?_; rintro e w6 ⟨B1, m1, d1, rows1, X1, rfl, hm1, hf1, h6⟩)
            refine hK.out _ _ ?_ (fun hHeld => ?_)
            · exact HSS.out _ (h6.row HR.out.ko HR.out.box)
            clear hK K
            try simp only [Act.put, List.setIfInBounds_toArray, List.set_cons_zero, List.set_cons_succ]
            have H6 := Lib.hid h6
            have HM := Lib.hid (And.intro hm1 hf1)
            clear h6 hm1 hf1
            refine wpAnyH_ready (rs := [7]) (by kernel_rfl) (by simp) ?_
            refine AllReadyH.cons (o := _) (dropAt rfl) (fun K hK => ?_) AllReadyH.nil
            go_simp
            (go_at_call 28; refine (CR.out _ _ H6.out).mono ?_; rintro e w7 ⟨B2, m2, d2, rows2, rfl, hm2, hf2, h7⟩)
            refine hK.out _ _ ?_ (fun hHeld => ?_)
            · exact HSS.out _ (h7.row HR.out.ko HR.out.box)
            clear hK K
            try simp only [Act.put, List.setIfInBounds_toArray, List.set_cons_zero, List.set_cons_succ]
            have H7 := Lib.hid h7
            have HM2 := Lib.hid (And.intro hm2 hf2)
            have hm1l : m1 ≤ 140737488351232 := by
              have h1 := (HM.out.2 _ h7.x).len
              have h2 := congrArg List.length HM.out.1
              rw [List.length_map] at h2
              omega
            clear h7 hm2 hf2
            refine wpAnyH_ready (rs := [8]) (by kernel_rfl) (by simp) ?_
            refine AllReadyH.cons (o := _) (dropAt rfl) (fun K hK => ?_) AllReadyH.nil
            go_simp
            (go_at_call 26; refine (lists_true _ B1 m1 d1 rows1 B2 m2 d2 rows2 (HM.out.2 _ H7.out.x) HM2.out.2 (by rw [HM2.out.1, HM.out.1]) hm1l).mono ?_; rintro e wE ⟨rfl, b9⟩)
            refine hK.out _ _ ?_ (fun hHeld => ?_)
            · exact HSS.out _ ((H7.out.below b9).row HR.out.ko HR.out.box)
            clear hK K
            try simp only [Act.put, List.setIfInBounds_toArray, List.set_cons_zero, List.set_cons_succ]
            have HBE := Lib.hid (H7.out.below b9).drop
            clear b9
            first
              | (refine wpAnyH_take (i := 9) (oi := _) (v := undef) (dropAt rfl) (by kernel_rfl) (by kernel_rfl) (by kernel_rfl) (fun _ _ _ h => h) (Or.inr ⟨by rfl, rfl⟩) (by assumption) ?_)
              | (refine wpAnyH_take (i := 9) (oi := _) (v := ?_) (dropAt rfl) (by kernel_rfl) (by kernel_rfl) (by kernel_rfl) (fun _ _ _ h => h) (Or.inl ⟨by rfl, ?_⟩) (by assumption) ?_; rotate_left; (focus (intro w2 hSw; (try dsimp only at hSw); go_simp; try with_reducible rfl)))
              | fail
            try simp only [Act.put, List.setIfInBounds_toArray, List.set_cons_zero, List.set_cons_succ]
            refine wpAnyH_done (by kernel_rfl) ?_ _
            refine NoPanic.normal ?_
            clear hHeld CS CR HSS H6 H5 H7 HM HM2
            -- HBE : IBoth K W5 wE p q (max room 0) room L L XT
            obtain ⟨Al, cl, rowsR, kq, hmR, frR⟩ := HBE.out.rlist
            have HRR := Lib.hid (And.intro hmR frR)
            have CW := Lib.hid (fun (W' : World) (b : Below wE.heap.size wE W') => waitsB (HBE.out.below b) (show (l.filter (fun f => !covB v f)).length * 80 ≤ 140737488355328 by omega))
            have HSS := Lib.hid (fun (W' : World) (bl : Below wE.heap.size wE W') => And.intro ((bl.cell (p := ⟨q, 1, none⟩) (lt_of_block kq)).trans (row_cell (j := 1) kq rfl)) bl)
            clear hmR frR kq
            go_wp2_with fail
            refine wp_region_noPanic ?_
            refine wp_region_held_drew (S := (fun w' => w'.cell? ⟨q, 1, none⟩ = some (.slice Al (l.filter (fun f => !covB v f)).length cl) ∧ Below wE.heap.size wE w')) (by kernel_rfl) ?_ (fun hHeld => ?_)
            · exact HSS.out _ (Below.refl _ _).drew
            first
              | (refine wpAnyH_take (i := 0) (oi := _) (v := undef) (dropAt rfl) (by kernel_rfl) (by kernel_rfl) (by kernel_rfl) (fun _ _ _ h => h) (Or.inr ⟨by rfl, rfl⟩) (by assumption) ?_)
              | (refine wpAnyH_take (i := 0) (oi := _) (v := ?_) (dropAt rfl) (by kernel_rfl) (by kernel_rfl) (by kernel_rfl) (fun _ _ _ h => h) (Or.inl ⟨by rfl, ?_⟩) (by assumption) ?_; rotate_left; (focus (intro w2 hSw; (try dsimp only at hSw); go_simp; try with_reducible rfl)))
              | fail
            try simp only [Act.put, List.setIfInBounds_toArray, List.set_cons_zero, List.set_cons_succ]
            first
              | (refine wpAnyH_take (i := 2) (oi := _) (v := undef) (dropAt rfl) (by kernel_rfl) (by kernel_rfl) (by kernel_rfl) (fun _ _ _ h => h) (Or.inr ⟨by rfl, rfl⟩) (by assumption) ?_)
              | (refine wpAnyH_take (i := 2) (oi := _) (v := ?_) (dropAt rfl) (by kernel_rfl) (by kernel_rfl) (by kernel_rfl) (fun _ _ _ h => h) (Or.inl ⟨by rfl, ?_⟩) (by assumption) ?_; rotate_left; (focus (intro w2 hSw; (try dsimp only at hSw); go_simp; try with_reducible rfl)))
              | fail
            try simp only [Act.put, List.setIfInBounds_toArray, List.set_cons_zero, List.set_cons_succ]
            first
              | (refine wpAnyH_take (i := 3) (oi := _) (v := undef) (dropAt rfl) (by kernel_rfl) (by kernel_rfl) (by kernel_rfl) (fun _ _ _ h => h) (Or.inr ⟨by rfl, rfl⟩) (by assumption) ?_)
              | (refine wpAnyH_take (i := 3) (oi := _) (v := ?_) (dropAt rfl) (by kernel_rfl) (by kernel_rfl) (by kernel_rfl) (fun _ _ _ h => h) (Or.inl ⟨by rfl, ?_⟩) (by assumption) ?_; rotate_left; (focus (intro w2 hSw; (try dsimp only at hSw); go_simp; try with_reducible rfl)))
              | fail
            try simp only [Act.put, List.setIfInBounds_toArray, List.set_cons_zero, List.set_cons_succ]
            first
              | (refine wpAnyH_take (i := 4) (oi := _) (v := undef) (dropAt rfl) (by kernel_rfl) (by kernel_rfl) (by kernel_rfl) (fun _ _ _ h => h) (Or.inr ⟨by rfl, rfl⟩) (by assumption) ?_)
              | (refine wpAnyH_take (i := 4) (oi := _) (v := ?_) (dropAt rfl) (by kernel_rfl) (by kernel_rfl) (by kernel_rfl) (fun _ _ _ h => h) (Or.inl ⟨by rfl, ?_⟩) (by assumption) ?_; rotate_left; (focus (intro w2 hSw; (try dsimp only at hSw); go_simp; try with_reducible rfl)))
              | fail
            try simp only [Act.put, List.setIfInBounds_toArray, List.set_cons_zero, List.set_cons_succ]
            first
              | (refine wpAnyH_take (i := 5) (oi := _) (v := undef) (dropAt rfl) (by kernel_rfl) (by kernel_rfl) (by kernel_rfl) (fun _ _ _ h => h) (Or.inr ⟨by rfl, rfl⟩) (by assumption) ?_)
              | (refine wpAnyH_take (i := 5) (oi := _) (v := ?_) (dropAt rfl) (by kernel_rfl) (by kernel_rfl) (by kernel_rfl) (fun _ _ _ h => h) (Or.inl ⟨by rfl, ?_⟩) (by assumption) ?_; rotate_left; (focus (intro w2 hSw; (try dsimp only at hSw); go_simp; try with_reducible rfl)))
              | fail
            try simp only [Act.put, List.setIfInBounds_toArray, List.set_cons_zero, List.set_cons_succ]
            refine wpAnyH_ready (rs := [1]) (by kernel_rfl) (by simp) ?_
            refine AllReadyH.cons (o := _) (dropAt rfl) (fun K hK => ?_) AllReadyH.nil
            go_simp
            (go_at_call 17; refine (CW.out _ (Below.refl _ _).drew).mono ?_; rintro e w8 ⟨A8, n8, c8, rows8, rfl, hw8⟩; have h8 := (Below.refl wE.heap.size wE).drew.trans (hw8.below.mono (by simp)))
            refine hK.out _ _ ?_ (fun hHeld => ?_)
            · exact HSS.out _ h8
            clear hK K
            try simp only [Act.put, List.setIfInBounds_toArray, List.set_cons_zero, List.set_cons_succ]
            have hn8 := (hw8.len (Nat.le_refl _)).1
            subst hn8
            have HW8 := Lib.hid hw8
            have H8 := Lib.hid h8
            clear hw8 h8
            refine wpAnyH_ready (rs := [6]) (by kernel_rfl) (by simp) ?_
            refine AllReadyH.cons (o := _) (dropAt rfl) (fun K hK => ?_) AllReadyH.nil
            go_simp
            (go_at_call 26; refine (lists_true _ A8 (l.filter (fun f => !covB v f)).length c8 rows8 Al (l.filter (fun f => !covB v f)).length cl rowsR (FRow.of (Sl.of_own HW8.out.own) HW8.out.fd) (HRR.out.2.below H8.out) (by rw [HRR.out.1, HW8.out.map, List.take_length]) (by omega)).mono ?_; rintro e w9 ⟨rfl, b9⟩)
            refine hK.out _ _ ?_ (fun hHeld => ?_)
            · exact HSS.out _ (H8.out.trans (b9.mono H8.out.size))
            clear hK K
            try simp only [Act.put, List.setIfInBounds_toArray, List.set_cons_zero, List.set_cons_succ]
            have HB9 := Lib.hid (HBE.out.below (H8.out.trans (b9.mono H8.out.size)))
            clear b9
            first
              | (refine wpAnyH_take (i := 7) (oi := _) (v := undef) (dropAt rfl) (by kernel_rfl) (by kernel_rfl) (by kernel_rfl) (fun _ _ _ h => h) (Or.inr ⟨by rfl, rfl⟩) (by assumption) ?_)
              | (refine wpAnyH_take (i := 7) (oi := _) (v := ?_) (dropAt rfl) (by kernel_rfl) (by kernel_rfl) (by kernel_rfl) (fun _ _ _ h => h) (Or.inl ⟨by rfl, ?_⟩) (by assumption) ?_; rotate_left; (focus (intro w2 hSw; (try dsimp only at hSw); go_simp; try with_reducible rfl)))
              | fail
            try simp only [Act.put, List.setIfInBounds_toArray, List.set_cons_zero, List.set_cons_succ]
            refine wpAnyH_done (by kernel_rfl) ?_ _
            refine NoPanic.normal ?_
            have HE := Lib.hid (show BSt W w9 p q room (l.filter (fun f => !covB v f)) from ⟨K, W5, HB9.out, HR.out.kb, HR.out.bel.size, HR.out.bel⟩)
            clear hHeld CW HW8 H8 HRR HSS HB9
            go_wp2
            go_roundw
            case rel => exact ⟨i + 1, l.filter (fun f => !covB v f), by go_num, by omega, by omega, HE⟩
            case measure => simp [intOf]; omega
          · have q1 : (kd == 1) = false := beq_eq_false_iff_ne.2 hk1
            have q2 : (kd == 2) = false := beq_eq_false_iff_ne.2 hk2
            have q3 : (kd == 3) = false := beq_eq_false_iff_ne.2 hk3
            clear HO hk1 hk2 hk3
            obtain ⟨wE, hwE⟩ : ∃ wE, W5 = wE := ⟨_, rfl⟩
            have HBE : Hid (IBoth K W5 wE p q (max room 0) room l l XT) := by rw [← hwE]; exact H5
            have HWE := Lib.hid hwE
            clear hwE
            -- HBE : IBoth K W5 wE p q (max room 0) room L L XT
            obtain ⟨Al, cl, rowsR, kq, hmR, frR⟩ := HBE.out.rlist
            have HRR := Lib.hid (And.intro hmR frR)
            have CW := Lib.hid (fun (W' : World) (b : Below wE.heap.size wE W') => waitsB (HBE.out.below b) (show (l).length * 80 ≤ 140737488355328 by omega))
            have HSS := Lib.hid (fun (W' : World) (bl : Below wE.heap.size wE W') => And.intro ((bl.cell (p := ⟨q, 1, none⟩) (lt_of_block kq)).trans (row_cell (j := 1) kq rfl)) bl)
            clear hmR frR kq
            go_wp2_with fail
            rw [HW5.out, HWE.out]
            clear y0 y1 y2 y3 y4 y5 y6
            refine wp_region_noPanic ?_
            refine wp_region_held_drew (S := (fun w' => w'.cell? ⟨q, 1, none⟩ = some (.slice Al (l).length cl) ∧ Below wE.heap.size wE w')) (by kernel_rfl) ?_ (fun hHeld => ?_)
            · exact HSS.out _ (Below.refl _ _).drew
            first
              | (refine wpAnyH_take (i := 0) (oi := _) (v := undef) (dropAt rfl) (by kernel_rfl) (by kernel_rfl) (by kernel_rfl) (fun _ _ _ h => h) (Or.inr ⟨by rfl, rfl⟩) (by assumption) ?_)
              | (refine wpAnyH_take (i := 0) (oi := _) (v := ?_) (dropAt rfl) (by kernel_rfl) (by kernel_rfl) (by kernel_rfl) (fun _ _ _ h => h) (Or.inl ⟨by rfl, ?_⟩) (by assumption) ?_; rotate_left; (focus (intro w2 hSw; (try dsimp only at hSw); go_simp; try with_reducible rfl)))
              | fail
            try simp only [Act.put, List.setIfInBounds_toArray, List.set_cons_zero, List.set_cons_succ]
            first
              | (refine wpAnyH_take (i := 2) (oi := _) (v := undef) (dropAt rfl) (by kernel_rfl) (by kernel_rfl) (by kernel_rfl) (fun _ _ _ h => h) (Or.inr ⟨by rfl, rfl⟩) (by assumption) ?_)
              | (refine wpAnyH_take (i := 2) (oi := _) (v := ?_) (dropAt rfl) (by kernel_rfl) (by kernel_rfl) (by kernel_rfl) (fun _ _ _ h => h) (Or.inl ⟨by rfl, ?_⟩) (by assumption) ?_; rotate_left; (focus (intro w2 hSw; (try dsimp only at hSw); go_simp; try with_reducible rfl)))
              | fail
            try simp only [Act.put, List.setIfInBounds_toArray, List.set_cons_zero, List.set_cons_succ]
            first
              | (refine wpAnyH_take (i := 3) (oi := _) (v := undef) (dropAt rfl) (by kernel_rfl) (by kernel_rfl) (by kernel_rfl) (fun _ _ _ h => h) (Or.inr ⟨by rfl, rfl⟩) (by assumption) ?_)
              | (refine wpAnyH_take (i := 3) (oi := _) (v := ?_) (dropAt rfl) (by kernel_rfl) (by kernel_rfl) (by kernel_rfl) (fun _ _ _ h => h) (Or.inl ⟨by rfl, ?_⟩) (by assumption) ?_; rotate_left; (focus (intro w2 hSw; (try dsimp only at hSw); go_simp; try with_reducible rfl)))
              | fail
            try simp only [Act.put, List.setIfInBounds_toArray, List.set_cons_zero, List.set_cons_succ]
            first
              | (refine wpAnyH_take (i := 4) (oi := _) (v := undef) (dropAt rfl) (by kernel_rfl) (by kernel_rfl) (by kernel_rfl) (fun _ _ _ h => h) (Or.inr ⟨by rfl, rfl⟩) (by assumption) ?_)
              | (refine wpAnyH_take (i := 4) (oi := _) (v := ?_) (dropAt rfl) (by kernel_rfl) (by kernel_rfl) (by kernel_rfl) (fun _ _ _ h => h) (Or.inl ⟨by rfl, ?_⟩) (by assumption) ?_; rotate_left; (focus (intro w2 hSw; (try dsimp only at hSw); go_simp; try with_reducible rfl)))
              | fail
            try simp only [Act.put, List.setIfInBounds_toArray, List.set_cons_zero, List.set_cons_succ]
            first
              | (refine wpAnyH_take (i := 5) (oi := _) (v := undef) (dropAt rfl) (by kernel_rfl) (by kernel_rfl) (by kernel_rfl) (fun _ _ _ h => h) (Or.inr ⟨by rfl, rfl⟩) (by assumption) ?_)
              | (refine wpAnyH_take (i := 5) (oi := _) (v := ?_) (dropAt rfl) (by kernel_rfl) (by kernel_rfl) (by kernel_rfl) (fun _ _ _ h => h) (Or.inl ⟨by rfl, ?_⟩) (by assumption) ?_; rotate_left; (focus (intro w2 hSw; (try dsimp only at hSw); go_simp; try with_reducible rfl)))
              | fail
            try simp only [Act.put, List.setIfInBounds_toArray, List.set_cons_zero, List.set_cons_succ]
            refine wpAnyH_ready (rs := [1]) (by kernel_rfl) (by simp) ?_
            refine AllReadyH.cons (o := _) (dropAt rfl) (fun K hK => ?_) AllReadyH.nil
            go_simp
            (go_at_call 17; refine (CW.out _ (Below.refl _ _).drew).mono ?_; rintro e w8 ⟨A8, n8, c8, rows8, rfl, hw8⟩; have h8 := (Below.refl wE.heap.size wE).drew.trans (hw8.below.mono (by simp)))
            refine hK.out _ _ ?_ (fun hHeld => ?_)
            · exact HSS.out _ h8
            clear hK K
            try simp only [Act.put, List.setIfInBounds_toArray, List.set_cons_zero, List.set_cons_succ]
            have hn8 := (hw8.len (Nat.le_refl _)).1
            subst hn8
            have HW8 := Lib.hid hw8
            have H8 := Lib.hid h8
            clear hw8 h8
            refine wpAnyH_ready (rs := [6]) (by kernel_rfl) (by simp) ?_
            refine AllReadyH.cons (o := _) (dropAt rfl) (fun K hK => ?_) AllReadyH.nil
            go_simp
            (go_at_call 26; refine (lists_true _ A8 (l).length c8 rows8 Al (l).length cl rowsR (FRow.of (Sl.of_own HW8.out.own) HW8.out.fd) (HRR.out.2.below H8.out) (by rw [HRR.out.1, HW8.out.map, List.take_length]) (by omega)).mono ?_; rintro e w9 ⟨rfl, b9⟩)
            refine hK.out _ _ ?_ (fun hHeld => ?_)
            · exact HSS.out _ (H8.out.trans (b9.mono H8.out.size))
            clear hK K
            try simp only [Act.put, List.setIfInBounds_toArray, List.set_cons_zero, List.set_cons_succ]
            have HB9 := Lib.hid (HBE.out.below (H8.out.trans (b9.mono H8.out.size)))
            clear b9
            first
              | (refine wpAnyH_take (i := 7) (oi := _) (v := undef) (dropAt rfl) (by kernel_rfl) (by kernel_rfl) (by kernel_rfl) (fun _ _ _ h => h) (Or.inr ⟨by rfl, rfl⟩) (by assumption) ?_)
              | (refine wpAnyH_take (i := 7) (oi := _) (v := ?_) (dropAt rfl) (by kernel_rfl) (by kernel_rfl) (by kernel_rfl) (fun _ _ _ h => h) (Or.inl ⟨by rfl, ?_⟩) (by assumption) ?_; rotate_left; (focus (intro w2 hSw; (try dsimp only at hSw); go_simp; try with_reducible rfl)))
              | fail
            try simp only [Act.put, List.setIfInBounds_toArray, List.set_cons_zero, List.set_cons_succ]
            refine wpAnyH_done (by kernel_rfl) ?_ _
            refine NoPanic.normal ?_
            have HE := Lib.hid (show BSt W w9 p q room (l) from ⟨K, W5, HB9.out, HR.out.kb, HR.out.bel.size, HR.out.bel⟩)
            clear hHeld CW HW8 H8 HRR HSS HB9
            go_wp2
            go_roundw
            case rel => exact ⟨i + 1, l, by go_num, by omega, by omega, HE⟩
            case measure => simp [intOf]; omega
    · obtain rfl : i = len0 := by omega
      have HE := Lib.hid HO.out.below_
      go_wp2
      go_ret
      exact ⟨rfl, HE.out⟩
end Go.Proofs.Ytilagblpamhmkaa
