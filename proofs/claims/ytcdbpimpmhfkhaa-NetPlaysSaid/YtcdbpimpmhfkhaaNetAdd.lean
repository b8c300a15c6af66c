/-
  The network: New, add, Send, Copy.
-/
import Derived.Test.YtcdbpimpmhfkhaaNetTake
import Derived.Test.YtcdbpimpmhfkhaaStepAppend
namespace Go.Proofs.Ytcdbpimpmhfkhaa
open Go.RowKit
set_option linter.unusedVariables false

section
variable {w w' : World} {fp fp' : Nat → Prop} {G : NGeo} {l : List Pk} {C : K4 → Bool} {c : Cnt} {m : Nat}
/-- One packet more. -/
theorem NetG.push (h : NetG w fp G l C c m) {B : Nat} (hB : ∀ b, fp b → b < B) (hBw : B ≤ w.heap.size) (hl : l.length < 4096) {lv v3 : Value} {rows : List RPk} {w3 : World} {p : Pk} {A : Option Addr} {n k : Nat} (hwf : p.wf) (hn : n ≤ tokMax)
    (o1 : w.ownsRow B 5 1 (.slice A n k) n (bsV p.d))
    (h1 : w.heap[G.p]? = some (.cells #[lv, .map (some G.mb), .int .i64 c.s, .int .i64 c.t, .int .i64 c.x] 63 (0, 0))) (h2 : w.ownsRow 0 32 5 lv l.length (rows.flatMap pkV1)) (h3 : ∀ g, lv.ownBlock = some g → fp g) (h4 : rows.map (·.1) = l) (h5 : ∀ y, y ∈ rows → PkRow w fp y) (h6 : rows.Pairwise Off)
    (own3 : w3.ownsRow 0 32 5 v3 (l.length + 1) (rows.flatMap pkV1 ++ pkC p A n k)) (g3 : (w.alloc (.cells #[.int .i64 p.fs, .int .i64 p.fn, .int .i64 p.ts, .int .i64 p.tn, .slice A n k] 32)).grownBy w3 lv.ownBlock) (hv3 : v3.ownBlock = lv.ownBlock ∨ v3.ownBlock = some (w.heap.size + 1)) :
    NetG (w3.setCell ⟨G.p, 0, none⟩ v3) (fun b => fp b ∨ B ≤ b ∧ b < w3.heap.size) G (l ++ [p]) C c m ∧ w3.cell? ⟨G.p, 0, none⟩ = some lv ∧ w3.frozen? ⟨G.p, 0, none⟩ = false ∧ Fr fp w (w3.setCell ⟨G.p, 0, none⟩ v3) := by
  obtain ⟨D, hD, hA⟩ := h.map
  have hlp := h.lt _ h.inp
  have hrowt : ∀ b, lv.ownBlock = some b → ∃ cs, w.heap[b]? = some (.cells cs 32 (0, 0)) := fun b hb => own_tag h2 hb
  have hk2 : Kept (fun b => ∀ g, lv.ownBlock = some g → g ≠ b) w w3 := (Kept.alloc _ w _).trans (Kept.grown g3 fun g hg hh => hh g hg rfl)
  have hpr : ∀ g, lv.ownBlock = some g → g ≠ G.p := fun g hg => by obtain ⟨cs, hcs⟩ := hrowt g hg; exact tag_ne hcs h1 (by decide)
  have htop := hk2 _ _ hpr h1
  have hsz3 : w.heap.size + 1 ≤ w3.heap.size := by have := g3.size; simp at this; omega
  have hkp : Kept (fun b => b ≠ G.p) w3 (w3.setCell ⟨G.p, 0, none⟩ v3) := Kept.set _ (fun hh => hh rfl)
  have hkall : Kept (fun b => (∀ g, lv.ownBlock = some g → g ≠ b) ∧ b ≠ G.p) w (w3.setCell ⟨G.p, 0, none⟩ v3) := (hk2.mono fun b hb => hb.1).trans (hkp.mono fun b hb => hb.2)
  have nepk : ∀ {b : Nat} {cs : Array Value}, w.heap[b]? = some (.cells cs 5 (0, 0)) → (∀ g, lv.ownBlock = some g → g ≠ b) ∧ b ≠ G.p := by
    intro b cs hb
    exact ⟨fun g hg => by obtain ⟨cs', hcs'⟩ := hrowt g hg; exact tag_ne hcs' hb (by decide), tag_ne hb h1 (by decide)⟩
  have hfr : Fr fp w (w3.setCell ⟨G.p, 0, none⟩ v3) :=
    ((Fr.alloc fp w _).trans (Fr.of_grown g3) (fun i hi => .inl (h3 i hi.symm))).trans (Fr.set w3 ⟨G.p, 0, none⟩ v3) (fun i hi => by subst hi; exact .inl h.inp)
  refine ⟨⟨.inl h.inp, .inl h.inm, ⟨v3, rows ++ [(p, A, n, k)], ?_, ?_, ?_, ?_, ?_, ?_⟩, ⟨D, map_keep hD (fp := fun b => (∀ g, lv.ownBlock = some g → g ≠ b) ∧ b ≠ G.p) ⟨fun g hg => ?_, (map_ne h1 hD).symm⟩ hkall, hA⟩, by rw [List.length_append]; show l.length + 1 ≤ 4096; omega, h.cnt, ?_⟩, blk_cell htop rfl, blk_free htop 0, hfr⟩
  · rw [heap_setCell_same w3 G.p 0 _ _ v3 htop]; rfl
  · have e1 : (l ++ [p]).length = l.length + 1 := by simp
    have e2 : (rows ++ [((p, A, n, k) : RPk)]).flatMap pkV1 = rows.flatMap pkV1 ++ pkC p A n k := by rw [List.flatMap_append]; simp [pkV1]
    rw [e1, e2]
    refine own_keep own3 (fp := fun b => b ≠ G.p) (fun g hg => ?_) hkp
    obtain ⟨cs, hcs⟩ := own_tag own3 hg
    exact tag_ne hcs htop (by decide)
  · intro g hg
    rcases hv3 with e | e
    · exact .inl (h3 g (by rw [← e]; exact hg))
    · have hlt := (own3.lt g hg).2
      rw [e] at hg
      injection hg with hg
      exact .inr ⟨by omega, hlt⟩
  · rw [List.map_append, h4]; rfl
  · intro y hy
    rcases List.mem_append.1 hy with hy | hy
    · have hr := h5 y hy
      exact ⟨own_keep hr.row (fun g hg => by obtain ⟨cs, hcs⟩ := own_tag hr.row hg; exact nepk hcs) hkall, fun g hg => .inl (hr.inn g hg), hr.len, hr.wf⟩
    · obtain rfl := List.mem_singleton.1 hy
      have hl := SlB.len (show SlB w A n p.d from Sl.of_own o1)
      refine ⟨own_lower (own_keep o1 (fun g hg => by obtain ⟨cs, hcs⟩ := own_tag o1 hg; exact nepk hcs) hkall) (Nat.zero_le _), fun g hg => .inr ⟨(o1.lt g hg).1, ?_⟩, by show p.d.length ≤ tokMax; omega, hwf⟩
      have := (o1.lt g hg).2
      omega
  · refine List.pairwise_append.2 ⟨h6, List.pairwise_singleton _ _, fun a ha b hb g hg hg' => ?_⟩
    obtain rfl := List.mem_singleton.1 hb
    have q1 := hB g ((h5 a ha).inn g hg)
    have q2 := (o1.lt g hg').1
    omega
  · obtain ⟨cs, hcs⟩ := hrowt g hg
    exact map_ne hcs hD
  · intro b hb
    rcases hb with hb | hb
    · have := h.lt b hb
      simp
      omega
    · simpa using hb.2
def addL (l : List Pk) (p : Pk) : List Pk := if l.length = 4096 then l else l ++ [p]
set_option maxHeartbeats 4000000 in
theorem add_any (p : Pk) (A : Option Addr) (n k : Nat) (h : NetG w fp G l C c m) (hwf : p.wf) (hs : SlB w A n p.d) (hc : n ≤ k) (hn : n ≤ tokMax) :
    Calls Try.prog 24 #[.pointer (some ⟨G.p, 0, none⟩), .agg #[.int .i64 p.fs, .int .i64 p.fn, .int .i64 p.ts, .int .i64 p.tn, .slice A n k]] w (NetAns w fp G (addL l p) C c m (.bool (decide (l.length ≠ 4096)))) := by
  obtain ⟨i0, hi, hz0, hz1, hz2⟩ := info_parts Try.infoPk
  have h1 := h.below ((Below.refl _ w).alloc (Nat.le_refl _) (.cells #[.int .i64 p.fs, .int .i64 p.fn, .int .i64 p.ts, .int .i64 p.tn, .slice A n k] 32))
  have hlen := h.len
  by_cases hf : l.length = 4096
  · unfold addL
    rw [if_pos hf]
    have e0 : decide (l.length ≠ 4096) = false := by simp [hf]
    rw [e0]
    obtain ⟨A0, k0, c0, _⟩ := h1.len_
    have q : ((l.length : Int) == 4096) = true := by simp; omega
    have H := Lib.hid (And.intro h1 h.lt)
    clear h h1 hf hs hwf e0
    go_enter Try.func24, Try.ntmps24
    go_wp2
    go_ret
    exact ⟨rfl, fp, H.out.1, (Fr.alloc fp w _), Grow.refl _ _⟩
  · unfold addL
    rw [if_neg hf]
    have e0 : decide (l.length ≠ 4096) = true := by simp [hf]
    rw [e0]
    have q : ((l.length : Int) == 4096) = false := by simp; omega
    have kb : (w.alloc (.cells #[.int .i64 p.fs, .int .i64 p.fn, .int .i64 p.ts, .int .i64 p.tn, .slice A n k] 32)).heap[w.heap.size]? = some (.cells #[.int .i64 p.fs, .int .i64 p.fn, .int .i64 p.ts, .int .i64 p.tn, .slice A n k] 32 (0, 0)) := heap_alloc_new _ _
    have hown := own_any p A n k (w.alloc (.cells #[.int .i64 p.fs, .int .i64 p.fn, .int .i64 p.ts, .int .i64 p.tn, .slice A n k] 32)).drew (Sl.drew (Sl.alloc hs _)) hc hn
    have hwbs : (w.alloc (.cells #[.int .i64 p.fs, .int .i64 p.fn, .int .i64 p.ts, .int .i64 p.tn, .slice A n k] 32)).heap.size = w.heap.size + 1 := by simp
    have Fwb : Fr fp w (w.alloc (.cells #[.int .i64 p.fs, .int .i64 p.fn, .int .i64 p.ts, .int .i64 p.tn, .slice A n k] 32)) := Fr.alloc fp w _
    obtain ⟨lv, rows, r1, r2, r3, r4, r5, r6⟩ := h1.ex
    obtain ⟨A0, k0, rfl, _, _⟩ := own_slice r2
    have c0 := blk_cell (j := 0) r1 rfl
    have x0 := blk_cell (j := 0) kb rfl
    have x1 := blk_cell (j := 1) kb rfl
    have x2 := blk_cell (j := 2) kb rfl
    have x3 := blk_cell (j := 3) kb rfl
    have x4 := blk_cell (j := 4) kb rfl
    have HO := Lib.hid hown
    have HP := Lib.hid (And.intro h1 (And.intro hwf (And.intro r1 (And.intro r2 (And.intro r3 (And.intro r4 (And.intro r5 r6)))))))
    have HF := Lib.hid (And.intro Fwb hwbs)
    have hl4 : l.length < 4096 := by omega
    clear hown h h1 hwf r1 r2 r3 r4 r5 r6 Fwb hwbs kb hs
    go_enter Try.func24, Try.ntmps24
    go_wp2_with fail
    generalize hwb : w.alloc (.cells #[.int .i64 p.fs, .int .i64 p.fn, .int .i64 p.ts, .int .i64 p.tn, .slice A n k] 32) = wb at *
    clear hwb
    have hsz := HF.out.2
    go_region_law (first
      | (go_simp; go_at_call 28; refine HO.out.mono ?_; rintro e w1 ⟨A1, n1, c1, rfl, s1, hc1, hn1, o1, b1⟩; have b1' : Below wb.heap.size wb w1 := ((Below.refl _ wb).drew).trans b1; have c0' := (b1'.cell (World.block_lt_of_cell? wb _ c0)).trans c0; have c0a := (World.cell?_alloc_lt w1 (.cells #[.int .i64 p.fs, .int .i64 p.fn, .int .i64 p.ts, .int .i64 p.tn, .slice A1 n1 c1] 32) ⟨G.p, 0, none⟩ (World.block_lt_of_cell? _ _ c0')).trans c0'; have R2 := own_below HP.out.2.2.2.1 b1'; have HO1 := Lib.hid (And.intro b1' o1); clear b1 s1 o1)
      | (refine step_append_sl rfl (.tmp 15) (.tmp 18) 22 rfl 0 32 i0 (.agg #[.int .i64 0, .int .i64 0, .int .i64 0, .int .i64 0, .slice none 0 0]) 5 56 Try.underlying22 hi hz0 hz1 hz2 rfl (by decide) (.slice A0 l.length k0) l.length (rows.flatMap pkV1) rfl (R2.alloc _) (some ⟨w1.heap.size, 0, none⟩) 1 1 (pkC p A1 n1 c1) rfl (sl_lit _ _ _ _ 1 5 _ rfl rfl rfl) (pkV1_one (p, A1, n1, c1)) (by unfold maxLen; omega) (by omega) (Nat.zero_le _) ?_; intro v3 w3 own3 g3 hv3; obtain ⟨A3, k3, rfl, _, _⟩ := own_slice own3; have hP := HP.out.1.below HO1.out.1; obtain ⟨h3, c3, f3, F3⟩ := hP.push (B := wb.heap.size) HP.out.1.lt HO1.out.1.size hl4 HP.out.2.1 hn1 HO1.out.2 ((HO1.out.1.block _ (heap_lt HP.out.2.2.1)).trans HP.out.2.2.1) R2 HP.out.2.2.2.2.1 HP.out.2.2.2.2.2.1 (fun y hy => (HP.out.2.2.2.2.2.2.1 y hy).kept (Kept.below HO1.out.1)) HP.out.2.2.2.2.2.2.2 own3 g3 (by simpa using hv3); have H3 := Lib.hid (And.intro h3 F3); clear own3 g3 h3 F3 hP))
    all_goals go_wp2
    all_goals go_ret
    all_goals
      refine ⟨rfl, fun b => fp b ∨ wb.heap.size ≤ b ∧ b < w3.heap.size, H3.out.1, ?_, fun i hi => hi.imp id (fun hh => by omega)⟩
      exact (HF.out.1.trans (Fr.of_below HO1.out.1 (fp := fun _ => False)) (fun _ h => h.elim)).trans H3.out.2 (fun i hi => .inl hi)
/-- A counter has turned. -/
theorem NetG.count (h : NetG w fp G l C c m) {j : Nat} {u : Value} {c' : Cnt} (hc' : 0 ≤ c'.s ∧ 0 ≤ c'.t ∧ 0 ≤ c'.x) (hset : ∀ lv : Value, (#[lv, .map (some G.mb), .int .i64 c.s, .int .i64 c.t, .int .i64 c.x] : Array Value).setIfInBounds j u = #[lv, .map (some G.mb), .int .i64 c'.s, .int .i64 c'.t, .int .i64 c'.x]) :
    NetG (w.setCell ⟨G.p, j, none⟩ u) fp G l C c' m ∧ Fr fp w (w.setCell ⟨G.p, j, none⟩ u) := by
  obtain ⟨lv, rows, r1, r2, r3, r4, r5, r6⟩ := h.ex
  obtain ⟨D, hD, hA⟩ := h.map
  have hkp : Kept (fun b => b ≠ G.p) w (w.setCell ⟨G.p, j, none⟩ u) := Kept.set _ (fun hh => hh rfl)
  refine ⟨⟨h.inp, h.inm, ⟨lv, rows, ?_, ?_, r3, r4, fun y hy => ?_, r6⟩, ⟨D, map_keep hD (fp := fun b => b ≠ G.p) (map_ne r1 hD).symm hkp, hA⟩, h.len, hc', fun b hb => by simpa using h.lt b hb⟩, (Fr.set w ⟨G.p, j, none⟩ u).mono fun i hi => .inl (by subst hi; exact h.inp)⟩
  · rw [heap_setCell_same w G.p j _ _ u r1, hset lv]
  · exact own_keep r2 (fun g hg => by obtain ⟨cs, hcs⟩ := own_tag r2 hg; exact tag_ne hcs r1 (by decide)) hkp
  · have hr := r5 y hy
    exact ⟨own_keep hr.row (fun g hg => by obtain ⟨cs, hcs⟩ := own_tag hr.row hg; exact tag_ne hcs r1 (by decide)) hkp, hr.inn, hr.len, hr.wf⟩
theorem NetG.cnt_ (h : NetG w fp G l C c m) : w.cell? ⟨G.p, 2, none⟩ = some (.int .i64 c.s) ∧ w.cell? ⟨G.p, 3, none⟩ = some (.int .i64 c.t) ∧ w.cell? ⟨G.p, 4, none⟩ = some (.int .i64 c.x) ∧ ∀ j, w.frozen? ⟨G.p, j, none⟩ = false := by
  obtain ⟨lv, rows, r1, _⟩ := h.ex
  exact ⟨blk_cell r1 rfl, blk_cell r1 rfl, blk_cell r1 rfl, blk_free r1⟩
def sendC (l : List Pk) (c : Cnt) : Cnt := if l.length = 4096 then c else { c with s := c.s + 1 }
set_option maxHeartbeats 2000000 in
theorem send_any (p : Pk) (A : Option Addr) (n k : Nat) (h : NetG w fp G l C c m) (hx : c.s < 8000000000000000000) (hwf : p.wf) (hs : SlB w A n p.d) (hc : n ≤ k) (hn : n ≤ tokMax) :
    Calls Try.prog 11 #[.pointer (some ⟨G.p, 0, none⟩), .agg #[.int .i64 p.fs, .int .i64 p.fn, .int .i64 p.ts, .int .i64 p.tn, .slice A n k]] w (NetAns w fp G (addL l p) C (sendC l c) m (.bool (decide (l.length ≠ 4096)))) := by
  have h1 := h.below ((Below.refl _ w).alloc (Nat.le_refl _) (.cells #[.int .i64 p.fs, .int .i64 p.fn, .int .i64 p.ts, .int .i64 p.tn, .slice A n k] 32))
  have HC := Lib.hid (add_any p A n k h1 hwf (Sl.alloc hs _) hc hn)
  have hcn := h.cnt
  have hlt := Lib.hid h.lt
  unfold sendC
  by_cases hf : l.length = 4096
  · rw [if_pos hf]
    have e0 : decide (l.length ≠ 4096) = false := by simp [hf]
    rw [e0] at HC ⊢
    clear h h1 hf e0 hs hwf
    go_enter Try.func11, Try.ntmps11
    go_wp2_with fail
    refine HC.out.mono ?_
    rintro e w2 ⟨rfl, fp', h2, F2, g2⟩
    have HH := Lib.hid (And.intro h2 (And.intro F2 g2))
    clear h2 F2 g2 HC
    go_wp2
    go_ret
    exact ⟨rfl, fp', HH.out.1, ((Fr.alloc fp w _).trans HH.out.2.1 (fun i hi => .inl hi)), fun i hi => (HH.out.2.2 i hi).imp id (fun hh => by simp at hh; omega)⟩
  · rw [if_neg hf]
    have e0 : decide (l.length ≠ 4096) = true := by simp [hf]
    rw [e0] at HC ⊢
    clear h h1 hf e0 hs hwf
    go_enter Try.func11, Try.ntmps11
    go_wp2_with fail
    refine HC.out.mono ?_
    rintro e w2 ⟨rfl, fp', h2, F2, g2⟩
    obtain ⟨t2, t3, t4, tf⟩ := h2.cnt_
    have CA := Lib.hid (addI_any G.p 2 c.s w2 t2 (tf 2) hcn.1 (by omega))
    have H3 := h2.count (j := 2) (u := .int .i64 (c.s + 1)) (c' := { c with s := c.s + 1 }) ⟨by show 0 ≤ c.s + 1; omega, hcn.2.1, hcn.2.2⟩ (fun _ => rfl)
    have HH := Lib.hid (And.intro H3 (And.intro F2 g2))
    clear h2 F2 g2 HC H3 tf t2 t3 t4
    go_wp2_with fail
    refine CA.out.mono ?_
    rintro e w3 ⟨rfl, rfl⟩
    go_wp2
    go_ret
    exact ⟨rfl, fp', HH.out.1.1, ((Fr.alloc fp w _).trans HH.out.2.1 (fun i hi => .inl hi)).trans HH.out.1.2 (fun i hi => (HH.out.2.2 i hi).imp id (fun hh => by simp at hh; omega)), fun i hi => (HH.out.2.2 i hi).imp id (fun hh => by simp at hh; omega)⟩
def copyL (l : List Pk) (i : Int) : List Pk := match lookP l i with
  | none => l
  | some p => addL l p
def copyB (l : List Pk) (i : Int) : Bool := match lookP l i with
  | none => false
  | some p => decide (l.length ≠ 4096)
set_option maxHeartbeats 2000000 in
theorem copy_any (i : Int) (h : NetG w fp G l C c m) :
    Calls Try.prog 16 #[.pointer (some ⟨G.p, 0, none⟩), .int .i64 i] w (NetAns w fp G (copyL l i) C c m (.bool (copyB l i))) := by
  unfold copyL copyB
  rcases look_cases l i with ⟨hl, hi⟩ | ⟨k, p, rfl, hk, hp, hl⟩
  · rw [hl]
    have C1 := Lib.hid (has_no i h hi)
    have H := Lib.hid h
    clear h hi hl
    go_enter Try.func16, Try.ntmps16
    go_wp2_with fail
    refine C1.out.mono ?_
    rintro e w' ⟨rfl, rfl⟩
    go_wp2
    go_ret
    exact H.out.same
  · rw [hl]
    have C1 := Lib.hid (has_yes k h hk)
    obtain ⟨g, kc, A, n, cc, d0, d1, s1, s2, s3, hwf, _, _⟩ := h.at_ hp
    obtain ⟨e0, e1, e2, e3, e4⟩ := row5 d1
    have C2 := Lib.hid (add_any p A n cc h hwf s1 s2 s3)
    have i0 : (0 : Int) ≤ (k : Int) := by omega
    have i1 : (k : Int) < (l.length : Int) := by omega
    obtain ⟨bb, hbb⟩ : ∃ bb, decide (l.length ≠ 4096) = bb := ⟨_, rfl⟩
    simp only [hbb] at C2 ⊢
    clear h hl d1 hp s1 s2 s3 hwf hbb
    go_enter Try.func16, Try.ntmps16
    go_wp2_with fail
    refine C1.out.mono ?_
    rintro e w' ⟨rfl, rfl⟩
    go_wp2_with fail
    refine C2.out.mono ?_
    rintro e w2 ⟨rfl, fp', h2, F2, g2⟩
    have HH := Lib.hid (And.intro h2 (And.intro F2 g2))
    clear h2 F2 g2 C2 C1
    go_wp2
    go_ret
    exact ⟨rfl, fp', HH.out.1, HH.out.2.1, HH.out.2.2⟩
end
/-- What New leaves. -/
def NewN (w : World) (e : Ending) (w' : World) : Prop :=
  ∃ G fp, e = .returned (.pointer (some ⟨G.p, 0, none⟩)) ∧ NetG w' fp G [] (fun _ => false) ⟨0, 0, 0⟩ 0 ∧ Below w.heap.size w w' ∧ ∀ b, fp b → w.heap.size ≤ b
theorem newN_mk (w : World) : NewN w (.returned (.pointer (some ⟨w.heap.size + 1, 0, none⟩))) ((w.alloc (.map #[] 0)).alloc (.cells #[.slice none 0 0, .map (some w.heap.size), .int .i64 0, .int .i64 0, .int .i64 0] 63)) := by
  refine ⟨⟨w.heap.size + 1, w.heap.size⟩, fun b => b = w.heap.size ∨ b = w.heap.size + 1, rfl, ?_, ((Below.refl _ _).alloc (Nat.le_refl _) _).alloc (by simp) _, fun b hb => by omega⟩
  refine ⟨.inr rfl, .inl rfl, ⟨.slice none 0 0, [], ?_, World.ownsRow_nil _ _ _ _, fun g hg => by simp [Value.ownBlock] at hg, rfl, by simp, List.Pairwise.nil⟩, ⟨.map [], ?_, CutMap.nil⟩, by simp, ⟨by simp, by simp, by simp⟩, fun b hb => by simp; omega⟩
  · have := heap_alloc_new (w.alloc (.map #[] 0)) (.cells #[.slice none 0 0, .map (some w.heap.size), .int .i64 0, .int .i64 0, .int .i64 0] 63)
    simpa using this
  · exact (World.ownsMap_made w _ _ _).alloc _
set_option maxHeartbeats 1000000 in
theorem new_any (w : World) : Calls Try.prog 10 #[] w (NewN w) := by
  have hmm := @run_makeMap Try.prog
  have H := Lib.hid (newN_mk w)
  go_enter Try.func10, Try.ntmps10
  go_wp2
  go_ret
  exact H.out
end Go.Proofs.Ytcdbpimpmhfkhaa
