/-
  The document's network: Part, Parted.
-/
import Derived.Test.YtcdbpimpmhfkhaaNetRefLook
import Derived.Test.YtcdbpimpmhfkhaaNetPartsWalk
namespace Go.Proofs.Ytcdbpimpmhfkhaa
open Go.RowKit
set_option linter.unusedVariables false

/-- Is a pair of places these two? -/
def hitB (k : K4) (as_ an bs bn : Int) : Bool := (decide (k.a = as_ ∧ k.b = an) && decide (k.c = bs ∧ k.d = bn)) || (decide (k.a = bs ∧ k.b = bn) && decide (k.c = as_ ∧ k.d = an))
def partedL (cl : List K4) (as_ an bs bn : Int) : Bool := cl.any (fun k => hitB k as_ an bs bn)
def partL (cl : List K4) (as_ an bs bn : Int) (cut : Bool) : List K4 := cl.filter (fun k => !hitB k as_ an bs bn) ++ if (cut && !decide (as_ = bs ∧ an = bn)) = true then [⟨as_, an, bs, bn⟩] else []
theorem Try.infoPair : (Try.prog.info? 68).map (fun i => (i.zero, i.size, i.bytes)) = some (some (.agg #[.int .i64 0, .int .i64 0, .int .i64 0, .int .i64 0]), 4, 32) := by kernel_rfl
theorem kV_one (k : K4) : ∀ u ∈ kV k, u.oneCell' = true := by
  intro u hu
  simp [kV] at hu
  rcases hu with rfl | rfl | rfl | rfl <;> rfl
theorem k_lit (w : World) (k : K4) (t : TypeId) : Sl (w.alloc (.cells #[.int .i64 k.a, .int .i64 k.b, .int .i64 k.c, .int .i64 k.d] t)) (some ⟨w.heap.size, 0, none⟩) 1 4 (kV k) :=
  sl_lit w #[.int .i64 k.a, .int .i64 k.b, .int .i64 k.c, .int .i64 k.d] t w.heap.size 1 4 _ rfl rfl rfl
theorem cut_at {w : World} {A : Option Addr} {cl : List K4} (h : Sl w A cl.length 4 (cl.flatMap kV)) {k : Nat} {x : K4} (hx : cl[k]? = some x) :
    ∃ b off, A = some ⟨b, off, none⟩ ∧ w.cell? ⟨b, off + k * 4, none⟩ = some (.int .i64 x.a) ∧ w.cell? ⟨b, off + k * 4 + 1, none⟩ = some (.int .i64 x.b) ∧ w.cell? ⟨b, off + k * 4 + 2, none⟩ = some (.int .i64 x.c) ∧ w.cell? ⟨b, off + k * 4 + 3, none⟩ = some (.int .i64 x.d) := by
  have hk := (List.getElem?_eq_some_iff.1 hx).1
  obtain ⟨b, off, rfl, hc⟩ := h.2 (by omega)
  have e := fun r (u : Value) (hr : r < 4) (hu : (kV x)[r]? = some u) => hc (k * 4 + r) u ((flat_at kV_len cl k r x hx hr).trans hu)
  exact ⟨b, off, rfl, e 0 _ (by omega) rfl, e 1 _ (by omega) rfl, e 2 _ (by omega) rfl, e 3 _ (by omega) rfl⟩
theorem any_next {α : Type} {f : α → Bool} {l : List α} {k : Nat} {x : α} (hx : l[k]? = some x) (h : (l.take k).any f = false) (hf : f x = false) : (l.take (k + 1)).any f = false := by
  rw [List.take_add_one, hx, List.any_append, h]
  simp [hf]
theorem any_hit {α : Type} {f : α → Bool} {l : List α} {k : Nat} {x : α} (hx : l[k]? = some x) (hf : f x = true) : l.any f = true := List.any_eq_true.2 ⟨x, List.mem_of_getElem? hx, hf⟩
theorem filter_next {α : Type} (f : α → Bool) {l : List α} {k : Nat} {x : α} (hx : l[k]? = some x) : (l.take (k + 1)).filter f = (l.take k).filter f ++ if f x = true then [x] else [] := by
  rw [List.take_add_one, hx, List.filter_append]
  congr 1
  simp [List.filter_cons]
section
variable {w w' : World} {fp fp' : Nat → Prop} {q : Nat} {l : List Pk} {cl : List K4} {c : Cnt}
set_option maxHeartbeats 4000000 in
theorem refParted_any (as_ an bs bn : Int) (h : RNet w fp q l cl c) :
    Calls Try.prog 23 #[.pointer (some ⟨q, 0, none⟩), .agg #[.int .i64 as_, .int .i64 an], .agg #[.int .i64 bs, .int .i64 bn]] w (fun e w' => e = .returned (.bool (partedL cl as_ an bs bn)) ∧ Below w.heap.size w w') := by
  obtain ⟨A, kc, c1, hk1, hk2, hs⟩ := h.cuts_
  unfold maxLen at hk2
  have hlq := h.lt _ h.inp
  have bA : Below w.heap.size w ((w.alloc (.cells #[.int .i64 as_, .int .i64 an] 29)).alloc (.cells #[.int .i64 bs, .int .i64 bn] 29)) := ((Below.refl _ _).alloc (Nat.le_refl _) _).alloc (by simp) _
  have kA := (Below.heap_alloc (w.alloc (.cells #[.int .i64 as_, .int .i64 an] 29)) (.cells #[.int .i64 bs, .int .i64 bn] 29) w.heap.size (by simp)).trans (heap_alloc_new w (.cells #[.int .i64 as_, .int .i64 an] 29))
  have kB := heap_alloc_new (w.alloc (.cells #[.int .i64 as_, .int .i64 an] 29)) (.cells #[.int .i64 bs, .int .i64 bn] 29)
  rw [show (w.alloc (.cells #[.int .i64 as_, .int .i64 an] 29)).heap.size = w.heap.size + 1 by simp] at kB
  have HBA := Lib.hid bA
  have HC1 := Lib.hid c1
  have HS := Lib.hid hs
  have HKA := Lib.hid kA
  have HKB := Lib.hid kB
  clear h c1 hs bA kA kB
  go_enter Try.func23, Try.ntmps23
  go_wp2
  generalize hw2 : (w.alloc (.cells #[.int .i64 as_, .int .i64 an] 29)).alloc (.cells #[.int .i64 bs, .int .i64 bn] 29) = w2 at *
  clear hw2
  go_loopw [7] (fun i wr => ∃ k : Nat, i = .int .i64 (k : Int) ∧ k ≤ cl.length ∧ Hid ((cl.take k).any (fun k => hitB k as_ an bs bn) = false) ∧ Hid (Below w2.heap.size w2 wr)) (fun i _ => cl.length - (intOf i).toNat)
  case atStart => exact ⟨0, rfl, Nat.zero_le _, Lib.hid rfl, Below.refl _ _⟩
  case round =>
    obtain ⟨k, rfl, hk, HA, HB⟩ := hrel
    have BW := HBA.out.trans (HB.out.mono HBA.out.size)
    have HB4 := Lib.hid BW
    have c1 := (BW.cell (World.block_lt_of_cell? w _ HC1.out)).trans HC1.out
    by_cases hlt : k < cl.length
    · obtain ⟨x, hx⟩ : ∃ x, cl[k]? = some x := ⟨_, List.getElem?_eq_getElem hlt⟩
      obtain ⟨b, off, rfl, d1, d2, d3, d4⟩ := cut_at HS.out hx
      have x1 := (BW.cell (World.block_lt_of_cell? w _ d1)).trans d1
      have x2 := (BW.cell (World.block_lt_of_cell? w _ d2)).trans d2
      have x3 := (BW.cell (World.block_lt_of_cell? w _ d3)).trans d3
      have x4 := (BW.cell (World.block_lt_of_cell? w _ d4)).trans d4
      have hA := (HB.out.block _ (lt_of_block HKA.out)).trans HKA.out
      have hB := (HB.out.block _ (lt_of_block HKB.out)).trans HKB.out
      have y1 := blk_cell (j := 0) hA rfl
      have y2 := blk_cell (j := 1) hA rfl
      have y3 := blk_cell (j := 0) hB rfl
      have y4 := blk_cell (j := 1) hB rfl
      have hsA := lt_of_block hA
      have hsB := lt_of_block hB
      have i0 : (0 : Int) ≤ (k : Int) := by omega
      have i1 : (k : Int) < (cl.length : Int) := by omega
      have HX := Lib.hid hx
      have HB5 := Lib.hid (HB.out.alloc HB.out.size (.cells #[.int .i64 x.a, .int .i64 x.b, .int .i64 x.c, .int .i64 x.d] 68))
      have HB4' := Lib.hid (HB4.out.alloc HB4.out.size (.cells #[.int .i64 x.a, .int .i64 x.b, .int .i64 x.c, .int .i64 x.d] 68))
      clear HB4
      have HB4 := HB4'
      clear HB4' d1 d2 d3 d4 hx hA hB BW
      obtain ⟨b1, h1⟩ : ∃ b1, decide (x.a = as_ ∧ x.b = an) = b1 := ⟨_, rfl⟩
      obtain ⟨b2, h2⟩ : ∃ b2, decide (x.c = bs ∧ x.d = bn) = b2 := ⟨_, rfl⟩
      obtain ⟨b3, h3⟩ : ∃ b3, decide (x.a = bs ∧ x.b = bn) = b3 := ⟨_, rfl⟩
      obtain ⟨b4, h4⟩ : ∃ b4, decide (x.c = as_ ∧ x.d = an) = b4 := ⟨_, rfl⟩
      have hit : hitB x as_ an bs bn = (b1 && b2 || b3 && b4) := by unfold hitB; rw [h1, h2, h3, h4]
      have q1 := eq_addr x.a x.b as_ an
      have q2 := eq_addr x.c x.d bs bn
      have q3 := eq_addr x.a x.b bs bn
      have q4 := eq_addr x.c x.d as_ an
      rw [h1] at q1
      rw [h2] at q2
      rw [h3] at q3
      rw [h4] at q4
      clear h1 h2 h3 h4
      cases b1
      · cases b3
        · have HN := Lib.hid (any_next (f := fun k => hitB k as_ an bs bn) HX.out HA.out (hit.trans (by rfl)))
          clear hit
          go_wp2
          go_roundw
          case rel => exact ⟨k + 1, by go_num, by omega, HN, HB5⟩
          case measure => simp [intOf]; omega
        · cases b4
          · have HN := Lib.hid (any_next (f := fun k => hitB k as_ an bs bn) HX.out HA.out (hit.trans (by rfl)))
            clear hit
            go_wp2
            go_roundw
            case rel => exact ⟨k + 1, by go_num, by omega, HN, HB5⟩
            case measure => simp [intOf]; omega
          · have HN := Lib.hid (any_hit (f := fun k => hitB k as_ an bs bn) HX.out (hit.trans (by rfl)))
            clear hit
            go_wp2
            go_ret
            exact ⟨by rw [show partedL cl as_ an bs bn = true from HN.out]; rfl, HB4.out⟩
      · cases b2
        · cases b3
          · have HN := Lib.hid (any_next (f := fun k => hitB k as_ an bs bn) HX.out HA.out (hit.trans (by rfl)))
            clear hit
            go_wp2
            go_roundw
            case rel => exact ⟨k + 1, by go_num, by omega, HN, HB5⟩
            case measure => simp [intOf]; omega
          · cases b4
            · have HN := Lib.hid (any_next (f := fun k => hitB k as_ an bs bn) HX.out HA.out (hit.trans (by rfl)))
              clear hit
              go_wp2
              go_roundw
              case rel => exact ⟨k + 1, by go_num, by omega, HN, HB5⟩
              case measure => simp [intOf]; omega
            · have HN := Lib.hid (any_hit (f := fun k => hitB k as_ an bs bn) HX.out (hit.trans (by rfl)))
              clear hit
              go_wp2
              go_ret
              exact ⟨by rw [show partedL cl as_ an bs bn = true from HN.out]; rfl, HB4.out⟩
        · have HN := Lib.hid (any_hit (f := fun k => hitB k as_ an bs bn) HX.out (hit.trans (by rfl)))
          clear hit
          go_wp2
          go_ret
          exact ⟨by rw [show partedL cl as_ an bs bn = true from HN.out]; rfl, HB4.out⟩
    · obtain rfl : k = cl.length := by omega
      have HN := Lib.hid (show partedL cl as_ an bs bn = false from by have h := HA.out; rw [List.take_of_length_le (Nat.le_refl _)] at h; exact h)
      clear BW
      go_wp2
      go_ret
      exact ⟨by rw [HN.out]; rfl, HB4.out⟩
/-- Other pairs are laid. -/
theorem RNet.recut (h : RNet w fp q l cl c) {lv cv v3 : Value} {rows : List RPk} {cl' : List K4} {w3 : World} (hp : RParts w fp q l cl c lv cv rows) (hF : Below w.heap.size w w3)
    (own3 : w3.ownsRow w.heap.size 68 4 v3 cl'.length (cl'.flatMap kV)) :
    RNet (w3.setCell ⟨q, 1, none⟩ v3) (fpN w w3 fp) q l cl' c ∧ (∀ j, w3.frozen? ⟨q, j, none⟩ = false) ∧ Fr fp w (w3.setCell ⟨q, 1, none⟩ v3) := by
  have hp3 := hp.kept h.inp (Kept.below hF)
  obtain ⟨h1, h2, h3, h4, h5, h6, h7⟩ := hp3
  have hkq : Kept (fun b => b ≠ q) w3 (w3.setCell ⟨q, 1, none⟩ v3) := Kept.set _ (fun hh => hh rfl)
  have tag : ∀ {b : Nat} {cs : Array Value} {t : TypeId}, t ≠ 51 → w3.heap[b]? = some (.cells cs t (0, 0)) → b ≠ q := fun ht hb => tag_ne hb h1 ht
  refine ⟨⟨.inl h.inp, ⟨lv, v3, rows, ?_, ?_, fun g hg => .inl (h3 g hg), h4, ?_, ?_, ?_⟩, ?_⟩, blk_free h1, (Fr.of_below (fp := fp) hF).trans (Fr.set w3 ⟨q, 1, none⟩ v3) (fun i hi => by subst hi; exact .inl h.inp)⟩
  · rw [heap_setCell_same w3 q 1 _ _ v3 h1]; rfl
  · exact own_keep h2 (fp := fun b => b ≠ q) (fun g hg => by obtain ⟨cs, hcs⟩ := own_tag h2 hg; exact tag (by decide) hcs) hkq
  · exact fun y hy => ⟨((h5 y hy).1.keep fun b cs hb ho => hkq b _ (tag (by decide) ho) ho).mono (fun b _ hb => .inl hb), (h5 y hy).2⟩
  · exact own_keep (own_lower own3 (Nat.zero_le _)) (fp := fun b => b ≠ q) (fun g hg => by obtain ⟨cs, hcs⟩ := own_tag own3 hg; exact tag (by decide) hcs) hkq
  · exact fun g hg => .inr (own3.lt g hg)
  · intro b hb
    rcases hb with hb | hb
    · have := h.lt b hb
      have := hF.size
      simp
      omega
    · simpa using hb.2
set_option maxHeartbeats 4000000 in
theorem refPart_any (as_ an bs bn : Int) (cut : Bool) (h : RNet w fp q l cl c) (hcl : cl.length ≤ 2000000000000) :
    Calls Try.prog 36 #[.pointer (some ⟨q, 0, none⟩), .agg #[.int .i64 as_, .int .i64 an], .agg #[.int .i64 bs, .int .i64 bn], .bool cut] w (RTo w fp q l (partL cl as_ an bs bn cut) c (.tuple #[])) := by
  obtain ⟨i0, hi, hz0, hz1, hz2⟩ := info_parts Try.infoPair
  obtain ⟨A, kc, c1, hk1, hk2, hs⟩ := h.cuts_
  have hlq := h.lt _ h.inp
  have bA : Below w.heap.size w ((w.alloc (.cells #[.int .i64 as_, .int .i64 an] 29)).alloc (.cells #[.int .i64 bs, .int .i64 bn] 29)) := ((Below.refl _ _).alloc (Nat.le_refl _) _).alloc (by simp) _
  have kA := (Below.heap_alloc (w.alloc (.cells #[.int .i64 as_, .int .i64 an] 29)) (.cells #[.int .i64 bs, .int .i64 bn] 29) w.heap.size (by simp)).trans (heap_alloc_new w (.cells #[.int .i64 as_, .int .i64 an] 29))
  have kB := heap_alloc_new (w.alloc (.cells #[.int .i64 as_, .int .i64 an] 29)) (.cells #[.int .i64 bs, .int .i64 bn] 29)
  rw [show (w.alloc (.cells #[.int .i64 as_, .int .i64 an] 29)).heap.size = w.heap.size + 1 by simp] at kB
  have HH := Lib.hid h
  have HBA := Lib.hid bA
  have HC1 := Lib.hid c1
  have HS := Lib.hid hs
  have HKA := Lib.hid kA
  have HKB := Lib.hid kB
  clear h c1 hs bA kA kB hk2
  go_enter Try.func36, Try.ntmps36
  go_wp2
  generalize hw2 : (w.alloc (.cells #[.int .i64 as_, .int .i64 an] 29)).alloc (.cells #[.int .i64 bs, .int .i64 bn] 29) = w2 at *
  clear hw2
  have hw2s := HBA.out.size
  go_loopw [8, 9] (fun v i wr => ∃ (k m co : Nat) (Ao : Option Addr), v = .slice Ao m co ∧ i = .int .i64 (k : Int) ∧ k ≤ cl.length ∧ m ≤ k ∧ Hid (wr.ownsRow w2.heap.size 68 4 (.slice Ao m co) m (((cl.take k).filter (fun k => !hitB k as_ an bs bn)).flatMap kV)) ∧ Hid (Below w2.heap.size w2 wr)) (fun _ i _ => cl.length - (intOf i).toNat)
  case atStart => exact ⟨0, 0, 0, none, rfl, rfl, Nat.zero_le _, Nat.le_refl _, Lib.hid (World.ownsRow_nil _ _ _ _), Below.refl _ _⟩
  case round =>
    obtain ⟨k, m, co, Ao, rfl, rfl, hk, hm, HO, HB⟩ := hrel
    have BW := HBA.out.trans (HB.out.mono HBA.out.size)
    have c1 := (BW.cell (World.block_lt_of_cell? w _ HC1.out)).trans HC1.out
    have hA := (HB.out.block _ (lt_of_block HKA.out)).trans HKA.out
    have hB := (HB.out.block _ (lt_of_block HKB.out)).trans HKB.out
    have y1 := blk_cell (j := 0) hA rfl
    have y2 := blk_cell (j := 1) hA rfl
    have y3 := blk_cell (j := 0) hB rfl
    have y4 := blk_cell (j := 1) hB rfl
    have hsA := lt_of_block hA
    have hsB := lt_of_block hB
    have hszr := HB.out.size
    by_cases hlt : k < cl.length
    · obtain ⟨x, hx⟩ : ∃ x, cl[k]? = some x := ⟨_, List.getElem?_eq_getElem hlt⟩
      obtain ⟨b, off, rfl, d1, d2, d3, d4⟩ := cut_at HS.out hx
      have x1 := (BW.cell (World.block_lt_of_cell? w _ d1)).trans d1
      have x2 := (BW.cell (World.block_lt_of_cell? w _ d2)).trans d2
      have x3 := (BW.cell (World.block_lt_of_cell? w _ d3)).trans d3
      have x4 := (BW.cell (World.block_lt_of_cell? w _ d4)).trans d4
      have i0' : (0 : Int) ≤ (k : Int) := by omega
      have i1' : (k : Int) < (cl.length : Int) := by omega
      have HX := Lib.hid hx
      have HB5 := Lib.hid (HB.out.alloc HB.out.size (.cells #[.int .i64 x.a, .int .i64 x.b, .int .i64 x.c, .int .i64 x.d] 68))
      clear d1 d2 d3 d4 hx hA hB BW
      obtain ⟨b1, h1⟩ : ∃ b1, decide (x.a = as_ ∧ x.b = an) = b1 := ⟨_, rfl⟩
      obtain ⟨b2, h2⟩ : ∃ b2, decide (x.c = bs ∧ x.d = bn) = b2 := ⟨_, rfl⟩
      obtain ⟨b3, h3⟩ : ∃ b3, decide (x.a = bs ∧ x.b = bn) = b3 := ⟨_, rfl⟩
      obtain ⟨b4, h4⟩ : ∃ b4, decide (x.c = as_ ∧ x.d = an) = b4 := ⟨_, rfl⟩
      have hit : hitB x as_ an bs bn = (b1 && b2 || b3 && b4) := by unfold hitB; rw [h1, h2, h3, h4]
      have q1 := eq_addr x.a x.b as_ an
      have q2 := eq_addr x.c x.d bs bn
      have q3 := eq_addr x.a x.b bs bn
      have q4 := eq_addr x.c x.d as_ an
      rw [h1] at q1
      rw [h2] at q2
      rw [h3] at q3
      rw [h4] at q4
      clear h1 h2 h3 h4
      cases b1
      · cases b3
        · have HN := Lib.hid (show (cl.take (k + 1)).filter (fun k => !hitB k as_ an bs bn) = (cl.take k).filter (fun k => !hitB k as_ an bs bn) ++ [x] from by rw [filter_next _ HX.out, hit]; rfl)
          clear hit
          go_wp2_with (first | (at_builtin; refine wpList_append_sl _ rfl (.tmp 50) (.tmp 52) 49 rfl w2.heap.size 68 i0 (.agg #[.int .i64 0, .int .i64 0, .int .i64 0, .int .i64 0]) 4 32 Try.underlying49 hi hz0 hz1 hz2 rfl (by decide) (.slice Ao m co) m (((cl.take k).filter (fun k => !hitB k as_ an bs bn)).flatMap kV) rfl ((HO.out.alloc (.cells #[.int .i64 x.a, .int .i64 x.b, .int .i64 x.c, .int .i64 x.d] 68)).alloc _) (some ⟨wr.heap.size + 1, 0, none⟩) 1 1 (kV x) rfl (sl_lit _ #[.int .i64 x.a, .int .i64 x.b, .int .i64 x.c, .int .i64 x.d] _ _ 1 4 _ (by simp) rfl rfl) (kV_one x) (by unfold maxLen; omega) (by omega) (by simp; omega) ?_) | fail)
          intro v3 w3 own3 g3 _
          obtain ⟨A3, c3, rfl, -, -⟩ := own_slice own3
          have hG := (HO.out.alloc (.cells #[.int .i64 x.a, .int .i64 x.b, .int .i64 x.c, .int .i64 x.d] 68)).alloc (.cells #[.int .i64 x.a, .int .i64 x.b, .int .i64 x.c, .int .i64 x.d] 68)
          have HB3 := Lib.hid ((HB5.out.alloc HB5.out.size (.cells #[.int .i64 x.a, .int .i64 x.b, .int .i64 x.c, .int .i64 x.d] 68)).grown g3 (by simp; omega) (fun r hr => (hG.lt r hr).1))
          have HO3 := Lib.hid (show w3.ownsRow w2.heap.size 68 4 (.slice A3 (m + 1) c3) (m + 1) (((cl.take (k + 1)).filter (fun k => !hitB k as_ an bs bn)).flatMap kV) from by rw [HN.out, List.flatMap_append]; simpa using own3)
          clear own3 g3 hG x1 x2 x3 x4 y1 y2 y3 y4 q1 q2 q3 q4
          go_wp2
          go_roundw
          case rel => exact ⟨k + 1, m + 1, c3, A3, rfl, by go_num, by omega, by omega, HO3, HB3⟩
          case measure => simp [intOf]; omega
        · cases b4
          · have HN := Lib.hid (show (cl.take (k + 1)).filter (fun k => !hitB k as_ an bs bn) = (cl.take k).filter (fun k => !hitB k as_ an bs bn) ++ [x] from by rw [filter_next _ HX.out, hit]; rfl)
            clear hit
            go_wp2_with (first | (at_builtin; refine wpList_append_sl _ rfl (.tmp 50) (.tmp 52) 49 rfl w2.heap.size 68 i0 (.agg #[.int .i64 0, .int .i64 0, .int .i64 0, .int .i64 0]) 4 32 Try.underlying49 hi hz0 hz1 hz2 rfl (by decide) (.slice Ao m co) m (((cl.take k).filter (fun k => !hitB k as_ an bs bn)).flatMap kV) rfl ((HO.out.alloc (.cells #[.int .i64 x.a, .int .i64 x.b, .int .i64 x.c, .int .i64 x.d] 68)).alloc _) (some ⟨wr.heap.size + 1, 0, none⟩) 1 1 (kV x) rfl (sl_lit _ #[.int .i64 x.a, .int .i64 x.b, .int .i64 x.c, .int .i64 x.d] _ _ 1 4 _ (by simp) rfl rfl) (kV_one x) (by unfold maxLen; omega) (by omega) (by simp; omega) ?_) | fail)
            intro v3 w3 own3 g3 _
            obtain ⟨A3, c3, rfl, -, -⟩ := own_slice own3
            have hG := (HO.out.alloc (.cells #[.int .i64 x.a, .int .i64 x.b, .int .i64 x.c, .int .i64 x.d] 68)).alloc (.cells #[.int .i64 x.a, .int .i64 x.b, .int .i64 x.c, .int .i64 x.d] 68)
            have HB3 := Lib.hid ((HB5.out.alloc HB5.out.size (.cells #[.int .i64 x.a, .int .i64 x.b, .int .i64 x.c, .int .i64 x.d] 68)).grown g3 (by simp; omega) (fun r hr => (hG.lt r hr).1))
            have HO3 := Lib.hid (show w3.ownsRow w2.heap.size 68 4 (.slice A3 (m + 1) c3) (m + 1) (((cl.take (k + 1)).filter (fun k => !hitB k as_ an bs bn)).flatMap kV) from by rw [HN.out, List.flatMap_append]; simpa using own3)
            clear own3 g3 hG x1 x2 x3 x4 y1 y2 y3 y4 q1 q2 q3 q4
            go_wp2
            go_roundw
            case rel => exact ⟨k + 1, m + 1, c3, A3, rfl, by go_num, by omega, by omega, HO3, HB3⟩
            case measure => simp [intOf]; omega
          · have HN := Lib.hid (show (cl.take (k + 1)).filter (fun k => !hitB k as_ an bs bn) = (cl.take k).filter (fun k => !hitB k as_ an bs bn) from by rw [filter_next _ HX.out, hit]; simp)
            clear hit
            go_wp2
            go_roundw
            case rel => exact ⟨k + 1, m, co, Ao, rfl, by go_num, by omega, by omega, by rw [HN.out]; exact Lib.hid (HO.out.alloc _), HB5⟩
            case measure => simp [intOf]; omega
      · cases b2
        · cases b3
          · have HN := Lib.hid (show (cl.take (k + 1)).filter (fun k => !hitB k as_ an bs bn) = (cl.take k).filter (fun k => !hitB k as_ an bs bn) ++ [x] from by rw [filter_next _ HX.out, hit]; rfl)
            clear hit
            go_wp2_with (first | (at_builtin; refine wpList_append_sl _ rfl (.tmp 50) (.tmp 52) 49 rfl w2.heap.size 68 i0 (.agg #[.int .i64 0, .int .i64 0, .int .i64 0, .int .i64 0]) 4 32 Try.underlying49 hi hz0 hz1 hz2 rfl (by decide) (.slice Ao m co) m (((cl.take k).filter (fun k => !hitB k as_ an bs bn)).flatMap kV) rfl ((HO.out.alloc (.cells #[.int .i64 x.a, .int .i64 x.b, .int .i64 x.c, .int .i64 x.d] 68)).alloc _) (some ⟨wr.heap.size + 1, 0, none⟩) 1 1 (kV x) rfl (sl_lit _ #[.int .i64 x.a, .int .i64 x.b, .int .i64 x.c, .int .i64 x.d] _ _ 1 4 _ (by simp) rfl rfl) (kV_one x) (by unfold maxLen; omega) (by omega) (by simp; omega) ?_) | fail)
            intro v3 w3 own3 g3 _
            obtain ⟨A3, c3, rfl, -, -⟩ := own_slice own3
            have hG := (HO.out.alloc (.cells #[.int .i64 x.a, .int .i64 x.b, .int .i64 x.c, .int .i64 x.d] 68)).alloc (.cells #[.int .i64 x.a, .int .i64 x.b, .int .i64 x.c, .int .i64 x.d] 68)
            have HB3 := Lib.hid ((HB5.out.alloc HB5.out.size (.cells #[.int .i64 x.a, .int .i64 x.b, .int .i64 x.c, .int .i64 x.d] 68)).grown g3 (by simp; omega) (fun r hr => (hG.lt r hr).1))
            have HO3 := Lib.hid (show w3.ownsRow w2.heap.size 68 4 (.slice A3 (m + 1) c3) (m + 1) (((cl.take (k + 1)).filter (fun k => !hitB k as_ an bs bn)).flatMap kV) from by rw [HN.out, List.flatMap_append]; simpa using own3)
            clear own3 g3 hG x1 x2 x3 x4 y1 y2 y3 y4 q1 q2 q3 q4
            go_wp2
            go_roundw
            case rel => exact ⟨k + 1, m + 1, c3, A3, rfl, by go_num, by omega, by omega, HO3, HB3⟩
            case measure => simp [intOf]; omega
          · cases b4
            · have HN := Lib.hid (show (cl.take (k + 1)).filter (fun k => !hitB k as_ an bs bn) = (cl.take k).filter (fun k => !hitB k as_ an bs bn) ++ [x] from by rw [filter_next _ HX.out, hit]; rfl)
              clear hit
              go_wp2_with (first | (at_builtin; refine wpList_append_sl _ rfl (.tmp 50) (.tmp 52) 49 rfl w2.heap.size 68 i0 (.agg #[.int .i64 0, .int .i64 0, .int .i64 0, .int .i64 0]) 4 32 Try.underlying49 hi hz0 hz1 hz2 rfl (by decide) (.slice Ao m co) m (((cl.take k).filter (fun k => !hitB k as_ an bs bn)).flatMap kV) rfl ((HO.out.alloc (.cells #[.int .i64 x.a, .int .i64 x.b, .int .i64 x.c, .int .i64 x.d] 68)).alloc _) (some ⟨wr.heap.size + 1, 0, none⟩) 1 1 (kV x) rfl (sl_lit _ #[.int .i64 x.a, .int .i64 x.b, .int .i64 x.c, .int .i64 x.d] _ _ 1 4 _ (by simp) rfl rfl) (kV_one x) (by unfold maxLen; omega) (by omega) (by simp; omega) ?_) | fail)
              intro v3 w3 own3 g3 _
              obtain ⟨A3, c3, rfl, -, -⟩ := own_slice own3
              have hG := (HO.out.alloc (.cells #[.int .i64 x.a, .int .i64 x.b, .int .i64 x.c, .int .i64 x.d] 68)).alloc (.cells #[.int .i64 x.a, .int .i64 x.b, .int .i64 x.c, .int .i64 x.d] 68)
              have HB3 := Lib.hid ((HB5.out.alloc HB5.out.size (.cells #[.int .i64 x.a, .int .i64 x.b, .int .i64 x.c, .int .i64 x.d] 68)).grown g3 (by simp; omega) (fun r hr => (hG.lt r hr).1))
              have HO3 := Lib.hid (show w3.ownsRow w2.heap.size 68 4 (.slice A3 (m + 1) c3) (m + 1) (((cl.take (k + 1)).filter (fun k => !hitB k as_ an bs bn)).flatMap kV) from by rw [HN.out, List.flatMap_append]; simpa using own3)
              clear own3 g3 hG x1 x2 x3 x4 y1 y2 y3 y4 q1 q2 q3 q4
              go_wp2
              go_roundw
              case rel => exact ⟨k + 1, m + 1, c3, A3, rfl, by go_num, by omega, by omega, HO3, HB3⟩
              case measure => simp [intOf]; omega
            · have HN := Lib.hid (show (cl.take (k + 1)).filter (fun k => !hitB k as_ an bs bn) = (cl.take k).filter (fun k => !hitB k as_ an bs bn) from by rw [filter_next _ HX.out, hit]; simp)
              clear hit
              go_wp2
              go_roundw
              case rel => exact ⟨k + 1, m, co, Ao, rfl, by go_num, by omega, by omega, by rw [HN.out]; exact Lib.hid (HO.out.alloc _), HB5⟩
              case measure => simp [intOf]; omega
        · have HN := Lib.hid (show (cl.take (k + 1)).filter (fun k => !hitB k as_ an bs bn) = (cl.take k).filter (fun k => !hitB k as_ an bs bn) from by rw [filter_next _ HX.out, hit]; simp)
          clear hit
          go_wp2
          go_roundw
          case rel => exact ⟨k + 1, m, co, Ao, rfl, by go_num, by omega, by omega, by rw [HN.out]; exact Lib.hid (HO.out.alloc _), HB5⟩
          case measure => simp [intOf]; omega
    · obtain rfl : k = cl.length := by omega
      obtain ⟨lv, cv, rows, hp⟩ := HH.out.ex
      have HP := Lib.hid hp
      have HBW := Lib.hid BW
      have ho := HO.out
      rw [List.take_of_length_le (Nat.le_refl _)] at ho
      have HO := Lib.hid ho
      have q0 := neq_addr as_ an bs bn
      obtain ⟨b0, h0⟩ : ∃ b0, (!decide (as_ = bs ∧ an = bn)) = b0 := ⟨_, rfl⟩
      rw [h0] at q0
      have HPL := Lib.hid (show partL cl as_ an bs bn cut = cl.filter (fun k => !hitB k as_ an bs bn) ++ if (cut && b0) = true then [⟨as_, an, bs, bn⟩] else [] from by unfold partL; rw [h0])
      clear hp ho hA hB BW h0
      have lenf : m = (cl.filter (fun k => !hitB k as_ an bs bn)).length := by have e1 := HO.out.1; rw [flat_len kV_len] at e1; omega
      have HLF := Lib.hid lenf
      clear lenf
      cases hcb : (cut && b0)
      · have HE := Lib.hid (HH.out.recut (cl' := partL cl as_ an bs bn cut) (v3 := .slice Ao m co) HP.out HBW.out (by rw [HPL.out, hcb, if_neg (by decide), List.append_nil, ← HLF.out]; exact own_lower HO.out hw2s))
        have z0 := HE.out.2.1 1
        cases cut
        · clear hcb
          go_wp2
          refine bodyPost_ret (results_none rfl _ _ _) rfl ?_
          exact ⟨rfl, _, HE.out.1, HE.out.2.2, fun i hi => hi.elim .inl (fun hh => .inr hh.1)⟩
        · obtain rfl : b0 = false := by simpa using hcb
          clear hcb
          go_wp2
          refine bodyPost_ret (results_none rfl _ _ _) rfl ?_
          exact ⟨rfl, _, HE.out.1, HE.out.2.2, fun i hi => hi.elim .inl (fun hh => .inr hh.1)⟩
      · obtain ⟨rfl, rfl⟩ : cut = true ∧ b0 = true := by simpa using hcb
        clear hcb
        go_wp2_with (first | (at_builtin; refine wpList_append_sl _ rfl (.tmp 60) (.tmp 64) 49 rfl w2.heap.size 68 i0 (.agg #[.int .i64 0, .int .i64 0, .int .i64 0, .int .i64 0]) 4 32 Try.underlying49 hi hz0 hz1 hz2 rfl (by decide) (.slice Ao m co) m ((cl.filter (fun k => !hitB k as_ an bs bn)).flatMap kV) rfl (HO.out.alloc _) (some ⟨wr.heap.size, 0, none⟩) 1 1 (kV ⟨as_, an, bs, bn⟩) rfl (k_lit wr ⟨as_, an, bs, bn⟩ _) (kV_one _) (by unfold maxLen; omega) (by omega) (by simp; omega) ?_) | fail)
        intro v3 w3 own3 g3 _
        obtain ⟨A3, c3, rfl, -, -⟩ := own_slice own3
        have hG := HO.out.alloc (.cells #[.int .i64 as_, .int .i64 an, .int .i64 bs, .int .i64 bn] 68)
        have bw3 : Below w.heap.size w w3 := (HBW.out.alloc HBW.out.size (.cells #[.int .i64 as_, .int .i64 an, .int .i64 bs, .int .i64 bn] 68)).grown g3 (by simp; omega) (fun r hr => Nat.le_trans hw2s (hG.lt r hr).1)
        have HE := Lib.hid (HH.out.recut (cl' := partL cl as_ an bs bn true) (v3 := .slice A3 (m + 1) c3) HP.out bw3 (by
          rw [HPL.out, if_pos (show (true && true) = true from rfl), List.length_append, ← HLF.out, List.flatMap_append]
          have o := own_lower own3 hw2s
          simpa using o))
        have z0 := HE.out.2.1 1
        have c1' := (bw3.cell (World.block_lt_of_cell? w _ HC1.out)).trans HC1.out
        clear own3 g3 hG bw3
        go_wp2
        refine bodyPost_ret (results_none rfl _ _ _) rfl ?_
        exact ⟨rfl, _, HE.out.1, HE.out.2.2, fun i hi => hi.elim .inl (fun hh => .inr hh.1)⟩
end
end Go.Proofs.Ytcdbpimpmhfkhaa
