/-
  What is shown of a set: the program's answer, new memory, and the document's. Does one set lack something of another?
-/
import Derived.Test.YtlcfknpmnoghbaaVerRefMerge
namespace Go.Proofs.Ytlcfknpmnoghbaa
open Go.RowKit
set_option linter.unusedVariables false

def shownV (l : List Vr) : List Vr := l.filter fun v => !v.gone
theorem shown_yes {l : List Vr} {k : Nat} {v : Vr} (h : l[k]? = some v) (hg : v.gone = false) : shownV (l.take (k + 1)) = shownV (l.take k) ++ [v] := by
  unfold shownV
  rw [List.take_add_one, h, Option.toList_some, List.filter_append]
  simp [hg]
theorem shown_no {l : List Vr} {k : Nat} {v : Vr} (h : l[k]? = some v) (hg : v.gone = true) : shownV (l.take (k + 1)) = shownV (l.take k) := by
  unfold shownV
  rw [List.take_add_one, h, Option.toList_some, List.filter_append]
  simp [hg]
theorem shown_len (l : List Vr) : (shownV l).length ≤ l.length := List.length_filter_le _ _
theorem shown_all {l : List Vr} {k : Nat} (h : l.length ≤ k) : shownV (l.take k) = shownV l := by rw [List.take_of_length_le h]
/-- What a call leaves that answers versions of its own. -/
def NewVersS (w : World) (l : List Vr) (e : Ending) (w' : World) : Prop :=
  ∃ A n c rows, e = .returned (.slice A n c) ∧ OwnV w' w.heap.size (.slice A n c) n rows ∧ rows.map (·.1) = l ∧ n ≤ c ∧ Below w.heap.size w w'
/-- A version's copy is laid behind the row. -/
theorem OwnV.copy {w0 w w3 w6 : World} {Ao : Option Addr} {no co : Nat} {rows : List RV} {v : Vr} {A' : Option Addr} {np c' : Nat} {v' : Option Addr} {cv : Nat} {B3 : Nat} {o : Obj}
    (h : OwnV w w0.heap.size (.slice Ao no co) no rows) (hb : Below w0.heap.size w0 w) (hp : w3.ownsRow B3 42 3 (.slice A' np c') np (spV v.past)) (hf : VFix v np c') (hB3 : w.heap.size < B3) (b3 : Below w.heap.size w w3) (hlt : w.heap.size < w3.heap.size)
    (own' : w6.ownsRow w0.heap.size 28 5 (.slice v' (no + 1) cv) (no + 1) (rows.flatMap vV1 ++ [.int .i64 v.s, .int .i64 v.n, .slice A' np c', .bool v.gone, .string v.val]))
    (hg : ((w3.setCell ⟨w.heap.size, 2, none⟩ (.slice A' np c')).alloc o).grownBy w6 (Value.slice Ao no co).ownBlock) :
    OwnV w6 w0.heap.size (.slice v' (no + 1) cv) (no + 1) (rows ++ [(v, A', np, c')]) ∧ Below w0.heap.size w0 w6 := by
  have hsz := hb.size
  have s3 := b3.size
  have hfar := h.far (Nat.le_refl w.heap.size)
  have o4 : OwnV (w3.setCell ⟨w.heap.size, 2, none⟩ (.slice A' np c')) w0.heap.size (.slice Ao no co) no rows := (h.below b3).setCell hfar.1 hfar.2 _
  have p4 : (w3.setCell ⟨w.heap.size, 2, none⟩ (.slice A' np c')).ownsRow w0.heap.size 42 3 (.slice A' np c') np (spV v.past) :=
    own_lower (ownsRow_setCell_other hp (fun e => by have := (hp.lt w.heap.size e).1; omega) _) (by omega)
  refine ⟨OwnV.push (y := (v, A', np, c')) (o4.alloc o) (p4.alloc o) hf own' hg, ?_⟩
  refine (((hb.trans (b3.mono hsz)).setCell (p := ⟨w.heap.size, 2, none⟩) hsz (.slice A' np c')).alloc (by simp; omega) o).grown hg (by simp; omega) (fun k hk => ?_)
  exact (h.1.lt k hk).1

set_option maxHeartbeats 4000000 in
set_option maxRecDepth 100000 in
theorem shown_any (A : Option Addr) (n c : Nat) (l : List Vr) (w : World) (hl : SlV w A n l) (hn : n * 64 ≤ 140737488351232) :
    Calls Try.prog 23 #[.slice A n c] w (NewVersS w (shownV l)) := by
  obtain ⟨i0, hi, hz0, hz1, hz2⟩ := info_parts Try.infoVer
  have hll := hl.len
  have HL := Lib.hid hl
  clear hl
  go_enter Try.func23, Try.ntmps23
  go_wp2
  go_loopw [3, 8] (fun t3 t8 wr => ∃ (k : Nat) (Ao : Option Addr) (no co : Nat) (rows : List RV), t3 = .slice Ao no co ∧ t8 = .int .i64 (k : Int) ∧ k ≤ n ∧ Hid (OwnV wr w.heap.size (.slice Ao no co) no rows) ∧ Hid (rows.map (·.1) = shownV (l.take k)) ∧ Hid (Below w.heap.size w wr)) (fun _ t8 _ => n - (intOf t8).toNat)
  case atStart => exact ⟨0, none, 0, 0, [], rfl, rfl, Nat.zero_le _, OwnV.nil _ _, rfl, Below.refl _ _⟩
  case round =>
    obtain ⟨k, Ao, no, co, rows, rfl, rfl, hk, HO, HM, hbel⟩ := hrel
    have hsz := hbel.out.size
    have hno : no ≤ n := by
      have h1 := HO.out.len
      have h2 := congrArg List.length HM.out
      have h3 := shown_len (l.take k)
      rw [List.length_take] at h3
      rw [List.length_map] at h2
      omega
    by_cases hlt : k < n
    · obtain ⟨b, off, v, Ap, np, cp, e0, hx, hr, hc0, hc1, hc2, hc3, hc4⟩ := (HL.out.below hbel.out).at_ hlt
      subst e0
      obtain ⟨s, m, past, g, val⟩ := v
      simp only at hc0 hc1 hc2 hc3 hc4
      have HX := Lib.hid hx
      have HR := Lib.hid hr
      have HB := Lib.hid (BoxV.new wr ⟨s, m, past, g, val⟩ Ap np cp)
      have HBA := Lib.hid (show Below wr.heap.size wr (wr.alloc (.cells #[.int .i64 s, .int .i64 m, .slice Ap np cp, .bool g, .string val] 28)) from (Below.refl _ _).alloc (Nat.le_refl _) _)
      have HOA := Lib.hid (HO.out.below HBA.out)
      clear hx hr
      cases g
      · have HS := Lib.hid (shown_yes HX.out rfl)
        have C3 := Lib.hid (cloneS_any Ap np cp past _ (Sl.below HR.out.sl HBA.out) HR.out.len)
        go_wp2_with fail
        refine C3.out.mono ?_
        rintro e w3 ⟨A', c', rfl, hc', ownp, b3⟩
        have b3' := HBA.out.trans (b3.mono HBA.out.size)
        have HB3 := Lib.hid (HB.out.below b3)
        have HW3 := Lib.hid b3'
        have HP := Lib.hid ownp
        have r0 := HB3.out.c0
        have r1 := HB3.out.c1
        have r2 := HB3.out.c2
        have r3 := HB3.out.c3
        have r4 := HB3.out.c4
        have r5 := frozen_of_row w3 wr.heap.size 2 _ 28 HB3.out
        have ls3 := HW3.out.size
        have ls3' := HB3.out.lt
        have hfar := HO.out.far (Nat.le_refl wr.heap.size)
        have HO4 := Lib.hid ((ownsRow_setCell_other (own_below HO.out.1 HW3.out) hfar.1 (.slice A' np c') (a := ⟨wr.heap.size, 2, none⟩)).alloc (.cells #[.int .i64 s, .int .i64 m, .slice A' np c', .bool false, .string val] 28))
        have hsl := sl_ver (w3.setCell ⟨wr.heap.size, 2, none⟩ (.slice A' np c')) (⟨s, m, past, false, val⟩, A', np, c') 28
        rw [World.size_setCell] at hsl
        have HSL := Lib.hid hsl
        clear C3 b3 b3' ownp hfar hsl hc0 hc1 hc2 hc3 hc4
        go_wp2_with (first | (at_builtin; refine wpList_append_sl _ rfl (.tmp 19) (.tmp 21) 22 rfl (w.heap.size) 28 i0 (.agg #[.int .i64 0, .int .i64 0, .slice none 0 0, .bool false, .string ⟨#[]⟩]) 5 64 Try.underlying22 hi hz0 hz1 hz2 rfl (by decide) (.slice Ao no co) (no) (rows.flatMap vV1) rfl (HO4.out) (some ⟨w3.heap.size, 0, none⟩) (1) (1) ([.int .i64 s, .int .i64 m, .slice A' np c', .bool false, .string val]) rfl (HSL.out) (vV1_one (⟨s, m, past, false, val⟩, A', np, c')) (by unfold maxLen; omega) (by omega) (by simp; omega) ?_) | fail)
        intro v5 w6 own6 hg6 _
        obtain ⟨A5, c5, rfl, h5, _⟩ := own_slice own6
        have MP := Lib.hid (OwnV.copy (v := ⟨s, m, past, false, val⟩) HO.out hbel.out HP.out (VFix.mk hc' HR.out.len HR.out.wf HR.out.wfp HR.out.str) (by simp) HW3.out ls3' own6 hg6)
        clear own6 hg6
        go_wp2
        go_roundw
        case rel => exact ⟨k + 1, A5, no + 1, c5, rows ++ [((⟨s, m, past, false, val⟩ : Vr), A', np, c')], rfl, by go_num, by omega, MP.out.1, by rw [HS.out, List.map_append, HM.out]; rfl, MP.out.2⟩
        case measure => simp [intOf]; omega
      · have HS := Lib.hid (shown_no HX.out rfl)
        have HBB := Lib.hid (hbel.out.trans (HBA.out.mono hsz))
        go_wp2
        go_roundw
        case rel => exact ⟨k + 1, Ao, no, co, rows, rfl, by go_num, by omega, HOA, by rw [HS.out]; exact HM, HBB⟩
        case measure => simp [intOf]; omega
    · obtain rfl : k = n := by omega
      have HE := Lib.hid (HM.out.trans (shown_all (by omega)))
      go_wp2
      go_ret
      exact ⟨Ao, no, co, rows, rfl, HO.out, HE.out, own_cap HO.out, hbel.out⟩

/-- What a call leaves that answers versions that lie somewhere. -/
def VersS (w : World) (l : List Vr) (e : Ending) (w' : World) : Prop :=
  ∃ A n c, e = .returned (.slice A n c) ∧ SlV w' A n l ∧ n ≤ c ∧ Below w.heap.size w w'
set_option maxHeartbeats 4000000 in
set_option maxRecDepth 100000 in
theorem refShown_any (A : Option Addr) (n c : Nat) (l : List Vr) (w : World) (hl : SlV w A n l) (hn : n * 64 ≤ 140737488351232) :
    Calls Try.prog 24 #[.slice A n c] w (VersS w (shownV l)) := by
  obtain ⟨i0, hi, hz0, hz1, hz2⟩ := info_parts Try.infoVer
  have hll := hl.len
  have HL := Lib.hid hl
  clear hl
  go_enter Try.func24, Try.ntmps24
  go_wp2
  go_loopw [3, 4] (fun t3 t4 wr => ∃ (k : Nat) (Ao : Option Addr) (no co : Nat) (rows : List RV), t3 = .slice Ao no co ∧ t4 = .int .i64 (k : Int) ∧ k ≤ n ∧ Hid (wr.ownsRow w.heap.size 28 5 (.slice Ao no co) no (rows.flatMap vV1)) ∧ Hid (∀ y ∈ rows, VRow w y.1 y.2.1 y.2.2.1 y.2.2.2) ∧ Hid (rows.map (·.1) = shownV (l.take k)) ∧ Hid (Below w.heap.size w wr)) (fun _ t4 _ => n - (intOf t4).toNat)
  case atStart => exact ⟨0, none, 0, 0, [], rfl, rfl, Nat.zero_le _, World.ownsRow_nil _ _ _ _, (show ∀ y ∈ ([] : List RV), VRow w y.1 y.2.1 y.2.2.1 y.2.2.2 from fun y hy => by cases hy), rfl, Below.refl _ _⟩
  case round =>
    obtain ⟨k, Ao, no, co, rows, rfl, rfl, hk, HO, HV, HM, hbel⟩ := hrel
    have hsz := hbel.out.size
    have hno : no ≤ n := by
      have h1 := HO.out.1
      have h2 := congrArg List.length HM.out
      have h3 := shown_len (l.take k)
      rw [flat_len vV1_len] at h1
      rw [List.length_take] at h3
      rw [List.length_map] at h2
      omega
    by_cases hlt : k < n
    · obtain ⟨b, off, v, Ap, np, cp, e0, hx, hr, hc0, hc1, hc2, hc3, hc4⟩ := HL.out.at_ hlt
      subst e0
      obtain ⟨s, m, past, g, val⟩ := v
      simp only at hc0 hc1 hc2 hc3 hc4
      have hc0 := (hbel.out.cell (World.block_lt_of_cell? _ _ hc0)).trans hc0
      have hc1 := (hbel.out.cell (World.block_lt_of_cell? _ _ hc1)).trans hc1
      have hc2 := (hbel.out.cell (World.block_lt_of_cell? _ _ hc2)).trans hc2
      have hc3 := (hbel.out.cell (World.block_lt_of_cell? _ _ hc3)).trans hc3
      have hc4 := (hbel.out.cell (World.block_lt_of_cell? _ _ hc4)).trans hc4
      have HX := Lib.hid hx
      have HR := Lib.hid hr
      have j0 : (0 : Int) ≤ (k : Int) := by omega
      have j1 : (k : Int) < (n : Int) := by omega
      clear hx hr
      cases g
      · have HS := Lib.hid (shown_yes HX.out rfl)
        have HO4 := Lib.hid (HO.out.alloc (.cells #[.int .i64 s, .int .i64 m, .slice Ap np cp, .bool false, .string val] 28))
        have HSL := Lib.hid (sl_ver wr (⟨s, m, past, false, val⟩, Ap, np, cp) 28)
        go_wp2_with (first | (at_builtin; refine wpList_append_sl _ rfl (.tmp 17) (.tmp 22) 22 rfl (w.heap.size) 28 i0 (.agg #[.int .i64 0, .int .i64 0, .slice none 0 0, .bool false, .string ⟨#[]⟩]) 5 64 Try.underlying22 hi hz0 hz1 hz2 rfl (by decide) (.slice Ao no co) (no) (rows.flatMap vV1) rfl (HO4.out) (some ⟨wr.heap.size, 0, none⟩) (1) (1) ([.int .i64 s, .int .i64 m, .slice Ap np cp, .bool false, .string val]) rfl (HSL.out) (vV1_one (⟨s, m, past, false, val⟩, Ap, np, cp)) (by unfold maxLen; omega) (by omega) (by simp; omega) ?_) | fail)
        intro v5 w6 own6 hg6 _
        obtain ⟨A5, c5, rfl, h5, _⟩ := own_slice own6
        have B6 := Lib.hid ((hbel.out.alloc hsz (.cells #[.int .i64 s, .int .i64 m, .slice Ap np cp, .bool false, .string val] 28)).grown hg6 (by simp; omega) (fun q hq => (HO.out.lt q hq).1))
        have HO6 := Lib.hid (show w6.ownsRow w.heap.size 28 5 (.slice A5 (no + 1) c5) (no + 1) ((rows ++ [((⟨s, m, past, false, val⟩ : Vr), Ap, np, cp)]).flatMap vV1) from by simpa [vV1, vV] using own6)
        have HV6 := Lib.hid (show ∀ y ∈ rows ++ [((⟨s, m, past, false, val⟩ : Vr), Ap, np, cp)], VRow w y.1 y.2.1 y.2.2.1 y.2.2.2 from fun y hy => by
          rcases List.mem_append.1 hy with hy | hy
          · exact HV.out y hy
          · rw [List.mem_singleton.1 hy]; exact HR.out)
        clear own6 hg6 hc0 hc1 hc2 hc3 hc4
        go_wp2
        go_roundw
        case rel => exact ⟨k + 1, A5, no + 1, c5, rows ++ [((⟨s, m, past, false, val⟩ : Vr), Ap, np, cp)], rfl, by go_num, by omega, HO6, HV6, by rw [HS.out, List.map_append, HM.out]; rfl, B6⟩
        case measure => simp [intOf]; omega
      · have HS := Lib.hid (shown_no HX.out rfl)
        go_wp2
        go_roundw
        case rel => exact ⟨k + 1, Ao, no, co, rows, rfl, by go_num, by omega, HO, HV, by rw [HS.out]; exact HM, hbel⟩
        case measure => simp [intOf]; omega
    · obtain rfl : k = n := by omega
      have HE := Lib.hid (HM.out.trans (shown_all (by omega)))
      have hcap : no ≤ co := by
        rcases HO.out.2 with ⟨e, rfl⟩ | ⟨g, cap, cur, e, _, _, h1, _⟩
        · injection e with _ _ e3; omega
        · injection e with _ _ e3; omega
      go_wp2
      go_ret
      exact ⟨Ao, no, co, rfl, ⟨rows, HE.out, Sl.of_own HO.out, fun y hy => (HV.out y hy).below hbel.out⟩, hcap, hbel.out⟩
end Go.Proofs.Ytlcfknpmnoghbaa
