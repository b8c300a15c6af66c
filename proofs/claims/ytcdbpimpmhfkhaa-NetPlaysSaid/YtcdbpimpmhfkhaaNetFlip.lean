/-
  The network: Flip, Tally.
-/
import Derived.Test.YtcdbpimpmhfkhaaNetAdd
import Derived.Laws.BitsAllLaws
namespace Go.Proofs.Ytcdbpimpmhfkhaa
open Go.RowKit
set_option linter.unusedVariables false

def flipP (p : Pk) (at_ : Nat) (x : UInt8) : Pk := { p with d := p.d.set at_ (p.d.getD at_ 0 ^^^ x) }
section
variable {w w' : World} {fp fp' : Nat → Prop} {G : NGeo} {l : List Pk} {C : K4 → Bool} {c : Cnt} {m : Nat}
/-- A byte of a packet under way. -/
theorem NetG.flip (h : NetG w fp G l C c m) {i at_ : Nat} {p : Pk} (hp : l[i]? = some p) (hat : at_ < p.d.length) :
    ∃ (g k gd cc : Nat) (b : UInt8), w.cell? ⟨G.p, 0, none⟩ = some (.slice (some ⟨g, 0, none⟩) l.length k) ∧ w.cell? ⟨g, i * 5 + 4, none⟩ = some (.slice (some ⟨gd, 0, none⟩) p.d.length cc) ∧ p.d[at_]? = some b ∧ w.cell? ⟨gd, at_, none⟩ = some (bV b) ∧ w.frozen? ⟨gd, at_, none⟩ = false ∧
      ∀ u : UInt8, NetG (w.setCell ⟨gd, at_, none⟩ (bV u)) fp G (l.set i { p with d := p.d.set at_ u }) C c m ∧ Fr fp w (w.setCell ⟨gd, at_, none⟩ (bV u)) := by
  obtain ⟨lv, rows, r1, r2, r3, r4, r5, r6⟩ := h.ex
  obtain ⟨D, hD, hA⟩ := h.map
  have hk := (List.getElem?_eq_some_iff.1 hp).1
  obtain ⟨g, k, hv, _, _⟩ := r2.form (by omega)
  subst hv
  have hrl : rows.length = l.length := by rw [← r4, List.length_map]
  obtain ⟨y, hy⟩ : ∃ y, rows[i]? = some y := ⟨_, List.getElem?_eq_getElem (by rw [hrl]; exact hk)⟩
  have hyx : y.1 = p := by
    rw [← r4, List.getElem?_map, hy] at hp
    simpa using hp
  subst hyx
  have hr := r5 y (List.mem_of_getElem? hy)
  obtain ⟨p, A, n, cc⟩ := y
  have hrow := hr.row
  simp only at hrow hat hp
  have hn : p.d.length = n := SlB.len (show SlB w A n p.d from Sl.of_own hrow)
  subst hn
  obtain ⟨gd, kd, hvd, hcc, hgl⟩ := hrow.form (by omega)
  have hvd' := hvd
  injection hvd with q1 q2 q3
  subst q1
  obtain ⟨b, hb⟩ : ∃ b, p.d[at_]? = some b := ⟨_, List.getElem?_eq_getElem hat⟩
  have hcell : w.cell? ⟨gd, at_, none⟩ = some (bV b) := by
    rw [hrow.cellAt at_ (by omega)]
    simp [bsV, hb]
  obtain ⟨cs, hcs⟩ := own_tag hrow (g := gd) rfl
  have hfgd := hr.inn gd rfl
  refine ⟨g, k, gd, cc, b, blk_cell r1 rfl, ?_, hb, hcell, blk_free hcs at_, fun u => ?_⟩
  · rw [r2.cellAt (i * 5 + 4) (by omega), flat_at pkV1_len rows i 4 _ hy (by omega)]
    rfl
  have hkp : Kept (fun b => b ≠ gd) w (w.setCell ⟨gd, at_, none⟩ (bV u)) := Kept.set _ (fun hh => hh rfl)
  have hset : (w.setCell ⟨gd, at_, none⟩ (bV u)).ownsRow 0 5 1 (.slice (some ⟨gd, 0, none⟩) p.d.length cc) p.d.length (bsV (p.d.set at_ u)) := by
    have := (hrow.stored at_ (bV u)).1
    unfold bsV at this ⊢
    rw [List.map_set]
    exact this
  have e0 : rows.flatMap pkV1 = (rows.set i (({ p with d := p.d.set at_ u } : Pk), some ⟨gd, 0, none⟩, p.d.length, cc)).flatMap pkV1 := by
    have := flat_set pkV1_len rows i 0 (p, some ⟨gd, 0, none⟩, p.d.length, cc) (({ p with d := p.d.set at_ u } : Pk), some ⟨gd, 0, none⟩, p.d.length, cc) (.int .i64 p.fs) hy (by omega) rfl
    rw [← this]
    refine (List.ext_getElem? fun j => ?_)
    rw [List.getElem?_set]
    split
    · rename_i e
      subst e
      have hlt : i * 5 + 0 < (rows.flatMap pkV1).length := by rw [flat_len pkV1_len, hrl]; omega
      rw [if_pos hlt, flat_at pkV1_len rows i 0 _ hy (by omega)]
      rfl
    · rfl
  refine ⟨⟨h.inp, h.inm, ⟨_, rows.set i (({ p with d := p.d.set at_ u } : Pk), some ⟨gd, 0, none⟩, p.d.length, cc), hkp _ _ (tag_ne r1 hcs (by decide)) r1, ?_, r3, ?_, ?_, ?_⟩, ⟨D, map_keep hD (fp := fun b => b ≠ gd) (map_ne hcs hD).symm hkp, hA⟩, by rw [List.length_set]; exact h.len, h.cnt, fun b hb => by simpa using h.lt b hb⟩, (Fr.set w ⟨gd, at_, none⟩ _).mono fun i hi => .inl (by subst hi; exact hfgd)⟩
  · rw [← e0, List.length_set]
    exact own_keep r2 (fun g' hg' => by obtain ⟨cs', hcs'⟩ := own_tag r2 hg'; exact tag_ne hcs' hcs (by decide)) hkp
  · rw [List.map_set, r4]
  · intro z hz
    obtain ⟨j, hj⟩ := List.getElem?_of_mem hz
    by_cases hij : i = j
    · subst hij
      rw [List.getElem?_set_self (by rw [hrl]; exact hk)] at hj
      injection hj with hj
      subst hj
      exact ⟨hset, hr.inn, by show (p.d.set at_ u).length ≤ tokMax; rw [List.length_set]; exact hr.len, hr.wf⟩
    · rw [List.getElem?_set_ne hij] at hj
      have hz' := r5 z (List.mem_of_getElem? hj)
      refine ⟨own_keep hz'.row (fun g' hg' => ?_) hkp, hz'.inn, hz'.len, hz'.wf⟩
      rintro rfl
      have hii := (List.getElem?_eq_some_iff.1 hy)
      have hjj := (List.getElem?_eq_some_iff.1 hj)
      rw [List.pairwise_iff_getElem] at r6
      rcases Nat.lt_or_gt_of_ne hij with hlt | hlt
      · have := r6 i j hii.1 hjj.1 hlt g'
        rw [hii.2, hjj.2] at this
        exact this rfl hg'
      · have := r6 j i hjj.1 hii.1 hlt g'
        rw [hii.2, hjj.2] at this
        exact this hg' rfl
  · rw [List.pairwise_iff_getElem]
    intro a b ha hb' hab g' hg'
    rw [List.length_set] at ha hb'
    rw [List.pairwise_iff_getElem] at r6
    have key : ∀ (j : Nat) (hj : j < rows.length) (hj' : j < (rows.set i (({ p with d := p.d.set at_ u } : Pk), some ⟨gd, 0, none⟩, p.d.length, cc)).length), RPk.blk ((rows.set i (({ p with d := p.d.set at_ u } : Pk), some ⟨gd, 0, none⟩, p.d.length, cc))[j]) = RPk.blk (rows[j]) := by
      intro j hj hj'
      rw [List.getElem_set]
      split
      · rename_i e
        subst e
        rw [(List.getElem?_eq_some_iff.1 hy).2]
        rfl
      · rfl
    rw [key a ha] at hg'
    rw [key b hb']
    exact r6 a b ha hb' hab g' hg'
theorem run_xor8 (w : World) (b x : UInt8) : (binOp .xor 5 (bV b) (bV x)).run Try.prog w = .ok (.int .u8 ((b ^^^ x).toNat : Int)) w := by
  have h := u8_xor_nat b.toNat x.toNat (UInt8.toNat_lt b) (UInt8.toNat_lt x)
  simp [go_sem, bV, h, UInt8.toNat_xor]
def flipL (l : List Pk) (i a : Int) (x : UInt8) : List Pk := match lookP l i with
  | none => l
  | some p => if 0 ≤ a ∧ a < p.d.length then l.set i.toNat (flipP p a.toNat x) else l
def flipB (l : List Pk) (i a : Int) : Bool := match lookP l i with
  | none => false
  | some p => decide (0 ≤ a ∧ a < p.d.length)
set_option maxHeartbeats 2000000 in
theorem flip_any (i a : Int) (x : UInt8) (h : NetG w fp G l C c m) :
    Calls Try.prog 19 #[.pointer (some ⟨G.p, 0, none⟩), .int .i64 i, .int .i64 a, bV x] w (NetSame w fp G (flipL l i a x) C c m (.bool (flipB l i a))) := by
  unfold flipL flipB
  rcases look_cases l i with ⟨hl, hi⟩ | ⟨k, p, rfl, hk, hp, hl⟩
  · rw [hl]
    have C1 := Lib.hid (has_no i h hi)
    have H := Lib.hid h
    clear h hi hl
    go_enter Try.func19, Try.ntmps19
    go_wp2_with fail
    refine C1.out.mono ?_
    rintro e w' ⟨rfl, rfl⟩
    go_wp2
    go_ret
    exact ⟨rfl, H.out, Fr.refl _ _⟩
  · rw [hl]
    simp only []
    have C1 := Lib.hid (has_yes k h hk)
    have i0 : (0 : Int) ≤ (k : Int) := by omega
    have i1 : (k : Int) < (l.length : Int) := by omega
    by_cases ha : 0 ≤ a ∧ a < p.d.length
    · have e1 : decide (0 ≤ a ∧ a < (p.d.length : Int)) = true := by simpa using ha
      rw [if_pos ha, e1]
      obtain ⟨at_, rfl⟩ := Int.eq_ofNat_of_zero_le ha.1
      have hat : at_ < p.d.length := by omega
      obtain ⟨g, kc, gd, cc, b, d0, d1, db, d2, d3, d4⟩ := h.flip hp hat
      have q1 : decide ((at_ : Int) < 0) = false := by simp
      have q2 : decide (p.d.length ≤ at_) = false := by simp; omega
      have j1 : (at_ : Int) < (p.d.length : Int) := by omega
      have HD := Lib.hid (And.intro d4 db)
      have hxr := fun w => run_xor8 w b x
      clear h ha e1 hl hp d4 db
      go_enter Try.func19, Try.ntmps19
      go_wp2_with fail
      refine C1.out.mono ?_
      rintro e w' ⟨rfl, rfl⟩
      go_wp2
      go_ret
      have hb : p.d.getD at_ 0 ^^^ x = b ^^^ x := by rw [List.getD_eq_getElem?_getD, HD.out.2]; rfl
      have := HD.out.1 (b ^^^ x)
      unfold flipP
      rw [Int.toNat_natCast, Int.toNat_natCast, hb]
      exact ⟨rfl, this.1, this.2⟩
    · have e1 : decide (0 ≤ a ∧ a < (p.d.length : Int)) = false := by simpa using ha
      rw [if_neg ha, e1]
      obtain ⟨g, kc, A, n, cc, d0, d1, s1, _, _, _, _, _⟩ := h.at_ hp
      obtain ⟨_, _, _, _, e4⟩ := row5 d1
      have hn : p.d.length = n := SlB.len s1
      rw [hn] at ha
      have H := Lib.hid h
      by_cases h0 : a < 0
      · have q1 : decide (a < 0) = true := by simpa using h0
        clear h ha e1 hl hp d1 s1 hn
        go_enter Try.func19, Try.ntmps19
        go_wp2_with fail
        refine C1.out.mono ?_
        rintro e w' ⟨rfl, rfl⟩
        go_wp2
        go_ret
        exact ⟨rfl, H.out, Fr.refl _ _⟩
      · have q1 : decide (a < 0) = false := by simpa using h0
        have q2 : decide ((n : Int) ≤ a) = true := by simp; omega
        clear h ha e1 hl hp d1 s1 hn
        go_enter Try.func19, Try.ntmps19
        go_wp2_with fail
        refine C1.out.mono ?_
        rintro e w' ⟨rfl, rfl⟩
        go_wp2
        go_ret
        exact ⟨rfl, H.out, Fr.refl _ _⟩
end
end Go.Proofs.Ytcdbpimpmhfkhaa
