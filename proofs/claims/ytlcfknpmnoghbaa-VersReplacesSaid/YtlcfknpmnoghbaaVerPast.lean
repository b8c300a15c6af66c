/-
  vers.Past: all that the versions stand for. A write behind all of them takes their place.
-/
import Derived.Test.YtlcfknpmnoghbaaVersTwinsWalk
import Derived.Test.YtlcfknpmnoghbaaSpanWithin
namespace Go.Proofs.Ytlcfknpmnoghbaa
open Go.RowKit
set_option linter.unusedVariables false

theorem joinSE_cases (a b : List Sp) : (joinSE a b = 0 ∧ rightS a = true ∧ rightS b = true ∧ (mergeL a b).length ≤ 1024 ∧ joinSL a b = mergeL a b) ∨ (joinSE a b ≠ 0 ∧ joinSL a b = []) := by
  by_cases h1 : rightS a = true ∧ rightS b = true
  · by_cases h2 : (mergeL a b).length ≤ 1024
    · obtain ⟨e1, e2⟩ := joinS_yes h1.1 h1.2 h2
      exact .inl ⟨e2, h1.1, h1.2, h2, e1⟩
    · obtain ⟨e1, e2⟩ := joinS_full h1.1 h1.2 (by omega)
      exact .inr ⟨by rw [e2]; decide, e1⟩
  · obtain ⟨e1, e2⟩ := joinS_wrong h1
    exact .inr ⟨by rw [e2]; decide, e1⟩
theorem joinS_right {a b : List Sp} (h : joinSE a b = 0) : rightS (joinSL a b) = true ∧ ∀ s n, has (joinSL a b) s n ↔ has a s n ∨ has b s n := by
  rcases joinSE_cases a b with ⟨_, h1, h2, h3, h4⟩ | ⟨h1, _⟩
  · obtain ⟨p1, p2⟩ := mergeL_norm (rightS_true.1 h1).1 (rightS_true.1 h2).1
    rw [h4]
    exact ⟨rightS_true.2 ⟨p1, h3⟩, p2⟩
  · exact absurd h h1
theorem topTo_ge (l : List Sp) (s : Int) {i : Nat} {x : Sp} (hx : l[i]? = some x) (e1 : x.1 = s) : ∀ k, i < k → k ≤ l.length → x.2.2 ≤ topTo l s k := by
  intro k hk hkl
  induction k with
  | zero => omega
  | succ k ih =>
    have hk' : l[k]? = some (l[k]'(by omega)) := List.getElem?_eq_getElem _
    by_cases hik : i = k
    · subst hik
      by_cases hc : topTo l s i < x.2.2
      · rw [topTo_yes hx e1 hc]; exact Int.le_refl _
      · rw [topTo_no hx (fun q => hc q.2)]; omega
    · have h1 := ih (by omega) (by omega)
      by_cases hc : (l[k]'(by omega)).1 = s ∧ topTo l s k < (l[k]'(by omega)).2.2
      · rw [topTo_yes hk' hc.1 hc.2]; omega
      · rw [topTo_no hk' hc]; exact h1
theorem top_ge {l : List Sp} {s m : Int} (h : has l s m) : m ≤ topS l s := by
  obtain ⟨x, hx, e1, e2, e3⟩ := h
  obtain ⟨i, hi, rfl⟩ := List.getElem_of_mem hx
  have := topTo_ge l s (List.getElem?_eq_getElem hi) e1 l.length hi (Nat.le_refl _)
  unfold topS
  omega
theorem top_bound (l : List Sp) (s : Int) (M : Int) (hM : 0 ≤ M) (h : ∀ x ∈ l, x.2.2 ≤ M) : ∀ k, k ≤ l.length → 0 ≤ topTo l s k ∧ topTo l s k ≤ M := by
  intro k hk
  induction k with
  | zero => exact ⟨Int.le_refl _, hM⟩
  | succ k ih =>
    have h1 := ih (by omega)
    have hk' : l[k]? = some (l[k]'(by omega)) := List.getElem?_eq_getElem _
    by_cases hc : (l[k]'(by omega)).1 = s ∧ topTo l s k < (l[k]'(by omega)).2.2
    · rw [topTo_yes hk' hc.1 hc.2]
      exact ⟨by omega, h _ (List.getElem_mem _)⟩
    · rw [topTo_no hk' hc]; exact h1
/-- p stands for all of these versions. -/
def PastOK (l : List Vr) (p : List Sp) : Prop := rightS p = true ∧ ∀ v ∈ l, has p v.s v.n ∧ ∀ s n, has v.past s n → has p s n
theorem PastOK.start : PastOK [] [] := ⟨aw_r0, fun v hv => by cases hv⟩
theorem PastOK.step {l : List Vr} {k : Nat} {v : Vr} {p : List Sp} (h : PastOK (l.take k) p) (hv : l[k]? = some v) (h1 : joinSE p v.past = 0) (h2 : addSE (joinSL p v.past) v.s v.n = 0) : PastOK (l.take (k + 1)) (addSL (joinSL p v.past) v.s v.n) := by
  obtain ⟨r1, m1⟩ := joinS_right h1
  cases hd : dotB v.s v.n
  · have := (addS_no (l := joinSL p v.past) hd).2
    rw [this] at h2
    cases h2
  · obtain ⟨e1, e2⟩ := addS_yes (l := joinSL p v.past) hd
    rw [e2] at h2
    obtain ⟨r2, m2⟩ := joinS_right h2
    rw [e1]
    refine ⟨r2, fun u hu => ?_⟩
    rcases mem_take_succ hv hu with hu | rfl
    · obtain ⟨a1, a2⟩ := h.2 u hu
      exact ⟨(m2 _ _).2 (.inl ((m1 _ _).2 (.inl a1))), fun s n hh => (m2 _ _).2 (.inl ((m1 _ _).2 (.inl (a2 s n hh))))⟩
    · exact ⟨(m2 _ _).2 (.inr ⟨_, List.mem_singleton.2 rfl, rfl, Int.le_refl _, Int.le_refl _⟩), fun s n hh => (m2 _ _).2 (.inl ((m1 _ _).2 (.inr hh)))⟩
/-- A write behind all of a set takes its place. -/
theorem replaces_law {l : List Vr} {p : List Sp} {s : Int} {gone : Bool} {val : ByteArray} (hl : RightV l) (hp : PastOK l p) (hs : 1 ≤ s ∧ s ≤ 16) (hn : topS p s ≠ 4611686018427387904) (hv : val.size ≤ 256) (hg : gone = true → val.size = 0) :
    (mrgE l [⟨s, topS p s + 1, p, gone, val⟩] = 0 ∧ mergedL l [⟨s, topS p s + 1, p, gone, val⟩] = [⟨s, topS p s + 1, p, gone, val⟩]) ∧
    (mrgE [⟨s, topS p s + 1, p, gone, val⟩] l = 0 ∧ mergedL [⟨s, topS p s + 1, p, gone, val⟩] l = [⟨s, topS p s + 1, p, gone, val⟩]) ∧
    lacksB [⟨s, topS p s + 1, p, gone, val⟩] l = false ∧ lacksB l [⟨s, topS p s + 1, p, gone, val⟩] = true := by
  obtain ⟨u, hu⟩ : ∃ u : Vr, u = ⟨s, topS p s + 1, p, gone, val⟩ := ⟨_, rfl⟩
  rw [← hu]
  have us : u.s = s := by rw [hu]
  have un : u.n = topS p s + 1 := by rw [hu]
  have up : u.past = p := by rw [hu]
  have hb := top_bound p s 4611686018427387904 (by omega) (fun x hx => ((rightS_true.1 hp.1).1.1 x hx).2.2.2.2) p.length (Nat.le_refl _)
  have hno : ∀ m, topS p s < m → hasB p s m = false := fun m hm => hasB_false fun h => by have := top_ge h; omega
  have hok : okVB u = true := by
    unfold okVB
    rw [us, un, up, dotB_true.2 (by unfold topS at *; omega), hp.1, show decide (topS p s < topS p s + 1) = true from decide_eq_true (by omega), show u.val = val by rw [hu], show u.gone = gone by rw [hu], show decide (val.size ≤ 256) = true from decide_eq_true hv]
    cases gone
    · rfl
    · rw [show decide (val.size = 0) = true from decide_eq_true (hg rfl)]; rfl
  have hself : hasB u.past u.s u.n = false := by rw [us, un, up]; exact hno _ (by omega)
  have hru : rightV [u] = true := right_one hok hself
  have hrl : rightV l = true := rightV_true.2 hl
  have RU := rightV_true.1 hru
  have hdot : ∀ v ∈ l, ¬ (v.s = u.s ∧ v.n = u.n) := fun v hv e => by
    have h1 := top_ge (hp.2 v hv).1
    rw [e.1, e.2, us, un] at h1
    omega
  have t1 : mrgT l [u] = false := by
    rw [Bool.eq_false_iff]
    intro ht
    obtain ⟨x, hx, y, hy, k, _⟩ := (mrgT_iff _ _ hl.1.2 RU.1.2).1 ht
    rw [List.mem_singleton.1 hy] at k
    exact hdot x hx k
  have t2 : mrgT [u] l = false := by
    rw [Bool.eq_false_iff]
    intro ht
    obtain ⟨x, hx, y, hy, k, _⟩ := (mrgT_iff _ _ RU.1.2 hl.1.2).1 ht
    rw [List.mem_singleton.1 hx] at k
    exact hdot y hy ⟨k.1.symm, k.2.symm⟩
  have bu : ∀ v ∈ l, behB [u] v.s v.n = true := fun v hv => behB_true.2 ⟨u, List.mem_singleton.2 rfl, by rw [up]; exact hasB_true.2 (hp.2 v hv).1⟩
  have bl : behB l u.s u.n = false := behB_false.2 fun v hv => hasB_false fun h => by
    have h1 := top_ge ((hp.2 v hv).2 _ _ h)
    rw [us, un] at h1
    omega
  have bs : behB [u] u.s u.n = false := behB_false.2 fun v hv => by rw [List.mem_singleton.1 hv]; exact hself
  have j1 : joinV l [u] = [u] := sorted_ext (joinV_sorted hl RU) (List.pairwise_singleton _ _) fun v => by
    rw [mem_joinV hl RU t1]
    constructor
    · rintro ⟨h1 | h1, h2, h3⟩
      · rw [bu v h1] at h3; cases h3
      · exact h1
    · intro h
      rw [List.mem_singleton.1 h]
      exact ⟨.inr (List.mem_singleton.2 rfl), bl, bs⟩
  have j2 : joinV [u] l = [u] := sorted_ext (joinV_sorted RU hl) (List.pairwise_singleton _ _) fun v => by
    rw [mem_joinV RU hl t2]
    constructor
    · rintro ⟨h1 | h1, h2, h3⟩
      · exact h1
      · rw [bu v h1] at h2; cases h2
    · intro h
      rw [List.mem_singleton.1 h]
      exact ⟨.inl (List.mem_singleton.2 rfl), bs, bl⟩
  have m1 := mrg_ok hrl hru t1 (by rw [j1]; simp)
  have m2 := mrg_ok hru hrl t2 (by rw [j2]; simp)
  rw [j1] at m1
  rw [j2] at m2
  refine ⟨m1, m2, ?_, ?_⟩
  · unfold lacksB
    rw [m2.1, m2.2, lEq_self]
    rfl
  · unfold lacksB
    rw [m1.1, m1.2]
    have : lEq [u] l = false := decide_eq_false fun e => hdot u (by rw [← e]; exact List.mem_singleton.2 rfl) ⟨rfl, rfl⟩
    rw [this]
    rfl

/-- What Past leaves. -/
def PastE (w : World) (l : List Vr) (e : Ending) (w' : World) : Prop :=
  ∃ A n c p x, e = .returned (.tuple #[.slice A n c, .int .i64 x]) ∧ SlS w' A n p ∧ n ≤ c ∧ (x = 0 → RightV l ∧ PastOK l p) ∧ Below w.heap.size w w'
theorem PastE.no {w w' : World} {l : List Vr} {x : Int} (h : x ≠ 0) (b : Below w.heap.size w w') : PastE w l (.returned (.tuple #[.slice none 0 0, .int .i64 x])) w' :=
  ⟨none, 0, 0, [], x, rfl, Sl.nil _ _ _, Nat.le_refl _, fun e => absurd e h, b⟩
set_option maxHeartbeats 4000000 in
set_option maxRecDepth 100000 in
theorem past_any (A : Option Addr) (n c : Nat) (l : List Vr) (w : World) (hl : SlV w A n l) (hn : n ≤ 140737488351232) :
    Calls Try.prog 25 #[.slice A n c] w (PastE w l) := by
  have hll := hl.len
  have HL := Lib.hid hl
  have d1 := verRight_any A n c l w hl hn
  clear hl
  cases hr : rightV l
  · rw [hr] at d1
    have D1 := Lib.hid d1
    clear d1 hr
    go_enter Try.func25, Try.ntmps25
    go_wp2_with fail
    refine D1.out.mono ?_
    rintro e w1 ⟨rfl, b1⟩
    have B1 := Lib.hid b1
    clear b1 D1
    go_wp2
    go_ret2
    exact PastE.no (by decide) B1.out
  · rw [hr] at d1
    have D1 := Lib.hid d1
    have HRT := Lib.hid (rightV_true.1 hr)
    clear d1 hr
    go_enter Try.func25, Try.ntmps25
    go_wp2_with fail
    refine D1.out.mono ?_
    rintro e w1 ⟨rfl, b1⟩
    have B1 := Lib.hid b1
    clear b1 D1
    go_wp2
    go_loopw [4, 5, 13] (fun t4 t5 t13 wr => ∃ (k : Nat) (Ap : Option Addr) (np cp : Nat) (p : List Sp), t4 = .slice Ap np cp ∧ t5 = .int .i64 0 ∧ t13 = .int .i64 (k : Int) ∧ k ≤ n ∧ Hid (SlS wr Ap np p) ∧ np ≤ cp ∧ Hid (PastOK (l.take k) p) ∧ Hid (Below w.heap.size w wr)) (fun _ _ t13 _ => n - (intOf t13).toNat)
    case atStart => exact ⟨0, none, 0, 0, [], rfl, rfl, rfl, Nat.zero_le _, Sl.nil _ _ _, Nat.le_refl _, PastOK.start, B1⟩
    case round =>
      obtain ⟨k, Ap, np, cp, p, rfl, rfl, rfl, hk, HS, hcp, HP, hbel⟩ := hrel
      have hsz := hbel.out.size
      have hnp : np ≤ 1024 := by
        have h1 := (rightS_true.1 HP.out.1).2
        have h2 := SlS.len HS.out
        omega
      by_cases hlt : k < n
      · obtain ⟨b, off, v, Av, nv, cv, e0, hx, hr, hc0, hc1, hc2, hc3, hc4⟩ := (HL.out.below hbel.out).at_ hlt
        subst e0
        have HX := Lib.hid hx
        have hX := OneC.start wr v Av nv cv hr.sl
        have HXB := Lib.hid hX.1
        have HXW := Lib.hid (hbel.out.trans (hX.2.2.mono hsz))
        have C1 := spanJoin_any Ap Av np nv cp cv p v.past _ (Sl.below HS.out hX.2.2) hX.2.1 (by omega) hr.n9 hcp hr.cap
        have C1 := Lib.hid C1
        have hcv := hr.cap
        clear hx hr hX
        by_cases h1 : joinSE p v.past = 0
        · have HJ := Lib.hid h1
          go_wp2_with fail
          refine C1.out.mono ?_
          rintro e w2 ⟨A2, n2, c2, rfl, s2, hc2', own2, b2⟩
          have X2 := Lib.hid (HXB.out.below b2)
          have x0 := X2.out.c0
          have x1 := X2.out.c1
          have HW2 := Lib.hid (HXW.out.trans (b2.mono HXW.out.size))
          have hj2 := SlS.len s2
          have hr2 := (rightS_true.1 (joinS_right HJ.out).1).2
          have C2 := Lib.hid (spanAdd_any A2 n2 c2 _ v.s v.n w2 s2 (by omega) hc2')
          clear own2 b2 s2 C1 hc0 hc1 hc2 hc3 hc4
          by_cases h2 : addSE (joinSL p v.past) v.s v.n = 0
          · have HP2 := Lib.hid (HP.out.step HX.out HJ.out h2)
            rw [h2] at C2
            rw [h1]
            clear h1 h2 hr2
            go_wp2_with fail
            refine C2.out.mono ?_
            rintro e w3 ⟨A3, n3, c3, rfl, s3, hc3', own3, b3⟩
            have HW3 := Lib.hid (HW2.out.trans (b3.mono HW2.out.size))
            have HS3 := Lib.hid s3
            clear own3 b3 s3 C2 x0 x1
            go_wp2
            go_roundw
            case rel => exact ⟨k + 1, A3, n3, c3, _, rfl, rfl, by go_num, by omega, HS3, hc3', HP2, HW3⟩
            case measure => simp [intOf]; omega
          · have HNE := Lib.hid h2
            have h3 : (addSE (joinSL p v.past) v.s v.n == 0) = false := beq_eq_false_iff_ne.2 h2
            rw [h1]
            clear h1 hr2
            generalize addSE (joinSL p v.past) v.s v.n = ae at *
            go_wp2_with fail
            refine C2.out.mono ?_
            rintro e w3 ⟨A3, n3, c3, rfl, s3, hc3', own3, b3⟩
            have HW3 := Lib.hid (HW2.out.trans (b3.mono HW2.out.size))
            clear own3 b3 s3 C2 x0 x1
            go_wp2
            go_ret2
            exact PastE.no HNE.out HW3.out
        · have HNE := Lib.hid h1
          have h3 : (joinSE p v.past == 0) = false := beq_eq_false_iff_ne.2 h1
          generalize joinSE p v.past = je at *
          go_wp2_with fail
          refine C1.out.mono ?_
          rintro e w2 ⟨A2, n2, c2, rfl, s2, hc2', own2, b2⟩
          have HW2 := Lib.hid (HXW.out.trans (b2.mono HXW.out.size))
          clear own2 b2 s2 C1 hc0 hc1 hc2 hc3 hc4
          go_wp2
          go_ret2
          exact PastE.no HNE.out HW2.out
      · obtain rfl : k = n := by omega
        have HE := Lib.hid (show PastOK l p from by have := HP.out; rwa [List.take_of_length_le (by omega)] at this)
        go_wp2
        go_ret2
        exact ⟨Ap, np, cp, p, 0, rfl, HS.out, hcp, fun _ => ⟨HRT.out, HE.out⟩, hbel.out⟩
end Go.Proofs.Ytlcfknpmnoghbaa
