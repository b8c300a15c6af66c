/-
  Records and messages in memory. No program is looked at here.
  Which of two dots comes first; did a version come behind a dot: the program's answers and the document's.
  Are two versions, two sets the same? The program's answers and the document's.
  The same sets: the program's answers and the document's.
  Two sets of versions together: the program's way (side by side) and the document's (laid in one by one) come to the same. No program is looked at here.
  A list of versions of the call's own, their Pasts too; a list's copy.
-/
import Derived.Test.YtilagblpamhmkaaMD
import Derived.Test.YtilagblpamhmkaaMB
namespace Go.Proofs.Ytilagblpamhmkaa
open Go.RowKit
set_option linter.unusedVariables false

/-- A record by value: its versions' slice. -/
abbrev RR := Rc × Option Addr × Nat × Nat
def rV (r : Rc) (A : Option Addr) (n c : Nat) : List Value := [.string r.key, .slice A n c]
def rV1 (y : RR) : List Value := rV y.1 y.2.1 y.2.2.1 y.2.2.2
theorem rV1_len (y : RR) : (rV1 y).length = 2 := rfl
theorem rV1_one (y : RR) : ∀ u ∈ rV1 y, u.oneCell' = true := by
  intro u hu
  simp only [rV1, rV, List.mem_cons, List.mem_nil_iff, or_false] at hu
  rcases hu with rfl | rfl <;> rfl
/-- What is known of a record's versions and key. -/
structure RRow (w : World) (r : Rc) (A : Option Addr) (n c : Nat) : Prop where
  sl : SlV w A n r.vers
  cap : n ≤ c
  len : n * 64 ≤ 140737488351232
  str : r.key.size ≤ 140737488351232
/-- A slice of records. -/
def SlR (w : World) (A : Option Addr) (n : Nat) (l : List Rc) : Prop :=
  ∃ rows : List RR, rows.map (·.1) = l ∧ Sl w A n 2 (rows.flatMap rV1) ∧ ∀ y, y ∈ rows → RRow w y.1 y.2.1 y.2.2.1 y.2.2.2
section
variable {w w' : World} {A : Option Addr} {n c : Nat} {r : Rc} {l : List Rc}
theorem RRow.below (h : RRow w r A n c) (hb : Below w.heap.size w w') : RRow w' r A n c := ⟨SlV.below h.sl hb, h.cap, h.len, h.str⟩
theorem SlR.below (h : SlR w A n l) (hb : Below w.heap.size w w') : SlR w' A n l := by
  obtain ⟨rows, h1, h2, h3⟩ := h
  exact ⟨rows, h1, Sl.below h2 hb, fun y hy => (h3 y hy).below hb⟩
theorem SlR.nil (w : World) (A : Option Addr) : SlR w A 0 [] := ⟨[], rfl, Sl.nil _ _ _, by simp⟩
theorem SlR.len (h : SlR w A n l) : l.length = n := by
  obtain ⟨rows, h1, h2, h3⟩ := h
  have := h2.1
  rw [flat_len rV1_len] at this
  rw [← h1, List.length_map]
  omega
/-- The k-th record. -/
theorem SlR.at_ (h : SlR w A n l) {k : Nat} (hk : k < n) : ∃ (b off : Nat) (r : Rc) (Ap : Option Addr) (np cp : Nat), A = some ⟨b, off, none⟩ ∧ l[k]? = some r ∧ RRow w r Ap np cp ∧
    w.cell? ⟨b, off + k * 2, none⟩ = some (.string r.key) ∧ w.cell? ⟨b, off + k * 2 + 1, none⟩ = some (.slice Ap np cp) := by
  have hl := h.len
  obtain ⟨rows, h1, h2, h3⟩ := h
  obtain ⟨b, off, rfl, hc⟩ := h2.2 (by omega)
  have hrl : rows.length = l.length := by rw [← h1, List.length_map]
  obtain ⟨y, hy⟩ : ∃ y, rows[k]? = some y := ⟨_, List.getElem?_eq_getElem (by omega)⟩
  have e : ∀ j u, (rV1 y)[j]? = some u → w.cell? ⟨b, off + (k * 2 + j), none⟩ = some u := fun j u hu => by
    have hj : j < 2 := (List.getElem?_eq_some_iff.1 hu).1
    exact hc _ _ (by rw [flat_at rV1_len rows k j y hy hj]; exact hu)
  refine ⟨b, off, y.1, y.2.1, y.2.2.1, y.2.2.2, rfl, by rw [← h1, List.getElem?_map, hy]; rfl, h3 y (List.mem_of_getElem? hy), e 0 _ rfl, ?_⟩
  rw [Nat.add_assoc]; exact e 1 _ rfl
end
theorem cell_up {w0 w' : World} {a : Addr} {x : Value} (h : w0.cell? a = some x) (bl : Below w0.heap.size w0 w') : w'.cell? a = some x := (bl.cell (World.block_lt_of_cell? _ _ h)).trans h

/-! ### A message by value -/
structure Mx where
  m : Mg
  Ar : Option Addr
  nr : Nat
  cr : Nat
  Av : Option Addr
  nv : Nat
  cv : Nat
  Ap : Option Addr
  np : Nat
  cp : Nat
  Ah : Option Addr
  nh : Nat
  ch : Nat
  Ao : Option Addr
  no : Nat
  co : Nat
def Mx.cells (x : Mx) : Array Value := #[.int .i64 x.m.kind, .int .i64 x.m.fs, .int .i64 x.m.fn, .int .i64 x.m.ts, .int .i64 x.m.tn, .int .i64 x.m.id, .int .i64 x.m.n, .int .i64 x.m.fo, .int .i64 x.m.code, .string x.m.key,
  .slice x.Ar x.nr x.cr, .slice x.Av x.nv x.cv, .slice x.Ap x.np x.cp, .slice x.Ah x.nh x.ch, .slice x.Ao x.no x.co]
structure MRow (w : World) (x : Mx) : Prop where
  recs : SlR w x.Ar x.nr x.m.recs
  vec : Sl w x.Av x.nv 1 (x.m.vec.map (Value.int .i64))
  path : Sl w x.Ap x.np 1 (x.m.path.map (Value.int .i64))
  hashes : Sl w x.Ah x.nh 1 (x.m.hashes.map (Value.int .u64))
  route : Sl w x.Ao x.no 1 (x.m.route.map (Value.int .i64))
  lr : x.nr * 40 ≤ 140737488351232
  lv : x.nv ≤ 140737488351232
  lp : x.np ≤ 140737488351232
  lh : x.nh ≤ 140737488351232
  lo : x.no ≤ 140737488351232
  ckr : x.nr ≤ x.cr
  ckv : x.nv ≤ x.cv
  ckp : x.np ≤ x.cp
  ckh : x.nh ≤ x.ch
  cko : x.no ≤ x.co
  key : x.m.key.size ≤ 140737488351232
  wid : x.m.id ≤ 9223372036854775807
  wn : x.m.n ≤ 9223372036854775807
  wh : ∀ h ∈ x.m.hashes, 0 ≤ h ∧ h < 18446744073709551616
theorem MRow.below {w w' : World} {x : Mx} (h : MRow w x) (hb : Below w.heap.size w w') : MRow w' x :=
  ⟨h.recs.below hb, Sl.below h.vec hb, Sl.below h.path hb, Sl.below h.hashes hb, Sl.below h.route hb, h.lr, h.lv, h.lp, h.lh, h.lo, h.ckr, h.ckv, h.ckp, h.ckh, h.cko, h.key, h.wid, h.wn, h.wh⟩
theorem MRow.wf {w : World} {x : Mx} (h : MRow w x) : WfM x.m := ⟨h.wid, h.wn, by have := h.recs.len; have := h.lr; omega, h.wh⟩

/-! ### Lengths -/
theorem verB_len {v : Vr} (h : okVB v = true) : (verB v).length ≤ 28000 := by
  obtain ⟨_, h2, _, h4, _⟩ := okVB_true.1 h
  have h2 := (rightS_true.1 h2).2
  unfold verB
  simp only [List.length_append]
  have a1 := putNum_len v.s
  have a2 := putNum_len v.n
  have a3 : (setB v.past).length ≤ 9 + 27 * v.past.length := by
    unfold setB
    rw [List.length_append]
    have := putN_len 8 v.past.length
    have := flat_le spB 27 v.past (fun x _ => by
      unfold spB
      simp only [List.length_append]
      have h1 := putN_len 8 x.1.toNat
      have h2 := putN_len 8 x.2.1.toNat
      have h3 := putN_len 8 (x.2.2 - x.2.1).toNat
      omega)
    omega
  have a4 : (tailB v).length ≤ 18 + v.val.size := by
    unfold tailB
    split
    · have := putN_len 8 1
      omega
    · rw [List.length_append]
      have := putN_len 8 0
      have := txtB_len v.val
      omega
  omega
theorem versB_len {l : List Vr} (h : rightV l = true) : (listB verB l).length ≤ 14336009 := by
  have h1 := (rightV_true.1 h)
  have := listB_len verB 28000 l (fun x hx => verB_len (h1.1.1 x hx).1)
  have := h1.2
  omega
theorem recB_len {r : Rc} (h : rightR r = true) : (recB r).length ≤ 14336050 := by
  obtain ⟨_, h2, h3⟩ := rightR_true.1 h
  unfold recB
  rw [List.length_append]
  have := txtB_len r.key
  have := versB_len h3
  omega
end Go.Proofs.Ytilagblpamhmkaa
namespace Go.Proofs.Ytilagblpamhmkaa
open Go.RowKit
set_option linter.unusedVariables false

theorem Box2.below {w w' : World} {g : Nat} {t : TypeId} {x y : Int} (h : Box2 w g t x y) (b : Below w.heap.size w w') : Box2 w' g t x y := (b.block g h.lt).trans h
theorem Box2.drewN {w : World} {g : Nat} {t : TypeId} {x y : Int} (h : Box2 w g t x y) (k : Nat) : Box2 (w.drewN k) g t x y := h
theorem two_below (w : World) (s n s' n' : Int) : Below w.heap.size w ((w.alloc (.cells #[.int .i64 s, .int .i64 n] 39)).alloc (.cells #[.int .i64 s', .int .i64 n'] 39)) :=
  have h := (Below.refl w.heap.size w).alloc (Nat.le_refl _) (.cells #[.int .i64 s, .int .i64 n] 39)
  h.alloc h.size _
set_option maxHeartbeats 1000000 in
set_option maxRecDepth 100000 in
theorem verBefore_any (s n s' n' : Int) (w : World) :
    Calls Try.prog 58 #[.agg #[.int .i64 s, .int .i64 n], .agg #[.int .i64 s', .int .i64 n']] w fun e w' => e = .returned (.bool (dltB s n s' n')) ∧ Below w.heap.size w w' := by
  have h := Lib.hid (two_below w s n s' n')
  by_cases h1 : s < s'
  · have hd := Lib.hid (dltB_yes (n := n) (n' := n') (.inl h1))
    have h3 : ¬ s = s' := by omega
    have h4 : (s == s') = false := by simpa using h3
    go_enter Try.func58, Try.ntmps58
    go_wp2
    go_ret
    exact ⟨retb hd.out, h.out⟩
  · by_cases h2 : s = s'
    · subst h2
      by_cases h3 : n < n'
      · have hd := Lib.hid (dltB_yes (s := s) (s' := s) (.inr ⟨rfl, h3⟩))
        go_enter Try.func58, Try.ntmps58
        go_wp2
        go_ret
        exact ⟨retb hd.out, h.out⟩
      · have hd := Lib.hid (dltB_no (s := s) (s' := s) (n := n) (n' := n') (by omega))
        go_enter Try.func58, Try.ntmps58
        go_wp2
        go_ret
        exact ⟨retb hd.out, h.out⟩
    · have hd := Lib.hid (dltB_no (s := s) (s' := s') (n := n) (n' := n') (by omega))
      have h4 : (s == s') = false := by simpa using h2
      go_enter Try.func58, Try.ntmps58
      go_wp2
      go_ret
      exact ⟨retb hd.out, h.out⟩
set_option maxHeartbeats 1000000 in
set_option maxRecDepth 100000 in
theorem refLess_any (s n s' n' : Int) (w : World) :
    Calls Try.prog 66 #[.agg #[.int .i64 s, .int .i64 n], .agg #[.int .i64 s', .int .i64 n']] w fun e w' => e = .returned (.bool (dltB s n s' n')) ∧ Below w.heap.size w w' := by
  have h := Lib.hid (two_below w s n s' n')
  by_cases h1 : s < s'
  · have hd := Lib.hid (dltB_yes (n := n) (n' := n') (.inl h1))
    have h3 : ¬ s = s' := by omega
    have h4 : (s == s') = false := by simpa using h3
    go_enter Try.func66, Try.ntmps66
    go_wp2
    go_ret
    exact ⟨retb hd.out, h.out⟩
  · by_cases h2 : s = s'
    · subst h2
      by_cases h3 : n < n'
      · have hd := Lib.hid (dltB_yes (s := s) (s' := s) (.inr ⟨rfl, h3⟩))
        go_enter Try.func66, Try.ntmps66
        go_wp2
        go_ret
        exact ⟨retb hd.out, h.out⟩
      · have hd := Lib.hid (dltB_no (s := s) (s' := s) (n := n) (n' := n') (by omega))
        go_enter Try.func66, Try.ntmps66
        go_wp2
        go_ret
        exact ⟨retb hd.out, h.out⟩
    · have hd := Lib.hid (dltB_no (s := s) (s' := s') (n := n) (n' := n') (by omega))
      have h4 : (s == s') = false := by simpa using h2
      go_enter Try.func66, Try.ntmps66
      go_wp2
      go_ret
      exact ⟨retb hd.out, h.out⟩

set_option maxHeartbeats 1000000 in
set_option maxRecDepth 100000 in
theorem verBehind_any (A : Option Addr) (n c : Nat) (l : List Vr) (s m : Int) (w : World) (hv : SlV w A n l) (hn : n ≤ 140737488351232) :
    Calls Try.prog 59 #[.agg #[.int .i64 s, .int .i64 m], .slice A n c] w fun e w' => e = .returned (.bool (behB l s m)) ∧ Below w.heap.size w w' := by
  have hll := hv.len
  have HB0 := Lib.hid (Box2.new w 39 s m)
  have BL0 : Below w.heap.size w (w.alloc (.cells #[.int .i64 s, .int .i64 m] 39)) := (Below.refl _ _).alloc (Nat.le_refl _) _
  have HL0 := Lib.hid BL0
  clear BL0
  go_enter Try.func59, Try.ntmps59
  go_wp2
  go_loopw [9] (fun i wr => ∃ (k : Nat), i = .int .i64 (k : Int) ∧ k ≤ n ∧ Hid (BehTo l s m k) ∧ Hid (Box2 wr w.heap.size 39 s m) ∧ Below w.heap.size w wr) (fun i _ => n - (intOf i).toNat)
  case atStart => exact ⟨0, rfl, Nat.zero_le _, BehTo.start l s m, HB0, HL0.out⟩
  case round =>
    obtain ⟨k, rfl, hk, Hok, Hbox, hbel⟩ := hrel
    have hsz := hbel.size
    by_cases hlt : k < n
    · obtain ⟨b, off, v, Ap, np, cp, rfl, hx, hr, hc0, hc1, hc2, hc3, hc4⟩ := (hv.below hbel).at_ hlt
      have Hx := Lib.hid hx
      have R2 := Lib.hid (hbel.alloc hsz (.cells #[.int .i64 v.s, .int .i64 v.n, .slice Ap np cp, .bool v.gone, .string v.val] 42))
      have HX2 := Hbox.out.alloc (.cells #[.int .i64 v.s, .int .i64 v.n, .slice Ap np cp, .bool v.gone, .string v.val] 42)
      have g0 := HX2.c0
      have g1 := HX2.c1
      have HX3 := Lib.hid HX2
      have HC := spanHas_any Ap np cp v.past s m _ (Sl.alloc hr.sl (.cells #[.int .i64 v.s, .int .i64 v.n, .slice Ap np cp, .bool v.gone, .string v.val] 42)) hr.n9
      clear hx hr HX2
      cases hh : hasB v.past s m
      · rw [hh] at HC
        have HC := Lib.hid HC
        have HS := Lib.hid (Hok.out.step Hx.out hh)
        clear hh
        go_wp2_with fail
        refine HC.out.mono ?_
        rintro e w1 ⟨rfl, b1⟩
        have HX4 := Lib.hid (HX3.out.below b1)
        have R4 := Lib.hid (R2.out.trans (b1.mono R2.out.size))
        clear g0 g1 HC b1
        go_wp2
        go_roundw
        case rel => exact ⟨k + 1, by go_num, by omega, HS.out, HX4, R4.out⟩
        case measure => simp [intOf]; omega
      · rw [hh] at HC
        have HC := Lib.hid HC
        have HS := Lib.hid (BehTo.hit Hx.out hh)
        clear hh
        go_wp2_with fail
        refine HC.out.mono ?_
        rintro e w1 ⟨rfl, b1⟩
        have R4 := Lib.hid (R2.out.trans (b1.mono R2.out.size))
        clear g0 g1 HC b1
        go_wp2
        go_ret
        exact ⟨retb HS.out, R4.out⟩
    · obtain rfl : k = n := by omega
      go_wp2
      go_ret
      exact ⟨retb (Hok.out.all hll), hbel⟩

set_option maxHeartbeats 1000000 in
set_option maxRecDepth 100000 in
theorem refBehind_any (A : Option Addr) (n c : Nat) (l : List Vr) (s m : Int) (w : World) (hv : SlV w A n l) (hn : n ≤ 140737488351232) :
    Calls Try.prog 65 #[.slice A n c, .agg #[.int .i64 s, .int .i64 m]] w fun e w' => e = .returned (.bool (behB l s m)) ∧ Below w.heap.size w w' := by
  have hll := hv.len
  have HB0 := Lib.hid (Box2.new w 39 s m)
  have BL0 : Below w.heap.size w (w.alloc (.cells #[.int .i64 s, .int .i64 m] 39)) := (Below.refl _ _).alloc (Nat.le_refl _) _
  have HL0 := Lib.hid BL0
  clear BL0
  go_enter Try.func65, Try.ntmps65
  go_wp2
  go_loopw [5] (fun i wr => ∃ (k : Nat), i = .int .i64 (k : Int) ∧ k ≤ n ∧ Hid (BehTo l s m k) ∧ Hid (Box2 wr w.heap.size 39 s m) ∧ Below w.heap.size w wr) (fun i _ => n - (intOf i).toNat)
  case atStart => exact ⟨0, rfl, Nat.zero_le _, BehTo.start l s m, HB0, HL0.out⟩
  case round =>
    obtain ⟨k, rfl, hk, Hok, Hbox, hbel⟩ := hrel
    have hsz := hbel.size
    by_cases hlt : k < n
    · obtain ⟨b, off, v, Ap, np, cp, rfl, hx, hr, hc0, hc1, hc2, hc3, hc4⟩ := (hv.below hbel).at_ hlt
      have Hx := Lib.hid hx
      have G0 := Ext.cell hc2
      have G1 := Ext.cell Hbox.out.c0
      have G2 := Ext.cell Hbox.out.c1
      have HC := fun x : Ext wr => refHas_any Ap np cp v.past s m x.w (Sl.below hr.sl x.below) hr.n9
      have j0 : (0 : Int) ≤ (k : Int) := by omega
      have j1 : (k : Int) < (n : Int) := by omega
      clear hx hr hc0 hc1 hc2 hc3 hc4
      cases hh : hasB v.past s m
      · simp only [hh] at HC
        have HC := Lib.hid HC
        have HS := Lib.hid (Hok.out.step Hx.out hh)
        clear hh
        go_wp2_with fail
        refine wp_region_ext (by kernel_rfl) (by kernel_rfl) ?_
        repeat (go_big_quiet_step ((go_at_call 81; exact Calls.ext_of (HC.out _))))
        refine wpQuiet_nil ?_
        intro w1 hw1
        have b1 := ext_end hw1
        have HX4 := Lib.hid (Hbox.out.below b1)
        have R4 := Lib.hid (hbel.trans (b1.mono hsz))
        clear hw1 G0 G1 G2 b1
        go_wp2
        go_roundw
        case rel => exact ⟨k + 1, by go_num, by omega, HS.out, HX4, R4.out⟩
        case measure => simp [intOf]; omega
      · simp only [hh] at HC
        have HC := Lib.hid HC
        have HS := Lib.hid (BehTo.hit Hx.out hh)
        clear hh
        go_wp2_with fail
        refine wp_region_ext (by kernel_rfl) (by kernel_rfl) ?_
        repeat (go_big_quiet_step ((go_at_call 81; exact Calls.ext_of (HC.out _))))
        refine wpQuiet_nil ?_
        intro w1 hw1
        have b1 := ext_end hw1
        have R4 := Lib.hid (hbel.trans (b1.mono hsz))
        clear hw1 G0 G1 G2 b1
        go_wp2
        go_ret
        exact ⟨retb HS.out, R4.out⟩
    · obtain rfl : k = n := by omega
      go_wp2
      go_ret
      exact ⟨retb (Hok.out.all hll), hbel⟩
end Go.Proofs.Ytilagblpamhmkaa
namespace Go.Proofs.Ytilagblpamhmkaa
open Go.RowKit
set_option linter.unusedVariables false

def vEq (v v' : Vr) : Bool := decide (v = v')
def lEq (l l' : List Vr) : Bool := decide (l = l')
theorem vEq_no {v v' : Vr} (h : v ≠ v') : vEq v v' = false := decide_eq_false h
def EqTo {α : Type} (a b : List α) (k : Nat) : Prop := a.take k = b.take k
section
variable {α : Type} {a b : List α} {k n : Nat} {x y : α}
theorem EqTo.start (a b : List α) : EqTo a b 0 := rfl
theorem EqTo.step (h : EqTo a b k) (hx : a[k]? = some x) (hy : b[k]? = some y) (e : x = y) : EqTo a b (k + 1) := by
  unfold EqTo at *
  rw [List.take_add_one, List.take_add_one, h, hx, hy, e]
theorem EqTo.ne (hx : a[k]? = some x) (hy : b[k]? = some y) (e : ¬ x = y) : a ≠ b := fun h => by
  rw [h, hy] at hx
  exact e (Option.some.inj hx).symm
theorem EqTo.all (h : EqTo a b n) (ha : a.length = n) (hb : b.length = n) : a = b := by
  unfold EqTo at h
  rwa [List.take_of_length_le (by omega), List.take_of_length_le (by omega)] at h
end
theorem lEq_ne {l l' : List Vr} {k : Nat} {x y : Vr} (hx : l[k]? = some x) (hy : l'[k]? = some y) (e : vEq x y = false) : lEq l l' = false := decide_eq_false (EqTo.ne hx hy (of_decide_eq_false e))
theorem lEq_len {l l' : List Vr} (h : l.length ≠ l'.length) : lEq l l' = false := decide_eq_false fun e => h (by rw [e])
theorem lEq_all {l l' : List Vr} {n : Nat} (h : EqTo l l' n) (ha : l.length = n) (hb : l'.length = n) : lEq l l' = true := decide_eq_true (h.all ha hb)
theorem EqTo.vstep {l l' : List Vr} {k : Nat} {x y : Vr} (h : EqTo l l' k) (hx : l[k]? = some x) (hy : l'[k]? = some y) (e : vEq x y = true) : EqTo l l' (k + 1) := h.step hx hy (of_decide_eq_true e)
theorem str_ne {a b : ByteArray} (h : a ≠ b) : (a.toList == b.toList) = false := by
  rw [beq_eq_false_iff_ne]
  intro e
  rw [ByteArray.toList_eq, ByteArray.toList_eq] at e
  apply h
  cases a; cases b
  congr 1
  exact Array.toList_inj.1 e
theorem neq_dot (a b c d : Int) (w : World) : (binOp .neq 39 (.agg #[.int .i64 a, .int .i64 b]) (.agg #[.int .i64 c, .int .i64 d])).run Try.prog w = .ok (.bool (!decide (a = c ∧ b = d))) w := by
  have h := Try.underlying39
  by_cases e1 : a = c
  · subst e1
    by_cases e2 : b = d
    · subst e2
      go_simp
    · go_simp
  · go_simp
theorem eq_dot (a b c d : Int) (w : World) : (binOp .eql 39 (.agg #[.int .i64 a, .int .i64 b]) (.agg #[.int .i64 c, .int .i64 d])).run Try.prog w = .ok (.bool (decide (a = c ∧ b = d))) w := by
  have h := Try.underlying39
  by_cases e1 : a = c
  · subst e1
    by_cases e2 : b = d
    · subst e2
      go_simp
    · go_simp
  · go_simp
theorem neq_span (a b c d e f : Int) (w : World) : (binOp .neq 53 (.agg #[.int .i64 a, .int .i64 b, .int .i64 c]) (.agg #[.int .i64 d, .int .i64 e, .int .i64 f])).run Try.prog w = .ok (.bool (!decide ((a, b, c) = (d, e, f)))) w := by
  have h := Try.underlying53
  by_cases e1 : a = d
  · subst e1
    by_cases e2 : b = e
    · subst e2
      by_cases e3 : c = f
      · subst e3
        go_simp
      · go_simp
    · go_simp
  · go_simp
/-- Two boxes, one behind the other. -/
theorem boxes (w : World) (v : Vr) (A : Option Addr) (n c : Nat) (v' : Vr) (A' : Option Addr) (n' c' : Nat) :
    BoxV ((w.alloc (.cells #[.int .i64 v.s, .int .i64 v.n, .slice A n c, .bool v.gone, .string v.val] 42)).alloc (.cells #[.int .i64 v'.s, .int .i64 v'.n, .slice A' n' c', .bool v'.gone, .string v'.val] 42)) w.heap.size v A n c ∧
    BoxV ((w.alloc (.cells #[.int .i64 v.s, .int .i64 v.n, .slice A n c, .bool v.gone, .string v.val] 42)).alloc (.cells #[.int .i64 v'.s, .int .i64 v'.n, .slice A' n' c', .bool v'.gone, .string v'.val] 42)) (w.heap.size + 1) v' A' n' c' ∧
    Below w.heap.size w ((w.alloc (.cells #[.int .i64 v.s, .int .i64 v.n, .slice A n c, .bool v.gone, .string v.val] 42)).alloc (.cells #[.int .i64 v'.s, .int .i64 v'.n, .slice A' n' c', .bool v'.gone, .string v'.val] 42)) := by
  have h1 : Below w.heap.size w (w.alloc (.cells #[.int .i64 v.s, .int .i64 v.n, .slice A n c, .bool v.gone, .string v.val] 42)) := (Below.refl _ _).alloc (Nat.le_refl _) _
  refine ⟨(BoxV.new w v A n c).below ((Below.refl _ _).alloc (Nat.le_refl _) _), ?_, h1.alloc h1.size _⟩
  have h2 := BoxV.new (w.alloc (.cells #[.int .i64 v.s, .int .i64 v.n, .slice A n c, .bool v.gone, .string v.val] 42)) v' A' n' c'
  rwa [show (w.alloc (.cells #[.int .i64 v.s, .int .i64 v.n, .slice A n c, .bool v.gone, .string v.val] 42)).heap.size = w.heap.size + 1 by simp] at h2

end Go.Proofs.Ytilagblpamhmkaa
namespace Go.Proofs.Ytilagblpamhmkaa
open Go.RowKit
set_option linter.unusedVariables false

set_option maxHeartbeats 2000000 in
set_option maxRecDepth 100000 in
theorem refSameOne_any (v v' : Vr) (A A' : Option Addr) (n n' c c' : Nat) (w : World) (hv : VRow w v A n c) (hv' : VRow w v' A' n' c') :
    Calls Try.prog 56 #[.agg #[.int .i64 v.s, .int .i64 v.n, .slice A n c, .bool v.gone, .string v.val], .agg #[.int .i64 v'.s, .int .i64 v'.n, .slice A' n' c', .bool v'.gone, .string v'.val]] w fun e w' => e = .returned (.bool (vEq v v')) ∧ Below w.heap.size w w' := by
  have HB := Lib.hid (boxes w v A n c v' A' n' c')
  have hc := sameS_any A A' n n' c c' v.past v'.past _ (Sl.below hv.sl HB.out.2.2) (Sl.below hv'.sl HB.out.2.2) hv.n9
  clear hv hv'
  obtain ⟨s, m, past, gone, val⟩ := v
  obtain ⟨s', m', past', gone', val'⟩ := v'
  simp only at *
  have hq := eq_dot s m s' m'
  cases hd : decide (s = s' ∧ m = m')
  · have HNE : Hid (¬ (s = s' ∧ m = m' ∧ past = past' ∧ gone = gone' ∧ val = val')) := Lib.hid (fun h => of_decide_eq_false hd ⟨h.1, h.2.1⟩)
    have hne := Lib.hid (vEq_no (v := ⟨s, m, past, gone, val⟩) (v' := ⟨s', m', past', gone', val'⟩) (by intro e; injection e with e1 e2 e3 e4 e5; exact HNE.out ⟨e1, e2, e3, e4, e5⟩))
    simp only [hd] at hq
    clear hd hc HNE
    go_enter Try.func56, Try.ntmps56
    go_wp2
    go_ret
    exact ⟨retb hne.out, HB.out.2.2⟩
  · simp only [hd] at hq
    obtain ⟨rfl, rfl⟩ := of_decide_eq_true hd
    clear hd
    by_cases hg : gone = gone'
    · subst hg
      by_cases hv : val = val'
      · subst hv
        have he : vEq ⟨s, m, past, gone, val⟩ ⟨s, m, past', gone, val⟩ = (past == past') := by
          unfold vEq
          rw [Bool.eq_iff_iff, decide_eq_true_iff, beq_iff_eq]
          exact ⟨fun e => by injection e, fun e => by rw [e]⟩
        have HE := Lib.hid he
        have HC := Lib.hid hc
        clear he hc
        go_enter Try.func56, Try.ntmps56
        go_wp2_with fail
        refine HC.out.mono ?_
        rintro e w1 ⟨rfl, d, rfl⟩
        go_wp2
        go_ret
        exact ⟨retb HE.out, below_drewN HB.out.2.2 _⟩
      · have q := str_ne hv
        have hne := Lib.hid (vEq_no (v := ⟨s, m, past, gone, val⟩) (v' := ⟨s, m, past', gone, val'⟩) (by intro e; injection e with e1 e2 e3 e4 e5; exact hv e5))
        clear hv hc
        go_enter Try.func56, Try.ntmps56
        go_wp2
        go_ret
        exact ⟨retb hne.out, HB.out.2.2⟩
    · have hne := Lib.hid (vEq_no (v := ⟨s, m, past, gone, val⟩) (v' := ⟨s, m, past', gone', val'⟩) (by intro e; injection e with e1 e2 e3 e4 e5; exact hg e4))
      clear hc
      cases gone <;> cases gone' <;> first | exact absurd rfl hg | (clear hg; go_enter Try.func56, Try.ntmps56; go_wp2; go_ret; exact ⟨retb hne.out, HB.out.2.2⟩)

set_option maxHeartbeats 2000000 in
set_option maxRecDepth 100000 in
theorem refSameV_any (A1 A2 : Option Addr) (n1 n2 c1 c2 : Nat) (l1 l2 : List Vr) (w : World) (h1 : SlV w A1 n1 l1) (h2 : SlV w A2 n2 l2) (hn : n1 ≤ 140737488351232) (hn2 : n2 ≤ 140737488351232) :
    Calls Try.prog 47 #[.slice A1 n1 c1, .slice A2 n2 c2] w fun e w' => e = .returned (.bool (lEq l1 l2)) ∧ Below w.heap.size w w' := by
  have e1 := h1.len
  have e2 := h2.len
  by_cases he : n1 = n2
  · go_enter Try.func47, Try.ntmps47
    go_wp2
    go_loopw [5] (fun i wr => ∃ (k : Nat), i = .int .i64 (k : Int) ∧ k ≤ n1 ∧ Hid (EqTo l1 l2 k) ∧ Below w.heap.size w wr) (fun i _ => n1 - (intOf i).toNat)
    case atStart => exact ⟨0, rfl, Nat.zero_le _, EqTo.start l1 l2, Below.refl _ _⟩
    case round =>
      obtain ⟨k, rfl, hk, Hok, hbel⟩ := hrel
      by_cases hlt : k < n1
      · have hr1 := h1.below hbel
        have hr2 := h2.below hbel
        obtain ⟨b, off, v, Ap, np, cp, rfl, hx, hr, hc0, hc1, hc2, hc3, hc4⟩ := hr1.at_ (k := k) (by omega)
        obtain ⟨b', off', v', Ap', np', cp', rfl, hy, hr', hd0, hd1, hd2, hd3, hd4⟩ := hr2.at_ (k := k) (by omega)
        have G0 := Ext.cell hc0
        have G1 := Ext.cell hc1
        have G2 := Ext.cell hc2
        have G3 := Ext.cell hc3
        have G4 := Ext.cell hc4
        have K0 := Ext.cell hd0
        have K1 := Ext.cell hd1
        have K2 := Ext.cell hd2
        have K3 := Ext.cell hd3
        have K4 := Ext.cell hd4
        have hsz := hbel.size
        have Hx := Lib.hid hx
        have Hy := Lib.hid hy
        have j0 : (0 : Int) ≤ (k : Int) := by omega
        have j1 : (k : Int) < (n1 : Int) := by omega
        have j2 : (k : Int) < (n2 : Int) := by omega
        have HC := fun x : Ext wr => refSameOne_any v v' Ap Ap' np np' cp cp' x.w (hr.below x.below) (hr'.below x.below)
        clear hx hy hr hr' hc0 hc1 hc2 hc3 hc4 hd0 hd1 hd2 hd3 hd4 hr1 hr2
        cases hh : vEq v v'
        · simp only [hh] at HC
          have HC := Lib.hid HC
          have HS := Lib.hid (lEq_ne Hx.out Hy.out hh)
          clear hh
          go_wp2_with fail
          refine wp_region_ext (by kernel_rfl) (by kernel_rfl) ?_
          repeat (go_big_quiet_step ((go_at_call 56; exact Calls.ext_of (HC.out _))))
          refine wpQuiet_nil ?_
          intro w1 hw1
          have R4 := Lib.hid (hbel.trans ((ext_end hw1).mono hsz))
          clear hw1 G0 G1 G2 G3 G4 K0 K1 K2 K3 K4
          go_wp2
          go_ret
          exact ⟨retb HS.out, R4.out⟩
        · simp only [hh] at HC
          have HC := Lib.hid HC
          have HS := Lib.hid (Hok.out.vstep Hx.out Hy.out hh)
          clear hh
          go_wp2_with fail
          refine wp_region_ext (by kernel_rfl) (by kernel_rfl) ?_
          repeat (go_big_quiet_step ((go_at_call 56; exact Calls.ext_of (HC.out _))))
          refine wpQuiet_nil ?_
          intro w1 hw1
          have R4 := Lib.hid (hbel.trans ((ext_end hw1).mono hsz))
          clear hw1 G0 G1 G2 G3 G4 K0 K1 K2 K3 K4
          go_wp2
          go_roundw
          case rel => exact ⟨k + 1, by go_num, by omega, HS.out, R4.out⟩
          case measure => simp [intOf]; omega
      · obtain rfl : k = n1 := by omega
        have HT := Lib.hid (lEq_all Hok.out e1 (by omega))
        go_wp2
        go_ret
        exact ⟨retb HT.out, hbel⟩
  · have HF := Lib.hid (lEq_len (l := l1) (l' := l2) (by omega))
    have q : ¬ ((n1 : Int) = (n2 : Int)) := by omega
    go_enter Try.func47, Try.ntmps47
    go_wp2
    go_ret
    exact ⟨retb HF.out, Below.refl _ _⟩
end Go.Proofs.Ytilagblpamhmkaa
namespace Go.Proofs.Ytilagblpamhmkaa
open Go.RowKit
set_option linter.unusedVariables false

def keepL (p : Vr → Bool) (x : Vr) (l : List Vr) : List Vr := (if p x then [x] else []) ++ l
theorem keepL_yes {p : Vr → Bool} {x : Vr} (h : p x = true) (l : List Vr) : keepL p x l = x :: l := by unfold keepL; rw [if_pos h]; rfl
theorem keepL_no {p : Vr → Bool} {x : Vr} (h : p x = false) (l : List Vr) : keepL p x l = l := by unfold keepL; rw [if_neg (by rw [h]; decide)]; rfl
theorem mem_keepL {p : Vr → Bool} {x v : Vr} {l : List Vr} : v ∈ keepL p x l ↔ (v = x ∧ p x = true) ∨ v ∈ l := by
  cases h : p x
  · rw [keepL_no h]; simp
  · rw [keepL_yes h]; simp
def mrgL (p : Vr → Bool) : List Vr → List Vr → List Vr
  | [], [] => []
  | [], y :: s => keepL p y (mrgL p [] s)
  | x :: r, [] => keepL p x (mrgL p r [])
  | x :: r, y :: s => if dltB x.s x.n y.s y.n then keepL p x (mrgL p r (y :: s)) else if x.s = y.s ∧ x.n = y.n then mrgL p r (y :: s) else keepL p y (mrgL p (x :: r) s)
termination_by a b => a.length + b.length
def mrgT : List Vr → List Vr → Bool
  | [], _ => false
  | _ :: _, [] => false
  | x :: r, y :: s => if dltB x.s x.n y.s y.n then mrgT r (y :: s) else if x.s = y.s ∧ x.n = y.n then (!vEq x y || mrgT r (y :: s)) else mrgT (x :: r) s
termination_by a b => a.length + b.length
theorem mrgT_nil (a : List Vr) : mrgT a [] = false := by cases a <;> simp [mrgT]
theorem dot_eq_not_lt {x y : Vr} (h : x.s = y.s ∧ x.n = y.n) : dltB x.s x.n y.s y.n = false := dltB_no (by omega)
theorem dlt_or {x y : Vr} (h1 : dltB x.s x.n y.s y.n = false) (h2 : ¬ (x.s = y.s ∧ x.n = y.n)) : dlt y x := by
  rw [dlt_iff]
  have := of_decide_eq_false h1
  omega
/-- Two of one dot are one. -/
def NoTwin (a b : List Vr) : Prop := ∀ x ∈ a, ∀ y ∈ b, x.s = y.s ∧ x.n = y.n → x = y
theorem mem_mrgL (p : Vr → Bool) (v : Vr) : ∀ (a b : List Vr), NoTwin a b → (v ∈ mrgL p a b ↔ p v = true ∧ (v ∈ a ∨ v ∈ b))
  | [], [], _ => by simp [mrgL]
  | [], y :: s, h => by
    rw [mrgL, mem_keepL, mem_mrgL p v [] s (fun x hx => by cases hx)]
    simp only [List.not_mem_nil, false_or, List.mem_cons]
    constructor
    · rintro (⟨rfl, h1⟩ | ⟨h1, h2⟩)
      · exact ⟨h1, .inl rfl⟩
      · exact ⟨h1, .inr h2⟩
    · rintro ⟨h1, rfl | h2⟩
      · exact .inl ⟨rfl, h1⟩
      · exact .inr ⟨h1, h2⟩
  | x :: r, [], h => by
    rw [mrgL, mem_keepL, mem_mrgL p v r [] (fun _ _ y hy => by cases hy)]
    simp only [List.not_mem_nil, or_false, List.mem_cons]
    constructor
    · rintro (⟨rfl, h1⟩ | ⟨h1, h2⟩)
      · exact ⟨h1, .inl rfl⟩
      · exact ⟨h1, .inr h2⟩
    · rintro ⟨h1, rfl | h2⟩
      · exact .inl ⟨rfl, h1⟩
      · exact .inr ⟨h1, h2⟩
  | x :: r, y :: s, h => by
    have h1 : NoTwin r (y :: s) := fun u hu z hz => h u (List.mem_cons_of_mem _ hu) z hz
    have h2 : NoTwin (x :: r) s := fun u hu z hz => h u hu z (List.mem_cons_of_mem _ hz)
    rw [mrgL]
    split
    · rw [mem_keepL, mem_mrgL p v r (y :: s) h1]
      simp only [List.mem_cons]
      constructor
      · rintro (⟨rfl, k1⟩ | ⟨k1, k2⟩)
        · exact ⟨k1, .inl (.inl rfl)⟩
        · exact ⟨k1, k2.imp .inr id⟩
      · rintro ⟨k1, (rfl | k2) | k3⟩
        · exact .inl ⟨rfl, k1⟩
        · exact .inr ⟨k1, .inl k2⟩
        · exact .inr ⟨k1, .inr k3⟩
    · split
      · rename_i hd
        have e := h x (List.mem_cons_self ..) y (List.mem_cons_self ..) hd
        rw [mem_mrgL p v r (y :: s) h1]
        simp only [List.mem_cons]
        constructor
        · rintro ⟨k1, k2⟩
          exact ⟨k1, k2.imp .inr id⟩
        · rintro ⟨k1, (rfl | k2) | k3⟩
          · exact ⟨k1, .inr (.inl e)⟩
          · exact ⟨k1, .inl k2⟩
          · exact ⟨k1, .inr k3⟩
      · rw [mem_keepL, mem_mrgL p v (x :: r) s h2]
        simp only [List.mem_cons]
        constructor
        · rintro (⟨rfl, k1⟩ | ⟨k1, k2⟩)
          · exact ⟨k1, .inr (.inl rfl)⟩
          · exact ⟨k1, k2.imp id .inr⟩
        · rintro ⟨k1, k2 | rfl | k3⟩
          · exact .inr ⟨k1, .inl k2⟩
          · exact .inl ⟨rfl, k1⟩
          · exact .inr ⟨k1, .inr k3⟩
termination_by a b => a.length + b.length
theorem mrgL_sub (p : Vr → Bool) (v : Vr) : ∀ (a b : List Vr), v ∈ mrgL p a b → v ∈ a ∨ v ∈ b
  | [], [], h => by simp [mrgL] at h
  | [], y :: s, h => by
    rw [mrgL, mem_keepL] at h
    rcases h with ⟨rfl, _⟩ | h
    · exact .inr (List.mem_cons_self ..)
    · exact (mrgL_sub p v [] s h).imp id (List.mem_cons_of_mem _)
  | x :: r, [], h => by
    rw [mrgL, mem_keepL] at h
    rcases h with ⟨rfl, _⟩ | h
    · exact .inl (List.mem_cons_self ..)
    · exact (mrgL_sub p v r [] h).imp (List.mem_cons_of_mem _) id
  | x :: r, y :: s, h => by
    rw [mrgL] at h
    split at h
    · rw [mem_keepL] at h
      rcases h with ⟨rfl, _⟩ | h
      · exact .inl (List.mem_cons_self ..)
      · exact (mrgL_sub p v r (y :: s) h).imp (List.mem_cons_of_mem _) id
    · split at h
      · exact (mrgL_sub p v r (y :: s) h).imp (List.mem_cons_of_mem _) id
      · rw [mem_keepL] at h
        rcases h with ⟨rfl, _⟩ | h
        · exact .inr (List.mem_cons_self ..)
        · exact (mrgL_sub p v (x :: r) s h).imp id (List.mem_cons_of_mem _)
termination_by a b => a.length + b.length
theorem keepL_sorted {p : Vr → Bool} {x : Vr} {l : List Vr} (h : l.Pairwise dlt) (hx : ∀ v ∈ l, dlt x v) : (keepL p x l).Pairwise dlt := by
  cases hp : p x
  · rw [keepL_no hp]; exact h
  · rw [keepL_yes hp]; exact List.pairwise_cons.2 ⟨hx, h⟩
theorem mrgL_sorted (p : Vr → Bool) : ∀ (a b : List Vr), a.Pairwise dlt → b.Pairwise dlt → (mrgL p a b).Pairwise dlt
  | [], [], _, _ => by simp [mrgL]
  | [], y :: s, ha, hb => by
    rw [mrgL]
    refine keepL_sorted (mrgL_sorted p [] s ha (List.pairwise_cons.1 hb).2) fun v hv => ?_
    rcases mrgL_sub p v _ _ hv with h | h
    · cases h
    · exact (List.pairwise_cons.1 hb).1 v h
  | x :: r, [], ha, hb => by
    rw [mrgL]
    refine keepL_sorted (mrgL_sorted p r [] (List.pairwise_cons.1 ha).2 hb) fun v hv => ?_
    rcases mrgL_sub p v _ _ hv with h | h
    · exact (List.pairwise_cons.1 ha).1 v h
    · cases h
  | x :: r, y :: s, ha, hb => by
    have a1 := List.pairwise_cons.1 ha
    have b1 := List.pairwise_cons.1 hb
    rw [mrgL]
    split
    · rename_i hd
      refine keepL_sorted (mrgL_sorted p r (y :: s) a1.2 hb) fun v hv => ?_
      rcases mrgL_sub p v _ _ hv with h | h
      · exact a1.1 v h
      · rcases List.mem_cons.1 h with rfl | h
        · exact hd
        · exact dlt_trans (y := y) hd (b1.1 v h)
    · rename_i hd
      split
      · exact mrgL_sorted p r (y :: s) a1.2 hb
      · rename_i hne
        have hyx := dlt_or (by simpa using hd) hne
        refine keepL_sorted (mrgL_sorted p (x :: r) s ha b1.2) fun v hv => ?_
        rcases mrgL_sub p v _ _ hv with h | h
        · rcases List.mem_cons.1 h with rfl | h
          · exact hyx
          · exact dlt_trans hyx (a1.1 v h)
        · exact b1.1 v h
termination_by a b => a.length + b.length
theorem mrgT_iff : ∀ (a b : List Vr), a.Pairwise dlt → b.Pairwise dlt → (mrgT a b = true ↔ ∃ x ∈ a, ∃ y ∈ b, (x.s = y.s ∧ x.n = y.n) ∧ x ≠ y)
  | [], b, _, _ => by simp [mrgT]
  | x :: r, [], _, _ => by simp [mrgT]
  | x :: r, y :: s, ha, hb => by
    have a1 := List.pairwise_cons.1 ha
    have b1 := List.pairwise_cons.1 hb
    have lt_ne : ∀ {u v : Vr}, dlt u v → ¬ (u.s = v.s ∧ u.n = v.n) := fun h1 h2 => by rw [dlt_iff] at h1; omega
    rw [mrgT]
    split
    · rename_i hd
      rw [mrgT_iff r (y :: s) a1.2 hb]
      constructor
      · rintro ⟨u, hu, z, hz, k⟩
        exact ⟨u, List.mem_cons_of_mem _ hu, z, hz, k⟩
      · rintro ⟨u, hu, z, hz, k⟩
        rcases List.mem_cons.1 hu with rfl | hu
        · exfalso
          rcases List.mem_cons.1 hz with rfl | hz
          · exact lt_ne hd k.1
          · exact lt_ne (dlt_trans (y := y) hd (b1.1 z hz)) k.1
        · exact ⟨u, hu, z, hz, k⟩
    · rename_i hd
      split
      · rename_i he
        rw [Bool.or_eq_true, mrgT_iff r (y :: s) a1.2 hb]
        constructor
        · rintro (h | ⟨u, hu, z, hz, k⟩)
          · refine ⟨x, List.mem_cons_self .., y, List.mem_cons_self .., he, ?_⟩
            have : vEq x y = false := by simpa using h
            exact of_decide_eq_false this
          · exact ⟨u, List.mem_cons_of_mem _ hu, z, hz, k⟩
        · rintro ⟨u, hu, z, hz, k⟩
          rcases List.mem_cons.1 hu with rfl | hu
          · rcases List.mem_cons.1 hz with rfl | hz
            · exact .inl (by rw [vEq_no k.2]; rfl)
            · exfalso
              have h1 := b1.1 z hz
              rw [dlt_iff] at h1
              omega
          · exact .inr ⟨u, hu, z, hz, k⟩
      · rename_i hne
        have hyx := dlt_or (by simpa using hd) hne
        rw [mrgT_iff (x :: r) s ha b1.2]
        constructor
        · rintro ⟨u, hu, z, hz, k⟩
          exact ⟨u, hu, z, List.mem_cons_of_mem _ hz, k⟩
        · rintro ⟨u, hu, z, hz, k⟩
          rcases List.mem_cons.1 hz with rfl | hz
          · exfalso
            rcases List.mem_cons.1 hu with rfl | hu
            · exact hne k.1
            · exact lt_ne (dlt_trans hyx (a1.1 u hu)) ⟨k.1.1.symm, k.1.2.symm⟩
          · exact ⟨u, hu, z, hz, k⟩
termination_by a b => a.length + b.length
theorem sorted_ext : ∀ {a b : List Vr}, a.Pairwise dlt → b.Pairwise dlt → (∀ v, v ∈ a ↔ v ∈ b) → a = b
  | [], [], _, _, _ => rfl
  | [], y :: s, _, _, h => by have := (h y).2 (List.mem_cons_self ..); cases this
  | x :: r, [], _, _, h => by have := (h x).1 (List.mem_cons_self ..); cases this
  | x :: r, y :: s, ha, hb, h => by
    have a1 := List.pairwise_cons.1 ha
    have b1 := List.pairwise_cons.1 hb
    have e : x = y := by
      rcases List.mem_cons.1 ((h x).1 (List.mem_cons_self ..)) with e | hx
      · exact e
      · rcases List.mem_cons.1 ((h y).2 (List.mem_cons_self ..)) with e | hy
        · exact e.symm
        · exact absurd (dlt_trans (b1.1 x hx) (a1.1 y hy)) (dlt_irrefl _)
    subst e
    rw [sorted_ext a1.2 b1.2 fun v => ⟨fun hv => ?_, fun hv => ?_⟩]
    · rcases List.mem_cons.1 ((h v).1 (List.mem_cons_of_mem _ hv)) with rfl | h'
      · exact absurd (a1.1 _ hv) (dlt_irrefl _)
      · exact h'
    · rcases List.mem_cons.1 ((h v).2 (List.mem_cons_of_mem _ hv)) with rfl | h'
      · exact absurd (b1.1 _ hv) (dlt_irrefl _)
      · exact h'
theorem mrgL_len (p : Vr → Bool) : ∀ (a b : List Vr), (mrgL p a b).length ≤ a.length + b.length
  | [], [] => by simp [mrgL]
  | [], y :: s => by
    rw [mrgL]
    have := mrgL_len p [] s
    unfold keepL
    split <;> simp <;> simp at this <;> omega
  | x :: r, [] => by
    rw [mrgL]
    have := mrgL_len p r []
    unfold keepL
    split <;> simp <;> simp at this <;> omega
  | x :: r, y :: s => by
    have h1 := mrgL_len p r (y :: s)
    have h2 := mrgL_len p (x :: r) s
    simp only [List.length_cons] at h1 h2
    rw [mrgL]
    split
    · unfold keepL
      split <;> simp <;> omega
    · split
      · simp only [List.length_cons]; omega
      · unfold keepL
        split <;> simp <;> omega
termination_by a b => a.length + b.length

/-! ### The document's way -/
/-- How many stand ahead of a dot. -/
def atV : List Vr → Vr → Nat
  | [], _ => 0
  | x :: r, v => if dltB x.s x.n v.s v.n then atV r v + 1 else 0
def hitV (l : List Vr) (v : Vr) : Bool := match l[atV l v]? with | some y => decide (y.s = v.s ∧ y.n = v.n) | none => false
theorem hitV_some {l : List Vr} {v y : Vr} (h : l[atV l v]? = some y) : hitV l v = decide (y.s = v.s ∧ y.n = v.n) := by unfold hitV; rw [h]
theorem hitV_none {l : List Vr} {v : Vr} (h : l.length ≤ atV l v) : hitV l v = false := by unfold hitV; rw [List.getElem?_eq_none h]
def putV (l : List Vr) (v : Vr) : List Vr := if hitV l v = true then l else l.take (atV l v) ++ [v] ++ l.drop (atV l v)
theorem atV_le : ∀ (l : List Vr) (v : Vr), atV l v ≤ l.length
  | [], _ => Nat.le_refl _
  | x :: r, v => by
    unfold atV
    split
    · simp; exact atV_le r v
    · simp
theorem atV_before : ∀ (l : List Vr) (v : Vr) (k : Nat) (x : Vr), k < atV l v → l[k]? = some x → dltB x.s x.n v.s v.n = true
  | [], v, k, x, hk, hx => by simp at hx
  | y :: r, v, k, x, hk, hx => by
    unfold atV at hk
    split at hk
    · rename_i hd
      cases k with
      | zero => simp at hx; subst hx; exact hd
      | succ k => simp at hx; exact atV_before r v k x (by omega) hx
    · omega
theorem atV_stop : ∀ (l : List Vr) (v : Vr) (x : Vr), l[atV l v]? = some x → dltB x.s x.n v.s v.n = false
  | [], v, x, hx => by simp at hx
  | y :: r, v, x, hx => by
    unfold atV at hx
    split at hx
    · simp at hx; exact atV_stop r v x hx
    · rename_i hd
      simp at hx
      subst hx
      simpa using hd
theorem putV_sorted {l : List Vr} {v : Vr} (h : l.Pairwise dlt) : (putV l v).Pairwise dlt := by
  unfold putV
  split
  · exact h
  · rename_i hn
    have hle := atV_le l v
    have hlt : ∀ x ∈ l.take (atV l v), dlt x v := fun x hx => by
      obtain ⟨j, hj, rfl⟩ := List.getElem_of_mem hx
      rw [List.length_take] at hj
      rw [List.getElem_take]
      exact atV_before l v j _ (by omega) (List.getElem?_eq_getElem _)
    have hgt : ∀ x ∈ l.drop (atV l v), dlt v x := fun x hx => by
      obtain ⟨j, hj, rfl⟩ := List.getElem_of_mem hx
      rw [List.length_drop] at hj
      rw [List.getElem_drop]
      have hz : l[atV l v]? = some (l[atV l v]'(by omega)) := List.getElem?_eq_getElem _
      have hs := atV_stop l v _ hz
      rw [hitV_some hz] at hn
      have hne : ¬ ((l[atV l v]'(by omega)).s = v.s ∧ (l[atV l v]'(by omega)).n = v.n) := by simpa using hn
      have h0 := dlt_or hs hne
      by_cases hj0 : j = 0
      · subst hj0; exact h0
      · exact dlt_trans h0 (List.pairwise_iff_getElem.1 h (atV l v) (atV l v + j) (by omega) (by omega) (by omega))
    refine List.pairwise_append.2 ⟨List.pairwise_append.2 ⟨h.sublist (List.take_sublist _ _), List.pairwise_singleton _ _, fun a ha b hb => ?_⟩, h.sublist (List.drop_sublist _ _), fun a ha b hb => ?_⟩
    · rw [List.mem_singleton.1 hb]; exact hlt a ha
    · rcases List.mem_append.1 ha with ha | ha
      · exact dlt_trans (hlt a ha) (hgt b hb)
      · rw [List.mem_singleton.1 ha]; exact hgt b hb
theorem mem_putV {l : List Vr} {v : Vr} (ht : ∀ x ∈ l, x.s = v.s ∧ x.n = v.n → x = v) (u : Vr) : u ∈ putV l v ↔ u ∈ l ∨ u = v := by
  unfold putV
  split
  · rename_i h
    cases hz : l[atV l v]? with
    | none =>
      unfold hitV at h
      rw [hz] at h
      cases h
    | some y =>
      rw [hitV_some hz] at h
      have hm := List.mem_of_getElem? hz
      have e := ht y hm (of_decide_eq_true h)
      subst e
      constructor
      · exact .inl
      · rintro (h1 | rfl)
        · exact h1
        · exact hm
  · constructor
    · intro h
      rcases List.mem_append.1 h with h | h
      · rcases List.mem_append.1 h with h | h
        · exact .inl (List.mem_of_mem_take h)
        · exact .inr (List.mem_singleton.1 h)
      · exact .inl (List.mem_of_mem_drop h)
    · rintro (h | rfl)
      · rw [← List.take_append_drop (atV l v) l] at h
        rcases List.mem_append.1 h with h | h
        · exact List.mem_append_left _ (List.mem_append_left _ h)
        · exact List.mem_append_right _ h
      · exact List.mem_append_left _ (List.mem_append_right _ (List.mem_singleton.2 rfl))
theorem putV_len (l : List Vr) (v : Vr) : (putV l v).length ≤ l.length + 1 := by
  unfold putV
  split
  · omega
  · have := atV_le l v
    simp
    omega
/-- The document's fold: those of l that p lets through are laid in. -/
def foldV (p : Vr → Bool) (out : List Vr) : List Vr → List Vr
  | [] => out
  | x :: r => foldV p (if p x then putV out x else out) r
theorem foldV_snoc (p : Vr → Bool) : ∀ (l out : List Vr) (x : Vr), foldV p out (l ++ [x]) = if p x then putV (foldV p out l) x else foldV p out l
  | [], out, x => rfl
  | y :: r, out, x => by
    rw [List.cons_append]
    exact foldV_snoc p r _ x
theorem foldV_sorted (p : Vr → Bool) : ∀ (l out : List Vr), out.Pairwise dlt → (foldV p out l).Pairwise dlt
  | [], out, h => h
  | x :: r, out, h => by
    unfold foldV
    split
    · exact foldV_sorted p r _ (putV_sorted h)
    · exact foldV_sorted p r _ h
theorem foldV_len (p : Vr → Bool) : ∀ (l out : List Vr), (foldV p out l).length ≤ out.length + l.length
  | [], out => by simp [foldV]
  | x :: r, out => by
    unfold foldV
    split
    · have h1 := foldV_len p r (putV out x)
      have h2 := putV_len out x
      simp only [List.length_cons]
      omega
    · have h1 := foldV_len p r out
      simp only [List.length_cons]
      omega
theorem mem_foldV (p : Vr → Bool) (u : Vr) : ∀ (l out : List Vr), (∀ x ∈ out, ∀ y ∈ l, x.s = y.s ∧ x.n = y.n → x = y) → (∀ x ∈ l, ∀ y ∈ l, x.s = y.s ∧ x.n = y.n → x = y) → (u ∈ foldV p out l ↔ u ∈ out ∨ (u ∈ l ∧ p u = true))
  | [], out, _, _ => by simp [foldV]
  | x :: r, out, h1, h2 => by
    have hx : ∀ y ∈ out, y.s = x.s ∧ y.n = x.n → y = x := fun y hy => h1 y hy x (List.mem_cons_self ..)
    have h2' : ∀ a ∈ r, ∀ b ∈ r, a.s = b.s ∧ a.n = b.n → a = b := fun a ha b hb => h2 a (List.mem_cons_of_mem _ ha) b (List.mem_cons_of_mem _ hb)
    unfold foldV
    cases hp : p x
    · rw [if_neg (by decide), mem_foldV p u r out (fun a ha b hb => h1 a ha b (List.mem_cons_of_mem _ hb)) h2']
      constructor
      · rintro (h | ⟨h, k⟩)
        · exact .inl h
        · exact .inr ⟨List.mem_cons_of_mem _ h, k⟩
      · rintro (h | ⟨h, k⟩)
        · exact .inl h
        · rcases List.mem_cons.1 h with rfl | h
          · rw [hp] at k; cases k
          · exact .inr ⟨h, k⟩
    · rw [if_pos rfl, mem_foldV p u r (putV out x) (fun a ha b hb e => by
        rcases (mem_putV hx a).1 ha with ha | rfl
        · exact h1 a ha b (List.mem_cons_of_mem _ hb) e
        · exact h2 a (List.mem_cons_self ..) b (List.mem_cons_of_mem _ hb) e) h2', mem_putV hx]
      constructor
      · rintro ((h | rfl) | ⟨h, k⟩)
        · exact .inl h
        · exact .inr ⟨List.mem_cons_self .., hp⟩
        · exact .inr ⟨List.mem_cons_of_mem _ h, k⟩
      · rintro (h | ⟨h, k⟩)
        · exact .inl (.inl h)
        · rcases List.mem_cons.1 h with rfl | h
          · exact .inl (.inr rfl)
          · exact .inr ⟨h, k⟩
theorem sorted_own {l : List Vr} (h : l.Pairwise dlt) : ∀ x ∈ l, ∀ y ∈ l, x.s = y.s ∧ x.n = y.n → x = y := by
  intro x hx y hy e
  obtain ⟨i, hi, rfl⟩ := List.getElem_of_mem hx
  obtain ⟨j, hj, rfl⟩ := List.getElem_of_mem hy
  rcases Nat.lt_trichotomy i j with h1 | h1 | h1
  · have := List.pairwise_iff_getElem.1 h i j hi hj h1
    rw [dlt_iff] at this
    omega
  · subst h1; rfl
  · have := List.pairwise_iff_getElem.1 h j i hj hi h1
    rw [dlt_iff] at this
    omega

/-! ### The two ways are one -/
noncomputable def keepB (a b : List Vr) (v : Vr) : Bool := !behB a v.s v.n && !behB b v.s v.n
noncomputable def joinV (a b : List Vr) : List Vr := mrgL (keepB a b) a b
/-- What merging answers: its error's number, its list. -/
noncomputable def mrgE (a b : List Vr) : Int := if (rightV a && rightV b) = false then 1 else if mrgT a b = true then 50 else if 512 < (joinV a b).length then 3 else 0
noncomputable def mergedL (a b : List Vr) : List Vr := if mrgE a b = 0 then joinV a b else []
noncomputable def refJoin (a b : List Vr) : List Vr := foldV (fun v => !behB a v.s v.n) (foldV (fun v => !behB b v.s v.n) [] a) b
theorem noTwin {a b : List Vr} (ha : RightV a) (hb : RightV b) (h : mrgT a b = false) : NoTwin a b := by
  intro x hx y hy e
  have h1 := mrgT_iff a b ha.1.2 hb.1.2
  rw [h] at h1
  rcases Classical.em (x = y) with h2 | h2
  · exact h2
  · exact absurd (h1.2 ⟨x, hx, y, hy, e, h2⟩) (by decide)
theorem mem_joinV {a b : List Vr} (ha : RightV a) (hb : RightV b) (h : mrgT a b = false) (v : Vr) : v ∈ joinV a b ↔ (v ∈ a ∨ v ∈ b) ∧ behB a v.s v.n = false ∧ behB b v.s v.n = false := by
  unfold joinV
  rw [mem_mrgL _ v a b (noTwin ha hb h)]
  unfold keepB
  simp only [Bool.and_eq_true, Bool.not_eq_true']
  constructor
  · rintro ⟨h1, h2⟩; exact ⟨h2, h1⟩
  · rintro ⟨h1, h2⟩; exact ⟨h2, h1⟩
theorem joinV_sorted {a b : List Vr} (ha : RightV a) (hb : RightV b) : (joinV a b).Pairwise dlt := mrgL_sorted _ _ _ ha.1.2 hb.1.2
theorem joinV_len (a b : List Vr) : (joinV a b).length ≤ a.length + b.length := mrgL_len _ _ _
theorem refJoin_eq {a b : List Vr} (ha : RightV a) (hb : RightV b) (h : mrgT a b = false) : refJoin a b = joinV a b := by
  have hn := noTwin ha hb h
  have m1 : ∀ u, u ∈ foldV (fun v => !behB b v.s v.n) [] a ↔ (u ∈ a ∧ behB b u.s u.n = false) := fun u => by
    rw [mem_foldV _ u a [] (fun x hx => by cases hx) (sorted_own ha.1.2)]
    simp
  refine sorted_ext (foldV_sorted _ _ _ (foldV_sorted _ _ _ List.Pairwise.nil)) (joinV_sorted ha hb) fun u => ?_
  rw [mem_joinV ha hb h]
  unfold refJoin
  rw [mem_foldV _ u b _ (fun x hx y hy => hn x ((m1 x).1 hx).1 y hy) (sorted_own hb.1.2), m1]
  simp only [Bool.not_eq_true']
  constructor
  · rintro (⟨h1, h2⟩ | ⟨h1, h2⟩)
    · exact ⟨.inl h1, (ha.1.1 u h1).2, h2⟩
    · exact ⟨.inr h1, h2, (hb.1.1 u h1).2⟩
  · rintro ⟨h1 | h1, h2, h3⟩
    · exact .inl ⟨h1, h3⟩
    · exact .inr ⟨h1, h2⟩
end Go.Proofs.Ytilagblpamhmkaa
namespace Go.Proofs.Ytilagblpamhmkaa
open Go.RowKit
set_option linter.unusedVariables false

theorem Try.infoVer : (Try.prog.info? 42).map (fun i => (i.zero, i.size, i.bytes)) = some (some (.agg #[.int .i64 0, .int .i64 0, .slice none 0 0, .bool false, .string ⟨#[]⟩]), 5, 64) := by kernel_rfl
/-- What is known of a version whatever the world. -/
structure VFix (v : Vr) (n c : Nat) : Prop where
  cap : n ≤ c
  len : n * 24 ≤ 140737488351232
  wf : (Lit.int .i64 v.s).wf = true ∧ (Lit.int .i64 v.n).wf = true
  wfp : ∀ x ∈ v.past, wfSp x
  str : v.val.size ≤ 140737488351232
theorem VRow.fix {w : World} {v : Vr} {A : Option Addr} {n c : Nat} (h : VRow w v A n c) : VFix v n c := ⟨h.cap, h.len, h.wf, h.wfp, h.str⟩
theorem VFix.row {w : World} {v : Vr} {A : Option Addr} {n c : Nat} (h : VFix v n c) (hs : SlS w A n v.past) : VRow w v A n c := ⟨hs, h.cap, h.len, h.wf, h.wfp, h.str⟩
theorem flat_one (rows : List RV) : ∀ u ∈ rows.flatMap vV1, u.oneCell' = true := by
  intro u hu
  obtain ⟨y, _, h⟩ := List.mem_flatMap.1 hu
  exact vV1_one y u h
/-- The rows are the call's own, from block B on, and their Pasts too. -/
def OwnV (w : World) (B : Nat) (v : Value) (n : Nat) (rows : List RV) : Prop :=
  w.ownsRow B 42 5 v n (rows.flatMap vV1) ∧ ∀ y ∈ rows, w.ownsRow B 53 3 (.slice y.2.1 y.2.2.1 y.2.2.2) y.2.2.1 (spV y.1.past) ∧ VFix y.1 y.2.2.1 y.2.2.2
theorem own_far {w : World} {B B' : Nat} {e e' : TypeId} {s s' n n' : Nat} {v v' : Value} {xs xs' : List Value} (h : w.ownsRow B e s v n xs) (h' : w.ownsRow B' e' s' v' n' xs') (hne : e ≠ e') : v.ownBlock = none ∨ v.ownBlock ≠ v'.ownBlock := by
  rcases h.2 with ⟨rfl, _⟩ | ⟨g, cap, cur, rfl, _, hg, _⟩
  · exact .inl rfl
  · refine .inr fun e0 => ?_
    rcases h'.2 with ⟨rfl, _⟩ | ⟨g', cap', cur', rfl, _, hg', _⟩
    · cases e0
    · injection e0 with e0
      simp only at e0
      subst e0
      rw [hg] at hg'
      injection hg' with hg'
      injection hg' with _ h2
      exact hne h2
section
variable {w w' : World} {B : Nat} {v : Value} {n : Nat} {rows : List RV}
theorem OwnV.nil (w : World) (B : Nat) : OwnV w B (.slice none 0 0) 0 [] := ⟨World.ownsRow_nil _ _ _ _, fun y hy => by cases hy⟩
theorem OwnV.below (h : OwnV w B v n rows) (b : Below w.heap.size w w') : OwnV w' B v n rows := ⟨own_below h.1 b, fun y hy => ⟨own_below (h.2 y hy).1 b, (h.2 y hy).2⟩⟩
theorem OwnV.lower {B' : Nat} (h : OwnV w B v n rows) (hb : B' ≤ B) : OwnV w B' v n rows := ⟨own_lower h.1 hb, fun y hy => ⟨own_lower (h.2 y hy).1 hb, (h.2 y hy).2⟩⟩
theorem OwnV.len (h : OwnV w B v n rows) : rows.length = n := by
  have := h.1.1
  rw [flat_len vV1_len] at this
  omega
theorem OwnV.slv {A : Option Addr} {c : Nat} (h : OwnV w B (.slice A n c) n rows) : SlV w A n (rows.map (·.1)) :=
  ⟨rows, rfl, Sl.of_own h.1, fun y hy => (h.2 y hy).2.row (Sl.of_own (h.2 y hy).1)⟩
theorem OwnV.alloc (h : OwnV w B v n rows) (o : Obj) : OwnV (w.alloc o) B v n rows := h.below ((Below.refl _ _).alloc (Nat.le_refl _) _)
/-- A store into a block that is none of theirs. -/
theorem OwnV.setCell (h : OwnV w B v n rows) {a : Addr} (h1 : v.ownBlock ≠ some a.block) (h2 : ∀ y ∈ rows, (Value.slice y.2.1 y.2.2.1 y.2.2.2).ownBlock ≠ some a.block) (u : Value) : OwnV (w.setCell a u) B v n rows :=
  ⟨ownsRow_setCell_other h.1 h1 u, fun y hy => ⟨ownsRow_setCell_other (h.2 y hy).1 (h2 y hy) u, (h.2 y hy).2⟩⟩
/-- All their blocks lie ahead of the heap's end. -/
theorem OwnV.far (h : OwnV w B v n rows) {g : Nat} (hg : w.heap.size ≤ g) : v.ownBlock ≠ some g ∧ ∀ y ∈ rows, (Value.slice y.2.1 y.2.2.1 y.2.2.2).ownBlock ≠ some g :=
  ⟨fun e => by have := (h.1.lt g e).2; omega, fun y hy e => by have := ((h.2 y hy).1.lt g e).2; omega⟩
/-- One more. -/
theorem OwnV.push {v' : Value} {y : RV} (h : OwnV w B v n rows) (hy : w.ownsRow B 53 3 (.slice y.2.1 y.2.2.1 y.2.2.2) y.2.2.1 (spV y.1.past)) (hf : VFix y.1 y.2.2.1 y.2.2.2)
    (own' : w'.ownsRow B 42 5 v' (n + 1) (rows.flatMap vV1 ++ vV1 y)) (hg : w.grownBy w' v.ownBlock) : OwnV w' B v' (n + 1) (rows ++ [y]) := by
  refine ⟨by simpa using own', fun z hz => ?_⟩
  rcases List.mem_append.1 hz with hz | hz
  · exact ⟨(h.2 z hz).1.kept hg (own_far (h.2 z hz).1 h.1 (by decide)), (h.2 z hz).2⟩
  · rw [List.mem_singleton.1 hz]
    exact ⟨hy.kept hg (own_far hy h.1 (by decide)), hf⟩
end
theorem sl_ver (w : World) (y : RV) (t : TypeId) : Sl (w.alloc (.cells #[.int .i64 y.1.s, .int .i64 y.1.n, .slice y.2.1 y.2.2.1 y.2.2.2, .bool y.1.gone, .string y.1.val] t)) (some ⟨w.heap.size, 0, none⟩) 1 5 (vV1 y) :=
  ⟨rfl, fun _ => ⟨w.heap.size, 0, rfl, fun j u hu => by
    rw [cell_of_row _ w.heap.size (0 + j) _ t (0, 0) (heap_alloc_new w _), Nat.zero_add]
    match j, hu with
    | 0, hu => simpa [vV1, vV] using hu
    | 1, hu => simpa [vV1, vV] using hu
    | 2, hu => simpa [vV1, vV] using hu
    | 3, hu => simpa [vV1, vV] using hu
    | 4, hu => simpa [vV1, vV] using hu⟩⟩

end Go.Proofs.Ytilagblpamhmkaa
