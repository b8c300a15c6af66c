/-
  firthref06.nums, spans, PutSet: what the document writes of a set.
-/
import Derived.Test.YtgnedaihchmoaaaMG
import Derived.Test.YtgnedaihchmoaaaMC
import Derived.Test.YtgnedaihchmoaaaAcc
namespace Go.Proofs.Ytgnedaihchmoaaa
open Go.RowKit
set_option linter.unusedVariables false

def numsB (l : List Int) : List UInt8 := l.flatMap putNum
theorem numsB_len (l : List Int) : (numsB l).length ≤ 9 * l.length := by
  unfold numsB
  induction l with
  | nil => simp
  | cons x l ih => rw [List.flatMap_cons, List.length_append, List.length_cons]; have := putNum_len x; omega
theorem numsB_take {l : List Int} {k : Nat} {x : Int} (h : l[k]? = some x) : numsB (l.take (k + 1)) = numsB (l.take k) ++ putNum x := by
  unfold numsB
  rw [List.take_add_one, h, Option.toList_some, List.flatMap_append]
  simp
def i64V (x : Int) : Value := .int .i64 x
/-- What a call leaves that has written behind the bytes gathered so far. -/
def AccE (w0 w : World) (L : List UInt8) (e : Ending) (w' : World) : Prop := ∃ A m c, e = .returned (.slice A m c) ∧ Acc w0 w' A m c L ∧ WKeep w w'
theorem Acc.keeps {w0 w w' : World} {A : Option Addr} {m c : Nat} {L : List UInt8} (h : Acc w0 w A m c L) (g : w.grownBy w' (Value.slice A m c).ownBlock) : WKeep w w' :=
  WKeep.of_grown g fun b hb => by obtain ⟨cs, hcs⟩ := own_tag h.own hb; exact ⟨_, _, hcs⟩
set_option maxHeartbeats 1000000 in
set_option maxRecDepth 100000 in
theorem refNums_any (w0 w : World) (A : Option Addr) (m c : Nat) (L : List UInt8) (B : Option Addr) (n k : Nat) (l : List Int) (h : Acc w0 w A m c L) (hs : Sl w B n 1 (l.map i64V)) (hw : ∀ x ∈ l, x ≤ 9223372036854775807)
    (hB : ∀ b off s, 0 < n → B = some ⟨b, off, s⟩ → b < w0.heap.size ∨ ∃ cs, w.heap[b]? = some (.cells cs 2 (0, 0))) (hm : m + 9 * n ≤ 100000000000000) :
    Calls Try.prog 86 #[.slice A m c, .slice B n k] w (AccE w0 w (L ++ numsB l)) := by
  obtain ⟨i0, hi, hz0, hz1, hz2⟩ := info_parts Try.infoU8
  have hl : l.length = n := by have := hs.1; rw [List.length_map] at this; omega
  have HS := Lib.hid (fun (W : World) (b : Below w0.heap.size w W) (kp : WKeep w W) => Sl.keepB hs fun b' off hn e => (hB b' off none (by omega) e).elim (fun h2 => b.block b' h2) (fun ⟨cs, hcs⟩ => (kp.2 b' cs _ _ hcs (by decide) (by decide)).trans hcs.symm))
  have HW := Lib.hid hw
  have H := Lib.hid h
  have hB0 := h.below.size
  clear hs hw h hB
  go_enter Try.func86, Try.ntmps86
  go_wp2
  go_loopw [0, 5] (fun v i wr => ∃ (j mo co : Nat) (Ao : Option Addr), v = .slice Ao mo co ∧ i = .int .i64 (j : Int) ∧ j ≤ n ∧ mo ≤ m + 9 * j ∧ Hid (Acc w0 wr Ao mo co (L ++ numsB (l.take j))) ∧ Hid (Below w0.heap.size w wr) ∧ Hid (WKeep w wr)) (fun _ i _ => n - (intOf i).toNat)
  case atStart => exact ⟨0, m, c, A, rfl, rfl, Nat.zero_le _, by omega, Lib.hid (by have := H.out; simpa [numsB] using this), Below.refl _ _, WKeep.refl _⟩
  case round =>
    obtain ⟨j, mo, co, Ao, rfl, rfl, hj, hmo, HA, HB, HK⟩ := hrel
    by_cases hlt : j < n
    · obtain ⟨x, hx⟩ : ∃ x, l[j]? = some x := ⟨_, List.getElem?_eq_getElem (by omega)⟩
      obtain ⟨b, off, u, rfl, hu, hc⟩ := Sl.at1 (HS.out wr HB.out HK.out) hlt
      rw [List.getElem?_map, hx] at hu
      simp only [Option.map_some, Option.some.injEq, i64V] at hu
      subst hu
      have HT := Lib.hid (numsB_take hx)
      have C := Lib.hid (refPutNum_any x wr (HW.out x (List.mem_of_getElem? hx)))
      have hpl := putNum_len x
      clear hx
      go_wp2_with fail
      refine C.out.mono ?_
      intro e w1 h1
      obtain ⟨A1, n1, c1, rfl, s1, hc1, hm1, b1, -⟩ := h1.read
      have hn1 : n1 ≤ 9 := by have := s1.len; omega
      have HS1 := Lib.hid s1
      have HA1 := Lib.hid (HA.out.move b1)
      have HB1 := Lib.hid (HB.out.trans (b1.mono HA.out.below.size))
      have HK1 := Lib.hid (HK.out.trans (WKeep.of_below b1))
      have hsz := HA1.out.below.size
      clear h1 s1 b1 C hpl hc
      go_wp2_with (first | (at_builtin; refine wpList_append_sl _ rfl (.tmp 12) (.tmp 17) 31 rfl (w0.heap.size) 5 i0 (.int .u8 0) 1 1 Try.underlying31 hi hz0 hz1 hz2 rfl (by decide) (.slice Ao mo co) (mo) (bsV (L ++ numsB (l.take j))) rfl (HA1.out.own) (A1) (n1) (c1) (bsV (putNum x)) rfl (HS1.out) (bsV_one _) (by unfold maxLen; omega) (by omega) (hsz) ?_) | fail)
      intro v3 w3 own3 g3 _
      obtain ⟨A3, c3, rfl, -, -⟩ := own_slice own3
      have HA3 := Lib.hid (HA1.out.push own3 g3)
      have HK3 := Lib.hid (HK1.out.trans (HA1.out.keeps g3))
      have HB3 := Lib.hid (HB1.out.grown g3 (by have := HA1.out.below.size; omega) (fun q hq => (HA1.out.own.lt q hq).1))
      have HE := Lib.hid (show L ++ numsB (l.take j) ++ putNum x = L ++ numsB (l.take (j + 1)) from by rw [HT.out, List.append_assoc])
      clear own3 g3
      go_wp2
      go_roundw
      case rel => exact ⟨j + 1, mo + n1, c3, A3, rfl, by go_num, by omega, by omega, by rw [← HE.out]; exact HA3, HB3, HK3⟩
      case measure => simp [intOf]; omega
    · obtain rfl : n = j := by omega
      have HE := Lib.hid (show L ++ numsB (l.take n) = L ++ numsB l from by rw [List.take_of_length_le (by omega)])
      go_wp2
      go_ret
      exact ⟨_, _, _, rfl, by rw [← HE.out]; exact HA.out, HK.out⟩
theorem AccE.len {w0 w w' : World} {L : List UInt8} {A : Option Addr} {m c : Nat} (h : Acc w0 w' A m c L) : m = L.length := h.len.symm
theorem cells_up {w0 w' : World} {b o : Nat} {x y z : Value} (h : w0.cell? ⟨b, o, none⟩ = some x ∧ w0.cell? ⟨b, o + 1, none⟩ = some y ∧ w0.cell? ⟨b, o + 2, none⟩ = some z) (bl : Below w0.heap.size w0 w') :
    w'.cell? ⟨b, o, none⟩ = some x ∧ w'.cell? ⟨b, o + 1, none⟩ = some y ∧ w'.cell? ⟨b, o + 2, none⟩ = some z :=
  ⟨(bl.cell (World.block_lt_of_cell? _ _ h.1)).trans h.1, (bl.cell (World.block_lt_of_cell? _ _ h.2.1)).trans h.2.1, (bl.cell (World.block_lt_of_cell? _ _ h.2.2)).trans h.2.2⟩
theorem setB_nums (l : List Sp) (n : Nat) : numsB [(n : Int)] = putN 8 n := by unfold numsB; simp [putNum]
theorem spB_nums (s f t : Int) : spB (s, f, t) = numsB [s, f, t - f] := by unfold spB numsB; simp [putNum]
set_option maxHeartbeats 2000000 in
set_option maxRecDepth 100000 in
theorem refSpans_any (w0 w : World) (A : Option Addr) (m c : Nat) (L : List UInt8) (B : Option Addr) (n k : Nat) (l : List Sp) (h : Acc w0 w A m c L) (hs : SlS w0 B n l) (hg : ∀ x ∈ l, okSp x) (hn : n ≤ 1024) (hm : m ≤ 90000000000000) :
    Calls Try.prog 69 #[.slice A m c, .slice B n k] w (AccE w0 w (L ++ setB l)) := by
  have hll := hs.len
  have bA : Below w.heap.size w (w.alloc (.cells #[.int .i64 (n : Int)] 2)) := (Below.refl _ _).alloc (Nat.le_refl _) _
  have hw0 := h.below.size
  have hLm := h.len
  have C1 := Lib.hid (refNums_any w0 _ A m c L (some ⟨w.heap.size, 0, none⟩) 1 1 [(n : Int)] (h.move bA) (sl_lit w #[.int .i64 (n : Int)] 2 w.heap.size 1 1 _ rfl rfl rfl) (by intro x hx; rw [List.mem_singleton.1 hx]; omega)
    (fun b off s _ e => .inr (by injection e with e; injection e with e1 e2 e3; subst e1; exact ⟨_, heap_alloc_new w _⟩)) (by omega))
  have HS := Lib.hid hs
  have HG := Lib.hid hg
  have HKA := Lib.hid (WKeep.of_below bA)
  clear h hs hg bA
  go_enter Try.func69, Try.ntmps69
  go_wp2_with fail
  refine C1.out.mono ?_
  rintro e w1 ⟨A1, m1, c1, rfl, h1, k1⟩
  have hm1 : m1 ≤ m + 9 := by
    have e1 := h1.len
    rw [setB_nums l n, List.length_append] at e1
    have := putN_len 8 n
    omega
  have H1 := Lib.hid (And.intro h1 (HKA.out.trans k1))
  clear h1 k1 C1
  go_wp2
  go_loopw [0, 5] (fun v i wr => ∃ (j mo co : Nat) (Ao : Option Addr), v = .slice Ao mo co ∧ i = .int .i64 (j : Int) ∧ j ≤ n ∧ mo ≤ m + 9 + 27 * j ∧ Hid (Acc w0 wr Ao mo co (L ++ numsB [(n : Int)] ++ (l.take j).flatMap spB)) ∧ Hid (WKeep w wr)) (fun _ i _ => n - (intOf i).toNat)
  case atStart => exact ⟨0, m1, c1, A1, rfl, rfl, Nat.zero_le _, by omega, by have := H1.out.1; exact Lib.hid (by simpa using this), Lib.hid H1.out.2⟩
  case round =>
    obtain ⟨j, mo, co, Ao, rfl, rfl, hj, hmo, HA, HK⟩ := hrel
    by_cases hlt : j < n
    · obtain ⟨b, off, x, y, z, rfl, hx, hc0, hc1, hc2⟩ := SlS.at_ HS.out hlt
      have hok := HG.out _ (List.mem_of_getElem? hx)
      unfold okSp at hok
      simp only at hok
      obtain ⟨o1, o2, o3, o4, o5⟩ := hok
      have HT := Lib.hid (sps_take (L ++ numsB [(n : Int)]) hx)
      have j0 : (0 : Int) ≤ (j : Int) := by omega
      have j1 : (j : Int) < (n : Int) := by omega
      have q1 : IntKind.i64.wrap (z - y) = z - y := IntWalk.i64_in _ (by omega)
      have HC := Lib.hid (And.intro hc0 (And.intro hc1 hc2))
      have bD : Below wr.heap.size wr (wr.alloc (.cells #[.int .i64 x, .int .i64 y, .int .i64 (z - y)] 2)).drew := ((Below.refl _ _).alloc (Nat.le_refl _) _).drew
      have C2 := Lib.hid (refNums_any w0 _ Ao mo co _ (some ⟨wr.heap.size, 0, none⟩) 3 3 [x, y, z - y] (HA.out.move bD) (Sl.drew (sl_lit wr #[.int .i64 x, .int .i64 y, .int .i64 (z - y)] 2 wr.heap.size 3 1 _ rfl rfl rfl))
        (by intro u hu; simp only [List.mem_cons, List.mem_nil_iff, or_false] at hu; rcases hu with rfl | rfl | rfl <;> omega)
        (fun b off s _ e => .inr (by injection e with e; injection e with e1 e2 e3; subst e1; exact ⟨_, heap_alloc_new wr _⟩)) (by omega))
      have HKD := Lib.hid (HK.out.trans (WKeep.of_below bD))
      clear hx bD hc0 hc1 hc2
      go_wp2_with fail
      refine wp_region_noPanic ?_
      refine wp_region_held_drew (S := (fun w' => w'.cell? ⟨b, off + j * 3, none⟩ = some (.int .i64 x) ∧ w'.cell? ⟨b, off + j * 3 + 1, none⟩ = some (.int .i64 y) ∧ w'.cell? ⟨b, off + j * 3 + 2, none⟩ = some (.int .i64 z))) (by kernel_rfl) ?_ (fun hHeld => ?_)
      · exact cells_up HC.out HA.out.below.drew
      first
        | (refine wpAnyH_take (i := 0) (oi := _) (v := undef) (dropAt rfl) (by kernel_rfl) (by kernel_rfl) (by kernel_rfl) (fun _ _ _ h => h) (Or.inr ⟨by rfl, rfl⟩) (by assumption) ?_)
        | (refine wpAnyH_take (i := 0) (oi := _) (v := ?_) (dropAt rfl) (by kernel_rfl) (by kernel_rfl) (by kernel_rfl) (fun _ _ _ h => h) (Or.inl ⟨by rfl, ?_⟩) (by assumption) ?_; rotate_left; (focus (intro w2 hSw; (try dsimp only at hSw); go_simp; try with_reducible rfl)))
        | fail
      try simp only [Act.put, List.setIfInBounds_toArray, List.set_cons_zero, List.set_cons_succ]
      first
        | (refine wpAnyH_take (i := 1) (oi := _) (v := undef) (dropAt rfl) (by kernel_rfl) (by kernel_rfl) (by kernel_rfl) (fun _ _ _ h => h) (Or.inr ⟨by rfl, rfl⟩) (by assumption) ?_)
        | (refine wpAnyH_take (i := 1) (oi := _) (v := ?_) (dropAt rfl) (by kernel_rfl) (by kernel_rfl) (by kernel_rfl) (fun _ _ _ h => h) (Or.inl ⟨by rfl, ?_⟩) (by assumption) ?_; rotate_left; (focus (intro w2 hSw; (try dsimp only at hSw); go_simp; try with_reducible rfl)))
        | fail
      try simp only [Act.put, List.setIfInBounds_toArray, List.set_cons_zero, List.set_cons_succ]
      first
        | (refine wpAnyH_take (i := 2) (oi := _) (v := undef) (dropAt rfl) (by kernel_rfl) (by kernel_rfl) (by kernel_rfl) (fun _ _ _ h => h) (Or.inr ⟨by rfl, rfl⟩) (by assumption) ?_)
        | (refine wpAnyH_take (i := 2) (oi := _) (v := ?_) (dropAt rfl) (by kernel_rfl) (by kernel_rfl) (by kernel_rfl) (fun _ _ _ h => h) (Or.inl ⟨by rfl, ?_⟩) (by assumption) ?_; rotate_left; (focus (intro w2 hSw; (try dsimp only at hSw); go_simp; try with_reducible rfl)))
        | fail
      try simp only [Act.put, List.setIfInBounds_toArray, List.set_cons_zero, List.set_cons_succ]
      first
        | (refine wpAnyH_take (i := 3) (oi := _) (v := undef) (dropAt rfl) (by kernel_rfl) (by kernel_rfl) (by kernel_rfl) (fun _ _ _ h => h) (Or.inr ⟨by rfl, rfl⟩) (by assumption) ?_)
        | (refine wpAnyH_take (i := 3) (oi := _) (v := ?_) (dropAt rfl) (by kernel_rfl) (by kernel_rfl) (by kernel_rfl) (fun _ _ _ h => h) (Or.inl ⟨by rfl, ?_⟩) (by assumption) ?_; rotate_left; (focus (intro w2 hSw; (try dsimp only at hSw); go_simp; try with_reducible rfl)))
        | fail
      try simp only [Act.put, List.setIfInBounds_toArray, List.set_cons_zero, List.set_cons_succ]
      first
        | (refine wpAnyH_take (i := 4) (oi := _) (v := undef) (dropAt rfl) (by kernel_rfl) (by kernel_rfl) (by kernel_rfl) (fun _ _ _ h => h) (Or.inr ⟨by rfl, rfl⟩) (by assumption) ?_)
        | (refine wpAnyH_take (i := 4) (oi := _) (v := ?_) (dropAt rfl) (by kernel_rfl) (by kernel_rfl) (by kernel_rfl) (fun _ _ _ h => h) (Or.inl ⟨by rfl, ?_⟩) (by assumption) ?_; rotate_left; (focus (intro w2 hSw; (try dsimp only at hSw); go_simp; try with_reducible rfl)))
        | fail
      try simp only [Act.put, List.setIfInBounds_toArray, List.set_cons_zero, List.set_cons_succ]
      first
        | (refine wpAnyH_take (i := 5) (oi := _) (v := undef) (dropAt rfl) (by kernel_rfl) (by kernel_rfl) (by kernel_rfl) (fun _ _ _ h => h) (Or.inr ⟨by rfl, rfl⟩) (by assumption) ?_)
        | (refine wpAnyH_take (i := 5) (oi := _) (v := ?_) (dropAt rfl) (by kernel_rfl) (by kernel_rfl) (by kernel_rfl) (fun _ _ _ h => h) (Or.inl ⟨by rfl, ?_⟩) (by assumption) ?_; rotate_left; (focus (intro w2 hSw; (try dsimp only at hSw); go_simp; try with_reducible rfl)))
        | fail
      try simp only [Act.put, List.setIfInBounds_toArray, List.set_cons_zero, List.set_cons_succ]
      first
        | (refine wpAnyH_take (i := 6) (oi := _) (v := undef) (dropAt rfl) (by kernel_rfl) (by kernel_rfl) (by kernel_rfl) (fun _ _ _ h => h) (Or.inr ⟨by rfl, rfl⟩) (by assumption) ?_)
        | (refine wpAnyH_take (i := 6) (oi := _) (v := ?_) (dropAt rfl) (by kernel_rfl) (by kernel_rfl) (by kernel_rfl) (fun _ _ _ h => h) (Or.inl ⟨by rfl, ?_⟩) (by assumption) ?_; rotate_left; (focus (intro w2 hSw; (try dsimp only at hSw); go_simp; try with_reducible rfl)))
        | fail
      try simp only [Act.put, List.setIfInBounds_toArray, List.set_cons_zero, List.set_cons_succ]
      first
        | (refine wpAnyH_take (i := 7) (oi := _) (v := undef) (dropAt rfl) (by kernel_rfl) (by kernel_rfl) (by kernel_rfl) (fun _ _ _ h => h) (Or.inr ⟨by rfl, rfl⟩) (by assumption) ?_)
        | (refine wpAnyH_take (i := 7) (oi := _) (v := ?_) (dropAt rfl) (by kernel_rfl) (by kernel_rfl) (by kernel_rfl) (fun _ _ _ h => h) (Or.inl ⟨by rfl, ?_⟩) (by assumption) ?_; rotate_left; (focus (intro w2 hSw; (try dsimp only at hSw); go_simp; try with_reducible rfl)))
        | fail
      try simp only [Act.put, List.setIfInBounds_toArray, List.set_cons_zero, List.set_cons_succ]
      first
        | (refine wpAnyH_take (i := 8) (oi := _) (v := undef) (dropAt rfl) (by kernel_rfl) (by kernel_rfl) (by kernel_rfl) (fun _ _ _ h => h) (Or.inr ⟨by rfl, rfl⟩) (by assumption) ?_)
        | (refine wpAnyH_take (i := 8) (oi := _) (v := ?_) (dropAt rfl) (by kernel_rfl) (by kernel_rfl) (by kernel_rfl) (fun _ _ _ h => h) (Or.inl ⟨by rfl, ?_⟩) (by assumption) ?_; rotate_left; (focus (intro w2 hSw; (try dsimp only at hSw); go_simp; try with_reducible rfl)))
        | fail
      try simp only [Act.put, List.setIfInBounds_toArray, List.set_cons_zero, List.set_cons_succ]
      first
        | (refine wpAnyH_take (i := 9) (oi := _) (v := undef) (dropAt rfl) (by kernel_rfl) (by kernel_rfl) (by kernel_rfl) (fun _ _ _ h => h) (Or.inr ⟨by rfl, rfl⟩) (by assumption) ?_)
        | (refine wpAnyH_take (i := 9) (oi := _) (v := ?_) (dropAt rfl) (by kernel_rfl) (by kernel_rfl) (by kernel_rfl) (fun _ _ _ h => h) (Or.inl ⟨by rfl, ?_⟩) (by assumption) ?_; rotate_left; (focus (intro w2 hSw; (try dsimp only at hSw); go_simp; try with_reducible rfl)))
        | fail
      try simp only [Act.put, List.setIfInBounds_toArray, List.set_cons_zero, List.set_cons_succ]
      first
        | (refine wpAnyH_take (i := 10) (oi := _) (v := undef) (dropAt rfl) (by kernel_rfl) (by kernel_rfl) (by kernel_rfl) (fun _ _ _ h => h) (Or.inr ⟨by rfl, rfl⟩) (by assumption) ?_)
        | (refine wpAnyH_take (i := 10) (oi := _) (v := ?_) (dropAt rfl) (by kernel_rfl) (by kernel_rfl) (by kernel_rfl) (fun _ _ _ h => h) (Or.inl ⟨by rfl, ?_⟩) (by assumption) ?_; rotate_left; (focus (intro w2 hSw; (try dsimp only at hSw); go_simp; try with_reducible rfl)))
        | fail
      try simp only [Act.put, List.setIfInBounds_toArray, List.set_cons_zero, List.set_cons_succ]
      first
        | (refine wpAnyH_take (i := 11) (oi := _) (v := undef) (dropAt rfl) (by kernel_rfl) (by kernel_rfl) (by kernel_rfl) (fun _ _ _ h => h) (Or.inr ⟨by rfl, rfl⟩) (by assumption) ?_)
        | (refine wpAnyH_take (i := 11) (oi := _) (v := ?_) (dropAt rfl) (by kernel_rfl) (by kernel_rfl) (by kernel_rfl) (fun _ _ _ h => h) (Or.inl ⟨by rfl, ?_⟩) (by assumption) ?_; rotate_left; (focus (intro w2 hSw; (try dsimp only at hSw); go_simp; try with_reducible rfl)))
        | fail
      try simp only [Act.put, List.setIfInBounds_toArray, List.set_cons_zero, List.set_cons_succ]
      first
        | (refine wpAnyH_take (i := 12) (oi := _) (v := undef) (dropAt rfl) (by kernel_rfl) (by kernel_rfl) (by kernel_rfl) (fun _ _ _ h => h) (Or.inr ⟨by rfl, rfl⟩) (by assumption) ?_)
        | (refine wpAnyH_take (i := 12) (oi := _) (v := ?_) (dropAt rfl) (by kernel_rfl) (by kernel_rfl) (by kernel_rfl) (fun _ _ _ h => h) (Or.inl ⟨by rfl, ?_⟩) (by assumption) ?_; rotate_left; (focus (intro w2 hSw; (try dsimp only at hSw); go_simp; try with_reducible rfl)))
        | fail
      try simp only [Act.put, List.setIfInBounds_toArray, List.set_cons_zero, List.set_cons_succ]
      first
        | (refine wpAnyH_take (i := 13) (oi := _) (v := undef) (dropAt rfl) (by kernel_rfl) (by kernel_rfl) (by kernel_rfl) (fun _ _ _ h => h) (Or.inr ⟨by rfl, rfl⟩) (by assumption) ?_)
        | (refine wpAnyH_take (i := 13) (oi := _) (v := ?_) (dropAt rfl) (by kernel_rfl) (by kernel_rfl) (by kernel_rfl) (fun _ _ _ h => h) (Or.inl ⟨by rfl, ?_⟩) (by assumption) ?_; rotate_left; (focus (intro w2 hSw; (try dsimp only at hSw); go_simp; try with_reducible rfl)))
        | fail
      try simp only [Act.put, List.setIfInBounds_toArray, List.set_cons_zero, List.set_cons_succ]
      first
        | (refine wpAnyH_take (i := 14) (oi := _) (v := undef) (dropAt rfl) (by kernel_rfl) (by kernel_rfl) (by kernel_rfl) (fun _ _ _ h => h) (Or.inr ⟨by rfl, rfl⟩) (by assumption) ?_)
        | (refine wpAnyH_take (i := 14) (oi := _) (v := ?_) (dropAt rfl) (by kernel_rfl) (by kernel_rfl) (by kernel_rfl) (fun _ _ _ h => h) (Or.inl ⟨by rfl, ?_⟩) (by assumption) ?_; rotate_left; (focus (intro w2 hSw; (try dsimp only at hSw); go_simp; try with_reducible rfl)))
        | fail
      try simp only [Act.put, List.setIfInBounds_toArray, List.set_cons_zero, List.set_cons_succ]
      first
        | (refine wpAnyH_take (i := 15) (oi := _) (v := undef) (dropAt rfl) (by kernel_rfl) (by kernel_rfl) (by kernel_rfl) (fun _ _ _ h => h) (Or.inr ⟨by rfl, rfl⟩) (by assumption) ?_)
        | (refine wpAnyH_take (i := 15) (oi := _) (v := ?_) (dropAt rfl) (by kernel_rfl) (by kernel_rfl) (by kernel_rfl) (fun _ _ _ h => h) (Or.inl ⟨by rfl, ?_⟩) (by assumption) ?_; rotate_left; (focus (intro w2 hSw; (try dsimp only at hSw); go_simp; try with_reducible rfl)))
        | fail
      try simp only [Act.put, List.setIfInBounds_toArray, List.set_cons_zero, List.set_cons_succ]
      first
        | (refine wpAnyH_take (i := 16) (oi := _) (v := undef) (dropAt rfl) (by kernel_rfl) (by kernel_rfl) (by kernel_rfl) (fun _ _ _ h => h) (Or.inr ⟨by rfl, rfl⟩) (by assumption) ?_)
        | (refine wpAnyH_take (i := 16) (oi := _) (v := ?_) (dropAt rfl) (by kernel_rfl) (by kernel_rfl) (by kernel_rfl) (fun _ _ _ h => h) (Or.inl ⟨by rfl, ?_⟩) (by assumption) ?_; rotate_left; (focus (intro w2 hSw; (try dsimp only at hSw); go_simp; try with_reducible rfl)))
        | fail
      try simp only [Act.put, List.setIfInBounds_toArray, List.set_cons_zero, List.set_cons_succ]
      first
        | (refine wpAnyH_take (i := 17) (oi := _) (v := undef) (dropAt rfl) (by kernel_rfl) (by kernel_rfl) (by kernel_rfl) (fun _ _ _ h => h) (Or.inr ⟨by rfl, rfl⟩) (by assumption) ?_)
        | (refine wpAnyH_take (i := 17) (oi := _) (v := ?_) (dropAt rfl) (by kernel_rfl) (by kernel_rfl) (by kernel_rfl) (fun _ _ _ h => h) (Or.inl ⟨by rfl, ?_⟩) (by assumption) ?_; rotate_left; (focus (intro w2 hSw; (try dsimp only at hSw); go_simp; try with_reducible rfl)))
        | fail
      try simp only [Act.put, List.setIfInBounds_toArray, List.set_cons_zero, List.set_cons_succ]
      first
        | (refine wpAnyH_take (i := 18) (oi := _) (v := undef) (dropAt rfl) (by kernel_rfl) (by kernel_rfl) (by kernel_rfl) (fun _ _ _ h => h) (Or.inr ⟨by rfl, rfl⟩) (by assumption) ?_)
        | (refine wpAnyH_take (i := 18) (oi := _) (v := ?_) (dropAt rfl) (by kernel_rfl) (by kernel_rfl) (by kernel_rfl) (fun _ _ _ h => h) (Or.inl ⟨by rfl, ?_⟩) (by assumption) ?_; rotate_left; (focus (intro w2 hSw; (try dsimp only at hSw); go_simp; try with_reducible rfl)))
        | fail
      try simp only [Act.put, List.setIfInBounds_toArray, List.set_cons_zero, List.set_cons_succ]
      first
        | (refine wpAnyH_take (i := 19) (oi := _) (v := undef) (dropAt rfl) (by kernel_rfl) (by kernel_rfl) (by kernel_rfl) (fun _ _ _ h => h) (Or.inr ⟨by rfl, rfl⟩) (by assumption) ?_)
        | (refine wpAnyH_take (i := 19) (oi := _) (v := ?_) (dropAt rfl) (by kernel_rfl) (by kernel_rfl) (by kernel_rfl) (fun _ _ _ h => h) (Or.inl ⟨by rfl, ?_⟩) (by assumption) ?_; rotate_left; (focus (intro w2 hSw; (try dsimp only at hSw); go_simp; try with_reducible rfl)))
        | fail
      try simp only [Act.put, List.setIfInBounds_toArray, List.set_cons_zero, List.set_cons_succ]
      first
        | (refine wpAnyH_take (i := 20) (oi := _) (v := undef) (dropAt rfl) (by kernel_rfl) (by kernel_rfl) (by kernel_rfl) (fun _ _ _ h => h) (Or.inr ⟨by rfl, rfl⟩) (by assumption) ?_)
        | (refine wpAnyH_take (i := 20) (oi := _) (v := ?_) (dropAt rfl) (by kernel_rfl) (by kernel_rfl) (by kernel_rfl) (fun _ _ _ h => h) (Or.inl ⟨by rfl, ?_⟩) (by assumption) ?_; rotate_left; (focus (intro w2 hSw; (try dsimp only at hSw); go_simp; try with_reducible rfl)))
        | fail
      try simp only [Act.put, List.setIfInBounds_toArray, List.set_cons_zero, List.set_cons_succ]
      first
        | (refine wpAnyH_take (i := 21) (oi := _) (v := undef) (dropAt rfl) (by kernel_rfl) (by kernel_rfl) (by kernel_rfl) (fun _ _ _ h => h) (Or.inr ⟨by rfl, rfl⟩) (by assumption) ?_)
        | (refine wpAnyH_take (i := 21) (oi := _) (v := ?_) (dropAt rfl) (by kernel_rfl) (by kernel_rfl) (by kernel_rfl) (fun _ _ _ h => h) (Or.inl ⟨by rfl, ?_⟩) (by assumption) ?_; rotate_left; (focus (intro w2 hSw; (try dsimp only at hSw); go_simp; try with_reducible rfl)))
        | fail
      try simp only [Act.put, List.setIfInBounds_toArray, List.set_cons_zero, List.set_cons_succ]
      refine wpAnyH_ready (rs := [22]) (by kernel_rfl) (by simp) ?_
      refine AllReadyH.cons (o := _) (dropAt rfl) (fun K hK => ?_) AllReadyH.nil
      go_simp
      refine hK.out _ _ ?_ (fun hHeld => ?_)
      · exact cells_up HC.out (HA.out.below.alloc HA.out.below.size _).drew
      clear hK K
      try simp only [Act.put, List.setIfInBounds_toArray, List.set_cons_zero, List.set_cons_succ]
      refine wpAnyH_ready (rs := [23]) (by kernel_rfl) (by simp) ?_
      refine AllReadyH.cons (o := _) (dropAt rfl) (fun K hK => ?_) AllReadyH.nil
      go_simp
      (go_at_call 86; refine C2.out.mono ?_; rintro e w3 ⟨A3, m3, c3, rfl, h3, k3⟩)
      refine hK.out _ _ ?_ (fun hHeld => ?_)
      · exact cells_up HC.out h3.below
      clear hK K
      try simp only [Act.put, List.setIfInBounds_toArray, List.set_cons_zero, List.set_cons_succ]
      first
        | (refine wpAnyH_take (i := 24) (oi := _) (v := undef) (dropAt rfl) (by kernel_rfl) (by kernel_rfl) (by kernel_rfl) (fun _ _ _ h => h) (Or.inr ⟨by rfl, rfl⟩) (by assumption) ?_)
        | (refine wpAnyH_take (i := 24) (oi := _) (v := ?_) (dropAt rfl) (by kernel_rfl) (by kernel_rfl) (by kernel_rfl) (fun _ _ _ h => h) (Or.inl ⟨by rfl, ?_⟩) (by assumption) ?_; rotate_left; (focus (intro w2 hSw; (try dsimp only at hSw); go_simp; try with_reducible rfl)))
        | fail
      try simp only [Act.put, List.setIfInBounds_toArray, List.set_cons_zero]
      refine wpAnyH_done (by kernel_rfl) ?_ _
      refine NoPanic.normal ?_
      have hm3 : m3 ≤ mo + 27 := by
        have e1 := h3.len
        have e2 := HA.out.len
        have e3 := numsB_len [x, y, z - y]
        rw [List.length_append] at e1
        simp only [List.length_cons, List.length_nil] at e3
        omega
      have HA3 := Lib.hid (show Acc w0 w3 A3 m3 c3 (L ++ numsB [(n : Int)] ++ (l.take (j + 1)).flatMap spB) from by rw [← HT.out, spB_nums]; exact h3)
      have HK3 := Lib.hid (HKD.out.trans k3)
      clear hHeld h3 k3
      go_wp2
      go_roundw
      case rel => exact ⟨j + 1, m3, c3, A3, rfl, by go_num, by omega, by omega, HA3, HK3⟩
      case measure => simp [intOf]; omega
    · obtain rfl : n = j := by omega
      go_wp2
      go_ret
      refine ⟨_, _, _, rfl, ?_, HK.out⟩
      have := HA.out
      rw [List.take_of_length_le (by omega), setB_nums l n] at this
      unfold setB
      rw [hll, ← List.append_assoc]
      exact this
/-- New bytes. -/
theorem refPutSet_any (w : World) (B : Option Addr) (n k : Nat) (l : List Sp) (hs : SlS w B n l) (hr : rightS l = true) :
    Calls Try.prog 20 #[.slice B n k] w (NewBytes w (setB l)) := by
  have hR := rightS_true.1 hr
  have C := Lib.hid (refSpans_any w w none 0 0 [] B n k l ⟨World.ownsRow_nil _ _ _ _, Below.refl _ _⟩ hs hR.1.1 (by have := hs.len; omega) (by omega))
  clear hs hr hR
  go_enter Try.func20, Try.ntmps20
  go_wp2_with fail
  refine C.out.mono ?_
  rintro e w1 ⟨A1, m1, c1, rfl, h1, -⟩
  have H1 := Lib.hid h1
  clear h1 C
  go_wp2
  go_ret
  have h := H1.out
  rw [List.nil_append] at h
  have e1 := h.len
  exact ⟨_, rfl, by rw [e1]; exact h.own, h.below⟩
end Go.Proofs.Ytgnedaihchmoaaa
