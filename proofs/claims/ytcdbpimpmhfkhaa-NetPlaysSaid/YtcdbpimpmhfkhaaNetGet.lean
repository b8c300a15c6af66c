/-
  The network: what only reads.
-/
import Derived.Test.YtcdbpimpmhfkhaaNetState
import Derived.BigQuiet
import Derived.Laws.ResultCell
namespace Go.Proofs.Ytcdbpimpmhfkhaa
open Go.RowKit
set_option linter.unusedVariables false

/-- A packet in memory of its own. -/
def NewPk (w : World) (p : Pk) (e : Ending) (w' : World) : Prop :=
  ∃ A n c, e = .returned (.agg #[.int .i64 p.fs, .int .i64 p.fn, .int .i64 p.ts, .int .i64 p.tn, .slice A n c]) ∧ SlB w' A n p.d ∧ n ≤ c ∧ n ≤ tokMax ∧ w'.ownsRow w.heap.size 5 1 (.slice A n c) n (bsV p.d) ∧ Below w.heap.size w w'
set_option maxHeartbeats 1000000 in
theorem own_any (p : Pk) (A : Option Addr) (n c : Nat) (w : World) (hs : SlB w A n p.d) (hc : n ≤ c) (hn : n ≤ tokMax) :
    Calls Try.prog 28 #[.agg #[.int .i64 p.fs, .int .i64 p.fn, .int .i64 p.ts, .int .i64 p.tn, .slice A n c]] w (NewPk w p) := by
  have HC := Lib.hid (clone_any A n c p.d ((w.alloc (.cells #[.int .i64 p.fs, .int .i64 p.fn, .int .i64 p.ts, .int .i64 p.tn, .slice A n c] 32)).alloc (.cells #[.int .i64 0, .int .i64 0, .int .i64 0, .int .i64 0, .slice none 0 0] 32)) (Sl.alloc (Sl.alloc hs _) _) hc (by rw [tokMax_eq] at hn; exact hn))
  have HW := Lib.hid (And.intro hs hn)
  clear hs hn
  go_enter Try.func28, Try.ntmps28
  go_wp2_with fail
  refine HC.out.mono ?_
  rintro e w1 ⟨A1, n1, c1, rfl, s1, hc1, o1, b1⟩
  have k1 : w1.heap[w.heap.size]? = some (.cells #[.int .i64 p.fs, .int .i64 p.fn, .int .i64 p.ts, .int .i64 p.tn, .slice A n c] 32 (0, 0)) := by
    rw [b1.block _ (by simp; omega)]
    exact (Below.heap_alloc _ _ _ (by simp)).trans (heap_alloc_new w _)
  have k2 : w1.heap[w.heap.size + 1]? = some (.cells #[.int .i64 0, .int .i64 0, .int .i64 0, .int .i64 0, .slice none 0 0] 32 (0, 0)) := by
    rw [b1.block _ (by simp)]
    have := heap_alloc_new (w.alloc (.cells #[.int .i64 p.fs, .int .i64 p.fn, .int .i64 p.ts, .int .i64 p.tn, .slice A n c] 32)) (.cells #[.int .i64 0, .int .i64 0, .int .i64 0, .int .i64 0, .slice none 0 0] 32)
    simpa using this
  have x0 := blk_cell (j := 0) k1 rfl
  have x1 := blk_cell (j := 1) k1 rfl
  have x2 := blk_cell (j := 2) k1 rfl
  have x3 := blk_cell (j := 3) k1 rfl
  have x4 := blk_cell (j := 4) k1 rfl
  have fx := blk_free k1 4
  have y0 := blk_cell (j := 0) k2 rfl
  have y1 := blk_cell (j := 1) k2 rfl
  have y2 := blk_cell (j := 2) k2 rfl
  have y3 := blk_cell (j := 3) k2 rfl
  have y4 := blk_cell (j := 4) k2 rfl
  have g0 := blk_free k2 0
  have g1 := blk_free k2 1
  have g2 := blk_free k2 2
  have g3 := blk_free k2 3
  have g4 := blk_free k2 4
  have HK := Lib.hid (fun u => (Below.heap_setCell w1 ⟨w.heap.size, 4, none⟩ u (w.heap.size + 1) (by simp)).trans k2)
  have HB := Lib.hid (And.intro b1 (And.intro o1 (And.intro s1 hc1)))
  clear k1 k2 b1 o1 s1 hc1 HC
  go_wp2
  refine bodyPost_ret (results_cell_row rfl _ _ (w.heap.size + 1) _ #[.int .i64 p.fs, .int .i64 p.fn, .int .i64 p.ts, .int .i64 p.tn, .slice A1 n1 c1] _ _ rfl (set5_heap (HK.out _)) Try.underlying32 rfl Try.infoPkSize) rfl ?_
  obtain ⟨b1, o1, s1, hc1⟩ := HB.out
  have F : Fr (fun i => i = w.heap.size ∨ i = w.heap.size + 1) w1 (set5 (w1.setCell ⟨w.heap.size, 4, none⟩ (.slice A1 n1 c1)) (w.heap.size + 1) (.int .i64 p.fs) (.int .i64 p.fn) (.int .i64 p.ts) (.int .i64 p.tn) (.slice A1 n1 c1)) :=
    ((Fr.set w1 ⟨w.heap.size, 4, none⟩ _).mono (fun i hi => .inl (.inl hi))).trans set5_fr (fun i hi => .inl (.inr hi))
  have o2 := own_keep (fp := fun b => w.heap.size + 2 ≤ b) o1 (fun g hg => by have := (o1.lt g hg).1; simpa using this) (F.kept fun i hi hh => by omega)
  refine ⟨A1, n1, c1, rfl, Sl.of_own o2, hc1, ?_, own_lower o2 (by simp; omega), ?_⟩
  · have := SlB.len s1
    have := SlB.len HW.out.1
    have := HW.out.2
    omega
  · exact (((Below.refl _ w).alloc (Nat.le_refl _) _).alloc (by simp) _).trans (b1.mono (by simp; omega)) |>.trans (F.below (fun i hi => by omega) (by have := b1.size; simp at this; omega))
def lookP (l : List Pk) (i : Int) : Option Pk := if 0 ≤ i then l[i.toNat]? else none
def zeroPk : Pk := ⟨0, 0, 0, 0, []⟩
theorem look_cases (l : List Pk) (i : Int) : (lookP l i = none ∧ (i < 0 ∨ (l.length : Int) ≤ i)) ∨ ∃ (k : Nat) (p : Pk), i = (k : Int) ∧ k < l.length ∧ l[k]? = some p ∧ lookP l i = some p := by
  unfold lookP
  split
  · obtain ⟨k, rfl⟩ := Int.eq_ofNat_of_zero_le (show 0 ≤ i by omega)
    rcases Nat.lt_or_ge k l.length with h | h
    · exact .inr ⟨k, l[k], rfl, h, List.getElem?_eq_getElem h, by simp⟩
    · exact .inl ⟨by simp; omega, .inr (by omega)⟩
  · exact .inl ⟨rfl, .inl (by omega)⟩
theorem results_cell_row_tmp {P : Program} {fn : Func} {p u : Tmp} {ty : TypeId} (h : fn.results = #[.cell p ty, .tmp u]) (tmps : Array Value) (w : World) (g : Nat) (t : TypeId) (cs : Array Value) (fr : Nat × Nat) (d : TypeDesc)
    (hp : tmps.getD p undef = .pointer (some ⟨g, 0, none⟩)) (hg : w.heap[g]? = some (.cells cs t fr))
    (hu : P.underlying ty = some d) (hd : (match d with | .struct _ | .array _ _ => true | _ => false) = true) (hi : (P.info? ty).map (·.size) = some cs.size) :
    (results fn tmps).run P w = .ok (.tuple #[.agg cs, tmps.getD u undef]) w := by
  rw [results_cell_tmp h, hp]
  simp [asAddr, run_loadVar_row w g t ty cs fr d hg hu hd hi, Result.andThen]
section
variable {w w' : World} {fp fp' : Nat → Prop} {G : NGeo} {l : List Pk} {C : K4 → Bool} {c : Cnt} {m : Nat}
set_option maxHeartbeats 1000000 in
theorem has_no (i : Int) (h : NetG w fp G l C c m) (hi : i < 0 ∨ (l.length : Int) ≤ i) :
    Calls Try.prog 27 #[.pointer (some ⟨G.p, 0, none⟩), .int .i64 i] w fun e w' => e = .returned (.bool false) ∧ w = w' := by
  obtain ⟨A, k, c0, _⟩ := h.len_
  clear h
  by_cases h0 : i < 0
  · have q : decide (0 ≤ i) = false := by simp; omega
    clear hi
    go_enter Try.func27, Try.ntmps27
    go_wp2
    go_ret
    exact ⟨rfl, rfl⟩
  · have q : decide (0 ≤ i) = true := by simp; omega
    have q2 : decide (i < (l.length : Int)) = false := by simp; omega
    clear hi
    go_enter Try.func27, Try.ntmps27
    go_wp2
    go_ret
    exact ⟨rfl, rfl⟩
set_option maxHeartbeats 1000000 in
theorem has_yes (k : Nat) (h : NetG w fp G l C c m) (hk : k < l.length) :
    Calls Try.prog 27 #[.pointer (some ⟨G.p, 0, none⟩), .int .i64 (k : Int)] w fun e w' => e = .returned (.bool true) ∧ w = w' := by
  obtain ⟨A, kk, c0, _⟩ := h.len_
  clear h
  have q : decide ((0 : Int) ≤ (k : Int)) = true := by simp
  have q2 : decide (k < l.length) = true := by simpa using hk
  go_enter Try.func27, Try.ntmps27
  go_wp2
  go_ret
  exact ⟨rfl, rfl⟩
theorem len_any (h : NetG w fp G l C c m) :
    Calls Try.prog 14 #[.pointer (some ⟨G.p, 0, none⟩)] w fun e w' => e = .returned (.int .i64 (l.length : Int)) ∧ w = w' := by
  obtain ⟨A, kk, c0, _⟩ := h.len_
  clear h
  go_enter Try.func14, Try.ntmps14
  go_wp2
  go_ret
  exact ⟨rfl, rfl⟩
/-- A packet, or none, in memory of its own. -/
def NewPkB (w : World) (p : Pk) (b : Bool) (e : Ending) (w' : World) : Prop :=
  ∃ A n c, e = .returned (.tuple #[.agg #[.int .i64 p.fs, .int .i64 p.fn, .int .i64 p.ts, .int .i64 p.tn, .slice A n c], .bool b]) ∧ SlB w' A n p.d ∧ n ≤ c ∧ n ≤ tokMax ∧ w'.ownsRow w.heap.size 5 1 (.slice A n c) n (bsV p.d) ∧ Below w.heap.size w w'
theorem row5 {w : World} {g k : Nat} {p : Pk} {A : Option Addr} {n c : Nat} (h : ∀ j u, (pkC p A n c)[j]? = some u → w.cell? ⟨g, k * 5 + j, none⟩ = some u) :
    w.cell? ⟨g, k * 5, none⟩ = some (.int .i64 p.fs) ∧ w.cell? ⟨g, k * 5 + 1, none⟩ = some (.int .i64 p.fn) ∧ w.cell? ⟨g, k * 5 + 2, none⟩ = some (.int .i64 p.ts) ∧ w.cell? ⟨g, k * 5 + 3, none⟩ = some (.int .i64 p.tn) ∧ w.cell? ⟨g, k * 5 + 4, none⟩ = some (.slice A n c) :=
  ⟨h 0 _ rfl, h 1 _ rfl, h 2 _ rfl, h 3 _ rfl, h 4 _ rfl⟩
set_option maxHeartbeats 2000000 in
theorem look_any (i : Int) (h : NetG w fp G l C c m) :
    Calls Try.prog 15 #[.pointer (some ⟨G.p, 0, none⟩), .int .i64 i] w (NewPkB w ((lookP l i).getD zeroPk) (lookP l i).isSome) := by
  have h1 := h.below ((Below.refl _ w).alloc (Nat.le_refl _) (.cells #[.int .i64 0, .int .i64 0, .int .i64 0, .int .i64 0, .slice none 0 0] 32))
  have kk : (w.alloc (.cells #[.int .i64 0, .int .i64 0, .int .i64 0, .int .i64 0, .slice none 0 0] 32)).heap[w.heap.size]? = some (.cells #[.int .i64 0, .int .i64 0, .int .i64 0, .int .i64 0, .slice none 0 0] 32 (0, 0)) := heap_alloc_new w _
  rcases look_cases l i with ⟨hl, hi⟩ | ⟨k, p, rfl, hk, hp, hl⟩
  · rw [hl]
    have C := Lib.hid (has_no i h1 hi)
    have HK := Lib.hid kk
    clear h h1 hi hl kk
    go_enter Try.func15, Try.ntmps15
    go_wp2_with fail
    refine C.out.mono ?_
    rintro e w' ⟨rfl, rfl⟩
    go_wp2
    refine bodyPost_ret (results_cell_row_tmp rfl _ _ w.heap.size 32 #[.int .i64 0, .int .i64 0, .int .i64 0, .int .i64 0, .slice none 0 0] (0, 0) _ rfl (by first | exact HK.out | exact set5_heap HK.out) Try.underlying32 rfl Try.infoPkSize) rfl ?_
    refine ⟨none, 0, 0, rfl, Sl.nil _ _ _, Nat.le_refl _, by rw [tokMax_eq]; exact Nat.zero_le _, World.ownsRow_nil _ _ _ _, ?_⟩
    first
      | exact (Below.refl _ w).alloc (Nat.le_refl _) _
      | exact ((Below.refl _ w).alloc (Nat.le_refl _) _).trans (set5_fr.below (fun i hi => by omega) (by simp))
  · rw [hl]
    obtain ⟨g, kc, A, n, cc, d0, d1, s1, s2, s3, s4, _, _⟩ := h1.at_ hp
    obtain ⟨e0, e1, e2, e3, e4⟩ := row5 d1
    have C := Lib.hid (has_yes k h1 hk)
    have C2 := Lib.hid (own_any p A n cc _ s1 s2 s3)
    have HK := Lib.hid kk
    have i0 : (0 : Int) ≤ (k : Int) := by omega
    have i1 : (k : Int) < (l.length : Int) := by omega
    clear h h1 hl kk d1 hp s1 s2 s3 s4
    go_enter Try.func15, Try.ntmps15
    go_wp2_with fail
    refine C.out.mono ?_
    rintro e w' ⟨rfl, rfl⟩
    go_wp2_with fail
    refine C2.out.mono ?_
    rintro e w1 ⟨A1, n1, c1, rfl, s1, hc1, hn1, o1, b1⟩
    have k1 := (b1.block w.heap.size (by simp)).trans HK.out
    have y0 := blk_cell (j := 0) k1 rfl
    have y1 := blk_cell (j := 1) k1 rfl
    have y2 := blk_cell (j := 2) k1 rfl
    have y3 := blk_cell (j := 3) k1 rfl
    have y4 := blk_cell (j := 4) k1 rfl
    have g0 := blk_free k1 0
    have g1 := blk_free k1 1
    have g2 := blk_free k1 2
    have g3 := blk_free k1 3
    have g4 := blk_free k1 4
    have HB := Lib.hid (And.intro b1 (And.intro o1 (And.intro s1 (And.intro hc1 hn1))))
    have HK1 := Lib.hid k1
    clear C C2 b1 o1 s1 hc1 hn1 k1 d0 e0 e1 e2 e3 e4 HK
    go_wp2
    refine bodyPost_ret (results_cell_row_tmp rfl _ _ w.heap.size _ #[.int .i64 p.fs, .int .i64 p.fn, .int .i64 p.ts, .int .i64 p.tn, .slice A1 n1 c1] _ _ rfl (set5_heap HK1.out) Try.underlying32 rfl Try.infoPkSize) rfl ?_
    obtain ⟨b1, o1, s1, hc1, hn1⟩ := HB.out
    have F : Fr (fun i => i = w.heap.size) w1 (set5 w1 w.heap.size (.int .i64 p.fs) (.int .i64 p.fn) (.int .i64 p.ts) (.int .i64 p.tn) (.slice A1 n1 c1)) := set5_fr
    have o2 := own_keep (fp := fun b => w.heap.size + 1 ≤ b) o1 (fun g hg => by have := (o1.lt g hg).1; simpa using this) (F.kept fun i hi hh => by omega)
    refine ⟨A1, n1, c1, rfl, Sl.of_own o2, hc1, hn1, own_lower o2 (by simp), ?_⟩
    exact ((Below.refl _ w).alloc (Nat.le_refl _) _).trans (b1.mono (by simp)) |>.trans (F.below (fun i hi => by omega) (by have := b1.size; simp at this; omega))
end
end Go.Proofs.Ytcdbpimpmhfkhaa
