/-
  firthlaw18.InboxAll
-/
import Derived.Test.YtilagblpamhmkaaInboxAllPlain
import Derived.Test.YtilagblpamhmkaaInboxRoomWalk
import Derived.Test.YtilagblpamhmkaaInboxSpoil
namespace Go.Proofs.Ytilagblpamhmkaa
open Go.RowKit
set_option linter.unusedVariables false

/-- The writes so far, the counts beside them. -/
structure AInv (W wr : World) (l : List Fa) (v : List Int) (qv : Nat) (A : Option Addr) (c : Nat) (rows : List RFa) : Prop where
  own : wr.ownsRow W.heap.size 35 5 (.slice A l.length c) l.length (rows.flatMap fV1)
  map : rows.map (·.1) = l
  fd : ∀ y ∈ rows, FaD wr (fun b => W.heap.size ≤ b) y
  cnt : ∃ z0 z1 z2 : Int, v = [z0, z1, z2] ∧ wr.heap[qv]? = some (.cells #[.int .i64 z0, .int .i64 z1, .int .i64 z2] 2 (0, 0))
  qv : W.heap.size ≤ qv
  bel : Below W.heap.size W wr
/-- One write on the way. -/
structure LInv (w1 wr : World) (s n : Int) (v : List Int) (k : Nat) (A : Option Addr) (np c : Nat) (past : List Sp) : Prop where
  bel : Below w1.heap.size w1 wr
  box : wr.heap[w1.heap.size]? = some (.cells #[.int .i64 s, .int .i64 n, .slice A np c, .bool false, .string ⟨#[]⟩] 42 (0, 0))
  own : wr.ownsRow (w1.heap.size + 1) 53 3 (.slice A np c) np (spV past)
  ok : PastOk v (k : Int) past
theorem AInv.below {W wr w' : World} {l : List Fa} {v : List Int} {qv : Nat} {A : Option Addr} {c : Nat} {rows : List RFa} (h : AInv W wr l v qv A c rows) (b : Below wr.heap.size wr w') : AInv W w' l v qv A c rows := by
  obtain ⟨z0, z1, z2, hv, kq⟩ := h.cnt
  exact ⟨own_base (own_below (own_base h.own 0 (fun _ _ => Nat.zero_le _)) b) _ (fun g hg => (h.own.lt g hg).1), h.map, fun y hy => (h.fd y hy).keep (KeepD.of (Kept.below b)), ⟨z0, z1, z2, hv, (b.block _ (lt_of_block kq)).trans kq⟩, h.qv, h.bel.trans (b.mono h.bel.size)⟩
theorem grown_drewI {w w' : World} {row : Option Nat} (h : w.drew.grownBy w' row) : w.grownBy w' row := ⟨h.os, h.tape, h.output, h.size, h.block⟩
theorem LInv.len {w1 wr : World} {s n : Int} {v : List Int} {k : Nat} {A : Option Addr} {np c : Nat} {past : List Sp} (h : LInv w1 wr s n v k A np c past) : np ≤ k ∧ past.length = np := by
  have h1 := h.own.1
  have h2 := h.ok.len
  rw [spV_length] at h1
  omega
theorem LInv.skip {w1 wr : World} {s n : Int} {v : List Int} {k : Nat} {A : Option Addr} {np c : Nat} {past : List Sp} (h : LInv w1 wr s n v k A np c past) : LInv w1 wr s n v (k + 1) A np c past := ⟨h.bel, h.box, h.own, h.ok.skip⟩
theorem LInv.add {w1 wr w5 : World} {s n : Int} {v : List Int} {k : Nat} {A A5 : Option Addr} {np c c5 : Nat} {past : List Sp} {z : Int} {o : Obj} (h : LInv w1 wr s n v k A np c past) (hz : v.getD k 0 = z) (h0 : 0 < z)
    (own5 : w5.ownsRow (w1.heap.size + 1) 53 3 (.slice A5 (np + 1) c5) (np + 1) (spV past ++ [.int .i64 ((k : Int) + 1), .int .i64 1, .int .i64 z])) (g5 : (wr.alloc o).grownBy w5 (Value.slice A np c).ownBlock) :
    LInv w1 (w5.setCell ⟨w1.heap.size, 2, none⟩ (.slice A5 (np + 1) c5)) s n v (k + 1) A5 (np + 1) c5 (past ++ [((k : Int) + 1, 1, z)]) ∧ w5.heap[w1.heap.size]? = some (.cells #[.int .i64 s, .int .i64 n, .slice A np c, .bool false, .string ⟨#[]⟩] 42 (0, 0)) := by
  have hlt := lt_of_block h.box
  have hs := h.bel.size
  have hrow : ∀ q, (Value.slice A np c).ownBlock = some q → w1.heap.size + 1 ≤ q := fun q hq => (h.own.lt q hq).1
  have k5 : w5.heap[w1.heap.size]? = some (.cells #[.int .i64 s, .int .i64 n, .slice A np c, .bool false, .string ⟨#[]⟩] 42 (0, 0)) :=
    ((Fr.of_grown g5).block _ (by simp; omega) (fun e => by have := hrow _ e.symm; omega)).trans ((Below.heap_alloc _ _ _ hlt).trans h.box)
  refine ⟨⟨?_, by rw [heap_setCell_same w5 w1.heap.size 2 _ _ _ k5]; rfl, ?_, by have := h.ok.add (z := z) (by omega) (by rw [show ((k : Int) + 1).toNat - 1 = k by omega]; exact hz) h0; exact this⟩, k5⟩
  · exact ((h.bel.alloc hs o).grown g5 (by simp; omega) (fun q hq => by have := hrow q hq; omega)).setCell (p := ⟨w1.heap.size, 2, none⟩) (Nat.le_refl _) _
  · rw [spV_append]
    exact ownsRow_setCell_other (by simpa [spV, spV1] using own5) (a := ⟨w1.heap.size, 2, none⟩) (fun e => by have := (own5.lt _ e).1; simp at this; omega) _
theorem PastOk.to3 {v : List Int} {k : Nat} {past : List Sp} (h : PastOk v (k : Int) past) (hk : k ≤ 3) : PastOk v 3 past := ⟨fun x hx => by have := h.sp x hx; omega, h.asc, by have := h.len; omega⟩
theorem cnt_set {w : World} {q : Nat} {z0 z1 z2 z : Int} (h : w.heap[q]? = some (.cells #[.int .i64 z0, .int .i64 z1, .int .i64 z2] 2 (0, 0))) {j : Nat} (hj : j < 3) :
    ∃ y0 y1 y2 : Int, ([z0, z1, z2] : List Int).set j z = [y0, y1, y2] ∧ (w.setCell ⟨q, j, none⟩ (.int .i64 z)).heap[q]? = some (.cells #[.int .i64 y0, .int .i64 y1, .int .i64 y2] 2 (0, 0)) := by
  have hh := heap_setCell_same w q j _ _ (.int .i64 z) h
  obtain rfl | rfl | rfl : j = 0 ∨ j = 1 ∨ j = 2 := by omega
  · exact ⟨z, z1, z2, rfl, hh⟩
  · exact ⟨z0, z, z2, rfl, hh⟩
  · exact ⟨z0, z1, z, rfl, hh⟩
theorem AInv.push {W wb wr w8 : World} {l : List Fa} {v : List Int} {qv : Nat} {A A8 : Option Addr} {c c8 : Nat} {rows : List RFa} {s z : Int} {k : Nat} {Ap : Option Addr} {np cp : Nat} {past : List Sp}
    (h : AInv W wr l v qv A c rows) (hL : LInv wb wr s (z + 1) v k Ap np cp past) (hB : Built l v) (hW : W.heap.size ≤ wb.heap.size) (hs : 1 ≤ s ∧ s ≤ 3) (hz : v.getD (s.toNat - 1) 0 = z) (hp : PastOk v 3 past) (hl : l.length ≤ 60)
    (own8 : w8.ownsRow W.heap.size 35 5 (.slice A8 (l.length + 1) c8) (l.length + 1) (rows.flatMap fV1 ++ fV1 (farA l.length s (z + 1) past, (some ⟨wr.heap.size, 0, none⟩, 1, 1), (none, 0, 0))))
    (g8 : (((wr.setCell ⟨qv, s.toNat - 1, none⟩ (.int .i64 (z + 1))).alloc (.cells #[.int .i64 s, .int .i64 (z + 1), .slice Ap np cp, .bool false, .string ⟨#[]⟩] 42)).alloc (.cells #[.int .i64 2, .int .i64 (l.length : Int), .string ⟨#[107]⟩, .slice (some ⟨wr.heap.size, 0, none⟩) 1 1, .slice none 0 0] 35)).grownBy w8 (Value.slice A l.length c).ownBlock) :
    AInv W w8 (l ++ [farA l.length s (z + 1) past]) (v.set (s.toNat - 1) (z + 1)) qv A8 c8 (rows ++ [(farA l.length s (z + 1) past, (some ⟨wr.heap.size, 0, none⟩, 1, 1), (none, 0, 0))]) := by
  have hsz := h.bel.size
  have hszL := hL.bel.size
  have hzc := hB.cnt (s.toNat - 1) (by omega)
  rw [hz] at hzc
  obtain ⟨q0, q1, q2, hv, kq⟩ := h.cnt
  have hql := lt_of_block kq
  obtain ⟨w5, hw5⟩ : ∃ w5, wr.setCell ⟨qv, s.toNat - 1, none⟩ (.int .i64 (z + 1)) = w5 := ⟨_, rfl⟩
  have hs5 : w5.heap.size = wr.heap.size := by rw [← hw5]; simp
  have F5 : Fr (fun b => b = qv) wr w5 := by rw [← hw5]; exact Fr.set wr ⟨qv, s.toNat - 1, none⟩ _
  have b5 : Below W.heap.size wr w5 := F5.below (fun i hi => by rw [hi]; exact h.qv) hsz
  obtain ⟨y0, y1, y2, ey, k5⟩ := cnt_set (z := z + 1) kq (show s.toNat - 1 < 3 by omega)
  rw [hw5] at g8 k5
  have kd5 : ∀ fp, KeepD fp wr w5 := fun fp b cs t ht _ ho => F5.kept (fp' := fun b => b ≠ qv) (fun i hi e => hi e) b _ (tag_neI ho kq (by rcases ht with rfl | rfl | rfl <;> decide)) ho
  have b7 : Below w5.heap.size w5 ((w5.alloc (.cells #[.int .i64 s, .int .i64 (z + 1), .slice Ap np cp, .bool false, .string ⟨#[]⟩] 42)).alloc (.cells #[.int .i64 2, .int .i64 (l.length : Int), .string ⟨#[107]⟩, .slice (some ⟨wr.heap.size, 0, none⟩) 1 1, .slice none 0 0] 35)) := ((Below.refl _ _).alloc (Nat.le_refl _) _).alloc (by simp) _
  have hov : (w5.alloc (.cells #[.int .i64 s, .int .i64 (z + 1), .slice Ap np cp, .bool false, .string ⟨#[]⟩] 42)).ownsRow W.heap.size 42 5 (.slice (some ⟨wr.heap.size, 0, none⟩) 1 1) 1 (vV1 ((⟨s, z + 1, past, false, ⟨#[]⟩⟩ : Vr), Ap, np, cp)) := by
    rw [← hs5]
    exact World.ownsRow_lit w5 #[.int .i64 s, .int .i64 (z + 1), .slice Ap np cp, .bool false, .string ⟨#[]⟩] 1 (by omega) (by unfold maxLen; omega) (by simp)
  obtain ⟨w6, hw6⟩ : ∃ w6, w5.alloc (.cells #[.int .i64 s, .int .i64 (z + 1), .slice Ap np cp, .bool false, .string ⟨#[]⟩] 42) = w6 := ⟨_, rfl⟩
  have hpo5 : w5.ownsRow W.heap.size 53 3 (.slice Ap np cp) np (spV past) := by
    refine own_base (own_keep (own_base hL.own 0 (fun _ _ => Nat.zero_le _)) (fp := fun b => b ≠ qv) (fun g hg => ?_) (F5.kept fun i hi e => hi e)) _ (fun g hg => by have := (hL.own.lt g hg).1; omega)
    obtain ⟨cs, hcs⟩ := own_tag hL.own hg
    exact tag_neI hcs kq (by decide)
  have hpl : np ≤ 3 := by have := hL.own.1; have := hp.len; rw [spV_length] at *; omega
  have hnp := hL.own
  rw [hw6] at hov b7 g8
  have b6 : Below w5.heap.size w5 w6 := by rw [← hw6]; exact (Below.refl _ _).alloc (Nat.le_refl _) _
  have b67 : Below w6.heap.size w6 (w6.alloc (.cells #[.int .i64 2, .int .i64 (l.length : Int), .string ⟨#[107]⟩, .slice (some ⟨wr.heap.size, 0, none⟩) 1 1, .slice none 0 0] 35)) := (Below.refl _ _).alloc (Nat.le_refl _) _
  obtain ⟨w7, hw7⟩ : ∃ w7, w6.alloc (.cells #[.int .i64 2, .int .i64 (l.length : Int), .string ⟨#[107]⟩, .slice (some ⟨wr.heap.size, 0, none⟩) 1 1, .slice none 0 0] 35) = w7 := ⟨_, rfl⟩
  rw [hw7] at b7 g8 b67
  have hs7 := b7.size
  have hov7 : OwnV w7 W.heap.size (.slice (some ⟨wr.heap.size, 0, none⟩) 1 1) 1 [((⟨s, z + 1, past, false, ⟨#[]⟩⟩ : Vr), Ap, np, cp)] := by
    refine ⟨by simpa using own_below hov (b67.mono (Nat.le_refl _)), fun y hy => ?_⟩
    rw [List.mem_singleton.1 hy]
    refine ⟨own_below (own_below hpo5 b6) b67, own_capI hL.own, by show np * 24 ≤ _; omega, ⟨WalkArith.wf_i64 (n := s) (by omega), WalkArith.wf_i64 (n := z + 1) (by omega)⟩, fun x hx => ?_, by show 0 ≤ _; omega⟩
    obtain ⟨p1, p2, p3, p4, p5⟩ := hp.sp x hx
    have := hB.cnt (x.1.toNat - 1) (by omega)
    exact ⟨WalkArith.wf_i64 (by omega), WalkArith.wf_i64 (by omega), WalkArith.wf_i64 (by omega)⟩
  have own5 := own_keep (own_base h.own 0 (fun _ _ => Nat.zero_le _)) (fp := fun b => b ≠ qv) (fun g hg => by
    obtain ⟨cs, hcs⟩ := own_tag h.own hg
    exact tag_neI hcs kq (by decide)) (F5.kept fun i hi e => hi e)
  have own7 := own_below own5 b7
  have kd8 : ∀ fp, KeepD fp w7 w8 := fun fp => keepD_grown own7 g8
  have hright : rightF (farA l.length s (z + 1) past) = true := by rw [← hz]; exact farA_right hp hs (fun j hj => by have := hB.cnt j hj; omega)
  have fdn : FaD w7 (fun b => W.heap.size ≤ b) (farA l.length s (z + 1) past, (some ⟨wr.heap.size, 0, none⟩, 1, 1), (none, 0, 0)) :=
    fd_of_own (B' := W.heap.size) hov7 rfl (Nat.le_refl _) (World.ownsRow_nil _ _ _ _) (Nat.le_refl _) (by omega) hright (fun i h1 _ => h1) (fun i h1 _ => h1)
  refine ⟨by rw [List.length_append, List.flatMap_append]; simpa using own8, by rw [List.map_append, h.map]; rfl, fun y hy => ?_, ⟨y0, y1, y2, by rw [hv]; exact ey, ?_⟩, h.qv, ?_⟩
  · rcases List.mem_append.1 hy with hy | hy
    · exact (((h.fd y hy).keep (kd5 _)).keep (KeepD.of (Kept.below b7))).keep (kd8 _)
    · rw [List.mem_singleton.1 hy]
      exact fdn.keep (kd8 _)
  · refine ((Fr.of_grown g8).block qv (by omega) (fun e => ?_)).trans ((b7.block qv (by omega)).trans k5)
    obtain ⟨cs, hcs⟩ := own_tag h.own e.symm
    exact tag_neI hcs kq (by decide) rfl
  · exact ((h.bel.trans b5).trans (b7.mono (by omega))).grown g8 (by omega) (fun g hg => (h.own.lt g hg).1)
theorem cnt_cell {w : World} {q : Nat} {z0 z1 z2 : Int} (h : w.heap[q]? = some (.cells #[.int .i64 z0, .int .i64 z1, .int .i64 z2] 2 (0, 0))) {j : Nat} (hj : j < 3) : w.cell? ⟨q, j, none⟩ = some (.int .i64 (([z0, z1, z2] : List Int).getD j 0)) := by
  obtain rfl | rfl | rfl : j = 0 ∨ j = 1 ∨ j = 2 := by omega
  · exact row_cell (j := 0) h rfl
  · exact row_cell (j := 1) h rfl
  · exact row_cell (j := 2) h rfl
/-- The inbox, and what is done by now; what lay in w0 is as it was. -/
structure NInv (w0 wr : World) (room : Int) (L : List Fa) (now : List Int) (qn : Nat) : Prop where
  bel : Below w0.heap.size w0 wr
  ip : ∃ K, IP K wr wr w0.heap.size room L ∧ (∀ b, b < w0.heap.size → K b) ∧ K qn
  cnt : ∃ n0 n1 n2 : Int, now = [n0, n1, n2] ∧ wr.heap[qn]? = some (.cells #[.int .i64 n0, .int .i64 n1, .int .i64 n2] 2 (0, 0))
  qn : w0.heap.size ≤ qn
section
variable {w0 wr w' : World} {room : Int} {L : List Fa} {now : List Int} {qn : Nat}
theorem NInv.below (h : NInv w0 wr room L now qn) (b : Below wr.heap.size wr w') : NInv w0 w' room L now qn := by
  obtain ⟨K, h1, h2, h3⟩ := h.ip
  obtain ⟨n0, n1, n2, e, k⟩ := h.cnt
  exact ⟨h.bel.trans (b.mono h.bel.size), ⟨K, (h1.below b).here, h2, h3⟩, ⟨n0, n1, n2, e, (b.block _ (lt_of_block k)).trans k⟩, h.qn⟩
theorem NInv.of {K : Nat → Prop} {L' : List Fa} (h : NInv w0 wr room L now qn) (h2 : ∀ b, b < w0.heap.size → K b) (h3 : K qn) (h1 : IP K wr w' w0.heap.size room L') : NInv w0 w' room L' now qn := by
  obtain ⟨n0, n1, n2, e, k⟩ := h.cnt
  exact ⟨h1.outer h.bel h2 h.bel.size, ⟨K, h1.here, h2, h3⟩, ⟨n0, n1, n2, e, h1.row h3 k⟩, h.qn⟩
theorem sl3 {w : World} {q : Nat} {z0 z1 z2 : Int} (h : w.heap[q]? = some (.cells #[.int .i64 z0, .int .i64 z1, .int .i64 z2] 2 (0, 0))) : SlI w (some ⟨q, 0, none⟩) 3 [z0, z1, z2] := by
  refine ⟨rfl, fun _ => ⟨q, 0, rfl, fun j u hu => ?_⟩⟩
  rw [cell_of_row w q (0 + j) _ _ (0, 0) h, Nat.zero_add]
  match j, hu with
  | 0, hu => simpa using hu
  | 1, hu => simpa using hu
  | 2, hu => simpa using hu
theorem NInv.vec (h : NInv w0 wr room L now qn) : SlI wr (some ⟨qn, 0, none⟩) 3 now := by
  obtain ⟨n0, n1, n2, e, k⟩ := h.cnt
  rw [e]
  exact sl3 k
theorem takeN (f : Fa) (A : Option Addr) (n c : Nat) (A2 : Option Addr) (n2 c2 : Nat) (h : NInv w0 wr room L now qn) (hv : RRow wr f.rc A n c) (hr : Sl wr A2 n2 1 (f.route.map (Value.int .i64))) (hc2 : n2 ≤ c2) (hn2 : n2 * 8 ≤ 140737488351232) (hl : (L.length + 1) * 80 ≤ 140737488355328) :
    Calls Try.prog 12 #[.pointer (some ⟨w0.heap.size, 0, none⟩), .agg #[.int .i64 f.src, .int .i64 f.seq, .string f.rc.key, .slice A n c, .slice A2 n2 c2], .slice (some ⟨qn, 0, none⟩) 3 3] wr fun e w' => e = .returned (.int .i64 (takeA room L f now)) ∧ NInv w0 w' room (takeI room L f now) now qn := by
  obtain ⟨K, h1, h2, h3⟩ := h.ip
  refine (takeP f A n c A2 n2 c2 (some ⟨qn, 0, none⟩) 3 3 now h1 hv hr hc2 hn2 h.vec (by omega) hl).mono ?_
  rintro e w' ⟨he, h'⟩
  exact ⟨he, h.of h2 h3 h'⟩
theorem readyN_none (h : NInv w0 wr room L now qn) (hl : L.length * 80 ≤ 140737488355328) (hr : readyI L now = none) :
    Calls Try.prog 13 #[.pointer (some ⟨w0.heap.size, 0, none⟩), .slice (some ⟨qn, 0, none⟩) 3 3] wr fun e w' => e = .returned (.tuple #[.agg #[.int .i64 0, .int .i64 0, .string ⟨#[]⟩, .slice none 0 0, .slice none 0 0], .bool false]) ∧ NInv w0 w' room L now qn := by
  obtain ⟨K, h1, h2, h3⟩ := h.ip
  refine (readyP_none (some ⟨qn, 0, none⟩) 3 3 now h1 h.vec (by omega) hl hr).mono ?_
  rintro e w' ⟨he, h'⟩
  exact ⟨he, h.of h2 h3 h'⟩
theorem readyN_some (h : NInv w0 wr room L now qn) (hl : L.length * 80 ≤ 140737488355328) {k : Nat} {f : Fa} (hr : readyI L now = some k) (hf : L[k]? = some f) :
    Calls Try.prog 13 #[.pointer (some ⟨w0.heap.size, 0, none⟩), .slice (some ⟨qn, 0, none⟩) 3 3] wr fun e w' => ∃ (A : Option Addr) (n c : Nat) (A2 : Option Addr) (n2 c2 : Nat), e = .returned (.tuple #[.agg #[.int .i64 f.src, .int .i64 f.seq, .string f.rc.key, .slice A n c, .slice A2 n2 c2], .bool true]) ∧ SlV w' A n f.rc.vers ∧ rightF f = true ∧ NInv w0 w' room (L.eraseIdx k) now qn := by
  obtain ⟨K, h1, h2, h3⟩ := h.ip
  refine (readyP_some (some ⟨qn, 0, none⟩) 3 3 now h1 h.vec (by omega) hl hr hf).mono ?_
  rintro e w' ⟨A, n, c, A2, n2, c2, he, hd, h'⟩
  exact ⟨A, n, c, A2, n2, c2, he, hd.vs.slv, hd.right, h.of h2 h3 h'⟩
theorem waitsN (h : NInv w0 wr room L now qn) (hl : L.length * 80 ≤ 140737488355328) : Calls Try.prog 17 #[.pointer (some ⟨w0.heap.size, 0, none⟩)] wr (NewFs wr L) := by
  obtain ⟨K, h1, h2, h3⟩ := h.ip
  exact waitsP h1 hl
theorem NInv.put (h : NInv w0 wr room L now qn) {j : Nat} (hj : j < 3) (z : Int) : NInv w0 (wr.setCell ⟨qn, j, none⟩ (.int .i64 z)) room L (now.set j z) qn := by
  obtain ⟨K, h1, h2, h3⟩ := h.ip
  obtain ⟨n0, n1, n2, e, k⟩ := h.cnt
  obtain ⟨y0, y1, y2, e2, k2⟩ := cnt_set (z := z) k hj
  exact ⟨h.bel.setCell (p := ⟨qn, j, none⟩) h.qn _, ⟨K, h1.write h3 j _, h2, h3⟩, ⟨y0, y1, y2, by rw [e]; exact e2, k2⟩, h.qn⟩
theorem newN (N : Nat) (w0 : World) :
    Calls Try.prog 11 #[.int .i64 (N : Int)] w0 fun e w' => e = .returned (.pointer (some ⟨w0.heap.size, 0, none⟩)) ∧ NInv w0 (w'.alloc (.cells #[.int .i64 0, .int .i64 0, .int .i64 0] 2)) N [] [0, 0, 0] w'.heap.size := by
  refine (newP (N : Int) w0).mono ?_
  rintro e w' ⟨rfl, h1, b1⟩
  rw [Int.max_eq_left (Int.natCast_nonneg N)] at h1
  have hs := b1.size
  have b2 : Below w'.heap.size w' (w'.alloc (.cells #[.int .i64 0, .int .i64 0, .int .i64 0] 2)) := (Below.refl _ _).alloc (Nat.le_refl _) _
  exact ⟨rfl, b1.trans (b2.mono hs), ⟨fun b => b < w0.heap.size ∨ b = w'.heap.size, h1.over b2 (fun b hb => hb.imp (fun h => h) (fun e => ⟨by omega, by rw [e]; simp⟩)), fun b hb => .inl hb, .inr rfl⟩, ⟨0, 0, 0, rfl, heap_alloc_new _ _⟩, hs⟩
end
theorem mod_of (x : Int) (N : Nat) (hN : N ≤ 60) : ∃ kv : Nat, wrap64 ((IntKind.u64.wrap x).tmod ((N : Int) + 1)) = (kv : Int) ∧ kv ≤ N := by
  have h0 := (bounds_u64 (wf_wrap .u64 x)).1
  obtain ⟨u, hu⟩ : ∃ u, IntKind.u64.wrap x = u := ⟨_, rfl⟩
  rw [hu] at h0 ⊢
  have h1 : 0 ≤ u.tmod ((N : Int) + 1) := Int.tmod_nonneg _ h0
  have h2 : u.tmod ((N : Int) + 1) < (N : Int) + 1 := Int.tmod_lt_of_pos _ (by omega)
  obtain ⟨r, hr⟩ := Int.eq_ofNat_of_zero_le h1
  refine ⟨r, ?_, by omega⟩
  rw [hr]
  unfold wrap64
  omega
theorem row_getA {rows : List RFa} {l : List Fa} {k : Nat} {f : Fa} (hm : rows.map (·.1) = l) (h : l[k]? = some f) : ∃ y : RFa, rows[k]? = some y ∧ y.1 = f := by
  rw [← hm, List.getElem?_map, Option.map_eq_some_iff] at h
  exact h
theorem Run.len_le {all L : List Fa} {v now : List Int} {m : Nat} (h : Run all v now L m) : L.length ≤ all.length := by
  have h1 := nodup_sub (l := L.map dotF) (m := all.map dotF) h.nodup (fun x hx => by
    obtain ⟨g, hg, rfl⟩ := List.mem_map.1 hx
    exact List.mem_map.2 ⟨g, h.sub g hg, rfl⟩)
  simpa using h1
set_option maxHeartbeats 20000000 in
set_option maxRecDepth 100000 in
theorem inboxAll_walk (a0 : Option Addr) (len0 cap0 : Nat) (l0 : List UInt8) (a1 : Option Addr) (len1 cap1 : Nat) (l1 : List UInt8) (a2 : Option Addr) (len2 cap2 : Nat) (l2 : List Int) (W : World)
    (s0 : SlB W a0 len0 l0) (b0 : len0 ≤ cap0) (z0 : cap0 * 1 ≤ 140737488351232) (s1 : SlB W a1 len1 l1) (b1 : len1 ≤ cap1) (z1 : cap1 * 1 ≤ 140737488351232) (s2 : Sl W a2 len2 1 (l2.map (Value.int .i64))) (f2 : ∀ x ∈ l2, (Lit.int .i64 x).wf = true) (b2 : len2 ≤ cap2) (z2 : cap2 * 8 ≤ 140737488351232) :
    Calls Try.prog 4 #[.slice a0 len0 cap0, .slice a1 len1 cap1, .slice a2 len2 cap2] W fun e w' => e = .returned (.bool true) ∧ Below W.heap.size W w' := by
  obtain ⟨i0, hi, hz0, hz1, hz2⟩ := info_parts Try.infoSpan
  obtain ⟨j0, ki, kz0, kz1, kz2⟩ := info_parts Try.infoFarD
  have HT := Lib.hid (fun (w' : World) (b : Below W.heap.size W w') => And.intro (show SlB w' a0 len0 l0 from Sl.below s0 b) (And.intro (show SlB w' a1 len1 l1 from Sl.below s1 b) (show Sl w' a2 len2 1 (l2.map (Value.int .i64)) from Sl.below s2 b)))
  have hn1 : len1 ≤ 140737488351232 := by omega
  have hn2 : len2 ≤ 17592186043904 := by omega
  have C0 := Lib.hid (awake_any W)
  clear s0 s1 s2 f2 b0 z0 b1 z1 b2 z2
  go_enter Try.func4, Try.ntmps4
  go_wp2_with fail
  refine C0.out.mono ?_
  rintro e w1 ⟨rfl, bw1⟩
  have HB1 := Lib.hid bw1
  by_cases h60 : len0 ≤ 60
  rotate_left
  · have C1 := Lib.hid (awake_any w1)
    have h61 : (60 : Int) < (len0 : Int) := by omega
    clear bw1 C0
    go_wp2_with fail
    refine C1.out.mono ?_
    rintro e w2 ⟨rfl, bw2⟩
    have HE := Lib.hid (HB1.out.trans (bw2.mono HB1.out.size))
    clear bw2 C1
    go_wp2
    go_ret
    exact ⟨rfl, HE.out⟩
  have h61 : decide ((60 : Int) < (len0 : Int)) = false := decide_eq_false (by omega)
  have k2 := heap_alloc_new w1 (.cells #[.int .i64 0, .int .i64 0, .int .i64 0] 2)
  have b2 : Below W.heap.size W (w1.alloc (.cells #[.int .i64 0, .int .i64 0, .int .i64 0] 2)) := HB1.out.alloc HB1.out.size _
  obtain ⟨w2, hw2⟩ : ∃ w2, w1.alloc (.cells #[.int .i64 0, .int .i64 0, .int .i64 0] 2) = w2 := ⟨_, rfl⟩
  obtain ⟨qv, hqv⟩ : ∃ qv, w1.heap.size = qv := ⟨_, rfl⟩
  rw [hw2] at k2 b2
  rw [hqv] at k2
  have HA0 := Lib.hid (show AInv W w2 [] [0, 0, 0] qv none 0 [] from ⟨World.ownsRow_nil _ _ _ _, rfl, fun y hy => (nomatch hy), ⟨0, 0, 0, rfl, k2⟩, by rw [← hqv]; exact HB1.out.size, b2⟩)
  have HW2 := Lib.hid hw2
  have HQ := Lib.hid hqv
  clear k2 b2 hw2 hqv C0 bw1
  go_wp2_with fail
  rw [HQ.out, HW2.out]
  go_loopw [7, 9] (fun t7 t9 wr => ∃ (l : List Fa) (v : List Int) (A : Option Addr) (c : Nat) (rows : List RFa), t7 = .slice A l.length c ∧ t9 = .int .i64 (l.length : Int) ∧ l.length ≤ len0 ∧ Hid (Built l v) ∧ Hid (AInv W wr l v qv A c rows)) (fun _ t9 _ => len0 - (intOf t9).toNat)
  case atStart => exact ⟨[], [0, 0, 0], none, 0, [], rfl, rfl, Nat.zero_le _, Built.nil, HA0⟩
  case round =>
    clear HA0
    obtain ⟨l, v, A, c, rows, rfl, rfl, hl, HBU, HA⟩ := hrel
    by_cases hlt : l.length < len0
    · obtain ⟨g, off, cc, rfl, hcc, -, yb⟩ := (HT.out _ HA.out.bel).1.at_ hlt
      obtain ⟨q0, q1, q2, hv, kq⟩ := HA.out.cnt
      have hcn := HBU.out.cnt
      have i1 : (0 : Int) ≤ (l.length : Int) := by omega
      have i2 : (l.length : Int) < (len0 : Int) := by omega
      have y1 : wr.cell? ⟨qv, cc % 3, none⟩ = some (.int .i64 (v.getD (cc % 3) 0)) := by rw [hv]; exact cnt_cell kq (by omega)
      obtain ⟨z, hz⟩ : ∃ z, v.getD (cc % 3) 0 = z := ⟨_, rfl⟩
      rw [hz] at y1
      have hzb := hcn (cc % 3) (by omega)
      rw [hz] at hzb
      have hz0' : 0 ≤ z := hzb.1
      have hz1' : z ≤ 60 := by omega
      have HZ := Lib.hid hz
      have i3 : (0 : Int) ≤ (cc : Int) % 3 := by omega
      have i4 : (cc : Int) % 3 < 3 := by omega
      have b3 : Below wr.heap.size wr (wr.alloc (.cells #[.int .i64 (1 + (cc : Int) % 3), .int .i64 (z + 1), .slice none 0 0, .bool false, .string ⟨#[]⟩] 42)) := (Below.refl _ _).alloc (Nat.le_refl _) _
      have k3 := heap_alloc_new wr (.cells #[.int .i64 (1 + (cc : Int) % 3), .int .i64 (z + 1), .slice none 0 0, .bool false, .string ⟨#[]⟩] 42)
      have hL0 := Lib.hid (show LInv wr (wr.alloc (.cells #[.int .i64 (1 + (cc : Int) % 3), .int .i64 (z + 1), .slice none 0 0, .bool false, .string ⟨#[]⟩] 42)) (1 + (cc : Int) % 3) (z + 1) v 0 none 0 0 [] from ⟨b3, k3, World.ownsRow_nil _ _ _ _, PastOk.nil v⟩)
      obtain ⟨s, hs⟩ : ∃ s : Int, 1 + (cc : Int) % 3 = s := ⟨_, rfl⟩
      have hs1 : 1 ≤ s := by omega
      have hs3 : s ≤ 3 := by omega
      have HZS := Lib.hid (show v.getD (s.toNat - 1) 0 = z from by rw [show s.toNat - 1 = cc % 3 by omega]; exact hz)
      have hjj : 1 + cc % 3 - 1 = cc % 3 := by omega
      have HJJ := Lib.hid hjj
      have HS := Lib.hid hs
      obtain ⟨w3, hw3⟩ : ∃ w3, wr.alloc (.cells #[.int .i64 (1 + (cc : Int) % 3), .int .i64 (z + 1), .slice none 0 0, .bool false, .string ⟨#[]⟩] 42) = w3 := ⟨_, rfl⟩
      rw [hw3, hs] at hL0
      have HW3 := Lib.hid hw3
      obtain ⟨wb, rfl⟩ : ∃ wb : World, wb = wr := ⟨_, rfl⟩
      have hsa := HA.out.bel.size
      clear hcn hv kq hz hzb b3 k3 hw3 hcc hs hjj
      go_wp2_with fail
      rw [HW3.out, HS.out, HJJ.out]
      clear y1
      go_loopw [12] (fun t12 wr => ∃ (k : Nat) (Ap : Option Addr) (np cp : Nat) (past : List Sp), t12 = .int .i64 ((k : Int) + 1) ∧ k ≤ 3 ∧ Hid (LInv wb wr s (z + 1) v k Ap np cp past)) (fun t12 _ => 4 - (intOf t12).toNat)
      case atStart => exact ⟨0, none, 0, 0, [], rfl, Nat.zero_le _, hL0⟩
      case round =>
        clear hL0
        obtain ⟨k, Ap, np, cp, past, rfl, hk, HL⟩ := hrel
        by_cases hk3 : k < 3
        · by_cases hbe : l.length < len1
          · have hA := HA.out.below HL.out.bel
            obtain ⟨q0', q1', q2', hv, kq⟩ := hA.cnt
            obtain ⟨g1, o1, c1, rfl, hc1, -, yb1⟩ := (HT.out _ hA.bel).2.1.at_ hbe
            have yk : wr.cell? ⟨qv, k, none⟩ = some (.int .i64 (v.getD k 0)) := by rw [hv]; exact cnt_cell kq hk3
            obtain ⟨zk, hzk⟩ : ∃ zk, v.getD k 0 = zk := ⟨_, rfl⟩
            rw [hzk] at yk
            have hb1 := HL.out.box
            have xb := row_cell (j := 2) hb1 rfl
            have fb := frozen_of_row wr wb.heap.size 2 _ _ hb1
            have HZK := Lib.hid hzk
            have j0' : (0 : Int) ≤ (k : Int) := by omega
            have j1' : (k : Int) < 3 := by omega
            have i5 : (l.length : Int) < (len1 : Int) := by omega
            have i6 : (k : Int) + 1 ≤ 3 := by omega
            have hnp := HL.out.len
            clear hA hv kq hzk hb1
            by_cases hbt : bits BinOp.and IntKind.u8 ((c1 : Int) / 2 ^ (k + 1)) 1 = 1
            · have qb : (bits BinOp.and IntKind.u8 ((c1 : Int) / 2 ^ (k + 1)) 1 == 1) = true := beq_iff_eq.2 hbt
              clear hbt
              by_cases hzk : 0 < zk
              · have HOW := Lib.hid HL.out.own
                have HNP := Lib.hid hnp.2
                have hnp2 := hnp.1
                have hwk : IntKind.i64.wrap (k : Int) = (k : Int) := IntWalk.i64_in _ (by omega)
                have hxl := lt_of_block HL.out.box
                have hql := World.block_lt_of_cell? wr _ yk
                clear hnp
                go_wp2_with fail
                go_region_law (first
                  | (refine step_append_sl rfl (.tmp 80) (.tmp 88) 40 rfl (wb.heap.size + 1) 53 i0 (.agg #[.int .i64 0, .int .i64 0, .int .i64 0]) 3 24 Try.underlying40 hi hz0 hz1 hz2 rfl (by decide) (.slice Ap np cp) np (spV past) rfl (HOW.out.alloc _) (some ⟨wr.heap.size, 0, none⟩) 1 1 ([.int .i64 ((k : Int) + 1), .int .i64 1, .int .i64 zk]) rfl (sl_lit _ _ _ _ 1 3 _ rfl rfl rfl) (by intro u hu; simp at hu; rcases hu with rfl | rfl | rfl <;> rfl) (by unfold maxLen; omega) (by omega) (by have := lt_of_block HL.out.box; simp; omega) ?_; intro v5 w5 own5 g5 hv5; obtain ⟨A5, c5, rfl, -, -⟩ := own_slice own5; obtain ⟨h5, k5⟩ := HL.out.add HZK.out hzk own5 (grown_drewI g5); have d5 := row_cell (j := 2) k5 rfl; have f5 := frozen_of_row w5 wb.heap.size 2 _ _ k5; have H5 := Lib.hid h5; clear own5 g5 hv5 h5 k5))
                all_goals
                  go_wp2
                  go_roundw
                  case rel => exact ⟨k + 1, A5, np + 1, c5, _, by go_num, by omega, H5⟩
                  case measure => simp [intOf]; omega
              · have qz : decide (0 < zk) = false := decide_eq_false hzk
                have HS := Lib.hid HL.out.skip
                go_wp2
                go_roundw
                case rel => exact ⟨k + 1, Ap, np, cp, past, by go_num, by omega, HS⟩
                case measure => simp [intOf]; omega
            · have qb : (bits BinOp.and IntKind.u8 ((c1 : Int) / 2 ^ (k + 1)) 1 == 1) = false := beq_eq_false_iff_ne.2 hbt
              have HS := Lib.hid HL.out.skip
              clear hbt
              go_wp2
              go_roundw
              case rel => exact ⟨k + 1, Ap, np, cp, past, by go_num, by omega, HS⟩
              case measure => simp [intOf]; omega
          · have i5 : ¬ (l.length : Int) < (len1 : Int) := by omega
            have i6 : (k : Int) + 1 ≤ 3 := by omega
            have hA := HA.out.below HL.out.bel
            have HAR := Lib.hid hA
            obtain ⟨q0', q1', q2', hv, kq⟩ := hA.cnt
            have yk : wr.cell? ⟨qv, s.toNat - 1, none⟩ = some (.int .i64 z) := by rw [← HZS.out, hv]; exact cnt_cell kq (by omega)
            have fk := frozen_of_row wr qv (s.toNat - 1) _ _ kq
            have hb1 := HL.out.box
            have hqne : wb.heap.size ≠ qv := fun e => by rw [e] at hb1; exact tag_neI hb1 kq (by decide) rfl
            have hb2 := (Below.heap_setCell wr ⟨qv, s.toNat - 1, none⟩ (.int .i64 (z + 1)) wb.heap.size hqne).trans hb1
            have x0 := row_cell (j := 0) hb2 rfl
            have x1 := row_cell (j := 1) hb2 rfl
            have x2 := row_cell (j := 2) hb2 rfl
            have x3 := row_cell (j := 3) hb2 rfl
            have x4 := row_cell (j := 4) hb2 rfl
            have hsw := hA.bel.size
            have o5 : ((wr.setCell ⟨qv, s.toNat - 1, none⟩ (.int .i64 (z + 1))).alloc (.cells #[.int .i64 s, .int .i64 (z + 1), .slice Ap np cp, .bool false, .string ⟨#[]⟩] 42)).ownsRow W.heap.size 35 5 (.slice A l.length c) l.length (rows.flatMap fV1) :=
              (ownsRow_setCell_other hA.own (a := ⟨qv, s.toNat - 1, none⟩) (fun e => by
                obtain ⟨cs, hcs⟩ := own_tag hA.own e
                exact tag_neI hcs kq (by decide) rfl) _).alloc _
            have HO5 := Lib.hid o5
            have HP3 := Lib.hid (HL.out.ok.to3 hk)
            have hszw := HL.out.bel.size
            clear hA hv kq hb1 hqne hb2 o5
            go_wp2_with (first | (at_builtin; refine wpList_append_sl _ rfl (.tmp 98) (.tmp 104) 22 rfl (W.heap.size) 35 j0 (.agg #[.int .i64 0, .int .i64 0, .string ⟨#[]⟩, .slice none 0 0, .slice none 0 0]) 5 80 Try.underlying22 ki kz0 kz1 kz2 rfl (by decide) (.slice A l.length c) (l.length) (rows.flatMap fV1) rfl (HO5.out.alloc _) (some ⟨wr.heap.size + 1, 0, none⟩) (1) (1) (fV1 (farA l.length s (z + 1) past, (some ⟨wr.heap.size, 0, none⟩, 1, 1), (none, 0, 0))) rfl (sl_lit _ _ _ _ 1 5 _ (by simp) rfl rfl) (fV1_one _) (by unfold maxLen; omega) (by omega) (by simp; omega) ?_) | fail)
            intro v8 w8 own8 g8 _
            obtain ⟨A8, c8, rfl, -, -⟩ := own_slice own8
            have HA8 := Lib.hid (HAR.out.push HL.out HBU.out hsa ⟨hs1, hs3⟩ HZS.out HP3.out (by omega) own8 g8)
            have HB8 := Lib.hid (show Built (l ++ [farA l.length s (z + 1) past]) (v.set (s.toNat - 1) (z + 1)) from by have := HBU.out.snoc (by omega) ⟨hs1, hs3⟩ HP3.out l.length; rwa [HZS.out] at this)
            have hll : (l ++ [farA l.length s (z + 1) past]).length = l.length + 1 := by simp
            obtain ⟨l', hl'⟩ : ∃ l', l ++ [farA l.length s (z + 1) past] = l' := ⟨_, rfl⟩
            rw [hl'] at HA8 HB8 hll
            have HLL := Lib.hid hll
            clear own8 g8 hl' hll x0 x1 x2 x3 x4 yk fk HO5
            go_wp2
            go_roundw
            case rel => exact ⟨l', _, A8, c8, _, by rw [HLL.out], by rw [HLL.out]; go_num, by rw [HLL.out]; omega, HB8, HA8⟩
            case measure => simp [intOf]; omega
        · obtain rfl : k = 3 := by omega
          have i6 : ¬ ((3 : Nat) : Int) + 1 ≤ 3 := by omega
          have hA := HA.out.below HL.out.bel
          have HAR := Lib.hid hA
          obtain ⟨q0', q1', q2', hv, kq⟩ := hA.cnt
          have yk : wr.cell? ⟨qv, s.toNat - 1, none⟩ = some (.int .i64 z) := by rw [← HZS.out, hv]; exact cnt_cell kq (by omega)
          have fk := frozen_of_row wr qv (s.toNat - 1) _ _ kq
          have hb1 := HL.out.box
          have hqne : wb.heap.size ≠ qv := fun e => by rw [e] at hb1; exact tag_neI hb1 kq (by decide) rfl
          have hb2 := (Below.heap_setCell wr ⟨qv, s.toNat - 1, none⟩ (.int .i64 (z + 1)) wb.heap.size hqne).trans hb1
          have x0 := row_cell (j := 0) hb2 rfl
          have x1 := row_cell (j := 1) hb2 rfl
          have x2 := row_cell (j := 2) hb2 rfl
          have x3 := row_cell (j := 3) hb2 rfl
          have x4 := row_cell (j := 4) hb2 rfl
          have hsw := hA.bel.size
          have o5 : ((wr.setCell ⟨qv, s.toNat - 1, none⟩ (.int .i64 (z + 1))).alloc (.cells #[.int .i64 s, .int .i64 (z + 1), .slice Ap np cp, .bool false, .string ⟨#[]⟩] 42)).ownsRow W.heap.size 35 5 (.slice A l.length c) l.length (rows.flatMap fV1) :=
            (ownsRow_setCell_other hA.own (a := ⟨qv, s.toNat - 1, none⟩) (fun e => by
              obtain ⟨cs, hcs⟩ := own_tag hA.own e
              exact tag_neI hcs kq (by decide) rfl) _).alloc _
          have HO5 := Lib.hid o5
          have HP3 := Lib.hid (HL.out.ok.to3 hk)
          have hszw := HL.out.bel.size
          clear hA hv kq hb1 hqne hb2 o5
          go_wp2_with (first | (at_builtin; refine wpList_append_sl _ rfl (.tmp 98) (.tmp 104) 22 rfl (W.heap.size) 35 j0 (.agg #[.int .i64 0, .int .i64 0, .string ⟨#[]⟩, .slice none 0 0, .slice none 0 0]) 5 80 Try.underlying22 ki kz0 kz1 kz2 rfl (by decide) (.slice A l.length c) (l.length) (rows.flatMap fV1) rfl (HO5.out.alloc _) (some ⟨wr.heap.size + 1, 0, none⟩) (1) (1) (fV1 (farA l.length s (z + 1) past, (some ⟨wr.heap.size, 0, none⟩, 1, 1), (none, 0, 0))) rfl (sl_lit _ _ _ _ 1 5 _ (by simp) rfl rfl) (fV1_one _) (by unfold maxLen; omega) (by omega) (by simp; omega) ?_) | fail)
          intro v8 w8 own8 g8 _
          obtain ⟨A8, c8, rfl, -, -⟩ := own_slice own8
          have HA8 := Lib.hid (HAR.out.push HL.out HBU.out hsa ⟨hs1, hs3⟩ HZS.out HP3.out (by omega) own8 g8)
          have HB8 := Lib.hid (show Built (l ++ [farA l.length s (z + 1) past]) (v.set (s.toNat - 1) (z + 1)) from by have := HBU.out.snoc (by omega) ⟨hs1, hs3⟩ HP3.out l.length; rwa [HZS.out] at this)
          have hll : (l ++ [farA l.length s (z + 1) past]).length = l.length + 1 := by simp
          obtain ⟨l', hl'⟩ : ∃ l', l ++ [farA l.length s (z + 1) past] = l' := ⟨_, rfl⟩
          rw [hl'] at HA8 HB8 hll
          have HLL := Lib.hid hll
          clear own8 g8 hl' hll x0 x1 x2 x3 x4 yk fk HO5
          go_wp2
          go_roundw
          case rel => exact ⟨l', _, A8, c8, _, by rw [HLL.out], by rw [HLL.out]; go_num, by rw [HLL.out]; omega, HB8, HA8⟩
          case measure => simp [intOf]; omega
    · have hle : l.length = len0 := by omega
      have hl60 : l.length ≤ 60 := by omega
      have CN := Lib.hid (newN l.length wr)
      obtain ⟨ww, rfl⟩ : ∃ ww : World, ww = wr := ⟨_, rfl⟩
      have i1 : ¬ (l.length : Int) < (len0 : Int) := by omega
      clear hle
      go_wp2_with fail
      refine CN.out.mono ?_
      rintro e w3 ⟨rfl, h3⟩
      obtain ⟨qn, hqn⟩ : ∃ qn, w3.heap.size = qn := ⟨_, rfl⟩
      rw [hqn] at h3
      obtain ⟨w4, hw4⟩ : ∃ w4, w3.alloc (.cells #[.int .i64 0, .int .i64 0, .int .i64 0] 2) = w4 := ⟨_, rfl⟩
      rw [hw4] at h3
      have HN0 := Lib.hid h3
      have HQN := Lib.hid hqn
      have HW4 := Lib.hid hw4
      clear CN hqn hw4 h3
      go_wp2_with fail
      rw [HQN.out, HW4.out]
      go_loopw [15] (fun t15 wr => ∃ (i : Nat) (L : List Fa) (now : List Int), t15 = .int .i64 (i : Int) ∧ i ≤ len2 + l.length ∧ Hid (Run l v now L (i - len2)) ∧ Hid (readyI L now = none) ∧ Hid (NInv ww wr l.length L now qn)) (fun t15 _ => len2 + l.length - (intOf t15).toNat)
      case atStart => exact ⟨0, [], [0, 0, 0], rfl, Nat.zero_le _, (by rw [Nat.zero_sub]; exact Run.start HBU.out), rfl, HN0⟩
      case round =>
        clear HN0
        obtain ⟨i, L, now, rfl, hi2, HRU, HRN, HNI⟩ := hrel
        by_cases hlt3 : i < len2 + l.length
        · have h1' : (i : Int) < (len2 : Int) + (l.length : Int) := by omega
          by_cases hlt4 : i < len2
          · obtain ⟨go_, oo, xu, rfl, hxu, yo⟩ := Sl.at1 ((HT.out _ (HA.out.bel.trans (HNI.out.bel.mono HA.out.bel.size))).2.2) hlt4
            rw [List.getElem?_map, Option.map_eq_some_iff] at hxu
            obtain ⟨x, hx, rfl⟩ := hxu
            have h2' : (i : Int) < (len2 : Int) := by omega
            have h3' : (i : Int) - (len2 : Int) < 0 := by omega
            have h4' : (0 : Int) ≤ (i : Int) := by omega
            obtain ⟨kv, hkv, hkN0⟩ := mod_of x l.length hl60
            clear hx
            -- kv : the number, kv ≤ N ; t16 holds it
            by_cases hkN : kv < l.length
            · obtain ⟨f, hf⟩ : ∃ f, l[kv]? = some f := ⟨_, List.getElem?_eq_getElem hkN⟩
              have hA := HA.out.below HNI.out.bel
              obtain ⟨⟨f', ⟨Ax, nx, cx⟩, Ax2, nx2, cx2⟩, hy, rfl⟩ := row_getA hA.map hf
              have hfd := hA.fd _ (List.mem_of_getElem? hy)
              obtain ⟨gx, ox, hAx, hc⟩ := far_at (Sl.of_own hA.own) hy
              have HAX := Lib.hid hAx
              have y0 : wr.cell? ⟨gx, ox + kv * 5, none⟩ = some (.int .i64 f'.src) := hc 0 _ (by omega) rfl
              have y1 := hc 1 _ (by omega) rfl
              have y2 := hc 2 _ (by omega) rfl
              have y3 := hc 3 _ (by omega) rfl
              have y4 := hc 4 _ (by omega) rfl
              have hLl := HRU.out.len_le
              have CT := takeN f' Ax nx cx Ax2 nx2 cx2 HNI.out hfd.rrow hfd.ro.1 hfd.rc hfd.rl (by omega)
              obtain ⟨htk, hr1, -⟩ := HRU.out.take HBU.out (List.mem_of_getElem? hf)
              have hr2 : Run l v now (takeI l.length L f' now) (i + 1 - len2) := (by rw [show i + 1 - len2 = i - len2 by omega]; exact hr1)
              obtain ⟨tk, htk'⟩ : ∃ tk, takeA (l.length : Int) L f' now = tk := ⟨_, rfl⟩
              obtain ⟨L1, hL1⟩ : ∃ L1, takeI (l.length : Int) L f' now = L1 := ⟨_, rfl⟩
              rw [htk', hL1] at CT
              rw [htk'] at htk
              rw [hL1] at hr2
              have HRL1 := Lib.hid (show L1.length ≤ 61 from by have := hr2.len_le; omega)
              have CT := Lib.hid CT
              have HR1 := Lib.hid hr2
              have k0' : (0 : Int) ≤ (kv : Int) := by omega
              have k1' : (kv : Int) < (l.length : Int) := by omega
              subst hAx
              clear hA hy hfd hc hf hr1 hr2 htk' hL1 HAX
              rcases htk with rfl | rfl | rfl
              · go_wp2_with fail
                refine CT.out.mono ?_
                rintro e w5 ⟨rfl, h5⟩
                have HN1 := Lib.hid h5
                clear h5 CT y0 y1 y2 y3 y4
                go_wp2_with fail
                go_loopg [] (L1.length) (fun gk wr => ∃ (L : List Fa) (now : List Int), gk = L.length ∧ L.length ≤ 61 ∧ Hid (Run l v now L (i + 1 - len2)) ∧ Hid (NInv ww wr l.length L now qn))
                case atStart => exact ⟨L1, now, rfl, HRL1.out, HR1, HN1⟩
                case round =>
                  clear HR1 HN1 HRL1
                  obtain ⟨L2, now2, rfl, hL61, HR2, HN2⟩ := hrel
                  cases hr : readyI L2 now2 with
                  | none =>
                    have CR := Lib.hid (readyN_none HN2.out (by omega) hr)
                    have HRN2 := Lib.hid hr
                    clear hr
                    go_wp2_with fail
                    refine CR.out.mono ?_
                    rintro e w6 ⟨rfl, h6⟩
                    have H6 := Lib.hid (h6.below ((Below.refl _ _).alloc (Nat.le_refl _) (.cells #[.int .i64 0, .int .i64 0, .string ⟨#[]⟩, .slice none 0 0, .slice none 0 0] 35)))
                    clear h6 CR
                    go_wp2
                    go_roundw
                    case rel => exact ⟨i + 1, L2, now2, by go_num, by omega, by rw [show i + 1 - len2 = i + 1 - len2 by omega]; exact HR2, HRN2, H6⟩
                    case measure => simp [intOf]; omega
                  | some kk =>
                    obtain ⟨fx, hfx, -, hkk⟩ := readyI_lt hr
                    obtain ⟨hsx, hrx⟩ := HR2.out.ready HBU.out hr hfx
                    have CR := Lib.hid (readyN_some HN2.out (by omega) hr hfx)
                    have HRX := Lib.hid hrx
                    have hel : (L2.eraseIdx kk).length = L2.length - 1 := List.length_eraseIdx_of_lt hkk
                    have hel2 : (L2.eraseIdx kk).length < L2.length := by omega
                    obtain ⟨hsx1, hsx2⟩ := hsx
                    clear hr hfx hrx
                    go_wp2_with fail
                    refine CR.out.mono ?_
                    rintro e w6 ⟨B1, m1, d1, B2, m2, d2, rfl, hsv, hrf, h6⟩
                    obtain ⟨bq, oq, Ap, np, cp, rfl, rfl, e0, e1, -, -⟩ := ver_at hsv (rightF_rec hrf).2
                    have b7 : Below w6.heap.size w6 (w6.alloc (.cells #[.int .i64 fx.src, .int .i64 fx.seq, .string fx.rc.key, .slice (some ⟨bq, oq, none⟩) 1 d1, .slice B2 m2 d2] 35)) := (Below.refl _ _).alloc (Nat.le_refl _) _
                    have u0 := cell_up e0 b7
                    have u1 := cell_up e1 b7
                    have h7 := h6.below b7
                    have b8 : Below (w6.alloc (.cells #[.int .i64 fx.src, .int .i64 fx.seq, .string fx.rc.key, .slice (some ⟨bq, oq, none⟩) 1 d1, .slice B2 m2 d2] 35)).heap.size (w6.alloc (.cells #[.int .i64 fx.src, .int .i64 fx.seq, .string fx.rc.key, .slice (some ⟨bq, oq, none⟩) 1 d1, .slice B2 m2 d2] 35)) ((w6.alloc (.cells #[.int .i64 fx.src, .int .i64 fx.seq, .string fx.rc.key, .slice (some ⟨bq, oq, none⟩) 1 d1, .slice B2 m2 d2] 35)).alloc (.cells #[.int .i64 fx.ver.s, .int .i64 fx.ver.n] 39)) := (Below.refl _ _).alloc (Nat.le_refl _) _
                    have h8 := h7.below b8
                    obtain ⟨n0, n1, n2, -, kn⟩ := h8.cnt
                    have yn := cnt_cell kn (show fx.ver.s.toNat - 1 < 3 by omega)
                    have fn := frozen_of_row _ qn (fx.ver.s.toNat - 1) _ _ kn
                    have H9 := Lib.hid (h8.put (j := fx.ver.s.toNat - 1) (by omega) fx.ver.n)
                    have hs1x : fx.ver.s - 1 < 3 := by omega
                    have hs0x : 0 ≤ fx.ver.s - 1 := by omega
                    have i50 : (0 : Int) < ((1 : Nat) : Int) := by decide
                    clear hsv hrf e0 e1 b7 h7 b8 h8 h6 kn CR
                    go_wp2
                    go_roundg (L2.eraseIdx kk).length
                    case measure => omega
                    case rel => exact ⟨L2.eraseIdx kk, _, rfl, by omega, HRX, H9⟩
              · go_wp2_with fail
                refine CT.out.mono ?_
                rintro e w5 ⟨rfl, h5⟩
                have HN1 := Lib.hid h5
                clear h5 CT y0 y1 y2 y3 y4
                go_wp2_with fail
                go_loopg [] (L1.length) (fun gk wr => ∃ (L : List Fa) (now : List Int), gk = L.length ∧ L.length ≤ 61 ∧ Hid (Run l v now L (i + 1 - len2)) ∧ Hid (NInv ww wr l.length L now qn))
                case atStart => exact ⟨L1, now, rfl, HRL1.out, HR1, HN1⟩
                case round =>
                  clear HR1 HN1 HRL1
                  obtain ⟨L2, now2, rfl, hL61, HR2, HN2⟩ := hrel
                  cases hr : readyI L2 now2 with
                  | none =>
                    have CR := Lib.hid (readyN_none HN2.out (by omega) hr)
                    have HRN2 := Lib.hid hr
                    clear hr
                    go_wp2_with fail
                    refine CR.out.mono ?_
                    rintro e w6 ⟨rfl, h6⟩
                    have H6 := Lib.hid (h6.below ((Below.refl _ _).alloc (Nat.le_refl _) (.cells #[.int .i64 0, .int .i64 0, .string ⟨#[]⟩, .slice none 0 0, .slice none 0 0] 35)))
                    clear h6 CR
                    go_wp2
                    go_roundw
                    case rel => exact ⟨i + 1, L2, now2, by go_num, by omega, by rw [show i + 1 - len2 = i + 1 - len2 by omega]; exact HR2, HRN2, H6⟩
                    case measure => simp [intOf]; omega
                  | some kk =>
                    obtain ⟨fx, hfx, -, hkk⟩ := readyI_lt hr
                    obtain ⟨hsx, hrx⟩ := HR2.out.ready HBU.out hr hfx
                    have CR := Lib.hid (readyN_some HN2.out (by omega) hr hfx)
                    have HRX := Lib.hid hrx
                    have hel : (L2.eraseIdx kk).length = L2.length - 1 := List.length_eraseIdx_of_lt hkk
                    have hel2 : (L2.eraseIdx kk).length < L2.length := by omega
                    obtain ⟨hsx1, hsx2⟩ := hsx
                    clear hr hfx hrx
                    go_wp2_with fail
                    refine CR.out.mono ?_
                    rintro e w6 ⟨B1, m1, d1, B2, m2, d2, rfl, hsv, hrf, h6⟩
                    obtain ⟨bq, oq, Ap, np, cp, rfl, rfl, e0, e1, -, -⟩ := ver_at hsv (rightF_rec hrf).2
                    have b7 : Below w6.heap.size w6 (w6.alloc (.cells #[.int .i64 fx.src, .int .i64 fx.seq, .string fx.rc.key, .slice (some ⟨bq, oq, none⟩) 1 d1, .slice B2 m2 d2] 35)) := (Below.refl _ _).alloc (Nat.le_refl _) _
                    have u0 := cell_up e0 b7
                    have u1 := cell_up e1 b7
                    have h7 := h6.below b7
                    have b8 : Below (w6.alloc (.cells #[.int .i64 fx.src, .int .i64 fx.seq, .string fx.rc.key, .slice (some ⟨bq, oq, none⟩) 1 d1, .slice B2 m2 d2] 35)).heap.size (w6.alloc (.cells #[.int .i64 fx.src, .int .i64 fx.seq, .string fx.rc.key, .slice (some ⟨bq, oq, none⟩) 1 d1, .slice B2 m2 d2] 35)) ((w6.alloc (.cells #[.int .i64 fx.src, .int .i64 fx.seq, .string fx.rc.key, .slice (some ⟨bq, oq, none⟩) 1 d1, .slice B2 m2 d2] 35)).alloc (.cells #[.int .i64 fx.ver.s, .int .i64 fx.ver.n] 39)) := (Below.refl _ _).alloc (Nat.le_refl _) _
                    have h8 := h7.below b8
                    obtain ⟨n0, n1, n2, -, kn⟩ := h8.cnt
                    have yn := cnt_cell kn (show fx.ver.s.toNat - 1 < 3 by omega)
                    have fn := frozen_of_row _ qn (fx.ver.s.toNat - 1) _ _ kn
                    have H9 := Lib.hid (h8.put (j := fx.ver.s.toNat - 1) (by omega) fx.ver.n)
                    have hs1x : fx.ver.s - 1 < 3 := by omega
                    have hs0x : 0 ≤ fx.ver.s - 1 := by omega
                    have i50 : (0 : Int) < ((1 : Nat) : Int) := by decide
                    clear hsv hrf e0 e1 b7 h7 b8 h8 h6 kn CR
                    go_wp2
                    go_roundg (L2.eraseIdx kk).length
                    case measure => omega
                    case rel => exact ⟨L2.eraseIdx kk, _, rfl, by omega, HRX, H9⟩
              · go_wp2_with fail
                refine CT.out.mono ?_
                rintro e w5 ⟨rfl, h5⟩
                have HN1 := Lib.hid h5
                clear h5 CT y0 y1 y2 y3 y4
                go_wp2_with fail
                go_loopg [] (L1.length) (fun gk wr => ∃ (L : List Fa) (now : List Int), gk = L.length ∧ L.length ≤ 61 ∧ Hid (Run l v now L (i + 1 - len2)) ∧ Hid (NInv ww wr l.length L now qn))
                case atStart => exact ⟨L1, now, rfl, HRL1.out, HR1, HN1⟩
                case round =>
                  clear HR1 HN1 HRL1
                  obtain ⟨L2, now2, rfl, hL61, HR2, HN2⟩ := hrel
                  cases hr : readyI L2 now2 with
                  | none =>
                    have CR := Lib.hid (readyN_none HN2.out (by omega) hr)
                    have HRN2 := Lib.hid hr
                    clear hr
                    go_wp2_with fail
                    refine CR.out.mono ?_
                    rintro e w6 ⟨rfl, h6⟩
                    have H6 := Lib.hid (h6.below ((Below.refl _ _).alloc (Nat.le_refl _) (.cells #[.int .i64 0, .int .i64 0, .string ⟨#[]⟩, .slice none 0 0, .slice none 0 0] 35)))
                    clear h6 CR
                    go_wp2
                    go_roundw
                    case rel => exact ⟨i + 1, L2, now2, by go_num, by omega, by rw [show i + 1 - len2 = i + 1 - len2 by omega]; exact HR2, HRN2, H6⟩
                    case measure => simp [intOf]; omega
                  | some kk =>
                    obtain ⟨fx, hfx, -, hkk⟩ := readyI_lt hr
                    obtain ⟨hsx, hrx⟩ := HR2.out.ready HBU.out hr hfx
                    have CR := Lib.hid (readyN_some HN2.out (by omega) hr hfx)
                    have HRX := Lib.hid hrx
                    have hel : (L2.eraseIdx kk).length = L2.length - 1 := List.length_eraseIdx_of_lt hkk
                    have hel2 : (L2.eraseIdx kk).length < L2.length := by omega
                    obtain ⟨hsx1, hsx2⟩ := hsx
                    clear hr hfx hrx
                    go_wp2_with fail
                    refine CR.out.mono ?_
                    rintro e w6 ⟨B1, m1, d1, B2, m2, d2, rfl, hsv, hrf, h6⟩
                    obtain ⟨bq, oq, Ap, np, cp, rfl, rfl, e0, e1, -, -⟩ := ver_at hsv (rightF_rec hrf).2
                    have b7 : Below w6.heap.size w6 (w6.alloc (.cells #[.int .i64 fx.src, .int .i64 fx.seq, .string fx.rc.key, .slice (some ⟨bq, oq, none⟩) 1 d1, .slice B2 m2 d2] 35)) := (Below.refl _ _).alloc (Nat.le_refl _) _
                    have u0 := cell_up e0 b7
                    have u1 := cell_up e1 b7
                    have h7 := h6.below b7
                    have b8 : Below (w6.alloc (.cells #[.int .i64 fx.src, .int .i64 fx.seq, .string fx.rc.key, .slice (some ⟨bq, oq, none⟩) 1 d1, .slice B2 m2 d2] 35)).heap.size (w6.alloc (.cells #[.int .i64 fx.src, .int .i64 fx.seq, .string fx.rc.key, .slice (some ⟨bq, oq, none⟩) 1 d1, .slice B2 m2 d2] 35)) ((w6.alloc (.cells #[.int .i64 fx.src, .int .i64 fx.seq, .string fx.rc.key, .slice (some ⟨bq, oq, none⟩) 1 d1, .slice B2 m2 d2] 35)).alloc (.cells #[.int .i64 fx.ver.s, .int .i64 fx.ver.n] 39)) := (Below.refl _ _).alloc (Nat.le_refl _) _
                    have h8 := h7.below b8
                    obtain ⟨n0, n1, n2, -, kn⟩ := h8.cnt
                    have yn := cnt_cell kn (show fx.ver.s.toNat - 1 < 3 by omega)
                    have fn := frozen_of_row _ qn (fx.ver.s.toNat - 1) _ _ kn
                    have H9 := Lib.hid (h8.put (j := fx.ver.s.toNat - 1) (by omega) fx.ver.n)
                    have hs1x : fx.ver.s - 1 < 3 := by omega
                    have hs0x : 0 ≤ fx.ver.s - 1 := by omega
                    have i50 : (0 : Int) < ((1 : Nat) : Int) := by decide
                    clear hsv hrf e0 e1 b7 h7 b8 h8 h6 kn CR
                    go_wp2
                    go_roundg (L2.eraseIdx kk).length
                    case measure => omega
                    case rel => exact ⟨L2.eraseIdx kk, _, rfl, by omega, HRX, H9⟩
            · have k0' : (0 : Int) ≤ (kv : Int) := by omega
              have k1' : ¬ (kv : Int) < (l.length : Int) := by omega
              have hr2 : Run l v now L (i + 1 - len2) := by rw [show i + 1 - len2 = i - len2 by omega]; exact HRU.out
              have HR1 := Lib.hid hr2
              have HN1 := HNI
              have HRL1 := Lib.hid (show L.length ≤ 61 from by have := hr2.len_le; omega)
              obtain ⟨L1, rfl⟩ : ∃ L1, L1 = L := ⟨_, rfl⟩
              clear hr2
              go_wp2_with fail
              go_loopg [] (L1.length) (fun gk wr => ∃ (L : List Fa) (now : List Int), gk = L.length ∧ L.length ≤ 61 ∧ Hid (Run l v now L (i + 1 - len2)) ∧ Hid (NInv ww wr l.length L now qn))
              case atStart => exact ⟨L1, now, rfl, HRL1.out, HR1, HN1⟩
              case round =>
                clear HR1 HN1 HRL1
                obtain ⟨L2, now2, rfl, hL61, HR2, HN2⟩ := hrel
                cases hr : readyI L2 now2 with
                | none =>
                  have CR := Lib.hid (readyN_none HN2.out (by omega) hr)
                  have HRN2 := Lib.hid hr
                  clear hr
                  go_wp2_with fail
                  refine CR.out.mono ?_
                  rintro e w6 ⟨rfl, h6⟩
                  have H6 := Lib.hid (h6.below ((Below.refl _ _).alloc (Nat.le_refl _) (.cells #[.int .i64 0, .int .i64 0, .string ⟨#[]⟩, .slice none 0 0, .slice none 0 0] 35)))
                  clear h6 CR
                  go_wp2
                  go_roundw
                  case rel => exact ⟨i + 1, L2, now2, by go_num, by omega, by rw [show i + 1 - len2 = i + 1 - len2 by omega]; exact HR2, HRN2, H6⟩
                  case measure => simp [intOf]; omega
                | some kk =>
                  obtain ⟨fx, hfx, -, hkk⟩ := readyI_lt hr
                  obtain ⟨hsx, hrx⟩ := HR2.out.ready HBU.out hr hfx
                  have CR := Lib.hid (readyN_some HN2.out (by omega) hr hfx)
                  have HRX := Lib.hid hrx
                  have hel : (L2.eraseIdx kk).length = L2.length - 1 := List.length_eraseIdx_of_lt hkk
                  have hel2 : (L2.eraseIdx kk).length < L2.length := by omega
                  obtain ⟨hsx1, hsx2⟩ := hsx
                  clear hr hfx hrx
                  go_wp2_with fail
                  refine CR.out.mono ?_
                  rintro e w6 ⟨B1, m1, d1, B2, m2, d2, rfl, hsv, hrf, h6⟩
                  obtain ⟨bq, oq, Ap, np, cp, rfl, rfl, e0, e1, -, -⟩ := ver_at hsv (rightF_rec hrf).2
                  have b7 : Below w6.heap.size w6 (w6.alloc (.cells #[.int .i64 fx.src, .int .i64 fx.seq, .string fx.rc.key, .slice (some ⟨bq, oq, none⟩) 1 d1, .slice B2 m2 d2] 35)) := (Below.refl _ _).alloc (Nat.le_refl _) _
                  have u0 := cell_up e0 b7
                  have u1 := cell_up e1 b7
                  have h7 := h6.below b7
                  have b8 : Below (w6.alloc (.cells #[.int .i64 fx.src, .int .i64 fx.seq, .string fx.rc.key, .slice (some ⟨bq, oq, none⟩) 1 d1, .slice B2 m2 d2] 35)).heap.size (w6.alloc (.cells #[.int .i64 fx.src, .int .i64 fx.seq, .string fx.rc.key, .slice (some ⟨bq, oq, none⟩) 1 d1, .slice B2 m2 d2] 35)) ((w6.alloc (.cells #[.int .i64 fx.src, .int .i64 fx.seq, .string fx.rc.key, .slice (some ⟨bq, oq, none⟩) 1 d1, .slice B2 m2 d2] 35)).alloc (.cells #[.int .i64 fx.ver.s, .int .i64 fx.ver.n] 39)) := (Below.refl _ _).alloc (Nat.le_refl _) _
                  have h8 := h7.below b8
                  obtain ⟨n0, n1, n2, -, kn⟩ := h8.cnt
                  have yn := cnt_cell kn (show fx.ver.s.toNat - 1 < 3 by omega)
                  have fn := frozen_of_row _ qn (fx.ver.s.toNat - 1) _ _ kn
                  have H9 := Lib.hid (h8.put (j := fx.ver.s.toNat - 1) (by omega) fx.ver.n)
                  have hs1x : fx.ver.s - 1 < 3 := by omega
                  have hs0x : 0 ≤ fx.ver.s - 1 := by omega
                  have i50 : (0 : Int) < ((1 : Nat) : Int) := by decide
                  clear hsv hrf e0 e1 b7 h7 b8 h8 h6 kn CR
                  go_wp2
                  go_roundg (L2.eraseIdx kk).length
                  case measure => omega
                  case rel => exact ⟨L2.eraseIdx kk, _, rfl, by omega, HRX, H9⟩
          · obtain ⟨kv, hki⟩ : ∃ kv, i = len2 + kv := ⟨i - len2, by omega⟩
            have hkv : (i : Int) - (len2 : Int) = (kv : Int) := by omega
            have hkN0 : kv < l.length := by omega
            have hkN : kv < l.length := hkN0
            have h2' : ¬ (i : Int) < (len2 : Int) := by omega
            have HFK := Lib.hid (show kv = i - len2 by omega)
            clear hki
            obtain ⟨f, hf⟩ : ∃ f, l[kv]? = some f := ⟨_, List.getElem?_eq_getElem hkN⟩
            have hA := HA.out.below HNI.out.bel
            obtain ⟨⟨f', ⟨Ax, nx, cx⟩, Ax2, nx2, cx2⟩, hy, rfl⟩ := row_getA hA.map hf
            have hfd := hA.fd _ (List.mem_of_getElem? hy)
            obtain ⟨gx, ox, hAx, hc⟩ := far_at (Sl.of_own hA.own) hy
            have HAX := Lib.hid hAx
            have y0 : wr.cell? ⟨gx, ox + kv * 5, none⟩ = some (.int .i64 f'.src) := hc 0 _ (by omega) rfl
            have y1 := hc 1 _ (by omega) rfl
            have y2 := hc 2 _ (by omega) rfl
            have y3 := hc 3 _ (by omega) rfl
            have y4 := hc 4 _ (by omega) rfl
            have hLl := HRU.out.len_le
            have CT := takeN f' Ax nx cx Ax2 nx2 cx2 HNI.out hfd.rrow hfd.ro.1 hfd.rc hfd.rl (by omega)
            obtain ⟨htk, hr1, -⟩ := HRU.out.take HBU.out (List.mem_of_getElem? hf)
            have hr2 : Run l v now (takeI l.length L f' now) (i + 1 - len2) := (by rw [show i + 1 - len2 = (i - len2) + 1 by omega]; exact HRU.out.offer HBU.out (by rw [← HFK.out]; exact hf))
            obtain ⟨tk, htk'⟩ : ∃ tk, takeA (l.length : Int) L f' now = tk := ⟨_, rfl⟩
            obtain ⟨L1, hL1⟩ : ∃ L1, takeI (l.length : Int) L f' now = L1 := ⟨_, rfl⟩
            rw [htk', hL1] at CT
            rw [htk'] at htk
            rw [hL1] at hr2
            have HRL1 := Lib.hid (show L1.length ≤ 61 from by have := hr2.len_le; omega)
            have CT := Lib.hid CT
            have HR1 := Lib.hid hr2
            have k0' : (0 : Int) ≤ (kv : Int) := by omega
            have k1' : (kv : Int) < (l.length : Int) := by omega
            subst hAx
            clear hA hy hfd hc hf hr1 hr2 htk' hL1 HAX
            rcases htk with rfl | rfl | rfl
            · go_wp2_with fail
              refine CT.out.mono ?_
              rintro e w5 ⟨rfl, h5⟩
              have HN1 := Lib.hid h5
              clear h5 CT y0 y1 y2 y3 y4
              go_wp2_with fail
              go_loopg [] (L1.length) (fun gk wr => ∃ (L : List Fa) (now : List Int), gk = L.length ∧ L.length ≤ 61 ∧ Hid (Run l v now L (i + 1 - len2)) ∧ Hid (NInv ww wr l.length L now qn))
              case atStart => exact ⟨L1, now, rfl, HRL1.out, HR1, HN1⟩
              case round =>
                clear HR1 HN1 HRL1
                obtain ⟨L2, now2, rfl, hL61, HR2, HN2⟩ := hrel
                cases hr : readyI L2 now2 with
                | none =>
                  have CR := Lib.hid (readyN_none HN2.out (by omega) hr)
                  have HRN2 := Lib.hid hr
                  clear hr
                  go_wp2_with fail
                  refine CR.out.mono ?_
                  rintro e w6 ⟨rfl, h6⟩
                  have H6 := Lib.hid (h6.below ((Below.refl _ _).alloc (Nat.le_refl _) (.cells #[.int .i64 0, .int .i64 0, .string ⟨#[]⟩, .slice none 0 0, .slice none 0 0] 35)))
                  clear h6 CR
                  go_wp2
                  go_roundw
                  case rel => exact ⟨i + 1, L2, now2, by go_num, by omega, by rw [show i + 1 - len2 = i + 1 - len2 by omega]; exact HR2, HRN2, H6⟩
                  case measure => simp [intOf]; omega
                | some kk =>
                  obtain ⟨fx, hfx, -, hkk⟩ := readyI_lt hr
                  obtain ⟨hsx, hrx⟩ := HR2.out.ready HBU.out hr hfx
                  have CR := Lib.hid (readyN_some HN2.out (by omega) hr hfx)
                  have HRX := Lib.hid hrx
                  have hel : (L2.eraseIdx kk).length = L2.length - 1 := List.length_eraseIdx_of_lt hkk
                  have hel2 : (L2.eraseIdx kk).length < L2.length := by omega
                  obtain ⟨hsx1, hsx2⟩ := hsx
                  clear hr hfx hrx
                  go_wp2_with fail
                  refine CR.out.mono ?_
                  rintro e w6 ⟨B1, m1, d1, B2, m2, d2, rfl, hsv, hrf, h6⟩
                  obtain ⟨bq, oq, Ap, np, cp, rfl, rfl, e0, e1, -, -⟩ := ver_at hsv (rightF_rec hrf).2
                  have b7 : Below w6.heap.size w6 (w6.alloc (.cells #[.int .i64 fx.src, .int .i64 fx.seq, .string fx.rc.key, .slice (some ⟨bq, oq, none⟩) 1 d1, .slice B2 m2 d2] 35)) := (Below.refl _ _).alloc (Nat.le_refl _) _
                  have u0 := cell_up e0 b7
                  have u1 := cell_up e1 b7
                  have h7 := h6.below b7
                  have b8 : Below (w6.alloc (.cells #[.int .i64 fx.src, .int .i64 fx.seq, .string fx.rc.key, .slice (some ⟨bq, oq, none⟩) 1 d1, .slice B2 m2 d2] 35)).heap.size (w6.alloc (.cells #[.int .i64 fx.src, .int .i64 fx.seq, .string fx.rc.key, .slice (some ⟨bq, oq, none⟩) 1 d1, .slice B2 m2 d2] 35)) ((w6.alloc (.cells #[.int .i64 fx.src, .int .i64 fx.seq, .string fx.rc.key, .slice (some ⟨bq, oq, none⟩) 1 d1, .slice B2 m2 d2] 35)).alloc (.cells #[.int .i64 fx.ver.s, .int .i64 fx.ver.n] 39)) := (Below.refl _ _).alloc (Nat.le_refl _) _
                  have h8 := h7.below b8
                  obtain ⟨n0, n1, n2, -, kn⟩ := h8.cnt
                  have yn := cnt_cell kn (show fx.ver.s.toNat - 1 < 3 by omega)
                  have fn := frozen_of_row _ qn (fx.ver.s.toNat - 1) _ _ kn
                  have H9 := Lib.hid (h8.put (j := fx.ver.s.toNat - 1) (by omega) fx.ver.n)
                  have hs1x : fx.ver.s - 1 < 3 := by omega
                  have hs0x : 0 ≤ fx.ver.s - 1 := by omega
                  have i50 : (0 : Int) < ((1 : Nat) : Int) := by decide
                  clear hsv hrf e0 e1 b7 h7 b8 h8 h6 kn CR
                  go_wp2
                  go_roundg (L2.eraseIdx kk).length
                  case measure => omega
                  case rel => exact ⟨L2.eraseIdx kk, _, rfl, by omega, HRX, H9⟩
            · go_wp2_with fail
              refine CT.out.mono ?_
              rintro e w5 ⟨rfl, h5⟩
              have HN1 := Lib.hid h5
              clear h5 CT y0 y1 y2 y3 y4
              go_wp2_with fail
              go_loopg [] (L1.length) (fun gk wr => ∃ (L : List Fa) (now : List Int), gk = L.length ∧ L.length ≤ 61 ∧ Hid (Run l v now L (i + 1 - len2)) ∧ Hid (NInv ww wr l.length L now qn))
              case atStart => exact ⟨L1, now, rfl, HRL1.out, HR1, HN1⟩
              case round =>
                clear HR1 HN1 HRL1
                obtain ⟨L2, now2, rfl, hL61, HR2, HN2⟩ := hrel
                cases hr : readyI L2 now2 with
                | none =>
                  have CR := Lib.hid (readyN_none HN2.out (by omega) hr)
                  have HRN2 := Lib.hid hr
                  clear hr
                  go_wp2_with fail
                  refine CR.out.mono ?_
                  rintro e w6 ⟨rfl, h6⟩
                  have H6 := Lib.hid (h6.below ((Below.refl _ _).alloc (Nat.le_refl _) (.cells #[.int .i64 0, .int .i64 0, .string ⟨#[]⟩, .slice none 0 0, .slice none 0 0] 35)))
                  clear h6 CR
                  go_wp2
                  go_roundw
                  case rel => exact ⟨i + 1, L2, now2, by go_num, by omega, by rw [show i + 1 - len2 = i + 1 - len2 by omega]; exact HR2, HRN2, H6⟩
                  case measure => simp [intOf]; omega
                | some kk =>
                  obtain ⟨fx, hfx, -, hkk⟩ := readyI_lt hr
                  obtain ⟨hsx, hrx⟩ := HR2.out.ready HBU.out hr hfx
                  have CR := Lib.hid (readyN_some HN2.out (by omega) hr hfx)
                  have HRX := Lib.hid hrx
                  have hel : (L2.eraseIdx kk).length = L2.length - 1 := List.length_eraseIdx_of_lt hkk
                  have hel2 : (L2.eraseIdx kk).length < L2.length := by omega
                  obtain ⟨hsx1, hsx2⟩ := hsx
                  clear hr hfx hrx
                  go_wp2_with fail
                  refine CR.out.mono ?_
                  rintro e w6 ⟨B1, m1, d1, B2, m2, d2, rfl, hsv, hrf, h6⟩
                  obtain ⟨bq, oq, Ap, np, cp, rfl, rfl, e0, e1, -, -⟩ := ver_at hsv (rightF_rec hrf).2
                  have b7 : Below w6.heap.size w6 (w6.alloc (.cells #[.int .i64 fx.src, .int .i64 fx.seq, .string fx.rc.key, .slice (some ⟨bq, oq, none⟩) 1 d1, .slice B2 m2 d2] 35)) := (Below.refl _ _).alloc (Nat.le_refl _) _
                  have u0 := cell_up e0 b7
                  have u1 := cell_up e1 b7
                  have h7 := h6.below b7
                  have b8 : Below (w6.alloc (.cells #[.int .i64 fx.src, .int .i64 fx.seq, .string fx.rc.key, .slice (some ⟨bq, oq, none⟩) 1 d1, .slice B2 m2 d2] 35)).heap.size (w6.alloc (.cells #[.int .i64 fx.src, .int .i64 fx.seq, .string fx.rc.key, .slice (some ⟨bq, oq, none⟩) 1 d1, .slice B2 m2 d2] 35)) ((w6.alloc (.cells #[.int .i64 fx.src, .int .i64 fx.seq, .string fx.rc.key, .slice (some ⟨bq, oq, none⟩) 1 d1, .slice B2 m2 d2] 35)).alloc (.cells #[.int .i64 fx.ver.s, .int .i64 fx.ver.n] 39)) := (Below.refl _ _).alloc (Nat.le_refl _) _
                  have h8 := h7.below b8
                  obtain ⟨n0, n1, n2, -, kn⟩ := h8.cnt
                  have yn := cnt_cell kn (show fx.ver.s.toNat - 1 < 3 by omega)
                  have fn := frozen_of_row _ qn (fx.ver.s.toNat - 1) _ _ kn
                  have H9 := Lib.hid (h8.put (j := fx.ver.s.toNat - 1) (by omega) fx.ver.n)
                  have hs1x : fx.ver.s - 1 < 3 := by omega
                  have hs0x : 0 ≤ fx.ver.s - 1 := by omega
                  have i50 : (0 : Int) < ((1 : Nat) : Int) := by decide
                  clear hsv hrf e0 e1 b7 h7 b8 h8 h6 kn CR
                  go_wp2
                  go_roundg (L2.eraseIdx kk).length
                  case measure => omega
                  case rel => exact ⟨L2.eraseIdx kk, _, rfl, by omega, HRX, H9⟩
            · go_wp2_with fail
              refine CT.out.mono ?_
              rintro e w5 ⟨rfl, h5⟩
              have HN1 := Lib.hid h5
              clear h5 CT y0 y1 y2 y3 y4
              go_wp2_with fail
              go_loopg [] (L1.length) (fun gk wr => ∃ (L : List Fa) (now : List Int), gk = L.length ∧ L.length ≤ 61 ∧ Hid (Run l v now L (i + 1 - len2)) ∧ Hid (NInv ww wr l.length L now qn))
              case atStart => exact ⟨L1, now, rfl, HRL1.out, HR1, HN1⟩
              case round =>
                clear HR1 HN1 HRL1
                obtain ⟨L2, now2, rfl, hL61, HR2, HN2⟩ := hrel
                cases hr : readyI L2 now2 with
                | none =>
                  have CR := Lib.hid (readyN_none HN2.out (by omega) hr)
                  have HRN2 := Lib.hid hr
                  clear hr
                  go_wp2_with fail
                  refine CR.out.mono ?_
                  rintro e w6 ⟨rfl, h6⟩
                  have H6 := Lib.hid (h6.below ((Below.refl _ _).alloc (Nat.le_refl _) (.cells #[.int .i64 0, .int .i64 0, .string ⟨#[]⟩, .slice none 0 0, .slice none 0 0] 35)))
                  clear h6 CR
                  go_wp2
                  go_roundw
                  case rel => exact ⟨i + 1, L2, now2, by go_num, by omega, by rw [show i + 1 - len2 = i + 1 - len2 by omega]; exact HR2, HRN2, H6⟩
                  case measure => simp [intOf]; omega
                | some kk =>
                  obtain ⟨fx, hfx, -, hkk⟩ := readyI_lt hr
                  obtain ⟨hsx, hrx⟩ := HR2.out.ready HBU.out hr hfx
                  have CR := Lib.hid (readyN_some HN2.out (by omega) hr hfx)
                  have HRX := Lib.hid hrx
                  have hel : (L2.eraseIdx kk).length = L2.length - 1 := List.length_eraseIdx_of_lt hkk
                  have hel2 : (L2.eraseIdx kk).length < L2.length := by omega
                  obtain ⟨hsx1, hsx2⟩ := hsx
                  clear hr hfx hrx
                  go_wp2_with fail
                  refine CR.out.mono ?_
                  rintro e w6 ⟨B1, m1, d1, B2, m2, d2, rfl, hsv, hrf, h6⟩
                  obtain ⟨bq, oq, Ap, np, cp, rfl, rfl, e0, e1, -, -⟩ := ver_at hsv (rightF_rec hrf).2
                  have b7 : Below w6.heap.size w6 (w6.alloc (.cells #[.int .i64 fx.src, .int .i64 fx.seq, .string fx.rc.key, .slice (some ⟨bq, oq, none⟩) 1 d1, .slice B2 m2 d2] 35)) := (Below.refl _ _).alloc (Nat.le_refl _) _
                  have u0 := cell_up e0 b7
                  have u1 := cell_up e1 b7
                  have h7 := h6.below b7
                  have b8 : Below (w6.alloc (.cells #[.int .i64 fx.src, .int .i64 fx.seq, .string fx.rc.key, .slice (some ⟨bq, oq, none⟩) 1 d1, .slice B2 m2 d2] 35)).heap.size (w6.alloc (.cells #[.int .i64 fx.src, .int .i64 fx.seq, .string fx.rc.key, .slice (some ⟨bq, oq, none⟩) 1 d1, .slice B2 m2 d2] 35)) ((w6.alloc (.cells #[.int .i64 fx.src, .int .i64 fx.seq, .string fx.rc.key, .slice (some ⟨bq, oq, none⟩) 1 d1, .slice B2 m2 d2] 35)).alloc (.cells #[.int .i64 fx.ver.s, .int .i64 fx.ver.n] 39)) := (Below.refl _ _).alloc (Nat.le_refl _) _
                  have h8 := h7.below b8
                  obtain ⟨n0, n1, n2, -, kn⟩ := h8.cnt
                  have yn := cnt_cell kn (show fx.ver.s.toNat - 1 < 3 by omega)
                  have fn := frozen_of_row _ qn (fx.ver.s.toNat - 1) _ _ kn
                  have H9 := Lib.hid (h8.put (j := fx.ver.s.toNat - 1) (by omega) fx.ver.n)
                  have hs1x : fx.ver.s - 1 < 3 := by omega
                  have hs0x : 0 ≤ fx.ver.s - 1 := by omega
                  have i50 : (0 : Int) < ((1 : Nat) : Int) := by decide
                  clear hsv hrf e0 e1 b7 h7 b8 h8 h6 kn CR
                  go_wp2
                  go_roundg (L2.eraseIdx kk).length
                  case measure => omega
                  case rel => exact ⟨L2.eraseIdx kk, _, rfl, by omega, HRX, H9⟩
        · have hie : i - len2 = l.length := by omega
          obtain ⟨hnv, hL⟩ := Run.done (by have := HRU.out; rw [hie] at this; exact this) HBU.out (by omega) HRN.out
          subst hnv hL
          have h1' : ¬ (i : Int) < (len2 : Int) + (l.length : Int) := by omega
          obtain ⟨q0, q1, q2, hv, kq⟩ := (HA.out.below HNI.out.bel).cnt
          have sv : SlI wr (some ⟨qv, 0, none⟩) 3 now := by rw [hv]; exact sl3 kq
          have CS := sameIv_any (some ⟨qn, 0, none⟩) (some ⟨qv, 0, none⟩) 3 3 3 3 now now wr HNI.out.vec sv (by omega)
          rw [beq_self_eq_true] at CS
          have CS := Lib.hid CS
          clear hv kq sv hie
          go_wp2_with fail
          refine CS.out.mono ?_
          rintro e _ ⟨rfl, kd, rfl⟩
          have hn := HNI.out.below (below_drewN (Below.refl _ wr) kd)
          have HE0 := Lib.hid (HA.out.bel.trans (hn.bel.mono HA.out.bel.size))
          have CW := Lib.hid (waitsN hn (by simp))
          clear hn CS
          go_wp2_with fail
          refine CW.out.mono ?_
          rintro e w9 ⟨A9, n9, c9, rows9, rfl, hw9⟩
          obtain ⟨hn9, -⟩ := hw9.len (Nat.le_refl _)
          obtain rfl : n9 = 0 := hn9
          have HE := Lib.hid (HE0.out.trans (hw9.below.mono HE0.out.size))
          clear hw9 CW
          go_wp2
          go_ret
          exact ⟨rfl, HE.out⟩
end Go.Proofs.Ytilagblpamhmkaa
