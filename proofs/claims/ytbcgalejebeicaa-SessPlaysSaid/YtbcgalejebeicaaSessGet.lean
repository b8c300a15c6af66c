/-
  Sessions: what only reads.
-/
import Derived.Test.YtbcgalejebeicaaSessState
import Derived.Test.YtbcgalejebeicaaClone
namespace Go.Proofs.Ytbcgalejebeicaa
open Go.RowKit
set_option linter.unusedVariables false

theorem blk_cell {w : World} {g j : Nat} {t : TypeId} {cs : Array Value} {v : Value} (h : w.heap[g]? = some (.cells cs t (0, 0))) (hj : cs[j]? = some v) : w.cell? ⟨g, j, none⟩ = some v := by
  rw [cell_of_row w g j cs t (0, 0) h]; exact hj
theorem blk_free {w : World} {g : Nat} {t : TypeId} {cs : Array Value} (h : w.heap[g]? = some (.cells cs t (0, 0))) (j : Nat) : w.frozen? ⟨g, j, none⟩ = false := frozen_of_row w g j cs t h

/-- The session of a number, and its block. -/
theorem SessG.get_ {w : World} {fp : Nat → Prop} {G : SGeo} {sites : Int} {l : List Ses} {m : Nat} (h : SessG w fp G sites l m) {k : Nat} {x : Ses} (hk : 1 ≤ k) (hx : l[k - 1]? = some x) :
    ∃ r c g, G.lv = .slice (some ⟨r, 0, none⟩) l.length c ∧ k ≤ l.length ∧ w.cell? ⟨r, k - 1, none⟩ = some (.pointer (some ⟨g, 0, none⟩)) ∧ G.gs[k - 1]? = some g ∧ SesAt w fp g x := by
  obtain ⟨g, hg, hs⟩ := h.at_ hx
  have hi := (List.getElem?_eq_some_iff.1 hx).1
  have hrow := h.row
  obtain ⟨r, c, hv, _, _⟩ := hrow.form (by rw [h.len]; omega)
  rw [hv] at hrow
  refine ⟨r, c, g, by rw [hv, h.len], by omega, ?_, hg, hs⟩
  rw [hrow.cellAt (k - 1) (by rw [h.len]; omega)]
  simp [ptrsV, hg]
theorem SessG.len_ {w : World} {fp : Nat → Prop} {G : SGeo} {sites : Int} {l : List Ses} {m : Nat} (h : SessG w fp G sites l m) : ∃ A c, G.lv = .slice A l.length c ∧ l.length ≤ maxLen := by
  obtain ⟨A, c, hv, h1, h2⟩ := own_slice h.row
  exact ⟨A, c, by rw [hv, h.len], by rw [← h.len]; omega⟩
theorem getS_cases (l : List Ses) (n : Int) : (getS l n = none ∧ (n < 1 ∨ (l.length : Int) < n)) ∨ ∃ (k : Nat) (x : Ses), n = (k : Int) ∧ 1 ≤ k ∧ k ≤ l.length ∧ l[k - 1]? = some x ∧ getS l n = some x := by
  unfold getS
  split
  · rename_i h
    obtain ⟨k, rfl⟩ := Int.eq_ofNat_of_zero_le (show 0 ≤ n by omega)
    rcases Nat.lt_or_ge l.length k with hl | hl
    · refine .inl ⟨?_, .inr (by omega)⟩
      rw [List.getElem?_eq_none (by omega)]
    · refine .inr ⟨k, l[k - 1], rfl, by omega, hl, List.getElem?_eq_getElem _, ?_⟩
      rw [Int.toNat_natCast]
      exact List.getElem?_eq_getElem _
  · exact .inl ⟨rfl, .inl (by omega)⟩

section
variable {w : World} {fp : Nat → Prop} {G : SGeo} {sites : Int} {l : List Ses} {m : Nat}
set_option maxHeartbeats 1000000 in
theorem get_none (n : Int) (h : SessG w fp G sites l m) (hn : n < 1 ∨ (l.length : Int) < n) :
    Calls Try.prog 23 #[.pointer (some ⟨G.p, 0, none⟩), .int .i64 n] w fun e w' => e = .returned (.pointer none) ∧ w = w' := by
  obtain ⟨A, c, hv, hm⟩ := h.len_
  have c1 := blk_cell (j := 1) h.top rfl
  rw [hv] at c1
  unfold maxLen at hm
  clear h hv
  by_cases h1 : n < 1
  · clear hn
    go_enter Try.func23, Try.ntmps23
    go_wp2
    go_ret
    exact ⟨rfl, rfl⟩
  · have h2 : (l.length : Int) < n := by omega
    clear hn
    go_enter Try.func23, Try.ntmps23
    go_wp2
    go_ret
    exact ⟨rfl, rfl⟩
set_option maxHeartbeats 1000000 in
theorem get_raw (p r k c g ln : Nat) (c1 : w.cell? ⟨p, 1, none⟩ = some (.slice (some ⟨r, 0, none⟩) ln c)) (hc : w.cell? ⟨r, k - 1, none⟩ = some (.pointer (some ⟨g, 0, none⟩))) (hk : 1 ≤ k) (hkl : k ≤ ln) (hm : ln ≤ maxLen) :
    Calls Try.prog 23 #[.pointer (some ⟨p, 0, none⟩), .int .i64 (k : Int)] w fun e w' => e = .returned (.pointer (some ⟨g, 0, none⟩)) ∧ w = w' := by
  unfold maxLen at hm
  go_enter Try.func23, Try.ntmps23
  go_wp2
  go_ret
  exact ⟨rfl, rfl⟩
set_option maxHeartbeats 1000000 in
theorem get_some (k : Nat) (x : Ses) (h : SessG w fp G sites l m) (hk : 1 ≤ k) (hx : l[k - 1]? = some x) :
    ∃ g, G.gs[k - 1]? = some g ∧ SesAt w fp g x ∧
    Calls Try.prog 23 #[.pointer (some ⟨G.p, 0, none⟩), .int .i64 (k : Int)] w fun e w' => e = .returned (.pointer (some ⟨g, 0, none⟩)) ∧ w = w' := by
  obtain ⟨r, c, g, hv, hkl, hc, hg, hs⟩ := h.get_ hk hx
  obtain ⟨_, _, hv', hm⟩ := h.len_
  refine ⟨g, hg, hs, ?_⟩
  have c1 := blk_cell (j := 1) h.top rfl
  rw [hv] at c1
  exact get_raw _ r k c g _ c1 hc hk hkl hm
set_option maxHeartbeats 1000000 in
theorem siteB_yes (n : Int) (h : SessG w fp G sites l m) (h1 : 1 ≤ n) (h2 : n ≤ sites) :
    Calls Try.prog 22 #[.pointer (some ⟨G.p, 0, none⟩), .int .i64 n] w fun e w' => e = .returned (.bool true) ∧ w = w' := by
  have c1 := blk_cell (j := 0) h.top rfl
  have q : decide (n ≤ sites) = true := by simpa using h2
  clear h
  go_enter Try.func22, Try.ntmps22
  go_wp2
  go_ret
  exact ⟨rfl, rfl⟩
set_option maxHeartbeats 1000000 in
theorem siteB_no (n : Int) (h : SessG w fp G sites l m) (h1 : ¬ (1 ≤ n ∧ n ≤ sites)) :
    Calls Try.prog 22 #[.pointer (some ⟨G.p, 0, none⟩), .int .i64 n] w fun e w' => e = .returned (.bool false) ∧ w = w' := by
  have c1 := blk_cell (j := 0) h.top rfl
  clear h
  by_cases h2 : 1 ≤ n
  · have q : decide (n ≤ sites) = false := by simp; omega
    clear h1
    go_enter Try.func22, Try.ntmps22
    go_wp2
    go_ret
    exact ⟨rfl, rfl⟩
  · clear h1
    go_enter Try.func22, Try.ntmps22
    go_wp2
    go_ret
    exact ⟨rfl, rfl⟩
theorem len_any (h : SessG w fp G sites l m) :
    Calls Try.prog 21 #[.pointer (some ⟨G.p, 0, none⟩)] w fun e w' => e = .returned (.int .i64 (l.length : Int)) ∧ w = w' := by
  obtain ⟨A, c, hv, hm⟩ := h.len_
  have c1 := blk_cell (j := 1) h.top rfl
  rw [hv] at c1
  clear h hv
  go_enter Try.func21, Try.ntmps21
  go_wp2
  go_ret
  exact ⟨rfl, rfl⟩
def siteS (l : List Ses) (n : Int) : Int := match getS l n with | none => 0 | some x => x.site
def tokS (l : List Ses) (n : Int) : List UInt8 := match getS l n with | none => [] | some x => x.tok
set_option maxHeartbeats 1000000 in
theorem site_any (n : Int) (h : SessG w fp G sites l m) :
    Calls Try.prog 13 #[.pointer (some ⟨G.p, 0, none⟩), .int .i64 n] w fun e w' => e = .returned (.int .i64 (siteS l n)) ∧ w = w' := by
  rcases getS_cases l n with ⟨hs, hn⟩ | ⟨k, x, rfl, hk, hkl, hx, hs⟩
  · have C := Lib.hid (get_none n h hn)
    have E : siteS l n = 0 := by unfold siteS; rw [hs]
    rw [E]
    clear h hn hs E
    go_enter Try.func13, Try.ntmps13
    go_wp2_with fail
    refine C.out.mono ?_
    rintro e w' ⟨rfl, rfl⟩
    go_wp2
    go_ret
    exact ⟨rfl, rfl⟩
  · have E : siteS l (k : Int) = x.site := by unfold siteS; rw [hs]
    rw [E]
    obtain ⟨g, _, ⟨A, n, c, _, hb, _⟩, C0⟩ := get_some k x h hk hx
    have C := Lib.hid C0
    have c0 := blk_cell (j := 0) hb rfl
    clear h hk hkl hx hs E C0 hb
    go_enter Try.func13, Try.ntmps13
    go_wp2_with fail
    refine C.out.mono ?_
    rintro e w' ⟨rfl, rfl⟩
    go_wp2
    go_ret
    exact ⟨rfl, rfl⟩
set_option maxHeartbeats 1000000 in
theorem token_any (n : Int) (h : SessG w fp G sites l m) :
    Calls Try.prog 11 #[.pointer (some ⟨G.p, 0, none⟩), .int .i64 n] w (NewB w (tokS l n)) := by
  rcases getS_cases l n with ⟨hs, hn⟩ | ⟨k, x, rfl, hk, hkl, hx, hs⟩
  · have C := Lib.hid (get_none n h hn)
    have E : tokS l n = [] := by unfold tokS; rw [hs]
    rw [E]
    clear h hn hs E
    go_enter Try.func11, Try.ntmps11
    go_wp2_with fail
    refine C.out.mono ?_
    rintro e w' ⟨rfl, rfl⟩
    go_wp2
    go_ret
    exact ⟨none, 0, 0, rfl, Sl.nil _ _ _, Nat.le_refl _, World.ownsRow_nil _ _ _ _, Below.refl _ _⟩
  · have E : tokS l (k : Int) = x.tok := by unfold tokS; rw [hs]
    rw [E]
    obtain ⟨g, _, ⟨A, n, c, _, hb, ht, htl, _, hnc⟩, C0⟩ := get_some k x h hk hx
    have hnl : n ≤ 140737488351232 := by have := SlB.len ht.1; rw [tokMax_eq] at htl; omega
    have C := Lib.hid C0
    have C2 := Lib.hid (clone_any A n c x.tok w ht.1 hnc hnl)
    have c0 := blk_cell (j := 1) hb rfl
    clear h hk hkl hx hs E C0 hb ht
    go_enter Try.func11, Try.ntmps11
    go_wp2_with fail
    refine C.out.mono ?_
    rintro e w' ⟨rfl, rfl⟩
    go_wp2_with fail
    refine C2.out.mono ?_
    rintro e w' ⟨A2, n2, c2, rfl, h1, h2, h3, h4⟩
    go_wp2
    go_ret
    exact ⟨A2, n2, c2, rfl, h1, h2, h3, h4⟩
end
end Go.Proofs.Ytbcgalejebeicaa
