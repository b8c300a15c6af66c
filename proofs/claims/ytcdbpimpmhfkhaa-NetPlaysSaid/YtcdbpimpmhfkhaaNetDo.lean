/-
  The network: Lose, Take.
-/
import Derived.Test.YtcdbpimpmhfkhaaNetParted
import Derived.Test.YtcdbpimpmhfkhaaNetDelete
import Derived.Test.YtcdbpimpmhfkhaaNetAtomic
import Derived.Deep.RegionWith
namespace Go.Proofs.Ytcdbpimpmhfkhaa
open Go.RowKit
set_option linter.unusedVariables false

theorem flat_take {α : Type} {f : α → List Value} {sz : Nat} (hf : ∀ x, (f x).length = sz) : ∀ (l : List α) (i : Nat), (l.flatMap f).take (i * sz) = (l.take i).flatMap f
  | [], i => by simp
  | x :: l, 0 => by simp
  | x :: l, i + 1 => by
    rw [List.flatMap_cons, List.take_append, hf, show (i + 1) * sz - sz = i * sz by rw [Nat.add_mul]; omega, flat_take hf l i, List.take_of_length_le (by rw [hf, Nat.add_mul]; omega)]
    rfl
theorem flat_drop {α : Type} {f : α → List Value} {sz : Nat} (hf : ∀ x, (f x).length = sz) : ∀ (l : List α) (i : Nat), (l.flatMap f).drop (i * sz) = (l.drop i).flatMap f
  | [], i => by simp
  | x :: l, 0 => by simp
  | x :: l, i + 1 => by
    rw [List.flatMap_cons, List.drop_append, hf, show (i + 1) * sz - sz = i * sz by rw [Nat.add_mul]; omega, flat_drop hf l i, List.drop_of_length_le (by rw [hf, Nat.add_mul]; omega)]
    rfl
theorem cutAt_rows (rows : List RPk) (i : Nat) : cutAt (rows.flatMap pkV1) i = (rows.eraseIdx i).flatMap pkV1 := by
  unfold cutAt
  rw [flat_take pkV1_len, flat_drop pkV1_len, ← List.flatMap_append, List.eraseIdx_eq_take_drop_succ]
theorem pkV1_one (y : RPk) : ∀ u ∈ pkV1 y, u.oneCell' = true := by
  intro u hu
  simp [pkV1, pkC] at hu
  rcases hu with rfl | rfl | rfl | rfl | rfl <;> rfl

section
variable {w w' : World} {fp fp' : Nat → Prop} {G : NGeo} {l : List Pk} {C : K4 → Bool} {c : Cnt} {m : Nat}
/-- One packet less. -/
theorem NetG.cut_ (h : NetG w fp G l C c m) {i : Nat} (hi : i < l.length) :
    ∃ (g kc : Nat) (cur : Array Value), w.heap[G.p]? = some (.cells #[.slice (some ⟨g, 0, none⟩) l.length kc, .map (some G.mb), .int .i64 c.s, .int .i64 c.t, .int .i64 c.x] 63 (0, 0)) ∧ w.heap[g]? = some (.cells cur 32 (0, 0)) ∧ cur.size = kc * 5 ∧ l.length ≤ kc ∧ kc ≤ maxLen ∧
      (∀ u ∈ cur.toList.take (l.length * 5), u.oneCell' = true) ∧ fp g ∧
      ∀ w2, (∃ cur', w2.heap[g]? = some (.cells cur' 32 (0, 0)) ∧ cur'.size = cur.size ∧ cur'.toList.take ((l.length - 1) * 5) = cutAt (cur.toList.take (l.length * 5)) i) → Fr (fun b => b = g) w w2 →
        w2.heap[G.p]? = some (.cells #[.slice (some ⟨g, 0, none⟩) l.length kc, .map (some G.mb), .int .i64 c.s, .int .i64 c.t, .int .i64 c.x] 63 (0, 0)) ∧
        ∀ (c' : Cnt) w3, 0 ≤ c'.s ∧ 0 ≤ c'.t ∧ 0 ≤ c'.x → w3.heap[G.p]? = some (.cells #[.slice (some ⟨g, 0, none⟩) (l.length - 1) kc, .map (some G.mb), .int .i64 c'.s, .int .i64 c'.t, .int .i64 c'.x] 63 (0, 0)) → Fr (fun b => b = G.p) w2 w3 →
          NetG w3 fp G (l.eraseIdx i) C c' m ∧ Fr fp w w3 := by
  obtain ⟨lv, rows, h1, h2, h3, h4, h5, h6⟩ := h.ex
  obtain ⟨D, hD, hA⟩ := h.map
  rcases h2.2 with ⟨_, h0⟩ | ⟨g, kc, cur, rfl, _, hg, hk1, hk2, hcs, htk⟩
  · omega
  have hfg := h3 g rfl
  have hpg : G.p ≠ g := tag_ne h1 hg (by decide)
  have hrl : rows.length = l.length := by rw [← h4, List.length_map]
  refine ⟨g, kc, cur, h1, hg, hcs, hk1, hk2, fun u hu => ?_, hfg, fun w2 ⟨cur', e1, e2, e3⟩ F1 => ?_⟩
  · rw [htk] at hu
    obtain ⟨y, _, hy⟩ := List.mem_flatMap.1 hu
    exact pkV1_one y u hy
  have k1 : Kept (fun b => b ≠ g) w w2 := F1.kept fun b hb hh => hb hh
  have hp2 := k1 _ _ hpg h1
  refine ⟨hp2, fun c' w3 hc' e4 F2 => ?_⟩
  have k2 : Kept (fun b => b ≠ G.p) w2 w3 := F2.kept fun b hb hh => hb hh
  have k12 : Kept (fun b => b ≠ g ∧ b ≠ G.p) w w3 := (k1.mono fun b hb => hb.1).trans (k2.mono fun b hb => hb.2)
  have F : Fr fp w w3 := (F1.mono (fun i hi => .inl (by rw [hi]; exact hfg))).trans F2 (fun i hi => .inl (by rw [hi]; exact h.inp))
  have hlen : (l.eraseIdx i).length = l.length - 1 := List.length_eraseIdx_of_lt hi
  have hle := h.len
  refine ⟨⟨h.inp, h.inm, ⟨_, rows.eraseIdx i, e4, ?_, fun g' hg' => h3 g' hg', ?_, ?_, ?_⟩, ⟨D, map_keep hD (fp := fun b => b ≠ g ∧ b ≠ G.p) ⟨(map_ne hg hD).symm, (map_ne h1 hD).symm⟩ k12, hA⟩, by rw [hlen]; omega, hc', fun b hb => Nat.lt_of_lt_of_le (h.lt b hb) F.size⟩, F⟩
  · rw [hlen]
    refine ⟨?_, .inr ⟨g, kc, cur', rfl, Nat.zero_le _, k2 g _ (Ne.symm hpg) e1, by omega, hk2, by rw [e2]; exact hcs, ?_⟩⟩
    · rw [flat_len pkV1_len, List.length_eraseIdx_of_lt (by omega), hrl]
    · rw [e3, htk, cutAt_rows]
  · rw [← h4]
    simp [List.eraseIdx_eq_take_drop_succ, List.map_append]
  · intro y hy
    have hy0 := h5 y (List.mem_of_mem_eraseIdx hy)
    refine ⟨own_keep hy0.row (fp := fun b => b ≠ g ∧ b ≠ G.p) (fun b hb => ?_) k12, hy0.inn, hy0.len, hy0.wf⟩
    obtain ⟨cs, hcs'⟩ := own_tag hy0.row hb
    exact ⟨tag_ne hcs' hg (by decide), tag_ne hcs' h1 (by decide)⟩
  · exact h6.sublist (List.eraseIdx_sublist _ _)
def loseL (l : List Pk) (i : Int) : List Pk := if (lookP l i).isSome then l.eraseIdx i.toNat else l
def loseC (l : List Pk) (i : Int) (c : Cnt) : Cnt := if (lookP l i).isSome then { c with x := c.x + 1 } else c
theorem NetG.same (h : NetG w fp G l C c m) {v : Value} : NetAns w fp G l C c m v (.returned v) w := ⟨rfl, fp, h, Fr.refl _ _, Grow.refl _ _⟩
/-- What a method leaves that answers v and makes no state. -/
def NetSame (w : World) (fp : Nat → Prop) (G : NGeo) (l : List Pk) (C : K4 → Bool) (c : Cnt) (m : Nat) (v : Value) (e : Ending) (w' : World) : Prop :=
  e = .returned v ∧ NetG w' fp G l C c m ∧ Fr fp w w'
set_option maxHeartbeats 2000000 in
theorem lose_any (i : Int) (h : NetG w fp G l C c m) (hx : c.x < 8000000000000000000) :
    Calls Try.prog 18 #[.pointer (some ⟨G.p, 0, none⟩), .int .i64 i] w (NetSame w fp G (loseL l i) C (loseC l i c) m (.bool (lookP l i).isSome)) := by
  unfold loseL loseC
  rcases look_cases l i with ⟨hl, hi⟩ | ⟨k, p, rfl, hk, hp, hl⟩
  · rw [hl]
    have C1 := Lib.hid (has_no i h hi)
    have H := Lib.hid h
    clear h hi hl
    go_enter Try.func18, Try.ntmps18
    go_wp2_with fail
    refine C1.out.mono ?_
    rintro e w' ⟨rfl, rfl⟩
    go_wp2
    go_ret
    exact ⟨rfl, H.out, Fr.refl _ _⟩
  · rw [hl]
    have C1 := Lib.hid (has_yes k h hk)
    obtain ⟨g, kc, cur, h1, hg, hcs, hk1, hk2, hone, hfg, hrest⟩ := h.cut_ hk
    have hc0 := h.cnt
    have CD := Lib.hid (delete_any g kc l.length k cur w hg hcs hk hk1 hk2 hone)
    have HR := Lib.hid hrest
    have c0 := blk_cell (j := 0) h1 rfl
    have hw1 : IntKind.i64.wrap ((k : Int) + 1) = (k : Int) + 1 := IntWalk.i64_in _ (by have := h.len; omega)
    clear h h1 hg hrest hone hp hl hcs
    go_enter Try.func18, Try.ntmps18
    go_wp2_with fail
    refine C1.out.mono ?_
    rintro e w' ⟨rfl, rfl⟩
    go_wp2_with fail
    refine CD.out.mono ?_
    rintro e w2 ⟨rfl, hcur, F1⟩
    have hr := HR.out w2 hcur F1
    have t0 := blk_cell (j := 0) hr.1 rfl
    have f0 := blk_free hr.1 0
    have hp3 := heap_setCell_same w2 G.p 0 _ _ (.slice (some ⟨g, 0, none⟩) (l.length - 1) kc) hr.1
    have CA := Lib.hid (addI_any G.p 4 c.x _ (blk_cell hp3 rfl) (blk_free hp3 4) hc0.2.2 (by omega))
    have HR2 := Lib.hid hr
    have HP3 := Lib.hid hp3
    clear hr hcur F1 hp3 CD
    go_wp2_with fail
    refine CA.out.mono ?_
    rintro e w4 ⟨rfl, rfl⟩
    go_wp2
    go_ret
    have hp4 := heap_setCell_same _ G.p 4 _ _ (.int .i64 (c.x + 1)) HP3.out
    obtain ⟨q1, q2⟩ := HR2.out.2 { c with x := c.x + 1 } _ ⟨hc0.1, hc0.2.1, by show 0 ≤ c.x + 1; omega⟩ hp4 ((Fr.set _ ⟨G.p, 0, none⟩ _).trans (Fr.set _ ⟨G.p, 4, none⟩ _) (fun i hi => .inl hi))
    exact ⟨rfl, by simpa using q1, q2⟩
end
end Go.Proofs.Ytcdbpimpmhfkhaa
