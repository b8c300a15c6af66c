/-
  firth/inbox: Clean.
-/
import Derived.Test.YtilagblpamhmkaaInboxClean3
import Derived.Test.YtilagblpamhmkaaInboxP
namespace Go.Proofs.Ytilagblpamhmkaa
open Go.RowKit
set_option linter.unusedVariables false

theorem map_keepR (v : List Int) (rows : List RFa) : (keepR v rows).map (·.1) = (rows.map (·.1)).filter (fun f => !covB v f) := by
  unfold keepR
  rw [List.filter_map]
  rfl
theorem map_goneR (v : List Int) (rows : List RFa) : (goneR v rows).map (·.1) = (rows.map (·.1)).filter (covB v) := by
  unfold goneR
  rw [List.filter_map]
  rfl
/-- What Clean leaves. -/
def CleanTo (w : World) (fp : Nat → Prop) (p : Nat) (room : Int) (l : List Fa) (v : List Int) (e : Ending) (w' : World) : Prop :=
  ∃ (A : Option Addr) (n c : Nat) (rows : List RFa) (fp' : Nat → Prop), e = .returned (.slice A n c) ∧ rows.map (·.1) = l.filter (covB v) ∧ w'.ownsRow w.heap.size 35 5 (.slice A n c) n (rows.flatMap fV1) ∧ (∀ y ∈ rows, FaD w' fp y) ∧
    InG w' fp' p room (l.filter fun f => !covB v f) ∧ Fr fp w w' ∧ Grow w fp fp'
set_option maxHeartbeats 4000000 in
set_option maxRecDepth 100000 in
theorem clean_any {w : World} {fp : Nat → Prop} {p : Nat} {room : Int} {l : List Fa} (Av : Option Addr) (nv cv : Nat) (v : List Int) (h : InG w fp p room l) (hsv : SlI w Av nv v) (hnv : nv ≤ 140737488351232) (hvK : ∀ b off, 0 < nv * 1 → Av = some ⟨b, off, none⟩ → ¬ fp b) (hl : l.length * 80 ≤ 140737488355328) :
    Calls Try.prog 27 #[.pointer (some ⟨p, 0, none⟩), .slice Av nv cv] w (CleanTo w fp p room l v) := by
  obtain ⟨lv, rows, hp⟩ := h.ex
  obtain ⟨A0, k0, rfl, hk0, _⟩ := own_slice hp.2.1
  have bA : Below w.heap.size w ((w.alloc (.cells #[.slice Av nv cv] 23)).alloc (.cells #[.slice none 0 0] 22)) := ((Below.refl _ _).alloc (Nat.le_refl _) _).alloc (by simp) _
  have kA : ((w.alloc (.cells #[.slice Av nv cv] 23)).alloc (.cells #[.slice none 0 0] 22)).heap[w.heap.size]? = some (.cells #[.slice Av nv cv] 23 (0, 0)) := (Below.heap_alloc _ _ w.heap.size (by simp)).trans (heap_alloc_new w _)
  have kB : ((w.alloc (.cells #[.slice Av nv cv] 23)).alloc (.cells #[.slice none 0 0] 22)).heap[w.heap.size + 1]? = some (.cells #[.slice none 0 0] 22 (0, 0)) := by
    have h := heap_alloc_new (w.alloc (.cells #[.slice Av nv cv] 23)) (.cells #[.slice none 0 0] 22)
    rw [show (w.alloc (.cells #[.slice Av nv cv] 23)).heap.size = w.heap.size + 1 by simp] at h
    exact h
  have hs2 : ((w.alloc (.cells #[.slice Av nv cv] 23)).alloc (.cells #[.slice none 0 0] 22)).heap.size = w.heap.size + 2 := by simp
  obtain ⟨W2, hW2⟩ : ∃ W2, (w.alloc (.cells #[.slice Av nv cv] 23)).alloc (.cells #[.slice none 0 0] 22) = W2 := ⟨_, rfl⟩
  rw [hW2] at bA kA kB hs2
  have hp2 := hp.kept h.inp (Kept.below (fp := fp) bA)
  have hpw := h.lt p h.inp
  obtain ⟨g, hAg, hfg⟩ : ∃ g, (∀ b off, A0 = some ⟨b, off, none⟩ → b = g) ∧ fp g := by
    cases A0 with
    | none => exact ⟨p, fun b off e => (nomatch e), h.inp⟩
    | some a =>
      refine ⟨a.block, fun b off e => by injection e with e; rw [e], ?_⟩
      exact hp.2.2.1 a.block rfl
  have hgw := h.lt g hfg
  have hE : CEnv W2 fp rows v g w.heap.size (w.heap.size + 1) (w.heap.size + 2) Av nv cv := by
    refine ⟨kA, Sl.below hsv bA, hnv, fun b off hn e => ?_, by omega, hp2.2.2.2.2, fun b hb => by have := h.lt b hb; omega, fun hne => ?_, by omega, by omega, by omega, by omega⟩
    · have h1 := hvK b off hn e
      have h2 := Sl.blk_lt hsv hn e
      exact ⟨fun e2 => h1 (e2 ▸ hfg), by omega, by omega⟩
    · have hln : 0 < l.length := by
        rw [← hp.2.2.2.1, List.length_map]
        exact List.length_pos_iff.2 hne
      obtain ⟨g', cc, hv, _, _⟩ := hp2.2.1.form hln
      injection hv with hv1 _ _
      have := hAg g' 0 hv1
      subst this
      exact own_tag hp2.2.1 (by rw [hv1]; rfl)
  have hrl : l.length = rows.length := by rw [← hp.2.2.2.1, List.length_map]
  have CD := Lib.hid (deleteF_any A0 l.length k0 hp2.2.1 hAg hl hE ⟨none, 0, 0, kB, World.ownsRow_nil _ _ _ _⟩)
  have c1 := row_cell (j := 1) hp2.1 rfl
  rw [← hW2] at c1
  have HI := Lib.hid (And.intro h hp)
  have HE := Lib.hid hE
  have HB := Lib.hid bA
  have HG := Lib.hid (And.intro hAg hfg)
  have HW := Lib.hid hW2
  clear h hp bA kA kB hp2 hE hAg hfg hsv hvK hW2 hrl
  go_enter Try.func27, Try.ntmps27
  go_wp2_with fail
  rw [HW.out]
  refine CD.out.mono ?_
  rintro e w3 ⟨n', rfl, hn', o3, own3, F3, F3'⟩
  have FB : Fr (fun b => (b = g ∧ rows ≠ []) ∨ b = w.heap.size + 1 ∨ w.heap.size + 2 ≤ b) w w3 := (Fr.of_below HB.out).trans F3 (fun i hi => .inl hi)
  have hF : Fr (fun b => (Value.slice A0 l.length k0).ownBlock = some b) w w3 := FB.mono fun i hi => by
    rcases hi with ⟨rfl, hne⟩ | hi
    · refine .inl ?_
      have hln : 0 < l.length := by
        rw [← HI.out.2.2.2.2.1, List.length_map]
        exact List.length_pos_iff.2 hne
      obtain ⟨g', cc, hv, _, _⟩ := HI.out.2.2.1.form hln
      injection hv with hv1 _ _
      have := HG.out.1 g' 0 hv1
      rw [hv1, ← this]
      rfl
    · exact .inr (by omega)
  have hown : (Value.slice A0 n' k0).ownBlock = (Value.slice A0 l.length k0).ownBlock := by cases A0 <;> rfl
  obtain ⟨a1, a2, a3, a4⟩ := HI.out.1.relist (l' := l.filter fun f => !covB v f) (rows' := keepR v rows) (v3 := .slice A0 n' k0) HI.out.2 hF (by
    have e : (l.filter fun f => !covB v f).length = n' := by rw [hn', ← HI.out.2.2.2.2.1, ← map_keepR, List.length_map]
    rw [e]; exact own3) (fun q hq => .inl (HI.out.2.2.2.1 q (by rw [← hown]; exact hq))) (by rw [map_keepR, HI.out.2.2.2.2.1]) (fun y hy => .inr (HI.out.2.2.2.2.2 y ((List.mem_filter.1 hy).1)))
  have k4 := row_cell (j := 0) (show w3.heap[p]? = _ from (hF.block p hpw (fun e => by
    obtain ⟨cs, hcs⟩ := own_tag HI.out.2.2.1 e
    exact tag_neI hcs HI.out.2.1 (by decide) rfl)).trans HI.out.2.1) rfl
  have hpne : p ≠ w.heap.size + 1 := by omega
  have o4 : OutS (w3.setCell ⟨p, 1, none⟩ (.slice A0 n' k0)) (w.heap.size + 2) (w.heap.size + 1) (goneR v rows) := o3.kept (Kept.set _ (fun hh => by rcases hh with e | e <;> simp at e <;> omega))
  have hfd : ∀ y ∈ goneR v rows, FaD (w3.setCell ⟨p, 1, none⟩ (.slice A0 n' k0)) fp y := fun y hy => by
    have hy2 := (List.mem_filter.1 hy).1
    refine (HE.out.fd_ F3' hy2).keep fun b cs t ht _ ho => ?_
    refine Kept.set (fp := fun b => b ≠ p) _ (fun hh => hh rfl) b _ (fun e => ?_) ho
    subst e
    have := (hF.block b hpw (fun e => by
      obtain ⟨cs, hcs⟩ := own_tag HI.out.2.2.1 e
      exact tag_neI hcs HI.out.2.1 (by decide) rfl)).trans HI.out.2.1
    exact tag_neI ho this (dtI ht).1 rfl
  obtain ⟨Ao, no, co, q1, q2⟩ := o4
  have d0 := row_cell (j := 0) q1 rfl
  have HEND := Lib.hid (show CleanTo w fp p room l v (.returned (.slice Ao no co)) (w3.setCell ⟨p, 1, none⟩ (.slice A0 n' k0)) from
    ⟨Ao, no, co, goneR v rows, _, rfl, by rw [map_goneR, HI.out.2.2.2.2.1], own_lower q2 (by omega), hfd, a1, a4, fun b hb => hb.elim .inl (fun hh => .inr hh.1)⟩)
  have f1 := a3 1
  clear hn' k4 hpne c1 o3 own3 F3 F3' FB hF hown a1 a3 a4 hfd q1 q2 CD HI HE
  go_wp2
  go_ret
  exact HEND.out
end Go.Proofs.Ytilagblpamhmkaa
