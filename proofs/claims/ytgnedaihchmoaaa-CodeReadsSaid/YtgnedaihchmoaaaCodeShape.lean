/-
  Records and messages that came in. No program is looked at here.
-/
import Derived.Test.YtgnedaihchmoaaaME
import Derived.Test.YtgnedaihchmoaaaShapeB
namespace Go.Proofs.Ytgnedaihchmoaaa
open Go.RowKit
set_option linter.unusedVariables false

abbrev recSh : Sh := .pair .str (.sl 64 vrSh)
def rcOf (x : recSh.T) : Rc := ⟨x.1, x.2.map vrOf⟩
theorem rc_open {w : World} {cs : List Value} {x : recSh.T} (h : Rd w recSh cs x) : ∃ (A : Option Addr) (n c : Nat), cs = rV (rcOf x) A n c ∧ RRow w (rcOf x) A n c := by
  obtain ⟨key, vers⟩ := x
  obtain ⟨c1, c2, rfl, ⟨rfl, hk⟩, hv⟩ := h
  obtain ⟨A, n, c, rfl, _⟩ := _root_.id hv
  obtain ⟨s1, s2, s3⟩ := Rd.vers hv
  exact ⟨A, n, c, rfl, ⟨s1, s2, by omega, hk⟩⟩
theorem Rd.recs {w : World} {A : Option Addr} {n c : Nat} {ls : List recSh.T} (h : Rd w (.sl 40 recSh) [.slice A n c] ls) : SlR w A n (ls.map rcOf) ∧ n ≤ c ∧ c * 40 ≤ 140737488351232 := by
  obtain ⟨h4, h1, h2, h3, h5⟩ := h.elem
  obtain ⟨rows, hl, hp⟩ := choose_lt' (α := RR) (n := n) (p := fun i y => (∃ x, ls[i]? = some x ∧ rcOf x = y.1) ∧ RRow w y.1 y.2.1 y.2.2.1 y.2.2.2 ∧ ∃ g off, A = some ⟨g, off, none⟩ ∧ ∀ j u, (rV1 y)[j]? = some u → w.cell? ⟨g, off + i * 2 + j, none⟩ = some u) (fun i hi => by
    obtain ⟨g, off, x, xs, hA, hx, _, hc, hr⟩ := h5 i hi
    obtain ⟨Ap, np, cp, rfl, hv⟩ := rc_open hr
    exact ⟨(rcOf x, Ap, np, cp), ⟨x, hx, rfl⟩, hv, g, off, hA, hc⟩)
  refine ⟨⟨rows, ?_, ⟨by rw [flat_len rV1_len, hl], fun hn => ?_⟩, fun y hy => ?_⟩, h1, h2⟩
  · apply List.ext_getElem?
    intro i
    rcases Nat.lt_or_ge i n with hi | hi
    · have hy : rows[i]? = some rows[i] := List.getElem?_eq_getElem (by omega)
      obtain ⟨⟨x, hx, e⟩, _⟩ := hp i _ hy
      rw [List.getElem?_map, List.getElem?_map, hy, hx]
      simp [e]
    · rw [List.getElem?_eq_none (by rw [List.length_map]; omega), List.getElem?_eq_none (by rw [List.length_map]; omega)]
  · have hn' : 0 < n := by omega
    obtain ⟨_, _, g, off, hA, _⟩ := hp 0 _ (List.getElem?_eq_getElem (by omega))
    refine ⟨g, off, hA, fun j u hu => ?_⟩
    have hj := (List.getElem?_eq_some_iff.1 hu).1
    rw [flat_len rV1_len, hl] at hj
    have hi : j / 2 < n := by omega
    have hy : rows[j / 2]? = some rows[j / 2] := List.getElem?_eq_getElem (by omega)
    obtain ⟨_, _, g', off', hA', hc⟩ := hp (j / 2) _ hy
    rw [hA] at hA'
    injection hA' with hA'
    injection hA' with e1 e2
    subst e1 e2
    have hat := flat_at rV1_len rows (j / 2) (j % 2) _ hy (by omega)
    rw [show j / 2 * 2 + j % 2 = j by omega, hu] at hat
    have := hc (j % 2) u hat.symm
    rwa [show off + j / 2 * 2 + j % 2 = off + j by omega] at this
  · obtain ⟨i, hi, rfl⟩ := List.getElem_of_mem hy
    exact (hp i _ (List.getElem?_eq_getElem hi)).2.1
abbrev msgSh : Sh := .pair (.int .i64) (.pair (.pair (.int .i64) (.int .i64)) (.pair (.pair (.int .i64) (.int .i64)) (.pair (.int .i64) (.pair (.int .i64) (.pair (.int .i64) (.pair (.int .i64) (.pair .str (.pair (.sl 40 recSh) (.pair (.sl 8 (.int .i64)) (.pair (.sl 8 (.int .i64)) (.pair (.sl 8 (.int .u64)) (.sl 8 (.int .i64)))))))))))))
theorem sh_pos : ∀ (s : Sh) (x : s.T), 1 ≤ shB s x
  | .int _, _ => Nat.le_refl _
  | .u8, _ => Nat.le_refl _
  | .bool, _ => Nat.le_refl _
  | .str, d => by show 1 ≤ d.size + 1; omega
  | .sl _ s, d => by show 1 ≤ (d.map (shB s)).sum + 1; omega
  | .pair a b, d => by have := sh_pos a d.1; show 1 ≤ shB a d.1 + shB b d.2; omega
theorem sum_len (s : Sh) : ∀ (l : List s.T), l.length ≤ (l.map (shB s)).sum
  | [] => Nat.zero_le _
  | x :: l => by have h1 := sh_pos s x; have h2 := sum_len s l; simp only [List.length_cons, List.map_cons, List.sum_cons]; omega
theorem Rd.u64s {w : World} {A : Option Addr} {n c b : Nat} {l : List Int} (h : Rd w (.sl b (.int .u64)) [.slice A n c] l) : ∀ x ∈ l, 0 ≤ x ∧ x < 18446744073709551616 := by
  obtain ⟨h4, _, _, _, h5⟩ := h.elem
  intro x hx
  obtain ⟨i, hi, rfl⟩ := List.getElem_of_mem hx
  obtain ⟨g, off, y, xs, _, hy, _, _, _, hw⟩ := h5 i (by omega)
  rw [List.getElem?_eq_getElem hi] at hy
  injection hy with hy
  rw [hy]
  have := bounds_u64 hw
  omega
theorem msg_open {w : World} {cs : List Value} {x : msgSh.T} (h : Rd w msgSh cs x) : ∃ y : Mx, cs.toArray = y.cells ∧ MRow w y ∧ y.nr ≤ shB msgSh x := by
  obtain ⟨kind, ⟨fs, fn⟩, ⟨ts, tn⟩, id, n, fo, code, key, recs, vec, path, hashes, route⟩ := x
  obtain ⟨_, _, rfl, ⟨rfl, w1⟩, _, _, rfl, ⟨_, _, rfl, ⟨rfl, w2⟩, ⟨rfl, w3⟩⟩, _, _, rfl, ⟨_, _, rfl, ⟨rfl, w4⟩, ⟨rfl, w5⟩⟩, _, _, rfl, ⟨rfl, w6⟩, _, _, rfl, ⟨rfl, w7⟩, _, _, rfl, ⟨rfl, w8⟩, _, _, rfl, ⟨rfl, w9⟩, _, _, rfl, ⟨rfl, wk⟩, _, _, rfl, hr, _, _, rfl, hv, _, _, rfl, hp, _, _, rfl, hh, ho⟩ := h
  obtain ⟨Ar, nr, cr, rfl, -⟩ := _root_.id hr
  obtain ⟨Av, nv, cv, rfl, -⟩ := _root_.id hv
  obtain ⟨Ap, np, cp, rfl, -⟩ := _root_.id hp
  obtain ⟨Ah, nh, ch, rfl, -⟩ := _root_.id hh
  obtain ⟨Ao, no, co, rfl, -⟩ := _root_.id ho
  have b6 : id ≤ 9223372036854775807 := (bounds_i64 w6).2
  have b7 : n ≤ 9223372036854775807 := (bounds_i64 w7).2
  have r1 := Rd.recs hr
  have r2 := Rd.ints hv
  have r3 := Rd.ints hp
  have r4 := Rd.ints hh
  have r5 := Rd.ints ho
  have hlr : recs.length = nr := hr.elem.1
  have hsl := sum_len recSh recs
  refine ⟨⟨⟨kind, fs, fn, ts, tn, id, n, fo, code, key, recs.map rcOf, vec, path, hashes, route⟩, Ar, nr, cr, Av, nv, cv, Ap, np, cp, Ah, nh, ch, Ao, no, co⟩, rfl,
    ⟨r1.1, r2.1, r3.1, r4.1, r5.1, ?_, ?_, ?_, ?_, ?_, r1.2.1, r2.2.1, r3.2.1, r4.2.1, r5.2.1, wk, b6, b7, Rd.u64s hh⟩, ?_⟩
  · have h1 := r1.2.1; have h2 := r1.2.2; simp only; omega
  · have h1 := r2.2.1; have h2 := r2.2.2; simp only; omega
  · have h1 := r3.2.1; have h2 := r3.2.2; simp only; omega
  · have h1 := r4.2.1; have h2 := r4.2.2; simp only; omega
  · have h1 := r5.2.1; have h2 := r5.2.2; simp only; omega
  · simp only [shB] at hsl ⊢
    show nr ≤ _
    omega
end Go.Proofs.Ytgnedaihchmoaaa
