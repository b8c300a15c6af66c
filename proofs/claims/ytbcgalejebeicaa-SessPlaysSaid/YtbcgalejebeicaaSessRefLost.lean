/-
  The document's sessions: Lost.
-/
import Derived.Test.YtbcgalejebeicaaSessRefOpen
import Derived.Test.YtbcgalejebeicaaSessLost
namespace Go.Proofs.Ytbcgalejebeicaa
open Go.RowKit
set_option linter.unusedVariables false

section
variable {w w' : World} {fp fp' : Nat → Prop} {p : Nat} {sites : Int} {l : List Ses}
def RefLostAt (w : World) (fp : Nat → Prop) (p : Nat) (sites : Int) (l : List Ses) (s : Int) (k : Nat) (v : Value) (wr : World) : Prop :=
  ∃ n, n ≤ k ∧ wr.ownsRow w.heap.size 2 1 v n ((lostA (l.take k) s).map (Value.int .i64)) ∧ RefG wr fp p sites (lostUp l s k) ∧ Fr fp w wr ∧ ∀ g, v.ownBlock = some g → ¬ fp g
def RefLostAns (w : World) (fp : Nat → Prop) (p : Nat) (sites : Int) (l : List Ses) (s : Int) (e : Ending) (w' : World) : Prop :=
  ∃ A n c fp', e = .returned (.slice A n c) ∧ w'.ownsRow w.heap.size 2 1 (.slice A n c) n ((lostA l s).map (Value.int .i64)) ∧ RefG w' fp' p sites (lostL l s) ∧ Fr fp w w' ∧ Grow w fp fp' ∧ ∀ g, (Value.slice A n c).ownBlock = some g → ¬ fp' g
theorem RefLostAt.done {s : Int} {v : Value} (h : RefLostAt w fp p sites l s l.length v w') : RefLostAns w fp p sites l s (.returned v) w' := by
  obtain ⟨n, hn, ho, hS, F, hno⟩ := h
  obtain ⟨A, c, rfl, _⟩ := own_slice ho
  rw [lostA_all] at ho
  rw [lostUp_all] at hS
  exact ⟨A, n, c, fp, rfl, ho, hS, F, Grow.refl _ _, hno⟩
theorem RefLostAt.skip {s : Int} {v : Value} {k : Nat} {x : Ses} (h : RefLostAt w fp p sites l s k v w') (hx : l[k]? = some x) (hno : ¬ (x.site = s ∧ x.op ≠ 0)) : RefLostAt w fp p sites l s (k + 1) v w' := by
  obtain ⟨n, hn, ho, hS, F, hq⟩ := h
  refine ⟨n, by omega, ?_, ?_, F, hq⟩
  · rw [lostA_no hx hno]; exact ho
  · rw [lostUp_same hx (lostF_no hno)]; exact hS
set_option maxHeartbeats 2000000 in
theorem refLost_any (s : Int) (h : RefG w fp p sites l) (hl : l.length ≤ 3000000000000) :
    Calls Try.prog 20 #[.pointer (some ⟨p, 0, none⟩), .int .i64 s] w (RefLostAns w fp p sites l s) := by
  obtain ⟨i0, hi, hz0, hz1, hz2⟩ := info_parts Try.infoI64
  have H0 := Lib.hid (show RefLostAt w fp p sites l s 0 (.slice none 0 0) w from ⟨0, Nat.le_refl _, World.ownsRow_nil _ _ _ _, by rw [lostUp_zero]; exact h, Fr.refl _ _, fun g hg => by simp [Value.ownBlock] at hg⟩)
  clear h
  go_enter Try.func20, Try.ntmps20
  go_wp2
  go_loopw [5, 6] (fun v i wr => ∃ k : Nat, i = .int .i64 (k : Int) ∧ k ≤ l.length ∧ Hid (RefLostAt w fp p sites l s k v wr)) (fun _ i _ => l.length - (intOf i).toNat)
  case atStart => exact ⟨0, rfl, Nat.zero_le _, H0⟩
  case round =>
    obtain ⟨k, rfl, hk, HL⟩ := hrel
    obtain ⟨n, hn, ho, hS, F, hq⟩ := HL.out
    by_cases hlt : k < l.length
    · obtain ⟨x, hx⟩ : ∃ x, l[k]? = some x := ⟨_, List.getElem?_eq_getElem hlt⟩
      obtain ⟨g, off, c', A', nn, cc, ho2, q1, q2, q3, q4, qf, -, -, -, -⟩ := hS.at_ (lostUp_get (s := s) hx)
      rw [lostUp_len] at q1
      have i0k : (0 : Int) ≤ (k : Int) := by omega
      have i1k : (k : Int) < (l.length : Int) := by omega
      by_cases h1 : x.site = s
      · have hop0 := hS.asks.1 x (List.mem_of_getElem? (lostUp_get (s := s) hx))
        by_cases h2 : x.op = 0
        · have HN := Lib.hid (HL.out.skip hx (fun hh => hh.2 h2))
          clear ho hS F hq hn qf q3 hop0
          subst h1
          rw [h2] at q4
          go_wp2
          go_roundw
          case rel => exact ⟨k + 1, by go_num, by omega, HN⟩
          case measure => simp [intOf]; omega
        · have b2 : (0 : Int) < x.op := by omega
          have hwr := F.size
          obtain ⟨A5, c5, rfl, _, _⟩ := own_slice ho
          have qf2 := qf (off + k * 3 + 2)
          have HS := Lib.hid (And.intro hS (And.intro F (And.intro hq (And.intro hx ho2))))
          have HB := Lib.hid (fun g' hg' => (ho.lt g' hg').1)
          clear hS F hq hx qf ho2 q3 hop0
          subst h1
          go_wp2_with (at_builtin; refine wpList_append_sl _ rfl (.tmp 37) (.tmp 46) 54 rfl (w.heap.size) 2 i0 (.int .i64 0) 1 8 Try.underlying54 hi hz0 hz1 hz2 rfl (by decide) (.slice A5 n c5) (n) ((lostA (l.take k) x.site).map (Value.int .i64)) rfl (ho.alloc _) (some ⟨wr.heap.size, 0, none⟩) (1) (1) ([.int .i64 x.op]) rfl (sl_lit _ _ _ _ 1 1 _ rfl rfl rfl) (lit_one rfl) (by unfold maxLen; omega) (by omega) (by simp; omega) ?_)
          intro v2 w2 own2 g2 hv2
          obtain ⟨hS, F, hq, hx, ho2⟩ := HS.out
          obtain ⟨K2, hq2, hsz2⟩ := grow_off (fun b hb => hS.lt b hb) hq g2 hv2
          have F2 := fr_grow F HB.out g2
          have hS2 := hS.kept K2 hsz2
          obtain ⟨g9, off9, c9, A9, nn9, cc9, ho9, r1, r2, r3, r4, rf, -, -, -, -⟩ := hS2.at_ (lostUp_get (s := x.site) hx)
          rw [lostUp_len] at r1
          have R0 := hS2.put (r := 2) (u := .int .i64 0) (y := { x with op := 0 }) (A := A9) (n := nn9) (cc := cc9) (lostUp_get (s := x.site) hx) ho9 (by rw [lostUp_len]; exact r1) (by omega) (fun A0 n0 c0 h0 => by
            rw [r3] at h0
            injection h0 with h0
            injection h0 with e1 e2 e3
            subst e1 e2 e3
            exact ⟨rfl, .inl ⟨rfl, rfl, rfl, rfl⟩⟩) (hS2.asks.quiet (lostUp_get (s := x.site) hx) (.inl rfl))
          have rf2 := rf (off9 + k * 3 + 2)
          have HR := Lib.hid R0
          have HO := Lib.hid (And.intro own2 (And.intro F2 (And.intro hq2 (And.intro (lostA_yes hx rfl h2) (lostUp_succ (s := x.site) hx)))))
          have hcp : w2.cell? ⟨g9, off9 + k * 3 + 2, none⟩ = some (.int .i64 x.op) := r4
          clear hS F hq K2 hq2 F2 hS2 R0 own2 g2 hv2 ho hx rf r2 r3 r4 q1 q2 q4 qf2 HS ho9 ho2
          go_wp2
          have HN : Hid (RefLostAt w fp p sites l x.site (k + 1) v2 (w2.setCell ⟨g9, off9 + k * 3 + 2, none⟩ (.int .i64 0))) := by
            obtain ⟨own2, F2, hq2, hla, hlu⟩ := HO.out
            obtain ⟨R, F3⟩ := HR.out
            refine ⟨n + 1, by omega, ?_, by rw [hlu, lostF_yes rfl]; exact R, F2.trans F3 (fun i hi => .inl hi), hq2⟩
            rw [hla, List.map_append]
            exact own_keep own2 (fp := fun b => b < w2.heap.size ∧ ¬ fp b) (fun g hg => ⟨(own2.lt g hg).2, hq2 g hg⟩) (fun b o hb ho => (F3.block b hb.1 hb.2).trans ho)
          clear HO HR
          go_roundw
          case rel => exact ⟨k + 1, by go_num, by omega, HN⟩
          case measure => simp [intOf]; omega
      · have b1 : (x.site == s) = false := by simpa using h1
        have HN := Lib.hid (HL.out.skip hx (fun hh => h1 hh.1))
        clear ho hS F hq hn qf q3 h1
        go_wp2
        go_roundw
        case rel => exact ⟨k + 1, by go_num, by omega, HN⟩
        case measure => simp [intOf]; omega
    · obtain ⟨A, c, c1, hm⟩ := hS.len_
      rw [lostUp_len] at c1
      obtain rfl : k = l.length := by omega
      have HD := Lib.hid HL.out.done
      clear HL ho hS F hq
      go_wp2
      go_ret
      exact HD.out
end
end Go.Proofs.Ytbcgalejebeicaa
