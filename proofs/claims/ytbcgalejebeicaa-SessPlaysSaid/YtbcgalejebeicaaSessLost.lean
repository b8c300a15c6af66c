/-
  Sessions: Lost.
-/
import Derived.Test.YtbcgalejebeicaaSessEnd
import Derived.Test.YtbcgalejebeicaaSessLostPlain
namespace Go.Proofs.Ytbcgalejebeicaa
open Go.RowKit
set_option linter.unusedVariables false

theorem Try.infoI64 : (Try.prog.info? 2).map (fun i => (i.zero, i.size, i.bytes)) = some (some (.int .i64 0), 1, 8) := by kernel_rfl
/-- A row of the call's own that lies off fp has grown. -/
theorem grow_off {fp' : Nat → Prop} {wr w2 : World} {v v2 : Value} {o : Obj} (hlt : ∀ b, fp' b → b < wr.heap.size) (hv : ∀ g, v.ownBlock = some g → ¬ fp' g) (g2 : (wr.alloc o).grownBy w2 v.ownBlock) (hv2 : v2.ownBlock = v.ownBlock ∨ v2.ownBlock = some (wr.heap.size + 1)) :
    Kept fp' wr w2 ∧ (∀ g, v2.ownBlock = some g → ¬ fp' g) ∧ wr.heap.size ≤ w2.heap.size := by
  refine ⟨(Kept.alloc _ _ _).trans (Kept.grown g2 hv), fun g hg hf => ?_, by have := g2.size; simp at this; omega⟩
  rcases hv2 with e | e
  · exact hv g (by rw [← e]; exact hg) hf
  · rw [e] at hg
    injection hg with hg
    have := hlt g hf
    omega
theorem fr_grow {fp : Nat → Prop} {w wr w2 : World} {v : Value} {o : Obj} (F : Fr fp w wr) (hb : ∀ g, v.ownBlock = some g → w.heap.size ≤ g) (g2 : (wr.alloc o).grownBy w2 v.ownBlock) : Fr fp w w2 :=
  (F.trans (Fr.alloc fp wr o) (fun i hi => .inl hi)).trans (Fr.of_grown g2) (fun i hi => .inr (hb i hi.symm))
section
variable {w w' : World} {fp : Nat → Prop} {G : SGeo} {sites : Int} {l : List Ses} {m : Nat}
/-- Behind k sessions. -/
def LostAt (w : World) (fp : Nat → Prop) (G : SGeo) (sites : Int) (l : List Ses) (m : Nat) (s : Int) (k : Nat) (v : Value) (wr : World) : Prop :=
  ∃ n fp', n ≤ k ∧ wr.ownsRow w.heap.size 2 1 v n ((lostA (l.take k) s).map (Value.int .i64)) ∧ SessG wr fp' G sites (lostUp l s k) m ∧ Fr fp w wr ∧ Grow w fp fp' ∧ ∀ g, v.ownBlock = some g → ¬ fp' g
/-- Lost's end. -/
def LostAns (w : World) (fp : Nat → Prop) (G : SGeo) (sites : Int) (l : List Ses) (m : Nat) (s : Int) (e : Ending) (w' : World) : Prop :=
  ∃ A n c fp', e = .returned (.slice A n c) ∧ w'.ownsRow w.heap.size 2 1 (.slice A n c) n ((lostA l s).map (Value.int .i64)) ∧ SessG w' fp' G sites (lostL l s) m ∧ Fr fp w w' ∧ Grow w fp fp' ∧ ∀ g, (Value.slice A n c).ownBlock = some g → ¬ fp' g
theorem LostAt.done {s : Int} {v : Value} (h : LostAt w fp G sites l m s l.length v w') : LostAns w fp G sites l m s (.returned v) w' := by
  obtain ⟨n, fp', hn, ho, hS, F, gr, hno⟩ := h
  obtain ⟨A, c, rfl, _⟩ := own_slice ho
  rw [lostA_all] at ho
  rw [lostUp_all] at hS
  exact ⟨A, n, c, fp', rfl, ho, hS, F, gr, hno⟩
theorem LostAt.skip {s : Int} {v : Value} {k : Nat} {x : Ses} (h : LostAt w fp G sites l m s k v w') (hx : l[k]? = some x) (hno : ¬ (x.site = s ∧ x.op ≠ 0)) : LostAt w fp G sites l m s (k + 1) v w' := by
  obtain ⟨n, fp', hn, ho, hS, F, gr, hq⟩ := h
  refine ⟨n, fp', by omega, ?_, ?_, F, gr, hq⟩
  · rw [lostA_no hx hno]; exact ho
  · rw [lostUp_same hx (lostF_no hno)]; exact hS
set_option maxHeartbeats 2000000 in
theorem lost_any (s : Int) (h : SessG w fp G sites l m) (hl : l.length ≤ 3000000000000) :
    Calls Try.prog 19 #[.pointer (some ⟨G.p, 0, none⟩), .int .i64 s] w (LostAns w fp G sites l m s) := by
  obtain ⟨i0, hi, hz0, hz1, hz2⟩ := info_parts Try.infoI64
  obtain ⟨A, c, hv, hm⟩ := h.len_
  have c1 := blk_cell (j := 1) h.top rfl
  rw [hv] at c1
  have H0 := Lib.hid (show LostAt w fp G sites l m s 0 (.slice none 0 0) w from ⟨0, fp, Nat.le_refl _, World.ownsRow_nil _ _ _ _, by rw [lostUp_zero]; exact h, Fr.refl _ _, Grow.refl _ _, fun g hg => by simp [Value.ownBlock] at hg⟩)
  have HV := Lib.hid hv
  unfold maxLen at hm
  clear h hv
  go_enter Try.func19, Try.ntmps19
  go_wp2
  go_loopw [5, 13] (fun v i wr => ∃ k : Nat, i = .int .i64 (k : Int) ∧ k ≤ l.length ∧ Hid (LostAt w fp G sites l m s k v wr)) (fun _ i _ => l.length - (intOf i).toNat)
  case atStart => exact ⟨0, rfl, Nat.zero_le _, H0⟩
  case round =>
    obtain ⟨k, rfl, hk, HL⟩ := hrel
    by_cases hlt : k < l.length
    · obtain ⟨x, hx⟩ : ∃ x, l[k]? = some x := ⟨_, List.getElem?_eq_getElem hlt⟩
      obtain ⟨n, fp', hn, ho, hS, F, gr, hq⟩ := HL.out
      obtain ⟨r, c', g, hv, hkl, hc, hg, hs⟩ := hS.get_ (k := k + 1) (by omega) (by simpa using lostUp_get (s := s) hx)
      have hA : A = some ⟨r, 0, none⟩ := by
        have e1 := HV.out
        rw [hv] at e1
        injection e1 with e1 e2 e3
        exact e1.symm
      subst hA
      obtain ⟨A', nn, c2, hfg, hb, htk, htkl, hwf, hnc⟩ := hs
      have d0 := blk_cell (j := 0) hb rfl
      have d2 := blk_cell (j := 2) hb rfl
      have hc' : wr.cell? ⟨r, k, none⟩ = some (.pointer (some ⟨g, 0, none⟩)) := by simpa using hc
      by_cases h1 : x.site = s
      · by_cases h2 : x.op = 0
        · have b1 : (x.site == s) = true := by simpa using h1
          have HN := Lib.hid (HL.out.skip hx (fun hh => hh.2 h2))
          clear ho hS F gr hq hb htk hv hg hfg hn hkl hc hwf
          subst h1
          rw [h2] at d2
          go_wp2
          go_roundw
          case rel => exact ⟨k + 1, by go_num, by omega, HN⟩
          case measure => simp [intOf]; omega
        · have b2 : (x.op != 0) = true := by simpa using h2
          have hwf' : (Lit.int .i64 x.op).wf = true := hwf
          have hwr := F.size
          obtain ⟨A5, c5, rfl, _, _⟩ := own_slice ho
          have HS := Lib.hid (And.intro hS (And.intro F (And.intro gr (And.intro hq hx))))
          have HB := Lib.hid (And.intro hfg (And.intro hb (fun g' hg' => (ho.lt g' hg').1)))
          clear hS F gr hq hb htk hv hg hfg hkl hc hx
          subst h1
          go_wp2_with (at_builtin; refine wpList_append_sl _ rfl (.tmp 30) (.tmp 35) 54 rfl (w.heap.size) 2 i0 (.int .i64 0) 1 8 Try.underlying54 hi hz0 hz1 hz2 rfl (by decide) (.slice A5 n c5) (n) ((lostA (l.take k) x.site).map (Value.int .i64)) rfl (ho.alloc _) (some ⟨wr.heap.size, 0, none⟩) (1) (1) ([.int .i64 x.op]) rfl (sl_lit _ _ _ _ 1 1 _ rfl rfl rfl) (lit_one rfl) (by unfold maxLen; omega) (by omega) (by simp; omega) ?_)
          intro v2 w2 own2 g2 hv2
          obtain ⟨hS, F, gr, hq, hx⟩ := HS.out
          obtain ⟨hfg, hb, hvb⟩ := HB.out
          obtain ⟨K2, hq2, hsz2⟩ := grow_off (fun b hb => hS.lt b hb) hq g2 hv2
          have F2 := fr_grow F hvb g2
          have hS2 := hS.kept K2 hsz2
          have hb2 := K2 _ _ hfg hb
          have d2' := blk_cell (j := 2) hb2 rfl
          have C0 := end_any x.op none 0 0 [] hS2 hwf' (Sl.nil _ _ _) (by omega) (Nat.le_refl _) (fun b off s hn => by omega)
          unfold EndAns at C0
          rw [lost_end hS.asks hx rfl h2] at C0
          have C := Lib.hid C0
          have HO := Lib.hid (And.intro own2 (And.intro F2 (And.intro hq2 (And.intro gr (And.intro hsz2 (lostA_yes hx rfl h2))))))
          clear hS F gr hq hb hvb K2 hq2 F2 hS2 hb2 C0 own2 g2 hv2 ho hx hfg
          go_wp2_with fail
          refine C.out.mono ?_
          rintro e w3 ⟨rfl, fp3, h3, F3, gr3⟩
          have HN : Hid (LostAt w fp G sites l m x.site (k + 1) v2 w3) := by
            obtain ⟨own2, F2, hq2, gr, hsz2, hla⟩ := HO.out
            refine ⟨n + 1, fp3, by omega, ?_, h3, F2.trans F3 (fun i hi => gr i hi), fun i hi => (gr3 i hi).elim (fun h => gr i h) (fun h => .inr ?_), fun g hg hf => ?_⟩
            · rw [hla, List.map_append]
              exact own_keep own2 (fp := fun b => b < w2.heap.size ∧ ¬ fp' b) (fun g hg => ⟨(own2.lt g hg).2, hq2 g hg⟩) (fun b o hb ho => (F3.block b hb.1 hb.2).trans ho)
            · have := F2.size
              omega
            · rcases gr3 g hf with hf | hf
              · exact hq2 g hg hf
              · have := (own2.lt g hg).2
                omega
          clear HO h3 F3 gr3
          go_wp2
          go_roundw
          case rel => exact ⟨k + 1, by go_num, by omega, HN⟩
          case measure => simp [intOf]; omega
      · have b1 : (x.site == s) = false := by simpa using h1
        have HN := Lib.hid (HL.out.skip hx (fun hh => h1 hh.1))
        clear ho hS F gr hq hb htk hv hg hfg hn hkl hc hwf h1
        go_wp2
        go_roundw
        case rel => exact ⟨k + 1, by go_num, by omega, HN⟩
        case measure => simp [intOf]; omega
    · obtain rfl : k = l.length := by omega
      have HD := Lib.hid HL.out.done
      clear HL
      go_wp2
      go_ret
      exact HD.out
end
end Go.Proofs.Ytbcgalejebeicaa
