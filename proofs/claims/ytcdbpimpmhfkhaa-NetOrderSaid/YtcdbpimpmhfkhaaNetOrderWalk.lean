/-
  The walk of firthlaw08.NetOrder.
-/
import Derived.Test.YtcdbpimpmhfkhaaNetPartsWalk
namespace Go.Proofs.Ytcdbpimpmhfkhaa
open Go.RowKit
set_option linter.unusedVariables false

def pkOf (x : pkSh.T) : Pk := ⟨x.1.1, x.1.2, x.2.1.1, x.2.1.2, x.2.2⟩
theorem pk_open2 {w : World} {cs : List Value} {x : pkSh.T} (h : Rd w pkSh cs x) : ∃ (A : Option Addr) (n k : Nat), cs = pkC (pkOf x) A n k ∧ SlB w A n (pkOf x).d ∧ n ≤ k ∧ n ≤ tokMax ∧ (pkOf x).wf := by
  obtain ⟨⟨fs, fn⟩, ⟨ts, tn⟩, d⟩ := x
  obtain ⟨c1, c2, rfl, ⟨a1, a2, rfl, ⟨rfl, w1⟩, rfl, w2⟩, d1, d2, rfl, ⟨e1, e2, rfl, ⟨rfl, w3⟩, rfl, w4⟩, ht⟩ := h
  obtain ⟨At, nt, ct, rfl, _⟩ := id ht
  have hb := Rd.bytes ht
  exact ⟨At, nt, ct, rfl, hb.1, hb.2.1, by have := hb.2.1; have := hb.2.2; rw [tokMax_eq]; omega, w1, w2, w3, w4⟩
/-- The k-th packet of a list. -/
def pkAt (ls : List pkSh.T) (k : Nat) : Pk := match ls[k]? with
  | some x => pkOf x
  | none => zeroPk
theorem pk_at2 {w : World} {A : Option Addr} {n c k : Nat} {ls : List pkSh.T} (r : Rd w (.sl 56 pkSh) [.slice A n c] ls) (hk : k < n) :
    ∃ (g off : Nat) (At : Option Addr) (nt ct : Nat), A = some ⟨g, off, none⟩ ∧ w.cell? ⟨g, off + k * 5, none⟩ = some (.int .i64 (pkAt ls k).fs) ∧ w.cell? ⟨g, off + k * 5 + 1, none⟩ = some (.int .i64 (pkAt ls k).fn) ∧ w.cell? ⟨g, off + k * 5 + 2, none⟩ = some (.int .i64 (pkAt ls k).ts) ∧
      w.cell? ⟨g, off + k * 5 + 3, none⟩ = some (.int .i64 (pkAt ls k).tn) ∧ w.cell? ⟨g, off + k * 5 + 4, none⟩ = some (.slice At nt ct) ∧ SlB w At nt (pkAt ls k).d ∧ nt ≤ ct ∧ nt ≤ tokMax ∧ (pkAt ls k).wf := by
  obtain ⟨_, _, _, _, h⟩ := r.elem
  obtain ⟨g, off, x, xs, rfl, hx1, _, hc, hx⟩ := h k hk
  obtain ⟨At, nt, ct, rfl, hs, h1, h2, h3⟩ := pk_open2 hx
  have e : pkAt ls k = pkOf x := by unfold pkAt; rw [hx1]
  rw [e]
  exact ⟨g, off, At, nt, ct, rfl, hc 0 _ rfl, hc 1 _ rfl, hc 2 _ rfl, hc 3 _ rfl, hc 4 _ rfl, hs, h1, h2, h3⟩
theorem Try.infoInt : (Try.prog.info? 3).map (fun i => (i.zero, i.size, i.bytes)) = some (some (.int .i64 0), 1, 8) := by kernel_rfl
def nV (k : Nat) : Value := .int .i64 (k : Int)
def nsV (l : List Nat) : List Value := l.map nV
theorem nsV_one (l : List Nat) : ∀ u ∈ nsV l, u.oneCell' = true := by
  intro u hu
  simp only [nsV, List.mem_map] at hu
  obtain ⟨b, _, rfl⟩ := hu
  rfl
theorem nsV_length (l : List Nat) : (nsV l).length = l.length := by simp [nsV]
theorem add_range (f : Nat → Pk) (k : Nat) (h : k < 4096) : addL ((List.range k).map f) (f k) = (List.range (k + 1)).map f ∧ sendC ((List.range k).map f) ⟨k, 0, 0⟩ = ⟨((k + 1 : Nat) : Int), 0, 0⟩ ∧ decide (((List.range k).map f).length ≠ 4096) = true := by
  have e : ((List.range k).map f).length ≠ 4096 := by rw [List.length_map, List.length_range]; omega
  unfold addL sendC
  rw [if_neg e, if_neg e]
  refine ⟨by rw [List.range_succ, List.map_append]; rfl, ?_, by simpa using e⟩
  rw [Cnt.mk.injEq]
  exact ⟨by show (k : Int) + 1 = _; omega, rfl, rfl⟩
theorem nsV_at {l : List Nat} {k : Nat} {v : Nat} (h : l[k]? = some v) : (nsV l)[k]? = some (nV v) := by
  rw [nsV, List.getElem?_map, h]; rfl
/-- Is the answer as it must be? -/
theorem look_map {f : Nat → Pk} {lf : List Nat} {t : Int} : (lookP (lf.map f) t = none ∧ (t < 0 ∨ (lf.length : Int) ≤ t)) ∨ ∃ j v : Nat, t = (j : Int) ∧ j < lf.length ∧ lf[j]? = some v ∧ lookP (lf.map f) t = some (f v) := by
  rcases look_cases (lf.map f) t with ⟨h1, h2⟩ | ⟨j, p, rfl, hj, hp, h4⟩
  · exact .inl ⟨h1, by simpa using h2⟩
  · rw [List.length_map] at hj
    rw [List.getElem?_map] at hp
    cases hv : lf[j]? with
    | none => rw [hv] at hp; cases hp
    | some v =>
      rw [hv] at hp
      injection hp with hp
      exact .inr ⟨j, v, rfl, hj, hv, by rw [h4, hp]⟩
abbrev noCut : K4 → Bool := fun _ => false
theorem ownB {A : Option Addr} {n c n' c' : Nat} {b : Nat} (h : (Value.slice A n c).ownBlock = some b) : (Value.slice A n' c').ownBlock = some b := by cases A <;> exact h
/-- What the third loop keeps. -/
def Left (w1 : World) (q : Nat) (f : Nat → Pk) (A : Option Addr) (lf : List Nat) (cn : Cnt) (wr : World) : Prop :=
  Sl wr A lf.length 1 (nsV lf) ∧ NetP (fun b => b < w1.heap.size ∨ (Value.slice A 0 0).ownBlock = some b) wr wr q (lf.map f) noCut cn 0 ∧ Fr (fun b => ¬ b < w1.heap.size) w1 wr
section
variable {w1 wr w' : World} {q : Nat} {f : Nat → Pk} {A : Option Addr} {lf : List Nat} {cn : Cnt}
theorem Left.sl_ (h : Left w1 q f A lf cn wr) (F : Fr (fun b => ¬ (b < w1.heap.size ∨ (Value.slice A 0 0).ownBlock = some b)) wr w') : Sl w' A lf.length 1 (nsV lf) :=
  Sl.keepB h.1 fun b off hn e => F.block b (Sl.blk_lt h.1 hn e) (fun hh => hh (.inr (by rw [e]; rfl)))
theorem Left.fr_ (h : Left w1 q f A lf cn wr) (F : Fr (fun b => ¬ (b < w1.heap.size ∨ (Value.slice A 0 0).ownBlock = some b)) wr w') : Fr (fun b => ¬ b < w1.heap.size) w1 w' :=
  h.2.2.trans F (fun i hi => .inl (fun hh => hi (.inl hh)))
/-- Nothing was taken. -/
theorem Left.stay (h : Left w1 q f A lf cn wr) (h' : NetP (fun b => b < w1.heap.size ∨ (Value.slice A 0 0).ownBlock = some b) wr w' q (lf.map f) noCut cn 0) : Left w1 q f A lf cn w' :=
  ⟨h.sl_ h'.fr, h'.over (Below.refl _ _) (fun b hb => .inl hb), h.fr_ h'.fr⟩
/-- One was taken; the rest is laid anew. -/
theorem Left.next {A' : Option Addr} {lf' : List Nat} {cn' : Cnt} {n' c' : Nat} {w6 : World} (h : Left w1 q f A lf cn wr) (h' : NetP (fun b => b < w1.heap.size ∨ (Value.slice A 0 0).ownBlock = some b) wr w6 q (lf'.map f) noCut cn' 0) (hb : Below w6.heap.size w6 w') (ho : w'.ownsRow w6.heap.size 3 1 (.slice A' n' c') n' (nsV lf')) (hn : n' = lf'.length) : Left w1 q f A' lf' cn' w' := by
  subst hn
  exact ⟨Sl.of_own ho, h'.over hb (fun b hb => hb.imp (fun h => .inl h) (fun h => ho.lt b (ownB h))), (h.fr_ h'.fr).trans (Fr.of_below hb (fp := fun _ => False)) (fun _ h => h.elim)⟩
end
theorem map_erase (f : Nat → Pk) (lf : List Nat) (j : Nat) : (lf.map f).eraseIdx j = (lf.eraseIdx j).map f := by
  simp [List.eraseIdx_eq_take_drop_succ, List.map_append]
theorem nsV_take (l : List Nat) (j : Nat) : (nsV l).take j = nsV (l.take j) := by simp [nsV, List.map_take]
theorem nsV_drop (l : List Nat) (j : Nat) : (nsV l).drop j = nsV (l.drop j) := by simp [nsV, List.map_drop]
theorem nsV_cut (l : List Nat) (j : Nat) : nsV (l.take j) ++ nsV (l.drop (j + 1)) = nsV (l.eraseIdx j) := by
  rw [List.eraseIdx_eq_take_drop_succ, nsV, nsV, nsV, List.map_append]
theorem drop_map (f : Nat → Pk) (lf : List Nat) (k v : Nat) (hv : lf[k]? = some v) : lookP ((lf.drop k).map f) 0 = some (f v) ∧ ((lf.drop k).map f).eraseIdx (0 : Int).toNat = (lf.drop (k + 1)).map f := by
  obtain ⟨hk, e⟩ := List.getElem?_eq_some_iff.1 hv
  rw [List.drop_eq_getElem_cons hk, e]
  exact ⟨rfl, rfl⟩
set_option maxHeartbeats 4000000 in
set_option maxRecDepth 100000 in
theorem netOrder_walk (A0 : Option Addr) (n0 k0 : Nat) (ls : List pkSh.T) (A1 : Option Addr) (n1 k1 : Nat) (ts : List Int) (w : World) (r0 : Rd w (.sl 56 pkSh) [.slice A0 n0 k0] ls) (r1 : Rd w (.sl 8 (.int .i64)) [.slice A1 n1 k1] ts) :
    Calls Try.prog 3 #[.slice A0 n0 k0, .slice A1 n1 k1] w fun e w' => e = .returned (.bool true) ∧ Below w.heap.size w w' := by
  obtain ⟨i0, hi, hz0, hz1, hz2⟩ := info_parts Try.infoInt
  have hR := Lib.hid r0
  obtain ⟨_, hk0, hb0, hm0, _⟩ := r0.elem
  obtain ⟨hT0, hk1, hb1⟩ := Rd.ints r1
  have hT := Lib.hid hT0
  obtain ⟨f, hf⟩ : ∃ f, f = pkAt ls := ⟨_, rfl⟩
  have hP := Lib.hid (fun k (hk : k < n0) => pk_at2 (k := k) r0 hk)
  rw [← hf] at hP
  clear r0 r1 hT0 hf
  have hcase : 4096 < n0 ∨ n0 ≤ 4096 := by omega
  have hn1 : n1 ≤ 140737488351232 := by omega
  go_enter Try.func3, Try.ntmps3
  go_wp2_with fail
  refine (awake_any _).mono ?_
  rintro e w1 ⟨rfl, B1⟩
  rcases hcase with hcase | hcase
  · have d1 : decide (4096 < n0) = true := by simpa using hcase
    have HB1 := Lib.hid B1
    clear B1
    go_wp2_with fail
    refine (awake_any _).mono ?_
    rintro e w2 ⟨rfl, B2⟩
    have HB2 := Lib.hid (HB1.out.trans (B2.mono HB1.out.size))
    clear B2
    go_wp2
    go_ret
    exact ⟨rfl, HB2.out⟩
  · have d1 : decide (4096 < n0) = false := by simp; omega
    have HB1 := Lib.hid B1
    clear B1
    go_wp2_with fail
    refine (newP w1).mono ?_
    rintro e w2 ⟨q, rfl, H2⟩
    have HH2 := Lib.hid (show NetP (fun b => b < w1.heap.size) w1 w2 q ((List.range 0).map f) noCut ⟨((0 : Nat) : Int), 0, 0⟩ 0 from H2)
    clear H2
    go_wp2
    go_loopw [6] (fun i wr => ∃ kk : Nat, i = .int .i64 (kk : Int) ∧ kk ≤ n0 ∧ Hid (NetP (fun b => b < w1.heap.size) w1 wr q ((List.range kk).map f) noCut ⟨(kk : Int), 0, 0⟩ 0)) (fun i _ => n0 - (intOf i).toNat)
    case atStart => exact ⟨0, rfl, Nat.zero_le _, HH2⟩
    case round =>
      obtain ⟨kk, rfl, hkk, HL⟩ := hrel
      clear HH2
      by_cases hlt : kk < n0
      · obtain ⟨g2, o2, At, nt, ct, rfl, c0, c1, c2, c3, c4, hst, hnc, hnt, hwf⟩ := hP.out kk hlt
        have BW := HB1.out.trans ((HL.out.fr.toBelow).mono HB1.out.size)
        have l0 := (BW.cell (World.block_lt_of_cell? w _ c0)).trans c0
        have l1 := (BW.cell (World.block_lt_of_cell? w _ c1)).trans c1
        have l2 := (BW.cell (World.block_lt_of_cell? w _ c2)).trans c2
        have l3 := (BW.cell (World.block_lt_of_cell? w _ c3)).trans c3
        have l4 := (BW.cell (World.block_lt_of_cell? w _ c4)).trans c4
        have CS := sendP (f kk) At nt ct HL.out (by show (kk : Int) < _; omega) hwf (Sl.below hst BW) hnc hnt
        obtain ⟨t1, t2, t3⟩ := add_range f kk (by omega)
        rw [t1, t2, t3] at CS
        have HC := Lib.hid CS
        have i1 : (0 : Int) ≤ (kk : Int) := by omega
        have i2 : (kk : Int) < (n0 : Int) := by omega
        clear CS t1 t2 t3 HL BW c0 c1 c2 c3 c4 hst
        go_wp2_with fail
        refine HC.out.mono ?_
        rintro e w3 ⟨rfl, H3⟩
        have HH3 := Lib.hid H3
        clear H3 HC l0 l1 l2 l3 l4
        go_wp2
        go_roundw
        case rel => exact ⟨kk + 1, by go_num, by omega, HH3⟩
        case measure => simp [intOf]; omega
      · obtain rfl : kk = n0 := by omega
        obtain ⟨ws, rfl⟩ : ∃ ws : World, ws = wr := ⟨_, rfl⟩
        have O0 : ws.ownsRow ws.heap.size 3 1 (.slice none 0 0) 0 (nsV (List.range 0)) := World.ownsRow_nil _ _ _ _
        go_wp2
        go_loopw [7, 8] (fun v i wr => ∃ k2 : Nat, i = .int .i64 (k2 : Int) ∧ k2 ≤ kk ∧ wr.ownsRow ws.heap.size 3 1 v k2 (nsV (List.range k2)) ∧ Below ws.heap.size ws wr) (fun _ i _ => kk - (intOf i).toNat)
        case atStart => exact ⟨0, rfl, Nat.zero_le _, O0, Below.refl _ _⟩
        case round =>
          obtain ⟨k2, rfl, hk2, hown, hbel⟩ := hrel
          clear O0
          by_cases hlt : k2 < kk
          · have hz := hbel.size
            go_wp2_with (at_builtin; refine wpList_append_sl _ rfl (.tmp 44) (.tmp 46) 23 rfl ws.heap.size 3 i0 (.int .i64 0) 1 8 Try.underlying23 hi hz0 hz1 hz2 rfl (by decide) _ k2 (nsV (List.range k2)) rfl (hown.alloc _) (some ⟨wr.heap.size, 0, none⟩) 1 1 [nV k2] rfl (sl_lit _ _ _ _ 1 1 _ rfl rfl rfl) (lit_one rfl) (by unfold maxLen; omega) (by omega) (by simp; omega) ?_)
            intro v3 w3 own3 g3 hv3
            have B3 := below_push hbel hown g3 hz (Nat.le_refl _)
            have e3 : nsV (List.range k2) ++ [nV k2] = nsV (List.range (k2 + 1)) := by rw [List.range_succ, nsV, nsV, List.map_append]; rfl
            rw [e3] at own3
            have HO := Lib.hid (And.intro own3 B3)
            obtain ⟨A3, c3, rfl, _, _⟩ := own_slice own3
            clear own3 B3 e3 g3 hv3 hown hbel
            go_wp2
            go_roundw
            case rel => exact ⟨k2 + 1, by go_num, by omega, HO.out.1, HO.out.2⟩
            case measure => simp [intOf]; omega
          · obtain rfl : k2 = kk := by omega
            obtain ⟨Al, cl, rfl, hcl, hml⟩ := own_slice hown
            have H3 := HL.out.over (K2 := fun b => b < w1.heap.size ∨ (Value.slice Al 0 0).ownBlock = some b) hbel (fun b hb => hb.imp id (fun h => hown.lt b (ownB h)))
            have HS := Lib.hid (show Left w1 q f Al (List.range k2) ⟨(k2 : Int), 0, 0⟩ wr from ⟨by rw [List.length_range]; exact Sl.of_own hown, H3, HL.out.fr.trans (Fr.of_below hbel (fp := fun _ => False)) (fun _ h => h.elim)⟩)
            have hrl : (List.range k2).length = k2 := List.length_range
            have hrm : ∀ v, v ∈ List.range k2 → v < k2 := fun v hv => List.mem_range.1 hv
            have HRL := Lib.hid (And.intro hrl hrm)
            clear hown hbel H3 HL hrl hrm
            go_wp2
            go_loopw [7, 9] (fun v i wr => ∃ (k : Nat) (lf : List Nat) (A : Option Addr) (n c : Nat) (cn : Cnt), i = .int .i64 (k : Int) ∧ v = .slice A n c ∧ n ≤ c ∧ c ≤ maxLen ∧ k ≤ n1 ∧ cn.t ≤ (k : Int) ∧ cn.x ≤ 0 ∧ Hid (n = lf.length ∧ (∀ v, v ∈ lf → v < k2) ∧ Left w1 q f A lf cn wr)) (fun _ i _ => n1 - (intOf i).toNat)
            case atStart => exact ⟨0, _, Al, k2, cl, _, rfl, rfl, hcl, hml, Nat.zero_le _, by show (0 : Int) ≤ _; omega, by show (0 : Int) ≤ _; omega, ⟨HRL.out.1.symm, HRL.out.2, HS.out⟩⟩
            case round =>
              obtain ⟨k, lf, A, n, c, cn, rfl, rfl, hnc, hcm, hk, hct, hcx, HL⟩ := hrel
              clear HS HRL
              have hn4 : n ≤ 4096 := by have := HL.out.2.2.2.1.len; rw [List.length_map] at this; have := HL.out.1; omega
              by_cases hlt : k < n1
              · obtain ⟨bT, oT, uT, rfl, eu, tc⟩ := Sl.at1 hT.out hlt
                obtain ⟨t, ht, rfl⟩ : ∃ t, ts[k]? = some t ∧ .int .i64 t = uT := by simpa [List.getElem?_map, Option.map_eq_some_iff] using eu
                have BW := HB1.out.trans (HL.out.2.2.2.2.toBelow.mono HB1.out.size)
                have tcr := (BW.cell (World.block_lt_of_cell? w _ tc)).trans tc
                have CT := takePP t HL.out.2.2.2.1 (by omega) (by omega)
                have j0 : (0 : Int) ≤ (k : Int) := by omega
                have j1 : (k : Int) < (n1 : Int) := by omega
                clear BW eu
                rcases look_map (f := f) (lf := lf) (t := t) with ⟨hl, hx⟩ | ⟨j, v, rfl, hj, hv, hl⟩
                · obtain ⟨t1, t2, t3, t4⟩ := take_none hl noCut cn
                  rw [t1, t2, t3, t4] at CT
                  have HCT := Lib.hid (show Calls Try.prog 12 #[.pointer (some ⟨q, 0, none⟩), .int .i64 t] wr (fun e w' => ∃ A5 n5 c5, e = .returned (.tuple #[.agg #[.int .i64 0, .int .i64 0, .int .i64 0, .int .i64 0, .slice A5 n5 c5], .bool false]) ∧ NetP (fun b => b < w1.heap.size ∨ (Value.slice A 0 0).ownBlock = some b) wr w' q (lf.map f) noCut cn 0) from CT.mono fun e w' ⟨A5, n5, c5, he, _, _, _, _, h6, _⟩ => ⟨A5, n5, c5, he, h6⟩)
                  have hx' : t < 0 ∨ (n : Int) ≤ t := by have := HL.out.1; omega
                  clear CT t1 t2 t3 t4 hl hx ht
                  rcases hx' with hx | hx
                  · have d2 : decide (0 ≤ t) = false := by simp; omega
                    clear hx
                    go_wp2_with fail
                    refine HCT.out.mono ?_
                    rintro e w5 ⟨A5, n5, c5, rfl, H6⟩
                    have H7 := H6.below ((Below.refl _ w5).alloc (Nat.le_refl _) (.cells #[.int .i64 0, .int .i64 0, .int .i64 0, .int .i64 0, .slice A5 n5 c5] 32))
                    have L7 := HL.out.2.2.stay H7
                    have BW := HB1.out.trans (L7.2.2.toBelow.mono HB1.out.size)
                    have tc5 := (BW.cell (World.block_lt_of_cell? w _ tc)).trans tc
                    have HL7 := Lib.hid (And.intro HL.out.1 (And.intro HL.out.2.1 L7))
                    clear H6 H7 L7 BW HCT HL tcr
                    go_wp2
                    go_roundw
                    case rel => exact ⟨k + 1, lf, A, n, c, cn, by go_num, rfl, hnc, hcm, by omega, by omega, hcx, HL7⟩
                    case measure => simp [intOf]; omega
                  · have d2 : decide (0 ≤ t) = true := by simp; omega
                    have d3 : decide (t < (n : Int)) = false := by simp; omega
                    clear hx
                    go_wp2_with fail
                    refine HCT.out.mono ?_
                    rintro e w5 ⟨A5, n5, c5, rfl, H6⟩
                    have H7 := H6.below ((Below.refl _ w5).alloc (Nat.le_refl _) (.cells #[.int .i64 0, .int .i64 0, .int .i64 0, .int .i64 0, .slice A5 n5 c5] 32))
                    have L7 := HL.out.2.2.stay H7
                    have BW := HB1.out.trans (L7.2.2.toBelow.mono HB1.out.size)
                    have tc5 := (BW.cell (World.block_lt_of_cell? w _ tc)).trans tc
                    have HL7 := Lib.hid (And.intro HL.out.1 (And.intro HL.out.2.1 L7))
                    clear H6 H7 L7 BW HCT HL tcr
                    go_wp2
                    go_roundw
                    case rel => exact ⟨k + 1, lf, A, n, c, cn, by go_num, rfl, hnc, hcm, by omega, by omega, hcx, HL7⟩
                    case measure => simp [intOf]; omega
                · obtain ⟨t1, t2, t3, t4⟩ := take_free hl cn
                  rw [t1, t2, t3, t4, Int.toNat_natCast, map_erase] at CT
                  have hjn : j < n := by have := HL.out.1; omega
                  have hvk := HL.out.2.1 v (List.mem_of_getElem? hv)
                  have HCT := Lib.hid CT
                  clear CT t1 t2 t3 t4 hl ht
                  have d2 : decide ((0 : Int) ≤ (j : Int)) = true := by simp
                  have d3 : decide (j < n) = true := by simpa using hjn
                  go_wp2_with fail
                  refine HCT.out.mono ?_
                  rintro e w5 ⟨A5, n5, c5, rfl, s5, hc5, hn5, o5, H6, -⟩
                  have H7 := H6.below ((Below.refl _ w5).alloc (Nat.le_refl _) (.cells #[.int .i64 (f v).fs, .int .i64 (f v).fn, .int .i64 (f v).ts, .int .i64 (f v).tn, .slice A5 n5 c5] 32))
                  have F7 := HL.out.2.2.fr_ H7.fr
                  have BW := HB1.out.trans (F7.toBelow.mono HB1.out.size)
                  have sl7 := HL.out.2.2.sl_ H7.fr
                  obtain ⟨gl, ol, ul, rfl, eul, cll⟩ := Sl.at1 sl7 hj
                  obtain rfl : nV v = ul := by rw [nsV_at hv] at eul; injection eul
                  obtain ⟨g2, o2, At, nt, ct, rfl, c0, c1, c2, c3, c4, hst, hnc', hnt, hwf⟩ := hP.out v hvk
                  have kb : (w5.alloc (.cells #[.int .i64 (f v).fs, .int .i64 (f v).fn, .int .i64 (f v).ts, .int .i64 (f v).tn, .slice A5 n5 c5] 32)).heap[w5.heap.size]? = some (.cells #[.int .i64 (f v).fs, .int .i64 (f v).fn, .int .i64 (f v).ts, .int .i64 (f v).tn, .slice A5 n5 c5] 32 (0, 0)) := heap_alloc_new _ _
                  have s6 : SlB (w5.alloc (.cells #[.int .i64 (f v).fs, .int .i64 (f v).fn, .int .i64 (f v).ts, .int .i64 (f v).tn, .slice A5 n5 c5] 32)) A5 n5 (f v).d := Sl.alloc s5 _
                  have hst6 : SlB (w5.alloc (.cells #[.int .i64 (f v).fs, .int .i64 (f v).fn, .int .i64 (f v).ts, .int .i64 (f v).tn, .slice A5 n5 c5] 32)) At nt (f v).d := Sl.below hst BW
                  have SX := Lib.hid (fun x : Ext (w5.alloc (.cells #[.int .i64 (f v).fs, .int .i64 (f v).fn, .int .i64 (f v).ts, .int .i64 (f v).tn, .slice A5 n5 c5] 32)) => same_true (f v) A5 At n5 c5 nt ct x.w (Sl.below s6 x.below) (Sl.below hst6 x.below))
                  have y0 := Ext.cell (blk_cell (j := 0) kb rfl)
                  have y1 := Ext.cell (blk_cell (j := 1) kb rfl)
                  have y2 := Ext.cell (blk_cell (j := 2) kb rfl)
                  have y3 := Ext.cell (blk_cell (j := 3) kb rfl)
                  have y4 := Ext.cell (blk_cell (j := 4) kb rfl)
                  have l0 := Ext.cell ((BW.cell (World.block_lt_of_cell? w _ c0)).trans c0)
                  have l1 := Ext.cell ((BW.cell (World.block_lt_of_cell? w _ c1)).trans c1)
                  have l2 := Ext.cell ((BW.cell (World.block_lt_of_cell? w _ c2)).trans c2)
                  have l3 := Ext.cell ((BW.cell (World.block_lt_of_cell? w _ c3)).trans c3)
                  have l4 := Ext.cell ((BW.cell (World.block_lt_of_cell? w _ c4)).trans c4)
                  have xl := Ext.cell (show (w5.alloc (.cells #[.int .i64 (f v).fs, .int .i64 (f v).fn, .int .i64 (f v).ts, .int .i64 (f v).tn, .slice A5 n5 c5] 32)).cell? ⟨gl, ol + j, none⟩ = some (.int .i64 (v : Int)) from cll)
                  have v0 : (0 : Int) ≤ (v : Int) := by omega
                  have v1 : (v : Int) < (k2 : Int) := by omega
                  have tc5 := (BW.cell (World.block_lt_of_cell? w _ tc)).trans tc
                  have yt := Ext.cell tc5
                  have HH7 := Lib.hid (And.intro H7 (And.intro sl7 tc5))
                  clear H6 H7 F7 BW sl7 c0 c1 c2 c3 c4 hst kb s6 hst6 s5 o5 cll eul HCT tcr
                  go_wp2_with fail
                  generalize (w5.alloc (.cells #[.int .i64 (f v).fs, .int .i64 (f v).fn, .int .i64 (f v).ts, .int .i64 (f v).tn, .slice A5 n5 c5] 32)) = wz at *
                  refine wp_region_ext (by kernel_rfl) (by kernel_rfl) ?_
                  repeat (go_big_quiet_step (first
                    | (go_at_call 13; exact Calls.ext_of (SX.out _))))
                  refine wpQuiet_nil ?_
                  intro w6 hw6
                  have b6 := ext_end hw6
                  have H8 := HH7.out.1.below b6
                  have sl8 := Sl.below HH7.out.2.1 b6
                  have tc6 := (b6.cell (World.block_lt_of_cell? _ _ HH7.out.2.2)).trans HH7.out.2.2
                  have st8 := Sl.take sl8 (k := j) (by omega)
                  rw [Nat.mul_one, nsV_take] at st8
                  have sd8 := Sl.cut sl8 (k := j + 1) (cap := c) (by omega) (by have := HL.out.1; omega)
                  rw [Nat.mul_one, nsV_drop, ← HL.out.1] at sd8
                  have HH8 := Lib.hid H8
                  clear hw6 b6 H8 y0 y1 y2 y3 y4 l0 l1 l2 l3 l4 xl yt SX HH7 sl8 tc5
                  by_cases hcc : c = j + 1
                  · rw [if_pos hcc] at sd8
                    subst hcc
                    have HT8 := Lib.hid (And.intro st8 sd8)
                    clear st8 sd8
                    go_wp2_with (at_builtin; (refine wpList_append_sl _ rfl (.tmp 94) (.tmp 100) 23 rfl w6.heap.size 3 i0 (.int .i64 0) 1 8 Try.underlying23 hi hz0 hz1 hz2 rfl (by decide) (.slice none 0 0) 0 [] rfl (World.ownsRow_nil _ _ _ _) (some ⟨gl, ol, none⟩) j (j + 1) (nsV (lf.take j)) rfl HT8.out.1 (nsV_one _) (by unfold maxLen; omega) (by omega) (Nat.le_refl _) ?_))
                    intro v7 w7 own7 g7 hv7
                    (try simp only [Nat.zero_add, List.nil_append] at own7)
                    have B7 : Below w6.heap.size w6 w7 := (Below.refl _ _).grown g7 (Nat.le_refl _) (fun q hq => by simp [Value.ownBlock] at hq)
                    obtain ⟨A7, c7, rfl, hc7, hm7⟩ := own_slice own7
                    have hM : n - (j + 1) = 0 := by omega
                    have sd7 : Sl w7 (some ⟨gl, ol, none⟩) 0 1 (nsV (lf.drop (j + 1))) := hM ▸ Sl.below HT8.out.2 B7
                    clear hM
                    have HO7 := Lib.hid (And.intro B7 own7)
                    have tc7 := (B7.cell (World.block_lt_of_cell? w6 _ tc6)).trans tc6
                    have hz7 := B7.size
                    clear hv7 g7 B7 hc7 hm7
                    go_wp2_with (at_builtin; refine wpList_append_sl _ rfl (.tmp 102) (.tmp 109) 23 rfl w6.heap.size 3 i0 (.int .i64 0) 1 8 Try.underlying23 hi hz0 hz1 hz2 rfl (by decide) (.slice A7 j c7) j (nsV (lf.take j)) rfl own7 (some ⟨gl, ol, none⟩) 0 0 (nsV (lf.drop (j + 1))) rfl sd7 (nsV_one _) (by unfold maxLen; omega) (by omega) hz7 ?_)
                    intro v8 w8 own8 g8 hv8
                    rw [nsV_cut] at own8
                    have B8 := HO7.out.1.grown g8 HO7.out.1.size (fun q hq => (own7.lt q hq).1)
                    obtain ⟨A8, c8, rfl, hc8, hm8⟩ := own_slice own8
                    have hlen : j + 0 = (lf.eraseIdx j).length := by rw [List.length_eraseIdx_of_lt hj]; have := HL.out.1; omega
                    have L8 := HL.out.2.2.next HH8.out B8 own8 hlen
                    have HN := Lib.hid (And.intro hlen (And.intro (fun u (hu : u ∈ lf.eraseIdx j) => HL.out.2.1 u (List.mem_of_mem_eraseIdx hu)) L8))
                    clear hlen L8 own7 own8 g8 hv8 B8 HO7 HT8 HH8 sd7 HL tc6 tc7
                    go_wp2
                    go_roundw
                    case rel => exact ⟨k + 1, lf.eraseIdx j, A8, j + 0, c8, { cn with t := cn.t + 1 }, by go_num, rfl, hc8, hm8, by omega, by show cn.t + 1 ≤ _; omega, hcx, HN⟩
                    case measure => simp [intOf]; omega
                  · rw [if_neg hcc] at sd8
                    have HT8 := Lib.hid (And.intro st8 (show Sl w6 (some ⟨gl, ol + (j + 1), none⟩) (n - (j + 1)) 1 (nsV (lf.drop (j + 1))) from by simpa [add_plain'] using sd8))
                    clear st8 sd8
                    go_wp2_with (at_builtin; (refine wpList_append_sl _ rfl (.tmp 94) (.tmp 100) 23 rfl w6.heap.size 3 i0 (.int .i64 0) 1 8 Try.underlying23 hi hz0 hz1 hz2 rfl (by decide) (.slice none 0 0) 0 [] rfl (World.ownsRow_nil _ _ _ _) (some ⟨gl, ol, none⟩) j c (nsV (lf.take j)) rfl HT8.out.1 (nsV_one _) (by unfold maxLen; omega) (by omega) (Nat.le_refl _) ?_))
                    intro v7 w7 own7 g7 hv7
                    (try simp only [Nat.zero_add, List.nil_append] at own7)
                    have B7 : Below w6.heap.size w6 w7 := (Below.refl _ _).grown g7 (Nat.le_refl _) (fun q hq => by simp [Value.ownBlock] at hq)
                    obtain ⟨A7, c7, rfl, hc7, hm7⟩ := own_slice own7
                    have hM : n - (j + 1) = (n - (j + 1)) := by omega
                    have sd7 : Sl w7 (some ⟨gl, ol + (j + 1), none⟩) (n - (j + 1)) 1 (nsV (lf.drop (j + 1))) := hM ▸ Sl.below HT8.out.2 B7
                    clear hM
                    have HO7 := Lib.hid (And.intro B7 own7)
                    have tc7 := (B7.cell (World.block_lt_of_cell? w6 _ tc6)).trans tc6
                    have hz7 := B7.size
                    clear hv7 g7 B7 hc7 hm7
                    go_wp2_with (at_builtin; refine wpList_append_sl _ rfl (.tmp 102) (.tmp 109) 23 rfl w6.heap.size 3 i0 (.int .i64 0) 1 8 Try.underlying23 hi hz0 hz1 hz2 rfl (by decide) (.slice A7 j c7) j (nsV (lf.take j)) rfl own7 (some ⟨gl, ol + (j + 1), none⟩) (n - (j + 1)) (c - (j + 1)) (nsV (lf.drop (j + 1))) rfl sd7 (nsV_one _) (by unfold maxLen; omega) (by omega) hz7 ?_)
                    intro v8 w8 own8 g8 hv8
                    rw [nsV_cut] at own8
                    have B8 := HO7.out.1.grown g8 HO7.out.1.size (fun q hq => (own7.lt q hq).1)
                    obtain ⟨A8, c8, rfl, hc8, hm8⟩ := own_slice own8
                    have hlen : j + (n - (j + 1)) = (lf.eraseIdx j).length := by rw [List.length_eraseIdx_of_lt hj]; have := HL.out.1; omega
                    have L8 := HL.out.2.2.next HH8.out B8 own8 hlen
                    have HN := Lib.hid (And.intro hlen (And.intro (fun u (hu : u ∈ lf.eraseIdx j) => HL.out.2.1 u (List.mem_of_mem_eraseIdx hu)) L8))
                    clear hlen L8 own7 own8 g8 hv8 B8 HO7 HT8 HH8 sd7 HL tc6 tc7
                    go_wp2
                    go_roundw
                    case rel => exact ⟨k + 1, lf.eraseIdx j, A8, j + (n - (j + 1)), c8, { cn with t := cn.t + 1 }, by go_num, rfl, hc8, hm8, by omega, by show cn.t + 1 ≤ _; omega, hcx, HN⟩
                    case measure => simp [intOf]; omega
              · obtain rfl : k = n1 := by omega
                obtain ⟨wh, rfl⟩ : ∃ wh : World, wh = wr := ⟨_, rfl⟩
                have HI0 := Lib.hid (show NetP (fun b => b < w1.heap.size ∨ (Value.slice A 0 0).ownBlock = some b) wh wh q ((lf.drop 0).map f) noCut { cn with t := cn.t + ((0 : Nat) : Int) } 0 from by
                  have e : ({ cn with t := cn.t + ((0 : Nat) : Int) } : Cnt) = cn := by simp
                  rw [e]
                  exact HL.out.2.2.2.1)
                go_wp2
                go_loopw [13] (fun i wr => ∃ k3 : Nat, i = .int .i64 (k3 : Int) ∧ k3 ≤ n ∧ Hid (NetP (fun b => b < w1.heap.size ∨ (Value.slice A 0 0).ownBlock = some b) wh wr q ((lf.drop k3).map f) noCut { cn with t := cn.t + (k3 : Int) } 0)) (fun i _ => n - (intOf i).toNat)
                case atStart => exact ⟨0, rfl, Nat.zero_le _, HI0⟩
                case round =>
                  obtain ⟨j, rfl, hjn, HI⟩ := hrel
                  clear HI0
                  by_cases hlt : j < n
                  · have hj : j < lf.length := by have := HL.out.1; omega
                    obtain ⟨v, hv⟩ : ∃ v, lf[j]? = some v := ⟨_, List.getElem?_eq_getElem hj⟩
                    have hvk := HL.out.2.1 v (List.mem_of_getElem? hv)
                    obtain ⟨hl, hd⟩ := drop_map f lf j v hv
                    obtain ⟨t1, t2, t3, t4⟩ := take_free hl { cn with t := cn.t + (j : Int) }
                    have CT := takePP 0 HI.out (by show cn.x < _; omega) (by show cn.t + (j : Int) < _; omega)
                    rw [t1, t2, t3, t4, hd] at CT
                    have HCT := Lib.hid CT
                    clear CT t1 t2 t3 t4 hl hd HI
                    go_wp2_with fail
                    refine HCT.out.mono ?_
                    rintro e w5 ⟨A5, n5, c5, rfl, s5, hc5, hn5, o5, H6, -⟩
                    have H7 := H6.below ((Below.refl _ w5).alloc (Nat.le_refl _) (.cells #[.int .i64 (f v).fs, .int .i64 (f v).fn, .int .i64 (f v).ts, .int .i64 (f v).tn, .slice A5 n5 c5] 32))
                    have F7 := HL.out.2.2.fr_ H7.fr
                    have BW := HB1.out.trans (F7.toBelow.mono HB1.out.size)
                    have sl7 := HL.out.2.2.sl_ H7.fr
                    obtain ⟨gl, ol, ul, rfl, eul, cll⟩ := Sl.at1 sl7 hj
                    obtain rfl : nV v = ul := by rw [nsV_at hv] at eul; injection eul
                    obtain ⟨g2, o2, At, nt, ct, rfl, c0, c1, c2, c3, c4, hst, hnc', hnt, hwf⟩ := hP.out v hvk
                    have kb : (w5.alloc (.cells #[.int .i64 (f v).fs, .int .i64 (f v).fn, .int .i64 (f v).ts, .int .i64 (f v).tn, .slice A5 n5 c5] 32)).heap[w5.heap.size]? = some (.cells #[.int .i64 (f v).fs, .int .i64 (f v).fn, .int .i64 (f v).ts, .int .i64 (f v).tn, .slice A5 n5 c5] 32 (0, 0)) := heap_alloc_new _ _
                    have s6 : SlB (w5.alloc (.cells #[.int .i64 (f v).fs, .int .i64 (f v).fn, .int .i64 (f v).ts, .int .i64 (f v).tn, .slice A5 n5 c5] 32)) A5 n5 (f v).d := Sl.alloc s5 _
                    have hst6 : SlB (w5.alloc (.cells #[.int .i64 (f v).fs, .int .i64 (f v).fn, .int .i64 (f v).ts, .int .i64 (f v).tn, .slice A5 n5 c5] 32)) At nt (f v).d := Sl.below hst BW
                    have SX := Lib.hid (fun x : Ext (w5.alloc (.cells #[.int .i64 (f v).fs, .int .i64 (f v).fn, .int .i64 (f v).ts, .int .i64 (f v).tn, .slice A5 n5 c5] 32)) => same_true (f v) A5 At n5 c5 nt ct x.w (Sl.below s6 x.below) (Sl.below hst6 x.below))
                    have y0 := Ext.cell (blk_cell (j := 0) kb rfl)
                    have y1 := Ext.cell (blk_cell (j := 1) kb rfl)
                    have y2 := Ext.cell (blk_cell (j := 2) kb rfl)
                    have y3 := Ext.cell (blk_cell (j := 3) kb rfl)
                    have y4 := Ext.cell (blk_cell (j := 4) kb rfl)
                    have l0 := Ext.cell ((BW.cell (World.block_lt_of_cell? w _ c0)).trans c0)
                    have l1 := Ext.cell ((BW.cell (World.block_lt_of_cell? w _ c1)).trans c1)
                    have l2 := Ext.cell ((BW.cell (World.block_lt_of_cell? w _ c2)).trans c2)
                    have l3 := Ext.cell ((BW.cell (World.block_lt_of_cell? w _ c3)).trans c3)
                    have l4 := Ext.cell ((BW.cell (World.block_lt_of_cell? w _ c4)).trans c4)
                    have xl := Ext.cell (show (w5.alloc (.cells #[.int .i64 (f v).fs, .int .i64 (f v).fn, .int .i64 (f v).ts, .int .i64 (f v).tn, .slice A5 n5 c5] 32)).cell? ⟨gl, ol + j, none⟩ = some (.int .i64 (v : Int)) from cll)
                    have v0 : (0 : Int) ≤ (v : Int) := by omega
                    have v1 : (v : Int) < (k2 : Int) := by omega
                    have HH7 := Lib.hid H7
                    have z0 : (0 : Int) ≤ (j : Int) := by omega
                    have z1 : (j : Int) < (n : Int) := by omega
                    clear H6 H7 F7 BW sl7 c0 c1 c2 c3 c4 hst kb s6 hst6 s5 o5 cll eul HCT
                    go_wp2_with fail
                    generalize (w5.alloc (.cells #[.int .i64 (f v).fs, .int .i64 (f v).fn, .int .i64 (f v).ts, .int .i64 (f v).tn, .slice A5 n5 c5] 32)) = wz at *
                    refine wp_region_ext (by kernel_rfl) (by kernel_rfl) ?_
                    repeat (go_big_quiet_step (first
                      | (go_at_call 13; exact Calls.ext_of (SX.out _))))
                    refine wpQuiet_nil ?_
                    intro w6 hw6
                    have b6 := ext_end hw6
                    have H8 := HH7.out.below b6
                    rw [show ({ cn with t := cn.t + (j : Int) + 1 } : Cnt) = { cn with t := cn.t + ((j + 1 : Nat) : Int) } by rw [Cnt.mk.injEq]; exact ⟨rfl, by omega, rfl⟩] at H8
                    have HH8 := Lib.hid H8
                    clear hw6 b6 H8 y0 y1 y2 y3 y4 l0 l1 l2 l3 l4 xl SX HH7
                    go_wp2
                    go_roundw
                    case rel => exact ⟨j + 1, by go_num, by omega, HH8⟩
                    case measure => simp [intOf]; omega
                  · obtain rfl : j = n := by omega
                    have CL := lenP HI.out
                    rw [show ((lf.drop j).map f).length = 0 by rw [List.length_map, List.length_drop]; have := HL.out.1; omega] at CL
                    have HCL := Lib.hid (show Calls Try.prog 14 #[.pointer (some ⟨q, 0, none⟩)] wr (fun e w' => e = .returned (.int .i64 0) ∧ wr = w') from CL)
                    have HF := Lib.hid (HB1.out.trans ((HL.out.2.2.fr_ HI.out.fr).toBelow.mono HB1.out.size))
                    clear CL HI
                    go_wp2_with fail
                    refine HCL.out.mono ?_
                    rintro e w' ⟨rfl, rfl⟩
                    go_wp2
                    go_ret
                    exact ⟨rfl, HF.out⟩
end Go.Proofs.Ytcdbpimpmhfkhaa
