/-
  firthlaw13.SealOpens and SealOnly: the walks.
-/
import Derived.Test.YtlhcohpcjleekaaSealSealsWalk
namespace Go.Proofs.Ytlhcohpcjleekaa
open Go.RowKit
set_option linter.unusedVariables false

/-- The cases of what is opened. -/
theorem openE_cases (s : ByteArray) (g : Int) (b : List UInt8) : ((openE s g b).1 = [] ∧ ((openE s g b).2 = 0 → b.length = 0)) ∨ ((openE s g b).2 = 0 ∧ rightS (openE s g b).1 = true ∧ mayB s g = true ∧ b = bodyB g (openE s g b).1 ++ markB s (bodyB g (openE s g b).1)) := by
  cases hM : mayB s g
  · rw [openE_may hM]; exact .inl ⟨rfl, fun h => by cases h⟩
  · by_cases h0 : b.length = 0
    · rw [openE_nil hM h0]; exact .inl ⟨rfl, fun _ => h0⟩
    · by_cases h9 : b.length < 9
      · rw [openE_short hM h0 h9]; exact .inl ⟨rfl, fun h => by cases h⟩
      · cases hi : innerR (b.take (b.length - 8)) with
        | none => rw [openE_bad hM h9 hi]; exact .inl ⟨rfl, fun h => by cases h⟩
        | some p =>
          obtain ⟨g', l⟩ := p
          rw [openE_at hM h9 hi]
          obtain ⟨h1, h2, h3⟩ := innerR_some.1 hi
          by_cases hg : (g' : Int) = g
          · rw [if_neg (by simpa using hg)]
            by_cases hm : b.drop (b.length - 8) = markB s (b.take (b.length - 8))
            · rw [if_neg (by simpa using hm)]
              refine .inr ⟨rfl, h2, rfl, ?_⟩
              show b = bodyB g l ++ markB s (bodyB g l)
              rw [← hg, ← h3, ← hm, List.take_append_drop]
            · rw [if_pos hm]; exact .inl ⟨rfl, fun h => by cases h⟩
          · rw [if_pos hg]; exact .inl ⟨rfl, fun h => by cases h⟩
theorem openE_len (s : ByteArray) (g : Int) (b : List UInt8) : (openE s g b).1.length ≤ 1024 := by
  rcases openE_cases s g b with ⟨h, _⟩ | ⟨_, h, _⟩
  · rw [h]; simp
  · exact (rightS_true.1 h).2
set_option maxHeartbeats 4000000 in
set_option maxRecDepth 100000 in
theorem sealOpens_any (s : ByteArray) (g : Int) (A : Option Addr) (n c : Nat) (b : List UInt8) (w : World) (hz : s.size ≤ 140737488351232) (hb : SlB w A n b) (hc : n ≤ c) (hn : n ≤ 2000000) :
    Calls Try.prog 4 #[.agg #[.string s, .int .i64 g], .slice A n c] w fun e w' => e = .returned (.bool true) ∧ Below w.heap.size w w' := by
  have bA := (Below.refl w.heap.size w).alloc (Nat.le_refl _) (.cells #[.string s, .int .i64 g] 23)
  have HK := Lib.hid (BoxK.new w s g)
  have HA := Lib.hid bA
  have C1 := Lib.hid (fun (W : World) (bl : Below w.heap.size w W) => sealOpen_any s g A n c b W (hb.below bl) hc (by omega) hz)
  have C2 := Lib.hid (fun (W : World) (bl : Below w.heap.size w W) => refOpen_any s g A n c b W (hb.below bl) hc (by omega) hz)
  have hTl := openE_len s g b
  obtain ⟨T, hT⟩ : ∃ T, (openE s g b).1 = T := ⟨_, rfl⟩
  obtain ⟨x, hx⟩ : ∃ x, (openE s g b).2 = x := ⟨_, rfl⟩
  rw [hT, hx] at C1 C2
  rw [hT] at hTl
  have k0 := HK.out.c0
  have k1 := HK.out.c1
  have C5 := Lib.hid (fun W : World => awakeS_any W)
  clear hb bA hT hx
  go_enter Try.func4, Try.ntmps4
  go_wp2_with fail
  refine (C1.out _ HA.out).mono ?_
  rintro e w1 ⟨A1, n1, c1, rfl, s1, hc1, b1⟩
  have hl1 := s1.1
  rw [spV_length] at hl1
  have HB1 := Lib.hid (HA.out.trans (b1.mono HA.out.size))
  have HK1 := Lib.hid (HK.out.below b1)
  have HS1 := Lib.hid (show SlS w1 A1 n1 T from Sl.of_own s1)
  clear b1 s1 k0 k1
  have k0 := HK1.out.c0
  have k1 := HK1.out.c1
  go_wp2_with fail
  refine (C2.out _ HB1.out).mono ?_
  rintro e w2 ⟨A2, n2, c2, rfl, s2, hc2, b2⟩
  have HB2 := Lib.hid (HB1.out.trans (b2.mono HB1.out.size))
  have HS2 := Lib.hid (show SlS w2 A1 n1 T from Sl.below HS1.out b2)
  have HT2 := Lib.hid (show SlS w2 A2 n2 T from Sl.of_own s2)
  clear b2 s2 k0 k1
  go_wp2_with fail
  refine (C5.out _).mono ?_
  rintro e w3 ⟨rfl, b3⟩
  have HB3 := Lib.hid (HB2.out.trans (b3.mono HB2.out.size))
  have hm := HS1.out.len
  have c6 := sameS_any A1 A2 n1 n2 c1 c2 T T w3 (Sl.below HS2.out b3) (Sl.below HT2.out b3) (by omega)
  rw [show (T == T) = true from by simp] at c6
  have C6 := Lib.hid c6
  clear b3 c6 C1 C2 C5 hm
  go_wp2_with fail
  refine C6.out.mono ?_
  rintro e w4 ⟨rfl, k4, rfl⟩
  go_wp2
  go_ret
  exact ⟨rfl, below_drewN HB3.out k4⟩
set_option maxRecDepth 100000 in
theorem sealOpens_walk (a0 : List Value) (x0 : keySh.T) (a1 : Option Addr) (len1 cap1 : Nat) (l1 : List UInt8) (w : World)
    (t0 : Rd w keySh a0 x0) (u0 : shB keySh x0 ≤ 1048576) (s1 : SlB w a1 len1 l1) (b1 : len1 ≤ cap1) (z1 : cap1 * 1 ≤ 140737488351232) (hsum : cap1 ≤ 1048576) :
    Calls Try.prog 4 #[.agg a0.toArray, .slice a1 len1 cap1] w fun e w' => e = .returned (.bool true) ∧ Below w.heap.size w w' := by
  obtain ⟨s, g, rfl, rfl, hz, hg0, hg1⟩ := key_open t0
  exact sealOpens_any s g a1 len1 cap1 l1 w hz s1 b1 (by omega)
set_option maxHeartbeats 4000000 in
set_option maxRecDepth 100000 in
theorem sealOnly_any (s : ByteArray) (g : Int) (A : Option Addr) (n c : Nat) (b : List UInt8) (w : World) (hz : s.size ≤ 140737488351232) (hg : g ≤ 9223372036854775807) (hb : SlB w A n b) (hc : n ≤ c) (hn : n ≤ 2000000) :
    Calls Try.prog 6 #[.agg #[.string s, .int .i64 g], .slice A n c] w fun e w' => e = .returned (.bool true) ∧ Below w.heap.size w w' := by
  have bA := (Below.refl w.heap.size w).alloc (Nat.le_refl _) (.cells #[.string s, .int .i64 g] 23)
  have HK := Lib.hid (BoxK.new w s g)
  have HA := Lib.hid bA
  have C1 := Lib.hid (fun (W : World) (bl : Below w.heap.size w W) => sealOpen_any s g A n c b W (hb.below bl) hc (by omega) hz)
  have HBB := Lib.hid hb
  have hbl := hb.len
  have hTl := openE_len s g b
  have hcs := openE_cases s g b
  obtain ⟨T, hT⟩ : ∃ T, (openE s g b).1 = T := ⟨_, rfl⟩
  obtain ⟨x, hx⟩ : ∃ x, (openE s g b).2 = x := ⟨_, rfl⟩
  rw [hT, hx] at C1
  rw [hT, hx] at hcs
  rw [hT] at hTl
  have HCS := Lib.hid hcs
  have k0 := HK.out.c0
  have k1 := HK.out.c1
  have C5 := Lib.hid (fun W : World => awakeS_any W)
  clear hb bA hT hx hcs
  go_enter Try.func6, Try.ntmps6
  go_wp2_with fail
  refine (C1.out _ HA.out).mono ?_
  rintro e w1 ⟨A1, n1, c1, rfl, s1, hc1, b1⟩
  have hl1 := s1.1
  rw [spV_length] at hl1
  have hl2 : T.length = n1 := by omega
  have HB1 := Lib.hid (HA.out.trans (b1.mono HA.out.size))
  have HK1 := Lib.hid (HK.out.below b1)
  have HS1 := Lib.hid (show SlS w1 A1 n1 T from Sl.of_own s1)
  clear b1 s1 k0 k1 hl1
  go_wp2_with fail
  refine (C5.out _).mono ?_
  rintro e w2 ⟨rfl, b2⟩
  have HB2 := Lib.hid (HB1.out.trans (b2.mono HB1.out.size))
  have HK2 := Lib.hid (HK1.out.below b2)
  have HS2 := Lib.hid (show SlS w2 A1 n1 T from Sl.below HS1.out b2)
  clear b2
  by_cases hcase : T = [] ∧ (x = 0 → b.length = 0)
  · have h0 : n1 = 0 := by rw [← hl2, hcase.1]; rfl
    have hx2 : x ≠ 0 ∨ n = 0 := by
      by_cases hx : x = 0
      · exact .inr (by have := hcase.2 hx; omega)
      · exact .inl hx
    subst h0
    clear hcase hl2
    by_cases hx0 : x = 0
    · subst hx0
      have hn0 : n = 0 := by omega
      subst hn0
      clear hx2
      go_wp2_with fail
      refine (C5.out _).mono ?_
      rintro e w3 ⟨rfl, b3⟩
      have HB3 := Lib.hid (HB2.out.trans (b3.mono HB2.out.size))
      clear b3
      go_wp2
      go_ret
      exact ⟨rfl, HB3.out⟩
    · have q1 : (x == 0) = false := beq_eq_false_iff_ne.2 hx0
      have q2 : (x != 0) = true := bne_iff_ne.2 hx0
      clear hx2
      go_wp2_with fail
      refine (C5.out _).mono ?_
      rintro e w3 ⟨rfl, b3⟩
      have HB3 := Lib.hid (HB2.out.trans (b3.mono HB2.out.size))
      clear b3
      go_wp2
      go_ret
      exact ⟨rfl, HB3.out⟩
  · obtain ⟨h1, h2, h3, h4⟩ := HCS.out.resolve_left hcase
    subst h1
    have hmk := markB_len s (bodyB g T)
    have h5 := congrArg List.length h4
    rw [List.length_append, hmk] at h5
    have hn8 : 8 ≤ n := by omega
    have q1 : ((n : Int) == 0) = false := by rw [beq_eq_false_iff_ne]; omega
    have c6 := seal_any s g A1 n1 c1 T w2 HS2.out (by omega) hz hg
    rw [sealE_yes ⟨h3, h2⟩, ← h4] at c6
    have C6 := Lib.hid c6
    have k0 := HK2.out.c0
    have k1 := HK2.out.c1
    clear hcase h2 h3 h4 h5 hmk c6
    go_wp2_with fail
    refine C6.out.mono ?_
    rintro e w3 ⟨A3, n3, c3, rfl, s3, -, -, b3, -⟩
    have HB3 := Lib.hid (HB2.out.trans (b3.mono HB2.out.size))
    have e1 := bytes_conv s3 c3
    have e2 := bytes_conv (HBB.out.below HB3.out) c
    clear s3 b3 k0 k1
    go_wp2
    go_ret
    exact ⟨rfl, HB3.out⟩
set_option maxRecDepth 100000 in
theorem sealOnly_walk (a0 : List Value) (x0 : keySh.T) (a1 : Option Addr) (len1 cap1 : Nat) (l1 : List UInt8) (w : World)
    (t0 : Rd w keySh a0 x0) (u0 : shB keySh x0 ≤ 1048576) (s1 : SlB w a1 len1 l1) (b1 : len1 ≤ cap1) (z1 : cap1 * 1 ≤ 140737488351232) (hsum : cap1 ≤ 1048576) :
    Calls Try.prog 6 #[.agg a0.toArray, .slice a1 len1 cap1] w fun e w' => e = .returned (.bool true) ∧ Below w.heap.size w w' := by
  obtain ⟨s, g, rfl, rfl, hz, hg0, hg1⟩ := key_open t0
  exact sealOnly_any s g a1 len1 cap1 l1 w hz hg1 s1 b1 (by omega)
end Go.Proofs.Ytlhcohpcjleekaa
