/-
  seal.Mark and firthref13.Mark: the mark of bytes by a secret.
-/
import Derived.Test.YtlhcohpcjleekaaSealHash
import Derived.Test.YtlhcohpcjleekaaNumSame
import Derived.Test.YtlhcohpcjleekaaAcc
namespace Go.Proofs.Ytlhcohpcjleekaa
open Go.RowKit
set_option linter.unusedVariables false

theorem hashB_u64 (l : List UInt8) : ∃ z, hashB l = IntKind.u64.wrap z := ⟨_, rfl⟩
theorem hashB_bd (l : List UInt8) : 0 ≤ hashB l ∧ 0 ≤ hashB l / 4294967296 ∧ hashB l / 4294967296 ≤ 4294967295 ∧ bits .and .u64 (hashB l) 4294967295 = hashB l % 4294967296 := by
  obtain ⟨z, hz⟩ := hashB_u64 l
  rw [hz]
  have h1 : 0 ≤ IntKind.u64.wrap z ∧ IntKind.u64.wrap z < 18446744073709551616 := by rw [IntKind.wrap_u64]; omega
  generalize IntKind.u64.wrap z = x at h1
  refine ⟨h1.1, by omega, by omega, ?_⟩
  rw [u64_and x 4294967295 h1.1 h1.2 (by omega) (by omega)]
  have := Nat.and_two_pow_sub_one_eq_mod x.toNat 32
  rw [show (4294967295 : Int).toNat = 2 ^ 32 - 1 from rfl, this]
  omega
/-- A text's bytes with its length ahead. -/
def txB (s : ByteArray) : List UInt8 := putNum s.size ++ s.data.toList
def mark2 (s l : List UInt8) : Int := hashB (s ++ putNum (hashB (s ++ l) / 4294967296) ++ putNum (hashB (s ++ l) % 4294967296) ++ s)
def byteAt (h : Int) (i : Nat) : UInt8 := UInt8.ofNat (h.toNat / 2 ^ (56 - 8 * i))
def mark8 (h : Int) : List UInt8 := (List.range 8).map (byteAt h)
def markB (s : ByteArray) (l : List UInt8) : List UInt8 := mark8 (mark2 (txB s) l)
theorem txB_len (s : ByteArray) : (txB s).length ≤ s.size + 9 ∧ 1 ≤ (txB s).length := by
  unfold txB
  rw [List.length_append]
  have := putNum_len (s.size : Int)
  have h2 : s.data.toList.length = s.size := by simp
  omega
theorem mark2_bd (s l : List UInt8) : 0 ≤ mark2 s l := (hashB_bd _).1
theorem byte_at_val {g : Int} (h : 0 ≤ g) (k : Nat) : Value.int .u8 (g / 2 ^ (56 - 8 * k) % 256) = bV (byteAt g k) := by
  obtain ⟨G, rfl⟩ := Int.eq_ofNat_of_zero_le h
  unfold byteAt bV
  congr 1
/-- What Mark answers. -/
def MarkAns (w : World) (l : List UInt8) (e : Ending) (w' : World) : Prop := ∃ A c, e = .returned (.slice A 8 c) ∧ 8 ≤ c ∧ SlB w' A 8 l ∧ Below w.heap.size w w'
set_option maxHeartbeats 2000000 in
set_option maxRecDepth 100000 in
theorem mark_any (s : ByteArray) (A : Option Addr) (n c : Nat) (l : List UInt8) (w : World) (hs : SlB w A n l) (hn : n ≤ 100000000000000) (hz : s.size ≤ 10000000000000) :
    Calls Try.prog 12 #[.string s, .slice A n c] w (MarkAns w (markB s l)) := by
  have hll := hs.len
  have ht := txB_len s
  have HS := Lib.hid hs
  have C1 := Lib.hid (putText_any s w (by omega))
  clear hs
  go_enter Try.func12, Try.ntmps12
  go_wp2_with fail
  refine C1.out.mono ?_
  intro e w1 h1
  obtain ⟨A1, n1, c1, rfl, s1, hc1, hm1, b1, -⟩ := h1.read
  have hn1b : n1 ≤ s.size + 9 := by have : (txB s).length = n1 := s1.len; omega
  have HS1 := Lib.hid (show SlB w1 A1 n1 (txB s) from s1)
  have HB1 := Lib.hid b1
  clear C1 h1 b1 s1
  have bA := (Below.refl w1.heap.size w1).alloc (Nat.le_refl _) (.cells #[.slice A1 n1 c1, .slice A n c] 25)
  have C2 := Lib.hid (sealHash_any (some ⟨w1.heap.size, 0, none⟩) 2 2 [⟨A1, n1, c1, txB s⟩, ⟨A, n, c, l⟩] _ (sl_lit w1 #[.slice A1 n1 c1, .slice A n c] 25 w1.heap.size 2 1 _ rfl rfl rfl) (fun p hp => by
    simp only [List.mem_cons, List.mem_nil_iff, or_false] at hp
    rcases hp with rfl | rfl
    · exact HS1.out.below bA
    · exact (HS.out.below HB1.out).below bA) (by omega) (by simp; omega))
  have HA := Lib.hid (HB1.out.trans (bA.mono HB1.out.size))
  have HSA := Lib.hid (HS1.out.below bA)
  clear bA
  go_wp2_with fail
  refine C2.out.mono ?_
  rintro e w2 ⟨rfl, b2⟩
  have HB2 := Lib.hid (HA.out.trans (b2.mono HA.out.size))
  have HS2 := Lib.hid (HSA.out.below b2)
  simp only [List.flatMap_cons, List.flatMap_nil, List.append_nil]
  have hd := hashB_bd (txB s ++ l)
  obtain ⟨h, hh⟩ : ∃ h, hashB (txB s ++ l) = h := ⟨_, rfl⟩
  rw [hh] at hd ⊢
  obtain ⟨d0, d1, d2, d3⟩ := hd
  have d4 : 0 ≤ h % 4294967296 := by omega
  have d5 : h % 4294967296 ≤ 4294967295 := by omega
  have HH := Lib.hid hh
  have C3 := Lib.hid (fun W : World => putNum_any (h / 4294967296) W (by omega))
  have C4 := Lib.hid (fun W : World => putNum_any (h % 4294967296) W (by omega))
  clear hh b2 C2 HSA HA
  go_wp2_with fail
  refine (C3.out _).mono ?_
  intro e w3 h3
  obtain ⟨A3, n3, c3, rfl, s3, hc3, hm3, b3, -⟩ := h3.read
  have l3 := s3.len
  have p3 := putNum_len (h / 4294967296)
  have hn3 : n3 ≤ 9 := by omega
  have HB3 := Lib.hid (HB2.out.trans (b3.mono HB2.out.size))
  have HS3 := Lib.hid (HS2.out.below b3)
  have HT3 := Lib.hid s3
  clear C3 h3 b3 s3 l3 p3
  go_wp2_with fail
  refine (C4.out _).mono ?_
  intro e w4 h4
  obtain ⟨A4, n4, c4, rfl, s4, hc4, hm4, b4, -⟩ := h4.read
  have l4 := s4.len
  have p4 := putNum_len (h % 4294967296)
  have hn4 : n4 ≤ 9 := by omega
  have HB4 := Lib.hid (HB3.out.trans (b4.mono HB3.out.size))
  have HS4 := Lib.hid (HS3.out.below b4)
  have HT4 := Lib.hid (show SlB w4 A3 n3 (putNum (h / 4294967296)) from HT3.out.below b4)
  have HU4 := Lib.hid s4
  clear C4 h4 b4 s4 l4 p4
  have bA := (Below.refl w4.heap.size w4).alloc (Nat.le_refl _) (.cells #[.slice A1 n1 c1, .slice A3 n3 c3, .slice A4 n4 c4, .slice A1 n1 c1] 25)
  have C5 := Lib.hid (sealHash_any (some ⟨w4.heap.size, 0, none⟩) 4 4 [⟨A1, n1, c1, txB s⟩, ⟨A3, n3, c3, putNum (h / 4294967296)⟩, ⟨A4, n4, c4, putNum (h % 4294967296)⟩, ⟨A1, n1, c1, txB s⟩] _ (sl_lit w4 #[.slice A1 n1 c1, .slice A3 n3 c3, .slice A4 n4 c4, .slice A1 n1 c1] 25 w4.heap.size 4 1 _ rfl rfl rfl) (fun p hp => by
    simp only [List.mem_cons, List.mem_nil_iff, or_false] at hp
    rcases hp with rfl | rfl | rfl | rfl
    · exact HS4.out.below bA
    · exact HT4.out.below bA
    · exact HU4.out.below bA
    · exact HS4.out.below bA) (by omega) (by
      have e1 := HT4.out.len
      have e2 := HU4.out.len
      simp only [List.flatMap_cons, List.flatMap_nil, List.append_nil, List.length_append]
      omega))
  have HA := Lib.hid (HB4.out.trans (bA.mono HB4.out.size))
  clear bA
  go_wp2_with fail
  refine C5.out.mono ?_
  rintro e w5 ⟨rfl, b5⟩
  have HB5 := Lib.hid (HA.out.trans (b5.mono HA.out.size))
  have HM := Lib.hid (show hashB ([(⟨A1, n1, c1, txB s⟩ : Pt), ⟨A3, n3, c3, putNum (h / 4294967296)⟩, ⟨A4, n4, c4, putNum (h % 4294967296)⟩, ⟨A1, n1, c1, txB s⟩].flatMap (·.l)) = mark2 (txB s) l from by
    unfold mark2
    rw [HH.out]
    simp [List.append_assoc])
  rw [HM.out]
  have hd2 := mark2_bd (txB s) l
  obtain ⟨g, hg⟩ : ∃ g, mark2 (txB s) l = g := ⟨_, rfl⟩
  rw [hg] at hd2 ⊢
  have HG := Lib.hid hg
  have HAR := Lib.hid (Arr.new' w5 #[.int .u8 0, .int .u8 0, .int .u8 0, .int .u8 0, .int .u8 0, .int .u8 0, .int .u8 0, .int .u8 0] 55 (N := 8) rfl)
  have HB6 := Lib.hid (HB5.out.alloc HB5.out.size (.cells #[.int .u8 0, .int .u8 0, .int .u8 0, .int .u8 0, .int .u8 0, .int .u8 0, .int .u8 0, .int .u8 0] 55))
  have hle := HB5.out.size
  clear C5 b5 HM hg d0 d1 d2 d3 d4 d5 HH HS HS4 HT4 HU4 HA HB4 HB3 HB2 HS1 HS2 HS3 HT3 HB1
  go_wp2
  go_loopw [27] (fun i wr => ∃ (k : Nat), i = .int .i64 (k : Int) ∧ k ≤ 8 ∧ Hid (Arr wr w5.heap.size 55 8 (bsV ((List.range k).map (byteAt g)))) ∧ Hid (Below w.heap.size w wr)) (fun i _ => 8 - (intOf i).toNat)
  case atStart => exact ⟨0, rfl, Nat.zero_le _, HAR, HB6⟩
  case round =>
    obtain ⟨k, rfl, hk, HR, HB⟩ := hrel
    by_cases hlt : k < 8
    · obtain ⟨u, hu⟩ := HR.out.cell hlt
      have hf := HR.out.free k
      have HN := Lib.hid (HR.out.push (by rw [bsV_length, List.length_map, List.length_range]; exact hlt) (.int .u8 (g / 2 ^ (56 - 8 * k) % 256)) (k := k) (by rw [bsV_length, List.length_map, List.length_range]))
      have HB7 := Lib.hid (HB.out.setCell (p := ⟨w5.heap.size, k, none⟩) hle (.int .u8 (g / 2 ^ (56 - 8 * k) % 256)))
      have HE := Lib.hid (byte_at_val hd2 k)
      go_wp2
      go_roundw
      case rel => exact ⟨k + 1, by go_num, by omega, by
        have := HN.out
        rw [HE.out] at this ⊢
        rw [List.range_succ, List.map_append, bsV_append]
        exact this, HB7⟩
      case measure => simp [intOf]; omega
    · obtain rfl : k = 8 := by omega
      go_wp2
      go_ret
      refine ⟨some ⟨w5.heap.size, 0, none⟩, 8, rfl, Nat.le_refl _, ?_, HB.out⟩
      have := HR.out.read (n := 8) (by simp [bsV_length])
      unfold markB mark8
      rw [HG.out]
      exact this

theorem hashB_q (l : List UInt8) : IntKind.u64.wrap ((hashB l).tdiv 4294967296) = hashB l / 4294967296 ∧ IntKind.u64.wrap ((hashB l).tmod 4294967296) = hashB l % 4294967296 := by
  obtain ⟨z, hz⟩ := hashB_u64 l
  rw [hz]
  have h1 : 0 ≤ IntKind.u64.wrap z ∧ IntKind.u64.wrap z < 18446744073709551616 := by rw [IntKind.wrap_u64]; omega
  generalize IntKind.u64.wrap z = x at h1
  rw [Int.tdiv_eq_ediv_of_nonneg h1.1, Int.tmod_eq_emod_of_nonneg h1.1, IntKind.wrap_u64, IntKind.wrap_u64]
  omega
/-- Behind k rounds of the document's loop. -/
def hAt (g : Int) (k : Nat) : Int := ((g.toNat * 256 ^ k % 18446744073709551616 : Nat) : Int)
theorem hAt_zero {g : Int} (h : ∃ z, g = IntKind.u64.wrap z) : hAt g 0 = g := by
  obtain ⟨z, rfl⟩ := h
  unfold hAt
  rw [IntKind.wrap_u64]
  omega
theorem hAt_step (g : Int) (k : Nat) : IntKind.u64.wrap (hAt g k * 256) = hAt g (k + 1) := by
  unfold hAt
  rw [Nat.pow_succ, ← Nat.mul_assoc, IntKind.wrap_u64]
  generalize g.toNat * 256 ^ k = a
  omega
theorem hAt_bd (g : Int) (k : Nat) : 0 ≤ hAt g k ∧ IntKind.u64.wrap ((hAt g k).tdiv 72057594037927936) = hAt g k / 72057594037927936 := by
  unfold hAt
  generalize g.toNat * 256 ^ k = a
  refine ⟨by omega, ?_⟩
  rw [Int.tdiv_eq_ediv_of_nonneg (by omega), IntKind.wrap_u64]
  omega
theorem hAt_byte (g : Int) (k : Nat) (hk : k ≤ 7) : Value.int .u8 (hAt g k / 72057594037927936 % 256) = bV (byteAt g k) := by
  unfold hAt byteAt bV
  congr 1
  have e1 : (18446744073709551616 : Nat) = 72057594037927936 * 256 := by decide
  have e2 : (72057594037927936 : Nat) = 256 ^ k * 2 ^ (56 - 8 * k) := by
    rw [show (256 : Nat) = 2 ^ 8 from rfl, ← Nat.pow_mul, ← Nat.pow_add, show 8 * k + (56 - 8 * k) = 56 by omega]
  have e3 : g.toNat * 256 ^ k % 18446744073709551616 / 72057594037927936 = g.toNat / 2 ^ (56 - 8 * k) % 256 := by
    rw [e1, Nat.mod_mul_right_div_self]
    congr 1
    rw [e2, Nat.mul_comm g.toNat, Nat.mul_div_mul_left _ _ (Nat.pow_pos (by omega))]
  rw [UInt8.toNat_ofNat']
  omega
set_option maxHeartbeats 2000000 in
set_option maxRecDepth 100000 in
theorem refMark_any (s : ByteArray) (A : Option Addr) (n c : Nat) (l : List UInt8) (w : World) (hs : SlB w A n l) (hn : n ≤ 100000000000000) (hz : s.size ≤ 10000000000000) :
    Calls Try.prog 13 #[.string s, .slice A n c] w (MarkAns w (markB s l)) := by
  obtain ⟨i0, hi, hz0, hz1, hz2⟩ := info_parts Try.infoU8
  have hll := hs.len
  have ht := txB_len s
  have HS := Lib.hid hs
  have C1 := Lib.hid (refPutText_any s w (by omega))
  clear hs
  go_enter Try.func13, Try.ntmps13
  go_wp2_with fail
  refine C1.out.mono ?_
  intro e w1 h1
  obtain ⟨A1, n1, c1, rfl, s1, hc1, hm1, b1, -⟩ := h1.read
  have hn1b : n1 ≤ s.size + 9 := by have : (txB s).length = n1 := s1.len; omega
  have HS1 := Lib.hid (show SlB w1 A1 n1 (txB s) from s1)
  have HB1 := Lib.hid b1
  have hz1' := b1.size
  clear C1 h1 b1 s1
  go_wp2_with (first | (at_builtin; refine wpList_append_sl _ rfl (.tmp 13) (.tmp 14) 25 rfl (w1.heap.size) 5 i0 (.int .u8 0) 1 1 Try.underlying25 hi hz0 hz1 hz2 rfl (by decide) (.slice none 0 0) (0) ([]) rfl (World.ownsRow_nil _ _ _ _) (A1) (n1) (c1) (bsV (txB s)) rfl (HS1.out) (bsV_one _) (by unfold maxLen; omega) (by omega) (Nat.le_refl _) ?_) | fail)
  intro v wn ownn gn _
  obtain ⟨An, cn, rfl, -, -⟩ := own_slice ownn
  have HC := Lib.hid (Acc.first (Below.refl w1.heap.size w1) ownn gn)
  clear ownn gn
  have hszq := HC.out.below.size
  go_wp2_with (first | (at_builtin; refine wpList_append_sl _ rfl (.tmp 16) (.tmp 17) 25 rfl (w1.heap.size) 5 i0 (.int .u8 0) 1 1 Try.underlying25 hi hz0 hz1 hz2 rfl (by decide) (.slice An (n1) cn) (n1) (bsV (txB s)) rfl (HC.out.own) (A) (n) (c) (bsV (l)) rfl (((HS.out.below HB1.out).below HC.out.below)) (bsV_one _) (by unfold maxLen; omega) (by omega) (hszq) ?_) | fail)
  intro v wm ownm gm _
  obtain ⟨Am, cm, rfl, -, -⟩ := own_slice ownm
  have HD := Lib.hid (HC.out.push ownm gm)
  clear ownm gm hszq
  have C2 := Lib.hid (refHash_any Am (n1 + n) cm _ wm (Sl.of_own HD.out.own) (by omega))
  go_wp2_with fail
  refine C2.out.mono ?_
  rintro e w' ⟨rfl, rfl⟩
  have HB2 := Lib.hid (HB1.out.trans (HD.out.below.mono HB1.out.size))
  have HS2 := Lib.hid (show SlB w' A1 n1 (txB s) from HS1.out.below HD.out.below)
  have hd := hashB_bd (txB s ++ l)
  have hq := hashB_q (txB s ++ l)
  obtain ⟨h, hh⟩ : ∃ h, hashB (txB s ++ l) = h := ⟨_, rfl⟩
  rw [hh] at hd hq ⊢
  obtain ⟨d0, d1, d2, -⟩ := hd
  have d4 : 0 ≤ h % 4294967296 := by omega
  have d5 : h % 4294967296 ≤ 4294967295 := by omega
  have HH := Lib.hid hh
  have C3 := Lib.hid (fun W : World => refPutNum_any (h / 4294967296) W (by omega))
  have C4 := Lib.hid (fun W : World => refPutNum_any (h % 4294967296) W (by omega))
  clear hh C2
  go_wp2_with (first | (at_builtin; refine wpList_append_sl _ rfl (.tmp 21) (.tmp 22) 25 rfl (w'.heap.size) 5 i0 (.int .u8 0) 1 1 Try.underlying25 hi hz0 hz1 hz2 rfl (by decide) (.slice none 0 0) (0) ([]) rfl (World.ownsRow_nil _ _ _ _) (A1) (n1) (c1) (bsV (txB s)) rfl (HS2.out) (bsV_one _) (by unfold maxLen; omega) (by omega) (Nat.le_refl _) ?_) | fail)
  intro v wn ownn gn _
  obtain ⟨An, cn, rfl, -, -⟩ := own_slice ownn
  have HC := Lib.hid (Acc.first (Below.refl w'.heap.size w') ownn gn)
  clear ownn gn
  go_wp2_with fail
  refine (C3.out _).mono ?_
  intro e w3 h3
  obtain ⟨A3, n3, c3, rfl, s3, hc3, hm3, b3, -⟩ := h3.read
  have l3 := s3.len
  have p3 := putNum_len (h / 4294967296)
  have hn3 : n3 ≤ 9 := by omega
  have HC3 := Lib.hid (HC.out.move b3)
  have HT3 := Lib.hid s3
  clear C3 h3 b3 s3 l3 p3
  have hszq := HC3.out.below.size
  go_wp2_with (first | (at_builtin; refine wpList_append_sl _ rfl (.tmp 24) (.tmp 28) 25 rfl (w'.heap.size) 5 i0 (.int .u8 0) 1 1 Try.underlying25 hi hz0 hz1 hz2 rfl (by decide) (.slice An (n1) cn) (n1) (bsV (txB s)) rfl (HC3.out.own) (A3) (n3) (c3) (bsV (putNum (h / 4294967296))) rfl (HT3.out) (bsV_one _) (by unfold maxLen; omega) (by omega) (hszq) ?_) | fail)
  intro v wm ownm gm _
  obtain ⟨Am, cm, rfl, -, -⟩ := own_slice ownm
  have HD := Lib.hid (HC3.out.push ownm gm)
  clear ownm gm hszq
  have hd1 := HD.out
  obtain ⟨X1, hX1⟩ : ∃ X1, txB s ++ putNum (h / 4294967296) = X1 := ⟨_, rfl⟩
  rw [hX1] at hd1
  have HX1 := Lib.hid hX1
  have HD1 := Lib.hid hd1
  clear hX1 hd1
  obtain ⟨A5, e5⟩ : ∃ A5, A5 = Am := ⟨_, rfl⟩
  subst e5
  obtain ⟨c5, e5⟩ : ∃ c5, c5 = cm := ⟨_, rfl⟩
  subst e5
  go_wp2_with fail
  refine (C4.out _).mono ?_
  intro e w4 h4
  obtain ⟨A4, n4, c4, rfl, s4, hc4, hm4, b4, -⟩ := h4.read
  have l4 := s4.len
  have p4 := putNum_len (h % 4294967296)
  have hn4 : n4 ≤ 9 := by omega
  have HC4 := Lib.hid (HD1.out.move b4)
  have HT4 := Lib.hid s4
  clear C4 h4 b4 s4 l4 p4 HC3 HT3
  have hszq := HC4.out.below.size
  go_wp2_with (first | (at_builtin; refine wpList_append_sl _ rfl (.tmp 30) (.tmp 34) 25 rfl (w'.heap.size) 5 i0 (.int .u8 0) 1 1 Try.underlying25 hi hz0 hz1 hz2 rfl (by decide) (.slice A5 (n1 + n3) c5) (n1 + n3) (bsV (X1)) rfl (HC4.out.own) (A4) (n4) (c4) (bsV (putNum (h % 4294967296))) rfl (HT4.out) (bsV_one _) (by unfold maxLen; omega) (by omega) (hszq) ?_) | fail)
  intro v wm ownm gm _
  obtain ⟨Am, cm, rfl, -, -⟩ := own_slice ownm
  have HD := Lib.hid (HC4.out.push ownm gm)
  clear ownm gm hszq
  have hd2 := HD.out
  obtain ⟨X2, hX2⟩ : ∃ X2, X1 ++ putNum (h % 4294967296) = X2 := ⟨_, rfl⟩
  rw [hX2] at hd2
  have HX2 := Lib.hid hX2
  have HD2 := Lib.hid hd2
  clear hX2 hd2
  obtain ⟨A6, e6⟩ : ∃ A6, A6 = Am := ⟨_, rfl⟩
  subst e6
  obtain ⟨c6, e6⟩ : ∃ c6, c6 = cm := ⟨_, rfl⟩
  subst e6
  have hszq := HD2.out.below.size
  go_wp2_with (first | (at_builtin; refine wpList_append_sl _ rfl (.tmp 36) (.tmp 37) 25 rfl (w'.heap.size) 5 i0 (.int .u8 0) 1 1 Try.underlying25 hi hz0 hz1 hz2 rfl (by decide) (.slice A6 (n1 + n3 + n4) c6) (n1 + n3 + n4) (bsV (X2)) rfl (HD2.out.own) (A1) (n1) (c1) (bsV (txB s)) rfl ((HS2.out.below HD2.out.below)) (bsV_one _) (by unfold maxLen; omega) (by omega) (hszq) ?_) | fail)
  intro v wm ownm gm _
  obtain ⟨Am, cm, rfl, -, -⟩ := own_slice ownm
  have HD := Lib.hid (HD2.out.push ownm gm)
  clear ownm gm hszq
  have C5 := Lib.hid (refHash_any Am (n1 + n3 + n4 + n1) cm _ wm (Sl.of_own HD.out.own) (by omega))
  go_wp2_with fail
  refine C5.out.mono ?_
  rintro e w6 ⟨rfl, rfl⟩
  have HB6 := Lib.hid (HB2.out.trans (HD.out.below.mono HB2.out.size))
  have HM := Lib.hid (show hashB (X2 ++ txB s) = mark2 (txB s) l from by unfold mark2; rw [HH.out, HX1.out, HX2.out])
  rw [HM.out]
  have hg0 := hAt_zero (hashB_u64 (X2 ++ txB s))
  rw [HM.out] at hg0
  obtain ⟨g, hg⟩ : ∃ g, mark2 (txB s) l = g := ⟨_, rfl⟩
  rw [hg] at hg0 ⊢
  have HG := Lib.hid hg
  have HG0 := Lib.hid hg0
  have hle := HB6.out.size
  clear C5 HM hg hg0 d0 d1 d2 d4 d5 hq HH HS HT4 HC4 HD HD1 HD2 HC HS2 HB2 HS1 HB1
  go_wp2
  go_loopw [7, 9, 10] (fun hv v i wr => ∃ (k co : Nat) (Ao : Option Addr), hv = .int .u64 (hAt g k) ∧ v = .slice Ao k co ∧ i = .int .i64 (k : Int) ∧ k ≤ 8 ∧ Hid (wr.ownsRow w6.heap.size 5 1 (.slice Ao k co) k (bsV ((List.range k).map (byteAt g)))) ∧ Hid (Below w6.heap.size w6 wr)) (fun _ _ i _ => 8 - (intOf i).toNat)
  case atStart => exact ⟨0, 0, none, by rw [HG0.out], rfl, rfl, Nat.zero_le _, World.ownsRow_nil _ _ _ _, Below.refl _ _⟩
  case round =>
    obtain ⟨k, co, Ao, rfl, rfl, rfl, hk, HO, HB⟩ := hrel
    have hsz := HB.out.size
    by_cases hlt : k < 8
    · obtain ⟨x, hx⟩ : ∃ x, hAt g k = x := ⟨_, rfl⟩
      have hq := hAt_bd g k
      have hby := hAt_byte g k (by omega)
      have hst := hAt_step g k
      rw [hx] at hq hby hst ⊢
      have HBY := Lib.hid hby
      have HST := Lib.hid hst
      have q0 := hq.1
      have q1 := hq.2
      clear hq hby hst hx
      go_wp2_with (first | (at_builtin; refine wpList_append_sl _ rfl (.tmp 45) (.tmp 49) 25 rfl (w6.heap.size) 5 i0 (.int .u8 0) 1 1 Try.underlying25 hi hz0 hz1 hz2 rfl (by decide) (.slice Ao k co) (k) (bsV ((List.range k).map (byteAt g))) rfl ((HO.out.alloc _)) (some ⟨wr.heap.size, 0, none⟩) (1) (1) ([.int .u8 (x / 72057594037927936 % 256)]) rfl (sl_lit _ _ _ _ 1 1 _ rfl rfl rfl) ((lit_one rfl)) (by unfold maxLen; omega) (by omega) (by simp; omega) ?_) | fail)
      intro v7 w7 own7 g7 _
      obtain ⟨A7, c7, rfl, -, -⟩ := own_slice own7
      have HB7 := Lib.hid (below_push HB.out HO.out g7 hsz (Nat.le_refl _))
      have HO7 := Lib.hid (show w7.ownsRow w6.heap.size 5 1 (.slice A7 (k + 1) c7) (k + 1) (bsV ((List.range (k + 1)).map (byteAt g))) from by
        rw [List.range_succ, List.map_append, bsV_append]
        rw [HBY.out] at own7
        exact own7)
      clear own7 g7
      go_wp2
      go_roundw
      case rel => exact ⟨k + 1, c7, A7, by rw [HST.out], rfl, by go_num, by omega, HO7, HB7⟩
      case measure => simp [intOf]; omega
    · obtain rfl : k = 8 := by omega
      have hcap := own_slice HO.out
      obtain ⟨A', c', ec, hc8, -⟩ := hcap
      injection ec with ec1 ec2 ec3
      subst ec1 ec3
      clear ec2
      go_wp2
      go_ret
      refine ⟨_, _, rfl, hc8, ?_, HB6.out.trans (HB.out.mono hle)⟩
      have := Sl.of_own HO.out
      unfold markB mark8
      rw [HG.out]
      exact this
end Go.Proofs.Ytlhcohpcjleekaa
