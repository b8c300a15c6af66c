/-
  num.Read and firthref01.Read read decimal digits.
-/
import Derived.Test.YtejanmmhidlhjaaNumDig
import Derived.Test.YtejanmmhidlhjaaProg
import Derived.OpenShut
import Derived.IntWalk
import Derived.Lib.ConvBytes
import Derived.Laws.Strings
namespace Go.Proofs.Ytejanmmhidlhjaa
open Go.RowKit
set_option linter.unusedVariables false

/-- '[]byte(s)': the new row reads as the string, and what was there stays. -/
theorem bytes_below (w : World) (e : TypeId) (s : ByteArray) : Below w.heap.size w (Lib.bytesWorld w e s) :=
  ⟨rfl, rfl, rfl, by rw [Lib.bytesWorld_size]; omega, fun i hi => Lib.bytesWorld_at_old w e s i hi⟩
theorem bytes_slB (w : World) (e : TypeId) (s : ByteArray) : SlB (Lib.bytesWorld w e s) (some ⟨w.heap.size, 0, none⟩) s.size s.data.toList := by
  refine ⟨by rw [bsV_length]; simp, fun _ => ⟨w.heap.size, 0, rfl, fun j u hu => ?_⟩⟩
  rw [Nat.zero_add]
  simp only [bsV, List.getElem?_map, Option.map_eq_some_iff] at hu
  obtain ⟨c, hc, rfl⟩ := hu
  have hj : j < s.size := by have := (List.getElem?_eq_some_iff.1 hc).1; simpa using this
  rw [Lib.bytesWorld_cell w e s j hj, List.getD_eq_getElem?_getD, hc]
  rfl
theorem str_len (s : ByteArray) : s.data.toList.length = s.size := by simp
theorem str_at {s : ByteArray} {k : Nat} (h : k < s.size) : s.data.toList[k]? = some s[k] := by
  rw [List.getElem?_eq_getElem (by rw [str_len]; exact h)]; rfl
theorem str_ne {s : ByteArray} (h : 0 < s.size) : s.toList.isEmpty = false ∧ ¬ s.toList = [] := by
  have : s.toList ≠ [] := by
    rw [ByteArray.toList_eq]
    intro e
    have := congrArg List.length e
    rw [str_len] at this
    simp only [List.length_nil] at this
    omega
  exact ⟨by simpa using this, this⟩
theorem str_nil {s : ByteArray} (h : s.size = 0) : s.toList = [] ∧ s.data.toList = [] := by
  have : s.data.toList = [] := List.eq_nil_of_length_eq_zero (by rw [str_len]; exact h)
  exact ⟨by rw [ByteArray.toList_eq]; exact this, this⟩
theorem okR_nil {l : List UInt8} (h : l = []) : ¬ okR l := fun h' => h'.1 h
theorem okR_zero {l : List UInt8} (h1 : 1 < l.length) (h2 : l[0]? = some 48) : ¬ okR l := fun h' => h'.2.1 ⟨h1, h2⟩
theorem val_small {l : List UInt8} {k : Nat} (h : DigTo l k) (hk : k ≤ l.length) (h18 : k ≤ 18) : valL (l.take k) ≤ 999999999999999999 := by
  have h1 := DigTo.lt h hk
  have h2 : 10 ^ k ≤ 10 ^ 18 := Nat.pow_le_pow_right (by omega) h18
  omega
theorem val_mid {l : List UInt8} {k : Nat} (h : DigTo l k) (hk : k ≤ l.length) (h18 : k ≤ 19) : valL (l.take k) ≤ 9999999999999999999 := by
  have h1 := DigTo.lt h hk
  have h2 : 10 ^ k ≤ 10 ^ 19 := Nat.pow_le_pow_right (by omega) h18
  omega
/-- What may stand ahead of the loop. -/
def headR (l : List UInt8) : Prop := l ≠ [] ∧ ¬ (1 < l.length ∧ l[0]? = some 48)
theorem okR_end {l : List UInt8} {n : Nat} (h : headR l) (hd : DigTo l n) (hn : l.length = n) (hv : valL l < 9223372036854775808) : okR l := ⟨h.1, h.2, hd.all hn, hv⟩
theorem okR_big {l : List UInt8} (hv : 9223372036854775808 ≤ valL l) : ¬ okR l := fun h => by have := h.2.2.2; omega
theorem retp {a b c d : Int} (h1 : b = a) (h2 : d = c) : Ending.returned (Value.tuple #[.int .i64 a, .int .i64 c]) = Ending.returned (Value.tuple #[.int .i64 b, .int .i64 d]) := by rw [h1, h2]




set_option maxHeartbeats 2000000 in
set_option maxRecDepth 100000 in
theorem read_any (s : ByteArray) (w : World) (hs : s.size ≤ 140737488351232) :
    Calls Try.prog 19 #[.string s] w fun e w' => e = .returned (.tuple #[.int .i64 (readN s.data.toList), .int .i64 (readE s.data.toList)]) ∧ Below w.heap.size w w' := by
  have hl := str_len s
  by_cases h0 : s.size = 0
  · have v0 := (str_nil h0).1
    have HF := Lib.hid (okR_nil (str_nil h0).2)
    go_enter Try.func19, Try.ntmps19
    go_wp2
    go_ret2
    exact ⟨retp (readN_no HF.out) (readE_no HF.out), Below.refl _ _⟩
  have hp : 0 < s.size := by omega
  obtain ⟨v1, v2⟩ := str_ne hp
  have hat := str_at hp
  by_cases h1 : 1 < s.size ∧ s[0].toNat = 48
  · have v3 : ((s[0].toNat : Int) == 48) = true := by simp; omega
    have HF := Lib.hid (okR_zero (l := s.data.toList) (by omega) (by rw [hat]; congr 1; exact UInt8.toNat_inj.1 h1.2))
    have v4 : (1 : Int) < (s.size : Int) := by omega
    clear h1 hat hl
    go_enter Try.func19, Try.ntmps19
    go_wp2
    go_ret2
    exact ⟨retp (readN_no HF.out) (readE_no HF.out), Below.refl _ _⟩
  have HH : Hid (headR s.data.toList) := ⟨fun e => by rw [e] at hl; simp at hl; omega, fun h => h1 ⟨by omega, by rw [hat] at h; have := h.2; injection this with this; rw [this]; rfl⟩⟩
  by_cases h19 : 19 < s.size
  · have HF := Lib.hid (long_no (l := s.data.toList) (by omega))
    have v3 : ((s[0].toNat : Int) == 48) = false := by simp; omega
    have v4 : ¬ (s[0].toNat : Int) = 48 := by omega
    clear hat hl
    go_enter Try.func19, Try.ntmps19
    go_wp2
    all_goals go_ret2
    all_goals exact ⟨retp (readN_no HF.out) (readE_no HF.out), Below.refl _ _⟩
  have h19' : s.size ≤ 19 := by omega
  have hcv := Lib.run_convert_string_bytes (P := Try.prog) w 9 23 5 s (u := .string) Try.underlying9 Try.underlying23 Try.underlying5
  have hb := bytes_slB w 5 s
  have HB := Lib.hid (bytes_below w 5 s)
  have v3 : 1 < s.size → ((s[0].toNat : Int) == 48) = false := fun h => by simp; omega
  by_cases hone : 1 < s.size
  · have v4 := v3 hone
    clear v3 hat h1
    go_enter Try.func19, Try.ntmps19
    go_wp2
    go_loop [4, 6, 27] (fun v c i => ∃ (k : Nat) (u : Int), v = .int .u64 u ∧ i = .int .i64 (k : Int) ∧ k ≤ s.size ∧ Hid (u = (valL (s.data.toList.take k) : Nat)) ∧ 0 ≤ u ∧ Hid (DigTo s.data.toList k)) (fun _ _ i => s.size - (intOf i).toNat)
    case atStart => exact ⟨0, 0, rfl, rfl, Nat.zero_le _, rfl, Int.le_refl _, DigTo.start _⟩
    case round =>
      obtain ⟨k, u, rfl, rfl, hk, HU, hu0, HD⟩ := hrel
      by_cases hlt : k < s.size
      · obtain ⟨b, off, c, e, hc, hx, hcell⟩ := hb.at_ hlt
        injection e with e
        injection e with e1 e2
        subst e1 e2
        simp only [Nat.zero_add] at hcell
        have hu : u ≤ 999999999999999999 := by have := val_small HD.out (by omega) (by omega); have := HU.out; omega
        have hc2 : (UInt8.ofNat c).toNat = c := by rw [UInt8.toNat_ofNat']; omega
        have HX := Lib.hid hx
        have HC := Lib.hid hc2
        clear hx hc2
        by_cases hd : 48 ≤ c ∧ c ≤ 57
        · obtain ⟨d1, d2⟩ := hd
          have HN := Lib.hid (HD.out.step HX.out (isDig_true.2 (by rw [HC.out]; exact ⟨d1, d2⟩)))
          have HV := Lib.hid (valL_step HX.out)
          go_wp2
          go_round
          case rel => exact ⟨k + 1, 10 * u + ((c : Int) - 48), rfl, by go_num, by omega, by show _ = _; rw [HV.out, HC.out, HU.out]; omega, by omega, HN⟩
          case measure => simp [intOf]; omega
        · have HF := Lib.hid (DigTo.no HX.out (by rw [HC.out]; exact hd))
          by_cases d1 : c < 48
          · clear hd
            go_wp2
            go_ret2
            exact ⟨retp (readN_no HF.out) (readE_no HF.out), HB.out⟩
          · have d2 : 57 < c := by omega
            clear hd
            go_wp2
            go_ret2
            exact ⟨retp (readN_no HF.out) (readE_no HF.out), HB.out⟩
      · obtain rfl : k = s.size := by omega
        have hu : u ≤ 9999999999999999999 := by have := val_mid HD.out (by omega) (by omega); have := HU.out; omega
        have HE : Hid (((valL s.data.toList : Nat) : Int) = u) := by show _ = _; rw [HU.out, List.take_of_length_le (by omega)]
        by_cases hbig : u < 9223372036854775808
        · have HO := Lib.hid (okR_end HH.out HD.out hl (by have := HE.out; omega))
          go_wp2
          go_ret2
          exact ⟨retp (by rw [readN_yes HO.out, HE.out]) (readE_yes HO.out), HB.out⟩
        · have HF := Lib.hid (okR_big (l := s.data.toList) (by have := HE.out; omega))
          go_wp2
          go_ret2
          exact ⟨retp (readN_no HF.out) (readE_no HF.out), HB.out⟩
  · have v5 : (s.size : Int) ≤ 1 := by omega
    clear v3 hat h1
    go_enter Try.func19, Try.ntmps19
    go_wp2
    go_loop [4, 6, 27] (fun v c i => ∃ (k : Nat) (u : Int), v = .int .u64 u ∧ i = .int .i64 (k : Int) ∧ k ≤ s.size ∧ Hid (u = (valL (s.data.toList.take k) : Nat)) ∧ 0 ≤ u ∧ Hid (DigTo s.data.toList k)) (fun _ _ i => s.size - (intOf i).toNat)
    case atStart => exact ⟨0, 0, rfl, rfl, Nat.zero_le _, rfl, Int.le_refl _, DigTo.start _⟩
    case round =>
      obtain ⟨k, u, rfl, rfl, hk, HU, hu0, HD⟩ := hrel
      by_cases hlt : k < s.size
      · obtain ⟨b, off, c, e, hc, hx, hcell⟩ := hb.at_ hlt
        injection e with e
        injection e with e1 e2
        subst e1 e2
        simp only [Nat.zero_add] at hcell
        have hu : u ≤ 999999999999999999 := by have := val_small HD.out (by omega) (by omega); have := HU.out; omega
        have hc2 : (UInt8.ofNat c).toNat = c := by rw [UInt8.toNat_ofNat']; omega
        have HX := Lib.hid hx
        have HC := Lib.hid hc2
        clear hx hc2
        by_cases hd : 48 ≤ c ∧ c ≤ 57
        · obtain ⟨d1, d2⟩ := hd
          have HN := Lib.hid (HD.out.step HX.out (isDig_true.2 (by rw [HC.out]; exact ⟨d1, d2⟩)))
          have HV := Lib.hid (valL_step HX.out)
          go_wp2
          go_round
          case rel => exact ⟨k + 1, 10 * u + ((c : Int) - 48), rfl, by go_num, by omega, by show _ = _; rw [HV.out, HC.out, HU.out]; omega, by omega, HN⟩
          case measure => simp [intOf]; omega
        · have HF := Lib.hid (DigTo.no HX.out (by rw [HC.out]; exact hd))
          by_cases d1 : c < 48
          · clear hd
            go_wp2
            go_ret2
            exact ⟨retp (readN_no HF.out) (readE_no HF.out), HB.out⟩
          · have d2 : 57 < c := by omega
            clear hd
            go_wp2
            go_ret2
            exact ⟨retp (readN_no HF.out) (readE_no HF.out), HB.out⟩
      · obtain rfl : k = s.size := by omega
        have hu : u ≤ 9999999999999999999 := by have := val_mid HD.out (by omega) (by omega); have := HU.out; omega
        have HE : Hid (((valL s.data.toList : Nat) : Int) = u) := by show _ = _; rw [HU.out, List.take_of_length_le (by omega)]
        by_cases hbig : u < 9223372036854775808
        · have HO := Lib.hid (okR_end HH.out HD.out hl (by have := HE.out; omega))
          go_wp2
          go_ret2
          exact ⟨retp (by rw [readN_yes HO.out, HE.out]) (readE_yes HO.out), HB.out⟩
        · have HF := Lib.hid (okR_big (l := s.data.toList) (by have := HE.out; omega))
          go_wp2
          go_ret2
          exact ⟨retp (readN_no HF.out) (readE_no HF.out), HB.out⟩



theorem okR_over {l : List UInt8} {k : Nat} {c : UInt8} {u : Int} (hx : l[k]? = some c) (hu : u = (valL (l.take k) : Nat)) (h : 9223372036854775807 < 10 * u + ((c.toNat : Int) - 48)) (hd : 48 ≤ c.toNat) : ¬ okR l := by
  refine okR_big (Nat.le_trans ?_ (valL_take_le l (k + 1)))
  rw [valL_step hx]
  omega


set_option maxHeartbeats 2000000 in
set_option maxRecDepth 100000 in
theorem refRead_any (s : ByteArray) (w : World) (hs : s.size ≤ 140737488351232) :
    Calls Try.prog 20 #[.string s] w fun e w' => e = .returned (.tuple #[.int .i64 (readN s.data.toList), .int .i64 (readE s.data.toList)]) ∧ w = w' := by
  have hl := str_len s
  by_cases h0 : s.size = 0
  · have v0 := (str_nil h0).1
    have HF := Lib.hid (okR_nil (str_nil h0).2)
    go_enter Try.func20, Try.ntmps20
    go_wp2
    go_ret2
    exact ⟨retp (readN_no HF.out) (readE_no HF.out), rfl⟩
  have hp : 0 < s.size := by omega
  obtain ⟨v1, v2⟩ := str_ne hp
  have hat := str_at hp
  by_cases h1 : 1 < s.size ∧ s[0].toNat = 48
  · have v3 : ((s[0].toNat : Int) == 48) = true := by simp; omega
    have HF := Lib.hid (okR_zero (l := s.data.toList) (by omega) (by rw [hat]; congr 1; exact UInt8.toNat_inj.1 h1.2))
    have v4 : (1 : Int) < (s.size : Int) := by omega
    clear h1 hat hl
    go_enter Try.func20, Try.ntmps20
    go_wp2
    go_ret2
    exact ⟨retp (readN_no HF.out) (readE_no HF.out), rfl⟩
  have HH : Hid (headR s.data.toList) := ⟨fun e => by rw [e] at hl; simp at hl; omega, fun h => h1 ⟨by omega, by rw [hat] at h; have := h.2; injection this with this; rw [this]; rfl⟩⟩
  have v3 : 1 < s.size → ((s[0].toNat : Int) == 48) = false := fun h => by simp; omega
  by_cases hone : 1 < s.size
  · have v4 := v3 hone
    clear v3 hat h1
    go_enter Try.func20, Try.ntmps20
    go_wp2
    go_loop [4, 5, 6] (fun v i d => ∃ (k : Nat) (u : Int), v = .int .i64 u ∧ i = .int .i64 (k : Int) ∧ k ≤ s.size ∧ Hid (u = (valL (s.data.toList.take k) : Nat)) ∧ 0 ≤ u ∧ u ≤ 9223372036854775807 ∧ Hid (DigTo s.data.toList k)) (fun _ i _ => s.size - (intOf i).toNat)
    case atStart => exact ⟨0, 0, rfl, rfl, Nat.zero_le _, rfl, Int.le_refl _, by omega, DigTo.start _⟩
    case round =>
      obtain ⟨k, u, rfl, rfl, hk, HU, hu0, hu1, HD⟩ := hrel
      by_cases hlt : k < s.size
      · have HX := Lib.hid (str_at hlt)
        have j0 : (0 : Int) ≤ (k : Int) := by omega
        have j1 : (k : Int) < (s.size : Int) := by omega
        by_cases hd : 48 ≤ s[k].toNat ∧ s[k].toNat ≤ 57
        · obtain ⟨d1, d2⟩ := hd
          have HN := Lib.hid (HD.out.step HX.out (isDig_true.2 ⟨d1, d2⟩))
          have HV := Lib.hid (valL_step HX.out)
          have q1 : ¬ ((s[k].toNat : Int) < 48) := by omega
          have q2 : ¬ (57 < (s[k].toNat : Int)) := by omega
          have q3 : (48 : Int) ≤ (s[k].toNat : Int) := by omega
          have q4 : (s[k].toNat : Int) ≤ 57 := by omega
          by_cases ho : (9223372036854775807 - ((s[k].toNat : Int) - 48)) / 10 < u
          · have HF := Lib.hid (okR_over HX.out HU.out (by omega) d1)
            go_wp2
            go_ret2
            exact ⟨retp (readN_no HF.out) (readE_no HF.out), rfl⟩
          · have ho2 : 10 * u + ((s[k].toNat : Int) - 48) ≤ 9223372036854775807 := by omega
            go_wp2
            go_round
            case rel => exact ⟨k + 1, 10 * u + ((s[k].toNat : Int) - 48), rfl, by go_num, by omega, by show _ = _; rw [HV.out, HU.out]; omega, by omega, ho2, HN⟩
            case measure => simp [intOf]; omega
        · have HF := Lib.hid (DigTo.no HX.out hd)
          by_cases d1 : s[k].toNat < 48
          · have q1 : (s[k].toNat : Int) < 48 := by omega
            clear hd
            go_wp2
            go_ret2
            exact ⟨retp (readN_no HF.out) (readE_no HF.out), rfl⟩
          · have q1 : ¬ (s[k].toNat : Int) < 48 := by omega
            have q2 : 57 < (s[k].toNat : Int) := by omega
            clear hd
            go_wp2
            go_ret2
            exact ⟨retp (readN_no HF.out) (readE_no HF.out), rfl⟩
      · obtain rfl : k = s.size := by omega
        have HE : Hid (((valL s.data.toList : Nat) : Int) = u) := by show _ = _; rw [HU.out, List.take_of_length_le (by omega)]
        have HO := Lib.hid (okR_end HH.out HD.out hl (by have := HE.out; omega))
        go_wp2
        go_ret2
        exact ⟨retp (by rw [readN_yes HO.out, HE.out]) (readE_yes HO.out), rfl⟩
  · have v5 : (s.size : Int) ≤ 1 := by omega
    clear v3 hat h1
    go_enter Try.func20, Try.ntmps20
    go_wp2
    go_loop [4, 5, 6] (fun v i d => ∃ (k : Nat) (u : Int), v = .int .i64 u ∧ i = .int .i64 (k : Int) ∧ k ≤ s.size ∧ Hid (u = (valL (s.data.toList.take k) : Nat)) ∧ 0 ≤ u ∧ u ≤ 9223372036854775807 ∧ Hid (DigTo s.data.toList k)) (fun _ i _ => s.size - (intOf i).toNat)
    case atStart => exact ⟨0, 0, rfl, rfl, Nat.zero_le _, rfl, Int.le_refl _, by omega, DigTo.start _⟩
    case round =>
      obtain ⟨k, u, rfl, rfl, hk, HU, hu0, hu1, HD⟩ := hrel
      by_cases hlt : k < s.size
      · have HX := Lib.hid (str_at hlt)
        have j0 : (0 : Int) ≤ (k : Int) := by omega
        have j1 : (k : Int) < (s.size : Int) := by omega
        by_cases hd : 48 ≤ s[k].toNat ∧ s[k].toNat ≤ 57
        · obtain ⟨d1, d2⟩ := hd
          have HN := Lib.hid (HD.out.step HX.out (isDig_true.2 ⟨d1, d2⟩))
          have HV := Lib.hid (valL_step HX.out)
          have q1 : ¬ ((s[k].toNat : Int) < 48) := by omega
          have q2 : ¬ (57 < (s[k].toNat : Int)) := by omega
          have q3 : (48 : Int) ≤ (s[k].toNat : Int) := by omega
          have q4 : (s[k].toNat : Int) ≤ 57 := by omega
          by_cases ho : (9223372036854775807 - ((s[k].toNat : Int) - 48)) / 10 < u
          · have HF := Lib.hid (okR_over HX.out HU.out (by omega) d1)
            go_wp2
            go_ret2
            exact ⟨retp (readN_no HF.out) (readE_no HF.out), rfl⟩
          · have ho2 : 10 * u + ((s[k].toNat : Int) - 48) ≤ 9223372036854775807 := by omega
            go_wp2
            go_round
            case rel => exact ⟨k + 1, 10 * u + ((s[k].toNat : Int) - 48), rfl, by go_num, by omega, by show _ = _; rw [HV.out, HU.out]; omega, by omega, ho2, HN⟩
            case measure => simp [intOf]; omega
        · have HF := Lib.hid (DigTo.no HX.out hd)
          by_cases d1 : s[k].toNat < 48
          · have q1 : (s[k].toNat : Int) < 48 := by omega
            clear hd
            go_wp2
            go_ret2
            exact ⟨retp (readN_no HF.out) (readE_no HF.out), rfl⟩
          · have q1 : ¬ (s[k].toNat : Int) < 48 := by omega
            have q2 : 57 < (s[k].toNat : Int) := by omega
            clear hd
            go_wp2
            go_ret2
            exact ⟨retp (readN_no HF.out) (readE_no HF.out), rfl⟩
      · obtain rfl : k = s.size := by omega
        have HE : Hid (((valL s.data.toList : Nat) : Int) = u) := by show _ = _; rw [HU.out, List.take_of_length_le (by omega)]
        have HO := Lib.hid (okR_end HH.out HD.out hl (by have := HE.out; omega))
        go_wp2
        go_ret2
        exact ⟨retp (by rw [readN_yes HO.out, HE.out]) (readE_yes HO.out), rfl⟩
end Go.Proofs.Ytejanmmhidlhjaa
