/-
  firth/code's writer: a number, an int, a span behind what is written already; a list of spans; code.PutSet.
  firthref01.Same tells whether two rows of bytes are the same; num.PutText and firthref01.PutText write a text.
  firth/code's writer: a text, an address, a hash, a version, a record; lists of numbers, hashes, versions, records.
  firth/code's writer: a version, a record; lists of them.
-/
import Derived.Test.YtilagblpamhmkaaMA
import Derived.Test.YtilagblpamhmkaaMB
import Derived.Deep.QuietTactic
import Derived.BigQuiet
import Derived.Test.YtilagblpamhmkaaMD
import Derived.Test.YtilagblpamhmkaaME
namespace Go.Proofs.Ytilagblpamhmkaa
open Go.RowKit
set_option linter.unusedVariables false

theorem wtag_ne {w : World} {a b : Nat} {ca cb : Array Value} {ta tb : TypeId} {ra rb : Nat × Nat} (ha : w.heap[a]? = some (.cells ca ta ra)) (hb : w.heap[b]? = some (.cells cb tb rb)) (ht : ta ≠ tb) : a ≠ b := by
  rintro rfl
  rw [ha] at hb
  injection hb with hb
  injection hb with _ h2
  exact ht h2
/-- Where a writer stands: its block, and the bytes that it has laid in a row of its own. -/
structure WSt (w0 w : World) (g : Nat) (acc : List UInt8) (A : Option Addr) (c : Nat) : Prop where
  box : w.heap[g]? = some (.cells #[.slice A acc.length c] 109 (0, 0))
  own : w.ownsRow w0.heap.size 5 1 (.slice A acc.length c) acc.length (bsV acc)
  below : Below w0.heap.size w0 w
  le : w0.heap.size ≤ g
/-- What is neither a writer nor a row of bytes has not turned. -/
def WKeep (w w' : World) : Prop := w.heap.size ≤ w'.heap.size ∧ ∀ (k : Nat) (cs : Array Value) (t : TypeId) (r : Nat × Nat), w.heap[k]? = some (Obj.cells cs t r) → t ≠ 5 → t ≠ 109 → w'.heap[k]? = some (Obj.cells cs t r)
theorem WKeep.refl (w : World) : WKeep w w := ⟨Nat.le_refl _, fun _ _ _ _ h _ _ => h⟩
theorem WKeep.trans {a b c : World} (h : WKeep a b) (k : WKeep b c) : WKeep a c := ⟨Nat.le_trans h.1 k.1, fun i cs t r hi h1 h2 => k.2 i cs t r (h.2 i cs t r hi h1 h2) h1 h2⟩
theorem WKeep.of_below {a b : World} (h : Below a.heap.size a b) : WKeep a b := ⟨h.size, fun i cs t r hi _ _ => (h.block i (lt_of_block hi)).trans hi⟩
theorem WKeep.of_grown {a b : World} {row : Option Nat} (h : a.grownBy b row) (hr : ∀ g, row = some g → ∃ cs r, a.heap[g]? = some (.cells cs 5 r)) : WKeep a b :=
  ⟨h.size, fun i cs t r hi h1 _ => (h.block i (lt_of_block hi) (fun e => by
    obtain ⟨cs', r', hc⟩ := hr i e.symm
    exact wtag_ne hi hc h1 rfl)).trans hi⟩
theorem WKeep.set {a : World} {g j : Nat} {cs' : Array Value} {r' : Nat × Nat} (hg : a.heap[g]? = some (.cells cs' 109 r')) (u : Value) : WKeep a (a.setCell ⟨g, j, none⟩ u) :=
  ⟨by simp, fun i cs t r hi _ h2 => (Below.heap_setCell a ⟨g, j, none⟩ u i (fun e => by
    subst e
    exact wtag_ne hi hg h2 rfl)).trans hi⟩
def Wrote (w0 w : World) (g : Nat) (acc : List UInt8) (e : Ending) (w' : World) : Prop := e = .returned (.tuple #[]) ∧ (∃ A c, WSt w0 w' g acc A c) ∧ WKeep w w'
section
variable {w0 w w1 w3 : World} {g : Nat} {acc : List UInt8} {A : Option Addr} {c : Nat}
theorem WSt.move (h : WSt w0 w g acc A c) (b : Below w.heap.size w w1) : WSt w0 w1 g acc A c :=
  ⟨(b.block g (lt_of_block h.box)).trans h.box, own_below h.own b, h.below.trans (b.mono h.below.size), h.le⟩
theorem WSt.far (h : WSt w0 w g acc A c) : (Value.slice A acc.length c).ownBlock ≠ some g := by
  intro e
  obtain ⟨cs, hcs⟩ := own_tag h.own e
  exact wtag_ne hcs h.box (by decide) rfl
theorem WSt.start (w0 : World) {g : Nat} (hg : g = w0.heap.size) : WSt w0 (w0.alloc (.cells #[.slice none 0 0] 109)) g [] none 0 := by
  subst hg
  exact ⟨heap_alloc_new w0 _, World.ownsRow_nil _ _ _ _, (Below.refl _ _).alloc (Nat.le_refl _) _, Nat.le_refl _⟩
theorem WSt.push (h : WSt w0 w g acc A c) (b1 : Below w.heap.size w w1) {l : List UInt8} {m : Nat} (hm : m = l.length) {A3 : Option Addr} {c3 : Nat} (own3 : w3.ownsRow w0.heap.size 5 1 (.slice A3 (acc.length + m) c3) (acc.length + m) (bsV acc ++ bsV l))
    (g3 : w1.grownBy w3 (Value.slice A acc.length c).ownBlock) :
    w3.cell? ⟨g, 0, none⟩ = some (.slice A acc.length c) ∧ w3.frozen? ⟨g, 0, none⟩ = false ∧ WSt w0 (w3.setCell ⟨g, 0, none⟩ (.slice A3 (acc.length + m) c3)) g (acc ++ l) A3 c3 ∧ WKeep w (w3.setCell ⟨g, 0, none⟩ (.slice A3 (acc.length + m) c3)) := by
  subst hm
  have h1 := h.move b1
  have hx : w3.heap[g]? = some (.cells #[.slice A acc.length c] 109 (0, 0)) := (g3.block g (lt_of_block h1.box) (fun e => h.far e.symm)).trans h1.box
  have hne : (Value.slice A3 (acc.length + l.length) c3).ownBlock ≠ some g := by
    intro e
    obtain ⟨cs, hcs⟩ := own_tag own3 e
    exact wtag_ne hcs hx (by decide) rfl
  refine ⟨cell_of_one hx, free_of_one hx, ?_, ((WKeep.of_below b1).trans (WKeep.of_grown g3 (fun q hq => by
    obtain ⟨cs, hcs⟩ := own_tag h1.own hq
    exact ⟨_, _, hcs⟩))).trans (WKeep.set hx _)⟩
  have hl : (acc ++ l).length = acc.length + l.length := List.length_append
  refine ⟨?_, ?_, ?_, h.le⟩
  · rw [hl]; exact one_setCell hx
  · rw [hl, bsV_append]; exact ownsRow_setCell_other own3 hne _
  · exact (below_grow h1.below h1.own g3 h1.below.size (Nat.le_refl _)).setCell h.le _
end

set_option maxHeartbeats 1000000 in
theorem wnum_any (w0 w : World) (g : Nat) (acc : List UInt8) (A : Option Addr) (c : Nat) (n : Int) (h : WSt w0 w g acc A c) (hn : n ≤ 9223372036854775807) (hl : acc.length ≤ 100000000000000) :
    Calls Try.prog 84 #[.pointer (some ⟨g, 0, none⟩), .int .i64 n] w (Wrote w0 w g (acc ++ putNum n)) := by
  obtain ⟨i0, hi, hz0, hz1, hz2⟩ := info_parts Try.infoU8
  have c0 := cell_of_one h.box
  have f0 := free_of_one h.box
  have H := Lib.hid h
  have hpl := putNum_len n
  have hlt := lt_of_block h.box
  have HP := Lib.hid (fun W : World => putNum_any n W hn)
  clear h
  go_enter Try.func84, Try.ntmps84
  go_region_law (first
    | (go_simp; go_at_call 92; refine (HP.out _).mono ?_; rintro e w1 hw1; obtain ⟨A1, n1, c1, rfl, s1, hc1, hm1, b1, o1⟩ := hw1.read; have hn1 := s1.len; have b1' : Below w.heap.size w w1 := ((Below.refl _ w).drew).trans b1; have c0' := (b1'.cell (World.block_lt_of_cell? w _ c0)).trans c0; have HB1 := Lib.hid b1'; have HS1 := Lib.hid s1; clear b1 b1' s1 o1 hw1)
    | (refine step_append_sl rfl (.tmp 8) (.tmp 10) 24 rfl w0.heap.size 5 i0 (.int .u8 0) 1 1 Try.underlying24 hi hz0 hz1 hz2 rfl (by decide) (.slice A acc.length c) acc.length (bsV acc) rfl (H.out.move HB1.out).own A1 n1 c1 (bsV (putNum n)) rfl HS1.out (bsV_one _) (by unfold maxLen; omega) (by omega) (H.out.move HB1.out).below.size ?_; intro v3 w3 own3 g3 _; obtain ⟨A3, c3, rfl, -, -⟩ := own_slice own3; obtain ⟨k1, k2, k3⟩ := H.out.push HB1.out hn1.symm own3 g3; have HK := Lib.hid k3; clear own3 g3 k3))
  all_goals go_wp2
  all_goals refine bodyPost_ret (results_none rfl _ _ _) rfl ?_
  all_goals exact ⟨rfl, ⟨_, _, HK.out.1⟩, HK.out.2⟩
set_option maxHeartbeats 1000000 in
theorem wint_any (w0 w : World) (g : Nat) (acc : List UInt8) (A : Option Addr) (c : Nat) (n : Int) (h : WSt w0 w g acc A c) (hn : n ≤ 9223372036854775807) (hl : acc.length ≤ 100000000000000) :
    Calls Try.prog 83 #[.pointer (some ⟨g, 0, none⟩), .int .i64 n] w (Wrote w0 w g (acc ++ putNum n)) := by
  have C := Lib.hid (wnum_any w0 w g acc A c n h hn hl)
  clear h
  go_enter Try.func83, Try.ntmps83
  go_wp2_with fail
  refine C.out.mono ?_
  rintro e w' ⟨rfl, h1, h2⟩
  have HK := Lib.hid (And.intro h1 h2)
  clear h1 h2 C
  go_wp2
  refine bodyPost_ret (results_none rfl _ _ _) rfl ?_
  exact ⟨rfl, HK.out.1, HK.out.2⟩

theorem WKeep.box3 {w w' : World} (h : WKeep w w') {b : Nat} {x y z : Int} (hb : Box3 w b 53 x y z) : Box3 w' b 53 x y z := h.2 b _ _ _ hb (by decide) (by decide)
set_option maxHeartbeats 1000000 in
theorem wspan_any (w0 w : World) (g : Nat) (acc : List UInt8) (A : Option Addr) (c : Nat) (x : Sp) (h : WSt w0 w g acc A c) (hx : okSp x) (hl : acc.length ≤ 90000000000000) :
    Calls Try.prog 86 #[.pointer (some ⟨g, 0, none⟩), .agg #[.int .i64 x.1, .int .i64 x.2.1, .int .i64 x.2.2]] w (Wrote w0 w g (acc ++ spB x)) := by
  obtain ⟨s, f, t⟩ := x
  unfold okSp at hx
  simp only at hx ⊢
  obtain ⟨q1, q2, q3, q4, q5⟩ := hx
  have l1 := putNum_len s
  have l2 := putNum_len f
  have hb := Box3.new w 53 s f t
  have bA : Below w.heap.size w (w.alloc (.cells #[.int .i64 s, .int .i64 f, .int .i64 t] 53)) := (Below.refl _ _).alloc (Nat.le_refl _) _
  have C1 := Lib.hid (wint_any w0 _ g acc A c s (h.move bA) (by omega) (by omega))
  have g0 := hb.c0
  have HX := Lib.hid hb
  have HA := Lib.hid bA
  clear h hb bA
  go_enter Try.func86, Try.ntmps86
  go_wp2_with fail
  refine C1.out.mono ?_
  rintro e w1 ⟨rfl, ⟨A1, c1, h1⟩, k1⟩
  have X1 := k1.box3 HX.out
  have C2 := Lib.hid (wnum_any w0 w1 g _ A1 c1 f h1 (by omega) (by rw [List.length_append]; omega))
  have g1 := X1.c1
  have HX1 := Lib.hid X1
  have K1 := Lib.hid ((WKeep.of_below HA.out).trans k1)
  clear h1 k1 X1 C1 g0
  go_wp2_with fail
  refine C2.out.mono ?_
  rintro e w2 ⟨rfl, ⟨A2, c2, h2⟩, k2⟩
  have X2 := k2.box3 HX1.out
  have C3 := Lib.hid (wnum_any w0 w2 g _ A2 c2 (t - f) h2 (by omega) (by rw [List.length_append, List.length_append]; omega))
  have g3 := X2.c1
  have g4 := X2.c2
  have K2 := Lib.hid (K1.out.trans k2)
  clear h2 k2 X2 C2 g1
  go_wp2_with fail
  refine C3.out.mono ?_
  rintro e w3 ⟨rfl, h3, k3⟩
  have HK := Lib.hid (And.intro h3 (K2.out.trans k3))
  clear h3 k3 C3 g3 g4
  go_wp2
  refine bodyPost_ret (results_none rfl _ _ _) rfl ?_
  exact ⟨rfl, by have := HK.out.1; unfold spB; simpa [putNum, List.append_assoc] using this, HK.out.2⟩

theorem spB_len (x : Sp) : (spB x).length ≤ 27 := by
  unfold spB
  rw [List.length_append, List.length_append]
  have h1 := putN_len 8 x.1.toNat
  have h2 := putN_len 8 x.2.1.toNat
  have h3 := putN_len 8 (x.2.2 - x.2.1).toNat
  omega
theorem spsB_len (l : List Sp) : (l.flatMap spB).length ≤ 27 * l.length := by
  induction l with
  | nil => simp
  | cons x l ih => rw [List.flatMap_cons, List.length_append, List.length_cons]; have := spB_len x; omega
theorem sps_take {l : List Sp} {i : Nat} {x : Sp} (a : List UInt8) (h : l[i]? = some x) : a ++ (l.take i).flatMap spB ++ spB x = a ++ (l.take (i + 1)).flatMap spB := by
  rw [List.take_add_one, h, List.flatMap_append, List.append_assoc]
  simp
theorem WSt.lower {w w0 w2 : World} {g : Nat} {acc : List UInt8} {A : Option Addr} {c : Nat} (b : Below w.heap.size w w0) (h : WSt w0 w2 g acc A c) : WSt w w2 g acc A c :=
  ⟨h.box, own_lower h.own b.size, b.trans (h.below.mono b.size), Nat.le_trans b.size h.le⟩
set_option maxHeartbeats 1000000 in
theorem wput_spans (w0 w : World) (g : Nat) (acc : List UInt8) (A : Option Addr) (c : Nat) (B : Option Addr) (n k : Nat) (l : List Sp) (h : WSt w0 w g acc A c) (hs : SlS w0 B n l) (hg : ∀ x ∈ l, okSp x) (hn : n ≤ 1024) (hl : acc.length ≤ 80000000000000) :
    Calls Try.prog 85 #[.pointer (some ⟨g, 0, none⟩), .slice B n k, .func (.func 86) #[.pointer (some ⟨g, 0, none⟩)] #[]] w (Wrote w0 w g (acc ++ setB l)) := by
  have hll := hs.len
  have l1 := putNum_len (n : Int)
  have C1 := Lib.hid (wint_any w0 w g acc A c (n : Int) h (by omega) (by omega))
  have HS := Lib.hid hs
  have HG := Lib.hid hg
  clear h hs hg
  go_enter Try.func85, Try.ntmps85
  go_wp2_with fail
  refine C1.out.mono ?_
  rintro e w1 ⟨rfl, ⟨A1, c1, h1⟩, k1⟩
  have H1 := Lib.hid (And.intro h1 k1)
  clear h1 k1 C1
  go_wp2
  go_loopw [14] (fun t wr => ∃ (i : Nat) (A : Option Addr) (c : Nat), t = .int .i64 (i : Int) ∧ i ≤ n ∧ Hid (WSt w0 wr g (acc ++ putNum n ++ (l.take i).flatMap spB) A c ∧ WKeep w wr)) (fun t _ => n - (intOf t).toNat)
  case atStart => exact ⟨0, A1, c1, rfl, Nat.zero_le _, by simpa using H1⟩
  case round =>
    obtain ⟨i, A2, c2, rfl, hi, HW⟩ := hrel
    by_cases hlt : i < n
    · obtain ⟨b, off, x, y, z, rfl, hx, hc0, hc1, hc2⟩ := SlS.at_ (Sl.below HS.out HW.out.1.below) hlt
      have hok := HG.out _ (List.mem_of_getElem? hx)
      have bA : Below wr.heap.size wr (wr.alloc (.cells #[.int .i64 x, .int .i64 y, .int .i64 z] 53)) := (Below.refl _ _).alloc (Nat.le_refl _) _
      have C2 := Lib.hid (wspan_any w0 _ g _ A2 c2 (x, y, z) (HW.out.1.move bA) hok (by
        have := spsB_len (l.take i)
        rw [List.length_append, List.length_append]
        have h2 := List.length_take_le i l
        omega))
      have HT := Lib.hid (sps_take (acc ++ putNum n) hx)
      have K1 := Lib.hid (HW.out.2.trans (WKeep.of_below bA))
      clear hx bA hok
      go_wp2_with (go_at_call 86; refine C2.out.mono ?_; rintro e w2 ⟨rfl, ⟨A3, c3, h3⟩, k3⟩)
      have H3 := Lib.hid (And.intro h3 (K1.out.trans k3))
      clear h3 k3
      go_roundw
      case rel => exact ⟨i + 1, A3, c3, by go_num, by omega, by rw [← HT.out]; exact H3⟩
      case measure => simp [intOf]; omega
    · obtain rfl : i = n := by omega
      go_wp2
      refine bodyPost_ret (results_none rfl _ _ _) rfl ?_
      refine ⟨rfl, ⟨A2, c2, ?_⟩, HW.out.2⟩
      have := HW.out.1
      rw [List.take_of_length_le (by omega)] at this
      unfold setB
      rw [hll, ← List.append_assoc]
      exact this
/-- What PutSet answers. -/
noncomputable def putSetE (l : List Sp) : List UInt8 × Int := if rightS l = true then (setB l, 0) else ([], 1)
/-- New bytes, and an error's number. -/
def NewBytesE (w : World) (l : List UInt8) (x : Int) (e : Ending) (w' : World) : Prop :=
  ∃ A n c, e = .returned (.tuple #[.slice A n c, .int .i64 x]) ∧ SlB w' A n l ∧ n ≤ c ∧ c ≤ maxLen ∧ Below w.heap.size w w' ∧ w'.ownsRow w.heap.size 5 1 (.slice A n c) n (bsV l)
theorem NewBytesE.nil {w w' : World} {x : Int} (b : Below w.heap.size w w') : NewBytesE w [] x (.returned (.tuple #[.slice none 0 0, .int .i64 x])) w' :=
  ⟨none, 0, 0, rfl, Sl.nil _ _ _, Nat.le_refl _, by unfold maxLen; omega, b, World.ownsRow_nil _ _ _ _⟩
theorem NewBytesE.of {w w' : World} {g : Nat} {l : List UInt8} {A : Option Addr} {c : Nat} (h : WSt w w' g l A c) : NewBytesE w l 0 (.returned (.tuple #[.slice A l.length c, .int .i64 0])) w' := by
  obtain ⟨A', c', e, h1, h2⟩ := own_slice h.own
  injection e with _ _ e3
  subst e3
  exact ⟨A, _, c, rfl, Sl.of_own h.own, h1, h2, h.below, h.own⟩
end Go.Proofs.Ytilagblpamhmkaa
namespace Go.Proofs.Ytilagblpamhmkaa
open Go.RowKit
set_option linter.unusedVariables false

set_option maxHeartbeats 400000 in
theorem putText_any (s : ByteArray) (w : World) (hs : s.size ≤ 140737488351232) :
    Calls Try.prog 82 #[.string s] w (NewBytes w (putNum s.size ++ s.data.toList)) := by
  obtain ⟨i0, hi, hz0, hz1, hz2⟩ := info_parts Try.infoU8
  have hl := putNum_len s.size
  go_enter Try.func82, Try.ntmps82
  go_wp2_with fail
  refine (putNum_any _ _ (by omega)).mono ?_
  rintro e w1 ⟨v1, rfl, hown, hbel⟩
  have hsz := hbel.size
  go_wp2_with (at_builtin; refine Lib.wpList_append_own_string _ rfl _ _ 24 9 rfl w.heap.size 5 i0 Try.underlying24 Try.underlying9 hi hz0 hz1 hz2 _ _ _ rfl hown s rfl (by unfold maxLen; omega) (by omega) hsz ?_)
  intro v' w2 hown' hgrow _
  go_wp2
  go_ret
  refine ⟨v', rfl, ?_, below_grow hbel hown hgrow hsz (Nat.le_refl _)⟩
  rw [bsV_append, List.length_append]
  simpa [strCells_bsV] using hown'

theorem take_snoc (s : ByteArray) (k : Nat) (h : k < s.size) : s.data.toList.take (k + 1) = s.data.toList.take k ++ [s[k]] := by
  rw [List.take_succ_eq_append_getElem (by simpa using h)]; rfl

end Go.Proofs.Ytilagblpamhmkaa
namespace Go.Proofs.Ytilagblpamhmkaa
open Go.RowKit
set_option linter.unusedVariables false

theorem Sl.at1m {α : Type} {w : World} {A : Option Addr} {n k : Nat} {f : α → Value} {l : List α} (h : Sl w A n 1 (l.map f)) (hk : k < n) :
    ∃ b off x, A = some ⟨b, off, none⟩ ∧ l[k]? = some x ∧ w.cell? ⟨b, off + k, none⟩ = some (f x) := by
  obtain ⟨b, off, u, rfl, hu, hc⟩ := Sl.at1 h hk
  rw [List.getElem?_map, Option.map_eq_some_iff] at hu
  obtain ⟨z, h1, rfl⟩ := hu
  exact ⟨b, off, z, rfl, h1, hc⟩
theorem Sl.len1 {α : Type} {w : World} {A : Option Addr} {n : Nat} {f : α → Value} {l : List α} (h : Sl w A n 1 (l.map f)) : l.length = n := by have := h.1; rw [List.length_map] at this; omega
set_option maxHeartbeats 1000000 in
theorem wtext_any (w0 w : World) (g : Nat) (acc : List UInt8) (A : Option Addr) (c : Nat) (s : ByteArray) (h : WSt w0 w g acc A c) (hn : s.size ≤ 1000) (hl : acc.length ≤ 90000000000000) :
    Calls Try.prog 71 #[.pointer (some ⟨g, 0, none⟩), .string s] w (Wrote w0 w g (acc ++ txtB s)) := by
  obtain ⟨i0, hi, hz0, hz1, hz2⟩ := info_parts Try.infoU8
  have c0 := cell_of_one h.box
  have f0 := free_of_one h.box
  have H := Lib.hid h
  have hpl := txtB_len s
  have hlt := lt_of_block h.box
  have HP := Lib.hid (fun W : World => (show Calls Try.prog 82 #[.string s] W (NewBytes W (txtB s)) from putText_any s W (by omega)))
  clear h
  go_enter Try.func71, Try.ntmps71
  go_region_law (first
    | (go_simp; go_at_call 82; refine (HP.out _).mono ?_; rintro e w1 hw1; obtain ⟨A1, n1, c1, rfl, s1, hc1, hm1, b1, o1⟩ := hw1.read; have hn1 := s1.len; have b1' : Below w.heap.size w w1 := ((Below.refl _ w).drew).trans b1; have c0' := (b1'.cell (World.block_lt_of_cell? w _ c0)).trans c0; have HB1 := Lib.hid b1'; have HS1 := Lib.hid s1; clear b1 b1' s1 o1 hw1)
    | (refine step_append_sl rfl (.tmp 8) (.tmp 10) 24 rfl w0.heap.size 5 i0 (.int .u8 0) 1 1 Try.underlying24 hi hz0 hz1 hz2 rfl (by decide) (.slice A acc.length c) acc.length (bsV acc) rfl (H.out.move HB1.out).own A1 n1 c1 (bsV (txtB s)) rfl HS1.out (bsV_one _) (by unfold maxLen; omega) (by omega) (H.out.move HB1.out).below.size ?_; intro v3 w3 own3 g3 _; obtain ⟨A3, c3, rfl, -, -⟩ := own_slice own3; obtain ⟨k1, k2, k3⟩ := H.out.push HB1.out hn1.symm own3 g3; have HK := Lib.hid k3; clear own3 g3 k3))
  all_goals go_wp2
  all_goals refine bodyPost_ret (results_none rfl _ _ _) rfl ?_
  all_goals exact ⟨rfl, ⟨_, _, HK.out.1⟩, HK.out.2⟩

/-! A step: what a call has written, in one hidden fact. -/
end Go.Proofs.Ytilagblpamhmkaa
namespace Go.Proofs.Ytilagblpamhmkaa
open Go.RowKit
set_option linter.unusedVariables false

theorem row_cell {w : World} {b j : Nat} {cs : Array Value} {t : TypeId} {u : Value} (h : w.heap[b]? = some (.cells cs t (0, 0))) (hj : cs[j]? = some u) : w.cell? ⟨b, j, none⟩ = some u := by rw [cell_of_row w b j _ _ (0, 0) h]; exact hj
set_option maxHeartbeats 1000000 in
set_option maxRecDepth 100000 in
theorem wver_any (w0 w : World) (g : Nat) (acc : List UInt8) (A : Option Addr) (c : Nat) (v : Vr) (Ap : Option Addr) (np cp : Nat) (h : WSt w0 w g acc A c) (hv : VRow w0 v Ap np cp) (ho : okVB v = true) (hl : acc.length ≤ 70000000000000) :
    Calls Try.prog 73 #[.pointer (some ⟨g, 0, none⟩), .agg #[.int .i64 v.s, .int .i64 v.n, .slice Ap np cp, .bool v.gone, .string v.val]] w (Wrote w0 w g (acc ++ verB v)) := by
  have hmf : ∀ (fn : Fn) (first cap : Array Value) (w : World), (Instr.makeFunc fn first cap).run Try.prog w = .ok (.func fn first cap) w := fun _ _ _ _ => rfl
  obtain ⟨s, n, past, gone, val⟩ := v
  obtain ⟨o1, o2, o3, o4, o5⟩ := okVB_true.1 ho
  rw [dotB_true] at o1
  simp only at o1 o2 o3 o4 o5 ⊢
  have l1 := putNum_len s
  have l2 := putNum_len n
  have l3 : (setB past).length ≤ 27657 := by
    have h1 := verB_len ho
    have h2 := (rightS_true.1 o2).2
    unfold setB
    rw [List.length_append]
    have := putN_len 8 past.length
    have := spsB_len past
    omega
  have l4 := putNum_len 0
  have hpl := hv.sl.len
  have hp1 := (rightS_true.1 o2)
  have bA : Below w.heap.size w (w.alloc (.cells #[.int .i64 s, .int .i64 n, .slice Ap np cp, .bool gone, .string val] 42)) := (Below.refl _ _).alloc (Nat.le_refl _) _
  have hb := heap_alloc_new w (.cells #[.int .i64 s, .int .i64 n, .slice Ap np cp, .bool gone, .string val] 42)
  have C1 := Lib.hid (wint_any w0 _ g acc A c s (h.move bA) (by omega) (by omega))
  have g0 := row_cell (j := 0) hb rfl
  have HX := Lib.hid hb
  have HA := Lib.hid bA
  have HV := Lib.hid hv.sl
  have HP := Lib.hid hp1
  clear h hb bA hv hp1 o2 ho
  go_enter Try.func73, Try.ntmps73
  go_wp2_with fail
  refine C1.out.mono ?_
  rintro e w1 ⟨rfl, ⟨A1, c1, h1⟩, k1⟩
  have X1 := k1.2 _ _ _ _ HX.out (by decide) (by decide)
  have C2 := Lib.hid (wnum_any w0 w1 g _ A1 c1 n h1 (by omega) (by rw [List.length_append]; omega))
  have g1 := row_cell (j := 1) X1 rfl
  have HX1 := Lib.hid X1
  have K1 := Lib.hid ((WKeep.of_below HA.out).trans k1)
  clear h1 k1 X1 C1 g0
  go_wp2_with fail
  refine C2.out.mono ?_
  rintro e w2 ⟨rfl, ⟨A2, c2, h2⟩, k2⟩
  have X2 := k2.2 _ _ _ _ HX1.out (by decide) (by decide)
  have C3 := Lib.hid (wput_spans w0 w2 g _ A2 c2 Ap np cp past h2 HV.out HP.out.1.1 (by have := HP.out.2; omega) (by rw [List.length_append, List.length_append]; omega))
  have g2 := row_cell (j := 2) X2 rfl
  have HX2 := Lib.hid X2
  have K2 := Lib.hid (K1.out.trans k2)
  clear h2 k2 X2 C2 g1
  go_wp2_with fail
  refine C3.out.mono ?_
  rintro e w3 ⟨rfl, ⟨A3, c3, h3⟩, k3⟩
  have X3 := k3.2 _ _ _ _ HX2.out (by decide) (by decide)
  have g3 := row_cell (j := 3) X3 rfl
  have HX3 := Lib.hid X3
  have K3 := Lib.hid (K2.out.trans k3)
  have H3 := Lib.hid h3
  clear h3 k3 X3 C3 g2
  cases gone with
  | true =>
    have C4 := Lib.hid (wint_any w0 w3 g _ A3 c3 1 H3.out (by omega) (by rw [List.length_append, List.length_append, List.length_append]; omega))
    go_wp2_with fail
    refine C4.out.mono ?_
    rintro e w4 ⟨rfl, h4, k4⟩
    have HK := Lib.hid (And.intro h4 (K3.out.trans k4))
    clear h4 k4 C4
    go_wp2
    refine bodyPost_ret (results_none rfl _ _ _) rfl ?_
    exact ⟨rfl, by have := HK.out.1; unfold verB tailB; simpa [putNum, List.append_assoc] using this, HK.out.2⟩
  | false =>
    have C4 := Lib.hid (wint_any w0 w3 g _ A3 c3 0 H3.out (by omega) (by rw [List.length_append, List.length_append, List.length_append]; omega))
    go_wp2_with fail
    refine C4.out.mono ?_
    rintro e w4 ⟨rfl, ⟨A4, c4, h4⟩, k4⟩
    have X4 := k4.2 _ _ _ _ HX3.out (by decide) (by decide)
    have g4 := row_cell (j := 4) X4 rfl
    have C5 := Lib.hid (wtext_any w0 w4 g _ A4 c4 val h4 (by omega) (by rw [List.length_append, List.length_append, List.length_append, List.length_append]; omega))
    have K4 := Lib.hid (K3.out.trans k4)
    clear h4 k4 C4 X4 g3
    go_wp2_with fail
    refine C5.out.mono ?_
    rintro e w5 ⟨rfl, h5, k5⟩
    have HK := Lib.hid (And.intro h5 (K4.out.trans k5))
    clear h5 k5 C5
    go_wp2
    refine bodyPost_ret (results_none rfl _ _ _) rfl ?_
    exact ⟨rfl, by have := HK.out.1; unfold verB tailB; simpa [putNum, List.append_assoc] using this, HK.out.2⟩
set_option maxHeartbeats 1000000 in
set_option maxRecDepth 100000 in
theorem wput_vers (w0 w : World) (g : Nat) (acc : List UInt8) (A : Option Addr) (c : Nat) (B : Option Addr) (n k : Nat) (l : List Vr) (h : WSt w0 w g acc A c) (hs : SlV w0 B n l) (hg : ∀ x ∈ l, okVB x = true) (hn : n ≤ 512) (hl : acc.length ≤ 60000000000000) :
    Calls Try.prog 72 #[.pointer (some ⟨g, 0, none⟩), .slice B n k, .func (.func 73) #[.pointer (some ⟨g, 0, none⟩)] #[]] w (Wrote w0 w g (acc ++ listB verB l)) := by
  have hll := hs.len
  have l1 := putNum_len (n : Int)
  have C1 := Lib.hid (wint_any w0 w g acc A c (n : Int) h (by omega) (by omega))
  have HS := Lib.hid hs
  have HG := Lib.hid hg
  clear h hs hg
  go_enter Try.func72, Try.ntmps72
  go_wp2_with fail
  refine C1.out.mono ?_
  rintro e w1 ⟨rfl, ⟨A1, c1, h1⟩, k1⟩
  have H1 := Lib.hid (And.intro h1 k1)
  clear h1 k1 C1
  go_wp2
  go_loopw [14] (fun t wr => ∃ (i : Nat) (A : Option Addr) (c : Nat), t = .int .i64 (i : Int) ∧ i ≤ n ∧ Hid (WSt w0 wr g (acc ++ putNum n ++ (l.take i).flatMap verB) A c ∧ WKeep w wr)) (fun t _ => n - (intOf t).toNat)
  case atStart => exact ⟨0, A1, c1, rfl, Nat.zero_le _, by simpa using H1⟩
  case round =>
    obtain ⟨i, A2, c2, rfl, hi, HW⟩ := hrel
    by_cases hlt : i < n
    · obtain ⟨b, off, v, Ap, np, cp, rfl, hx, hr, hc0, hc1, hc2, hc3, hc4⟩ := HS.out.at_ hlt
      have hok := HG.out _ (List.mem_of_getElem? hx)
      have hbl := HW.out.1.below
      have hc0 := cell_up hc0 hbl
      have hc1 := cell_up hc1 hbl
      have hc2 := cell_up hc2 hbl
      have hc3 := cell_up hc3 hbl
      have hc4 := cell_up hc4 hbl
      have bA : Below wr.heap.size wr (wr.alloc (.cells #[.int .i64 v.s, .int .i64 v.n, .slice Ap np cp, .bool v.gone, .string v.val] 42)) := (Below.refl _ _).alloc (Nat.le_refl _) _
      have C2 := Lib.hid (wver_any w0 _ g _ A2 c2 v Ap np cp (HW.out.1.move bA) hr hok (by
        have := flat_le verB 28000 (l.take i) (fun y hy => verB_len (HG.out y (List.mem_of_mem_take hy)))
        rw [List.length_append, List.length_append]
        have h2 := List.length_take_le i l
        omega))
      have HT := Lib.hid (flat_take (acc ++ putNum n) verB hx)
      have K1 := Lib.hid (HW.out.2.trans (WKeep.of_below bA))
      clear hx bA hok hr hbl
      obtain ⟨s, m, past, gone, val⟩ := v
      simp only at hc0 hc1 hc2 hc3 hc4 C2
      go_wp2_with (go_at_call 73; refine C2.out.mono ?_; rintro e w2 ⟨rfl, ⟨A3, c3, h3⟩, k3⟩)
      have H3 := Lib.hid (And.intro h3 (K1.out.trans k3))
      clear h3 k3
      go_roundw
      case rel => exact ⟨i + 1, A3, c3, by go_num, by omega, by rw [← HT.out]; exact H3⟩
      case measure => simp [intOf]; omega
    · obtain rfl : i = n := by omega
      go_wp2
      refine bodyPost_ret (results_none rfl _ _ _) rfl ?_
      refine ⟨rfl, ⟨A2, c2, ?_⟩, HW.out.2⟩
      have := HW.out.1
      rw [List.take_of_length_le (by omega)] at this
      unfold listB
      rw [hll, ← List.append_assoc]
      exact this
set_option maxHeartbeats 1000000 in
set_option maxRecDepth 100000 in
theorem wrec_any (w0 w : World) (g : Nat) (acc : List UInt8) (A : Option Addr) (c : Nat) (r : Rc) (Ap : Option Addr) (np cp : Nat) (h : WSt w0 w g acc A c) (hv : SlV w0 Ap np r.vers) (ho : rightR r = true) (hl : acc.length ≤ 50000000000000) :
    Calls Try.prog 61 #[.pointer (some ⟨g, 0, none⟩), .agg #[.string r.key, .slice Ap np cp]] w (Wrote w0 w g (acc ++ recB r)) := by
  have hmf : ∀ (fn : Fn) (first cap : Array Value) (w : World), (Instr.makeFunc fn first cap).run Try.prog w = .ok (.func fn first cap) w := fun _ _ _ _ => rfl
  obtain ⟨key, vers⟩ := r
  obtain ⟨o1, o2, o3⟩ := rightR_true.1 ho
  simp only at o1 o2 o3 hv ⊢
  have l1 := txtB_len key
  have hpl := hv.len
  have hp1 := (rightV_true.1 o3)
  have bA : Below w.heap.size w (w.alloc (.cells #[.string key, .slice Ap np cp] 32)) := (Below.refl _ _).alloc (Nat.le_refl _) _
  have hb := heap_alloc_new w (.cells #[.string key, .slice Ap np cp] 32)
  have C1 := Lib.hid (wtext_any w0 _ g acc A c key (h.move bA) (by omega) (by omega))
  have g0 := row_cell (j := 0) hb rfl
  have HX := Lib.hid hb
  have HA := Lib.hid bA
  have HV := Lib.hid hv
  have HP := Lib.hid hp1
  clear h hb bA hv hp1 o3 ho
  go_enter Try.func61, Try.ntmps61
  go_wp2_with fail
  refine C1.out.mono ?_
  rintro e w1 ⟨rfl, ⟨A1, c1, h1⟩, k1⟩
  have X1 := k1.2 _ _ _ _ HX.out (by decide) (by decide)
  have C2 := Lib.hid (wput_vers w0 w1 g _ A1 c1 Ap np cp vers h1 HV.out (fun x hx => (HP.out.1.1 x hx).1) (by have := HP.out.2; omega) (by rw [List.length_append]; omega))
  have g1 := row_cell (j := 1) X1 rfl
  have K1 := Lib.hid ((WKeep.of_below HA.out).trans k1)
  clear h1 k1 X1 C1 g0
  go_wp2_with fail
  refine C2.out.mono ?_
  rintro e w2 ⟨rfl, h2, k2⟩
  have HK := Lib.hid (And.intro h2 (K1.out.trans k2))
  clear h2 k2 C2 g1
  go_wp2
  refine bodyPost_ret (results_none rfl _ _ _) rfl ?_
  exact ⟨rfl, by have := HK.out.1; unfold recB; simpa [List.append_assoc] using this, HK.out.2⟩
end Go.Proofs.Ytilagblpamhmkaa
