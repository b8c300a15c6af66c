/-
  firth/code's writer: a number, an int, a span behind what is written already; a list of spans; code.PutSet.
-/
import Derived.Test.YtlhcohpcjleekaaCodePlain
import Derived.Test.YtlhcohpcjleekaaNumPut
import Derived.Test.YtlhcohpcjleekaaStepAppend
import Derived.Test.YtlhcohpcjleekaaFoot
import Derived.Test.YtlhcohpcjleekaaHeld
namespace Go.Proofs.Ytlhcohpcjleekaa
open Go.RowKit
set_option linter.unusedVariables false

theorem wtag_ne {w : World} {a b : Nat} {ca cb : Array Value} {ta tb : TypeId} {ra rb : Nat × Nat} (ha : w.heap[a]? = some (.cells ca ta ra)) (hb : w.heap[b]? = some (.cells cb tb rb)) (ht : ta ≠ tb) : a ≠ b := by
  rintro rfl
  rw [ha] at hb
  injection hb with hb
  injection hb with _ h2
  exact ht h2
/-- Where a writer stands: its block, and the bytes that it has laid in a row of its own. -/
structure WSt (w0 w : World) (g : Nat) (acc : List UInt8) (A : Option Addr) (c : Nat) : Prop where
  box : w.heap[g]? = some (.cells #[.slice A acc.length c] 65 (0, 0))
  own : w.ownsRow w0.heap.size 5 1 (.slice A acc.length c) acc.length (bsV acc)
  below : Below w0.heap.size w0 w
  le : w0.heap.size ≤ g
/-- What is neither a writer nor a row of bytes has not turned. -/
def WKeep (w w' : World) : Prop := w.heap.size ≤ w'.heap.size ∧ ∀ (k : Nat) (cs : Array Value) (t : TypeId) (r : Nat × Nat), w.heap[k]? = some (Obj.cells cs t r) → t ≠ 5 → t ≠ 65 → w'.heap[k]? = some (Obj.cells cs t r)
theorem WKeep.refl (w : World) : WKeep w w := ⟨Nat.le_refl _, fun _ _ _ _ h _ _ => h⟩
theorem WKeep.trans {a b c : World} (h : WKeep a b) (k : WKeep b c) : WKeep a c := ⟨Nat.le_trans h.1 k.1, fun i cs t r hi h1 h2 => k.2 i cs t r (h.2 i cs t r hi h1 h2) h1 h2⟩
theorem WKeep.of_below {a b : World} (h : Below a.heap.size a b) : WKeep a b := ⟨h.size, fun i cs t r hi _ _ => (h.block i (lt_of_block hi)).trans hi⟩
theorem WKeep.of_grown {a b : World} {row : Option Nat} (h : a.grownBy b row) (hr : ∀ g, row = some g → ∃ cs r, a.heap[g]? = some (.cells cs 5 r)) : WKeep a b :=
  ⟨h.size, fun i cs t r hi h1 _ => (h.block i (lt_of_block hi) (fun e => by
    obtain ⟨cs', r', hc⟩ := hr i e.symm
    exact wtag_ne hi hc h1 rfl)).trans hi⟩
theorem WKeep.set {a : World} {g j : Nat} {cs' : Array Value} {r' : Nat × Nat} (hg : a.heap[g]? = some (.cells cs' 65 r')) (u : Value) : WKeep a (a.setCell ⟨g, j, none⟩ u) :=
  ⟨by simp, fun i cs t r hi _ h2 => (Below.heap_setCell a ⟨g, j, none⟩ u i (fun e => by
    subst e
    exact wtag_ne hi hg h2 rfl)).trans hi⟩
def Wrote (w0 w : World) (g : Nat) (acc : List UInt8) (e : Ending) (w' : World) : Prop := e = .returned (.tuple #[]) ∧ (∃ A c, WSt w0 w' g acc A c) ∧ WKeep w w'
section
variable {w0 w w1 w3 : World} {g : Nat} {acc : List UInt8} {A : Option Addr} {c : Nat}
theorem WSt.move (h : WSt w0 w g acc A c) (b : Below w.heap.size w w1) : WSt w0 w1 g acc A c :=
  ⟨(b.block g (lt_of_block h.box)).trans h.box, own_below h.own b, h.below.trans (b.mono h.below.size), h.le⟩
theorem WSt.far (h : WSt w0 w g acc A c) : (Value.slice A acc.length c).ownBlock ≠ some g := by
  intro e
  obtain ⟨cs, hcs⟩ := own_tag h.own e
  exact wtag_ne hcs h.box (by decide) rfl
theorem WSt.start (w0 : World) {g : Nat} (hg : g = w0.heap.size) : WSt w0 (w0.alloc (.cells #[.slice none 0 0] 65)) g [] none 0 := by
  subst hg
  exact ⟨heap_alloc_new w0 _, World.ownsRow_nil _ _ _ _, (Below.refl _ _).alloc (Nat.le_refl _) _, Nat.le_refl _⟩
theorem WSt.push (h : WSt w0 w g acc A c) (b1 : Below w.heap.size w w1) {l : List UInt8} {m : Nat} (hm : m = l.length) {A3 : Option Addr} {c3 : Nat} (own3 : w3.ownsRow w0.heap.size 5 1 (.slice A3 (acc.length + m) c3) (acc.length + m) (bsV acc ++ bsV l))
    (g3 : w1.grownBy w3 (Value.slice A acc.length c).ownBlock) :
    w3.cell? ⟨g, 0, none⟩ = some (.slice A acc.length c) ∧ w3.frozen? ⟨g, 0, none⟩ = false ∧ WSt w0 (w3.setCell ⟨g, 0, none⟩ (.slice A3 (acc.length + m) c3)) g (acc ++ l) A3 c3 ∧ WKeep w (w3.setCell ⟨g, 0, none⟩ (.slice A3 (acc.length + m) c3)) := by
  subst hm
  have h1 := h.move b1
  have hx : w3.heap[g]? = some (.cells #[.slice A acc.length c] 65 (0, 0)) := (g3.block g (lt_of_block h1.box) (fun e => h.far e.symm)).trans h1.box
  have hne : (Value.slice A3 (acc.length + l.length) c3).ownBlock ≠ some g := by
    intro e
    obtain ⟨cs, hcs⟩ := own_tag own3 e
    exact wtag_ne hcs hx (by decide) rfl
  refine ⟨cell_of_one hx, free_of_one hx, ?_, ((WKeep.of_below b1).trans (WKeep.of_grown g3 (fun q hq => by
    obtain ⟨cs, hcs⟩ := own_tag h1.own hq
    exact ⟨_, _, hcs⟩))).trans (WKeep.set hx _)⟩
  have hl : (acc ++ l).length = acc.length + l.length := List.length_append
  refine ⟨?_, ?_, ?_, h.le⟩
  · rw [hl]; exact one_setCell hx
  · rw [hl, bsV_append]; exact ownsRow_setCell_other own3 hne _
  · exact (below_grow h1.below h1.own g3 h1.below.size (Nat.le_refl _)).setCell h.le _
end

set_option maxHeartbeats 1000000 in
theorem wnum_any (w0 w : World) (g : Nat) (acc : List UInt8) (A : Option Addr) (c : Nat) (n : Int) (h : WSt w0 w g acc A c) (hn : n ≤ 9223372036854775807) (hl : acc.length ≤ 100000000000000) :
    Calls Try.prog 44 #[.pointer (some ⟨g, 0, none⟩), .int .i64 n] w (Wrote w0 w g (acc ++ putNum n)) := by
  obtain ⟨i0, hi, hz0, hz1, hz2⟩ := info_parts Try.infoU8
  have c0 := cell_of_one h.box
  have f0 := free_of_one h.box
  have H := Lib.hid h
  have hpl := putNum_len n
  have hlt := lt_of_block h.box
  have HP := Lib.hid (fun W : World => putNum_any n W hn)
  clear h
  go_enter Try.func44, Try.ntmps44
  go_region_law (first
    | (go_simp; go_at_call 20; refine (HP.out _).mono ?_; rintro e w1 hw1; obtain ⟨A1, n1, c1, rfl, s1, hc1, hm1, b1, o1⟩ := hw1.read; have hn1 := s1.len; have b1' : Below w.heap.size w w1 := ((Below.refl _ w).drew).trans b1; have c0' := (b1'.cell (World.block_lt_of_cell? w _ c0)).trans c0; have HB1 := Lib.hid b1'; have HS1 := Lib.hid s1; clear b1 b1' s1 o1 hw1)
    | (refine step_append_sl rfl (.tmp 8) (.tmp 10) 25 rfl w0.heap.size 5 i0 (.int .u8 0) 1 1 Try.underlying25 hi hz0 hz1 hz2 rfl (by decide) (.slice A acc.length c) acc.length (bsV acc) rfl (H.out.move HB1.out).own A1 n1 c1 (bsV (putNum n)) rfl HS1.out (bsV_one _) (by unfold maxLen; omega) (by omega) (H.out.move HB1.out).below.size ?_; intro v3 w3 own3 g3 _; obtain ⟨A3, c3, rfl, -, -⟩ := own_slice own3; obtain ⟨k1, k2, k3⟩ := H.out.push HB1.out hn1.symm own3 g3; have HK := Lib.hid k3; clear own3 g3 k3))
  all_goals go_wp2
  all_goals refine bodyPost_ret (results_none rfl _ _ _) rfl ?_
  all_goals exact ⟨rfl, ⟨_, _, HK.out.1⟩, HK.out.2⟩
set_option maxHeartbeats 1000000 in
theorem wint_any (w0 w : World) (g : Nat) (acc : List UInt8) (A : Option Addr) (c : Nat) (n : Int) (h : WSt w0 w g acc A c) (hn : n ≤ 9223372036854775807) (hl : acc.length ≤ 100000000000000) :
    Calls Try.prog 43 #[.pointer (some ⟨g, 0, none⟩), .int .i64 n] w (Wrote w0 w g (acc ++ putNum n)) := by
  have C := Lib.hid (wnum_any w0 w g acc A c n h hn hl)
  clear h
  go_enter Try.func43, Try.ntmps43
  go_wp2_with fail
  refine C.out.mono ?_
  rintro e w' ⟨rfl, h1, h2⟩
  have HK := Lib.hid (And.intro h1 h2)
  clear h1 h2 C
  go_wp2
  refine bodyPost_ret (results_none rfl _ _ _) rfl ?_
  exact ⟨rfl, HK.out.1, HK.out.2⟩

theorem WKeep.box3 {w w' : World} (h : WKeep w w') {b : Nat} {x y z : Int} (hb : Box3 w b 45 x y z) : Box3 w' b 45 x y z := h.2 b _ _ _ hb (by decide) (by decide)
set_option maxHeartbeats 1000000 in
theorem wspan_any (w0 w : World) (g : Nat) (acc : List UInt8) (A : Option Addr) (c : Nat) (x : Sp) (h : WSt w0 w g acc A c) (hx : okSp x) (hl : acc.length ≤ 10000000000000) :
    Calls Try.prog 34 #[.pointer (some ⟨g, 0, none⟩), .agg #[.int .i64 x.1, .int .i64 x.2.1, .int .i64 x.2.2]] w (Wrote w0 w g (acc ++ spB x)) := by
  obtain ⟨s, f, t⟩ := x
  unfold okSp at hx
  simp only at hx ⊢
  obtain ⟨q1, q2, q3, q4, q5⟩ := hx
  have l1 := putNum_len s
  have l2 := putNum_len f
  have hb := Box3.new w 45 s f t
  have bA : Below w.heap.size w (w.alloc (.cells #[.int .i64 s, .int .i64 f, .int .i64 t] 45)) := (Below.refl _ _).alloc (Nat.le_refl _) _
  have C1 := Lib.hid (wint_any w0 _ g acc A c s (h.move bA) (by omega) (by omega))
  have g0 := hb.c0
  have HX := Lib.hid hb
  have HA := Lib.hid bA
  clear h hb bA
  go_enter Try.func34, Try.ntmps34
  go_wp2_with fail
  refine C1.out.mono ?_
  rintro e w1 ⟨rfl, ⟨A1, c1, h1⟩, k1⟩
  have X1 := k1.box3 HX.out
  have C2 := Lib.hid (wnum_any w0 w1 g _ A1 c1 f h1 (by omega) (by rw [List.length_append]; omega))
  have g1 := X1.c1
  have HX1 := Lib.hid X1
  have K1 := Lib.hid ((WKeep.of_below HA.out).trans k1)
  clear h1 k1 X1 C1 g0
  go_wp2_with fail
  refine C2.out.mono ?_
  rintro e w2 ⟨rfl, ⟨A2, c2, h2⟩, k2⟩
  have X2 := k2.box3 HX1.out
  have C3 := Lib.hid (wnum_any w0 w2 g _ A2 c2 (t - f) h2 (by omega) (by rw [List.length_append, List.length_append]; omega))
  have g3 := X2.c1
  have g4 := X2.c2
  have K2 := Lib.hid (K1.out.trans k2)
  clear h2 k2 X2 C2 g1
  go_wp2_with fail
  refine C3.out.mono ?_
  rintro e w3 ⟨rfl, h3, k3⟩
  have HK := Lib.hid (And.intro h3 (K2.out.trans k3))
  clear h3 k3 C3 g3 g4
  go_wp2
  refine bodyPost_ret (results_none rfl _ _ _) rfl ?_
  exact ⟨rfl, by have := HK.out.1; unfold spB; simpa [putNum, List.append_assoc] using this, HK.out.2⟩

theorem spB_len (x : Sp) : (spB x).length ≤ 27 := by
  unfold spB
  rw [List.length_append, List.length_append]
  have h1 := putN_len 8 x.1.toNat
  have h2 := putN_len 8 x.2.1.toNat
  have h3 := putN_len 8 (x.2.2 - x.2.1).toNat
  omega
theorem spsB_len (l : List Sp) : (l.flatMap spB).length ≤ 27 * l.length := by
  induction l with
  | nil => simp
  | cons x l ih => rw [List.flatMap_cons, List.length_append, List.length_cons]; have := spB_len x; omega
theorem sps_take {l : List Sp} {i : Nat} {x : Sp} (a : List UInt8) (h : l[i]? = some x) : a ++ (l.take i).flatMap spB ++ spB x = a ++ (l.take (i + 1)).flatMap spB := by
  rw [List.take_add_one, h, List.flatMap_append, List.append_assoc]
  simp
theorem WSt.lower {w w0 w2 : World} {g : Nat} {acc : List UInt8} {A : Option Addr} {c : Nat} (b : Below w.heap.size w w0) (h : WSt w0 w2 g acc A c) : WSt w w2 g acc A c :=
  ⟨h.box, own_lower h.own b.size, b.trans (h.below.mono b.size), Nat.le_trans b.size h.le⟩
set_option maxHeartbeats 1000000 in
theorem wput_spans (w0 w : World) (g : Nat) (acc : List UInt8) (A : Option Addr) (c : Nat) (B : Option Addr) (n k : Nat) (l : List Sp) (h : WSt w0 w g acc A c) (hs : SlS w0 B n l) (hg : ∀ x ∈ l, okSp x) (hn : n ≤ 1024) (hl : acc.length ≤ 1000000000000) :
    Calls Try.prog 33 #[.pointer (some ⟨g, 0, none⟩), .slice B n k, .func (.func 34) #[.pointer (some ⟨g, 0, none⟩)] #[]] w (Wrote w0 w g (acc ++ setB l)) := by
  have hll := hs.len
  have l1 := putNum_len (n : Int)
  have C1 := Lib.hid (wint_any w0 w g acc A c (n : Int) h (by omega) (by omega))
  have HS := Lib.hid hs
  have HG := Lib.hid hg
  clear h hs hg
  go_enter Try.func33, Try.ntmps33
  go_wp2_with fail
  refine C1.out.mono ?_
  rintro e w1 ⟨rfl, ⟨A1, c1, h1⟩, k1⟩
  have H1 := Lib.hid (And.intro h1 k1)
  clear h1 k1 C1
  go_wp2
  go_loopw [14] (fun t wr => ∃ (i : Nat) (A : Option Addr) (c : Nat), t = .int .i64 (i : Int) ∧ i ≤ n ∧ Hid (WSt w0 wr g (acc ++ putNum n ++ (l.take i).flatMap spB) A c ∧ WKeep w wr)) (fun t _ => n - (intOf t).toNat)
  case atStart => exact ⟨0, A1, c1, rfl, Nat.zero_le _, by simpa using H1⟩
  case round =>
    obtain ⟨i, A2, c2, rfl, hi, HW⟩ := hrel
    by_cases hlt : i < n
    · obtain ⟨b, off, x, y, z, rfl, hx, hc0, hc1, hc2⟩ := SlS.at_ (Sl.below HS.out HW.out.1.below) hlt
      have hok := HG.out _ (List.mem_of_getElem? hx)
      have bA : Below wr.heap.size wr (wr.alloc (.cells #[.int .i64 x, .int .i64 y, .int .i64 z] 45)) := (Below.refl _ _).alloc (Nat.le_refl _) _
      have C2 := Lib.hid (wspan_any w0 _ g _ A2 c2 (x, y, z) (HW.out.1.move bA) hok (by
        have := spsB_len (l.take i)
        rw [List.length_append, List.length_append]
        have h2 := List.length_take_le i l
        omega))
      have HT := Lib.hid (sps_take (acc ++ putNum n) hx)
      have K1 := Lib.hid (HW.out.2.trans (WKeep.of_below bA))
      clear hx bA hok
      go_wp2_with (go_at_call 34; refine C2.out.mono ?_; rintro e w2 ⟨rfl, ⟨A3, c3, h3⟩, k3⟩)
      have H3 := Lib.hid (And.intro h3 (K1.out.trans k3))
      clear h3 k3
      go_roundw
      case rel => exact ⟨i + 1, A3, c3, by go_num, by omega, by rw [← HT.out]; exact H3⟩
      case measure => simp [intOf]; omega
    · obtain rfl : i = n := by omega
      go_wp2
      refine bodyPost_ret (results_none rfl _ _ _) rfl ?_
      refine ⟨rfl, ⟨A2, c2, ?_⟩, HW.out.2⟩
      have := HW.out.1
      rw [List.take_of_length_le (by omega)] at this
      unfold setB
      rw [hll, ← List.append_assoc]
      exact this
/-- What PutSet answers. -/
noncomputable def putSetE (l : List Sp) : List UInt8 × Int := if rightS l = true then (setB l, 0) else ([], 1)
/-- New bytes, and an error's number. -/
def NewBytesE (w : World) (l : List UInt8) (x : Int) (e : Ending) (w' : World) : Prop :=
  ∃ A n c, e = .returned (.tuple #[.slice A n c, .int .i64 x]) ∧ SlB w' A n l ∧ n ≤ c ∧ c ≤ maxLen ∧ Below w.heap.size w w' ∧ w'.ownsRow w.heap.size 5 1 (.slice A n c) n (bsV l)
theorem NewBytesE.nil {w w' : World} {x : Int} (b : Below w.heap.size w w') : NewBytesE w [] x (.returned (.tuple #[.slice none 0 0, .int .i64 x])) w' :=
  ⟨none, 0, 0, rfl, Sl.nil _ _ _, Nat.le_refl _, by unfold maxLen; omega, b, World.ownsRow_nil _ _ _ _⟩
theorem NewBytesE.of {w w' : World} {g : Nat} {l : List UInt8} {A : Option Addr} {c : Nat} (h : WSt w w' g l A c) : NewBytesE w l 0 (.returned (.tuple #[.slice A l.length c, .int .i64 0])) w' := by
  obtain ⟨A', c', e, h1, h2⟩ := own_slice h.own
  injection e with _ _ e3
  subst e3
  exact ⟨A, _, c, rfl, Sl.of_own h.own, h1, h2, h.below, h.own⟩
set_option maxHeartbeats 1000000 in
theorem putSet_any (w : World) (B : Option Addr) (n k : Nat) (l : List Sp) (hs : SlS w B n l) (hn : n ≤ 140737488351232) :
    Calls Try.prog 18 #[.slice B n k] w (NewBytesE w (putSetE l).1 (putSetE l).2) := by
  have hmf : ∀ (fn : Fn) (first cap : Array Value) (w : World), (Instr.makeFunc fn first cap).run Try.prog w = .ok (.func fn first cap) w := fun _ _ _ _ => rfl
  have hll := hs.len
  have c1 := spanRight_any B n k l w hs hn
  have HS := Lib.hid hs
  unfold putSetE
  cases hr : rightS l
  · rw [hr] at c1
    have C1 := Lib.hid c1
    clear c1 hr hs
    go_enter Try.func18, Try.ntmps18
    go_wp2_with fail
    refine C1.out.mono ?_
    rintro e w1 ⟨rfl, b1⟩
    have HB := Lib.hid b1
    clear b1 C1
    go_wp2
    go_ret2
    exact NewBytesE.nil HB.out
  · rw [hr] at c1
    have HR := Lib.hid (rightS_true.1 hr)
    have hn2 : n ≤ 1024 := by have := HR.out.2; omega
    have C1 := Lib.hid c1
    clear c1 hr hs
    go_enter Try.func18, Try.ntmps18
    go_wp2_with fail
    refine C1.out.mono ?_
    rintro e w1 ⟨rfl, b1⟩
    have C2 := Lib.hid (wput_spans w1 _ w1.heap.size [] none 0 B n k l (WSt.start w1 rfl) (Sl.below HS.out b1) HR.out.1.1 hn2 (by simp))
    have HB := Lib.hid b1
    clear b1 C1
    go_wp2_with fail
    refine C2.out.mono ?_
    rintro e w2 ⟨rfl, ⟨A2, c2, h2⟩, -⟩
    have HK := Lib.hid (WSt.lower HB.out h2)
    have g0 := cell_of_one h2.box
    clear h2 C2
    go_wp2
    go_ret2
    exact NewBytesE.of HK.out
end Go.Proofs.Ytlhcohpcjleekaa
