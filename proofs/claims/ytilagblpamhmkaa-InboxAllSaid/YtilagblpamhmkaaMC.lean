/-
  span: which of two spans comes first, whether a dot is right, whether a set has a dot, a site's greatest count; firthref03: the same.
  Rows of structs by value: k cells an element. No program is looked at here.
  Arguments of any shape (numbers, strings, slices of such, structs of such), opened at once. No program is looked at here.
  Versions: plain, and how they lie in memory. No program is looked at here.
  span.Has, span.Top, firthref03.Has, firthref03.Top.
  firthref03.Right tells whether a list of spans is right.
  firthref03.put lays a span into a right list.
  One set of spans within another one, and how many dots there are, in plain Lean.
  firthref03.Join, Add and Within.
  span.Join: two sets put together by merging.
  span.Add and firthref03.Add: a dot more.
-/
import Derived.Test.YtilagblpamhmkaaMA
import Derived.Deep.Slices
import Derived.Test.YtilagblpamhmkaaMB
import Derived.IntWalk
import Derived.Deep.LoopGhost
import Derived.Deep.CutBlock
import Derived.Deep.DeepCutAuto
import Derived.RegionTactic
import Derived.BigRegion
import Derived.WalkMore
namespace Go.Proofs.Ytilagblpamhmkaa
open Go.RowKit
set_option linter.unusedVariables false

/-- A dot is right. -/
def dotB (s n : Int) : Bool := decide (1 ≤ s ∧ s ≤ 16 ∧ 1 ≤ n ∧ n ≤ 4611686018427387904)
theorem dotB_true {s n : Int} : dotB s n = true ↔ 1 ≤ s ∧ s ≤ 16 ∧ 1 ≤ n ∧ n ≤ 4611686018427387904 := by unfold dotB; rw [decide_eq_true_iff]
theorem dotB_false {s n : Int} (h : ¬ (1 ≤ s ∧ s ≤ 16 ∧ 1 ≤ n ∧ n ≤ 4611686018427387904)) : dotB s n = false := by unfold dotB; exact decide_eq_false h
theorem beforeB_false {x y : Sp} (h : ¬ (x.1 < y.1 ∨ (x.1 = y.1 ∧ x.2.1 < y.2.1))) : beforeB x y = false := by
  cases hb : beforeB x y
  · rfl
  · exact absurd (beforeB_true.1 hb) h

/-- A set has a dot. -/
noncomputable def hasB (l : List Sp) (s n : Int) : Bool := @decide (has l s n) (Classical.propDecidable _)
theorem hasB_true {l : List Sp} {s n : Int} : hasB l s n = true ↔ has l s n := by unfold hasB; exact @decide_eq_true_iff _ (Classical.propDecidable _)
theorem hasB_false {l : List Sp} {s n : Int} (h : ¬ has l s n) : hasB l s n = false := by
  cases hr : hasB l s n
  · rfl
  · exact absurd (hasB_true.1 hr) h
def NoneTo (l : List Sp) (s n : Int) (k : Nat) : Prop := ¬ has (l.take k) s n
theorem NoneTo.start (l : List Sp) (s n : Int) : NoneTo l s n 0 := has_nil s n
theorem NoneTo.step {l : List Sp} {s n : Int} {k : Nat} {x : Sp} (h : NoneTo l s n k) (hx : l[k]? = some x) (hn : ¬ inSp x s n) : NoneTo l s n (k + 1) := by
  unfold NoneTo at *
  rw [List.take_add_one, hx, has_append]
  rintro (h1 | ⟨y, hy, h1⟩)
  · exact h h1
  · simp at hy; subst hy; exact hn h1
theorem NoneTo.hit {l : List Sp} {s n : Int} {k : Nat} {x : Sp} (hx : l[k]? = some x) (hn : inSp x s n) : hasB l s n = true :=
  hasB_true.2 ⟨x, List.mem_of_getElem? hx, hn⟩
theorem NoneTo.all {l : List Sp} {s n : Int} {k : Nat} (h : NoneTo l s n k) (hk : l.length = k) : hasB l s n = false := by
  unfold NoneTo at h
  rw [List.take_of_length_le (by omega)] at h
  exact hasB_false h

/-- The greatest count of a site in the first k spans. -/
def topTo (l : List Sp) (s : Int) : Nat → Int
  | 0 => 0
  | k + 1 => if (l.getD k (0, 0, 0)).1 = s ∧ topTo l s k < (l.getD k (0, 0, 0)).2.2 then (l.getD k (0, 0, 0)).2.2 else topTo l s k
def topS (l : List Sp) (s : Int) : Int := topTo l s l.length
theorem topTo_yes {l : List Sp} {s : Int} {k : Nat} {x : Sp} (hx : l[k]? = some x) (h1 : x.1 = s) (h2 : topTo l s k < x.2.2) : topTo l s (k + 1) = x.2.2 := by
  have e : l.getD k (0, 0, 0) = x := by rw [List.getD_eq_getElem?_getD, hx]; rfl
  rw [topTo, e, if_pos ⟨h1, h2⟩]
theorem topTo_no {l : List Sp} {s : Int} {k : Nat} {x : Sp} (hx : l[k]? = some x) (h : ¬ (x.1 = s ∧ topTo l s k < x.2.2)) : topTo l s (k + 1) = topTo l s k := by
  have e : l.getD k (0, 0, 0) = x := by rw [List.getD_eq_getElem?_getD, hx]; rfl
  rw [topTo, e, if_neg h]

/-- A dot in a block of the call's own. -/
def Box2 (w : World) (g : Nat) (t : TypeId) (x y : Int) : Prop := w.heap[g]? = some (.cells #[.int .i64 x, .int .i64 y] t (0, 0))
section
variable {w w' : World} {g : Nat} {t : TypeId} {x y : Int}
theorem Box2.new (w : World) (t : TypeId) (x y : Int) : Box2 (w.alloc (.cells #[.int .i64 x, .int .i64 y] t)) w.heap.size t x y := heap_alloc_new w _
theorem Box2.lt (h : Box2 w g t x y) : g < w.heap.size := (Array.getElem?_eq_some_iff.1 h).1
theorem Box2.alloc (h : Box2 w g t x y) (o : Obj) : Box2 (w.alloc o) g t x y := (Below.heap_alloc w o g h.lt).trans h
theorem Box2.c0 (h : Box2 w g t x y) : w.cell? ⟨g, 0, none⟩ = some (.int .i64 x) := by rw [cell_of_row w g 0 _ t (0, 0) h]; rfl
theorem Box2.c1 (h : Box2 w g t x y) : w.cell? ⟨g, 1, none⟩ = some (.int .i64 y) := by rw [cell_of_row w g 1 _ t (0, 0) h]; rfl
end

set_option maxHeartbeats 1000000 in
set_option maxRecDepth 100000 in
theorem refDot_any (s n : Int) (w : World) :
    Calls Try.prog 78 #[.agg #[.int .i64 s, .int .i64 n]] w fun e w' => e = .returned (.bool (dotB s n)) ∧ Below w.heap.size w w' := by
  have HA : Below w.heap.size w (w.alloc (.cells #[.int .i64 s, .int .i64 n] 39)) := (Below.refl _ _).alloc (Nat.le_refl _) _
  have h := Lib.hid HA
  clear HA
  by_cases h1 : 1 ≤ s
  · by_cases h2 : s ≤ 16
    · by_cases h3 : 1 ≤ n
      · by_cases h4 : n ≤ 4611686018427387904
        · go_enter Try.func78, Try.ntmps78
          go_wp2
          go_ret
          exact ⟨retb (by rw [dotB_true.2 ⟨h1, h2, h3, h4⟩]), h.out⟩
        · go_enter Try.func78, Try.ntmps78
          go_wp2
          go_ret
          exact ⟨retb (by rw [dotB_false (by omega)]), h.out⟩
      · go_enter Try.func78, Try.ntmps78
        go_wp2
        go_ret
        exact ⟨retb (by rw [dotB_false (by omega)]), h.out⟩
    · go_enter Try.func78, Try.ntmps78
      go_wp2
      go_ret
      exact ⟨retb (by rw [dotB_false (by omega)]), h.out⟩
  · go_enter Try.func78, Try.ntmps78
    go_wp2
    go_ret
    exact ⟨retb (by rw [dotB_false (by omega)]), h.out⟩

/-- The memory that span.before leaves. -/
def beforeW (w : World) (x y : Sp) : World := (w.alloc (.cells #[.int .i64 x.1, .int .i64 x.2.1, .int .i64 x.2.2] 53)).alloc (.cells #[.int .i64 y.1, .int .i64 y.2.1, .int .i64 y.2.2] 53)
theorem beforeW_below (w : World) (x y : Sp) : Below w.heap.size w (beforeW w x y) :=
  have h := (Below.refl w.heap.size w).alloc (Nat.le_refl _) (.cells #[.int .i64 x.1, .int .i64 x.2.1, .int .i64 x.2.2] 53)
  h.alloc h.size _

end Go.Proofs.Ytilagblpamhmkaa
namespace Go.Proofs.Ytilagblpamhmkaa
set_option linter.unusedVariables false
section
variable {α : Type} {f : α → List Value} {sz : Nat}
theorem flat_len (hf : ∀ x, (f x).length = sz) : ∀ l : List α, (l.flatMap f).length = l.length * sz
  | [] => by simp
  | x :: l => by rw [List.flatMap_cons, List.length_append, hf, flat_len hf l, List.length_cons, Nat.add_mul]; omega
theorem flat_at (hf : ∀ x, (f x).length = sz) : ∀ (l : List α) (i r : Nat) (x : α), l[i]? = some x → r < sz → (l.flatMap f)[i * sz + r]? = (f x)[r]?
  | [], _, _, _, h, _ => by simp at h
  | y :: l, 0, r, x, h, hr => by
    simp only [List.getElem?_cons_zero, Option.some.injEq] at h
    subst h
    rw [List.flatMap_cons, Nat.zero_mul, Nat.zero_add, List.getElem?_append_left (by rw [hf]; exact hr)]
  | y :: l, i + 1, r, x, h, hr => by
    simp only [List.getElem?_cons_succ] at h
    rw [List.flatMap_cons, List.getElem?_append_right (by rw [hf, Nat.add_mul]; omega), hf, show (i + 1) * sz + r - sz = i * sz + r by rw [Nat.add_mul]; omega]
    exact flat_at hf l i r x h hr
theorem flat_set (hf : ∀ x, (f x).length = sz) : ∀ (l : List α) (i r : Nat) (x y : α) (u : Value), l[i]? = some x → r < sz → (f x).set r u = f y → (l.flatMap f).set (i * sz + r) u = (l.set i y).flatMap f
  | [], _, _, _, _, _, h, _, _ => by simp at h
  | z :: l, 0, r, x, y, u, h, hr, he => by
    simp only [List.getElem?_cons_zero, Option.some.injEq] at h
    subst h
    rw [List.flatMap_cons, Nat.zero_mul, Nat.zero_add, List.set_append_left _ _ (by rw [hf]; exact hr), he]; rfl
  | z :: l, i + 1, r, x, y, u, h, hr, he => by
    simp only [List.getElem?_cons_succ] at h
    rw [List.flatMap_cons, List.set_append_right _ _ (by rw [hf, Nat.add_mul]; omega), hf, show (i + 1) * sz + r - sz = i * sz + r by rw [Nat.add_mul]; omega, flat_set hf l i r x y u h hr he]
    rfl
end
end Go.Proofs.Ytilagblpamhmkaa
namespace Go.Proofs.Ytilagblpamhmkaa
open Go.ChangeShapes Go.WideShapes Go.ChangeAt Go.RowKit Go.Deep
set_option linter.unusedVariables false

/-- A shape: 'sl b s' is a slice whose elements take b bytes each. -/
inductive Sh where
  | int (k : IntKind)
  | u8
  | bool
  | str
  | sl (b : Nat) (s : Sh)
  | pair (a b : Sh)
def Sh.size : Sh → Nat
  | .pair a b => a.size + b.size
  | _ => 1
abbrev Sh.T : Sh → Type
  | .int _ => Int
  | .u8 => UInt8
  | .bool => Bool
  | .str => ByteArray
  | .sl _ s => List s.T
  | .pair a b => a.T × b.T
/-- The cells cs read as d. -/
def Rd (w : World) : (s : Sh) → List Value → s.T → Prop
  | .int k, cs, d => cs = [.int k d] ∧ (Lit.int k d).wf = true
  | .u8, cs, d => cs = [bV d]
  | .bool, cs, d => cs = [.bool d]
  | .str, cs, d => cs = [.string d] ∧ d.size ≤ 140737488351232
  | .sl b s, cs, d => ∃ A n c, cs = [.slice A n c] ∧ n ≤ c ∧ c * b ≤ 140737488351232 ∧ c ≤ maxLen ∧ d.length = n ∧
      (0 < n → ∃ g off, A = some ⟨g, off, none⟩ ∧ ∀ i x, d[i]? = some x → ∃ xs, xs.length = s.size ∧ (∀ j u, xs[j]? = some u → w.cell? ⟨g, off + i * s.size + j, none⟩ = some u) ∧ Rd w s xs x)
  | .pair a b, cs, d => ∃ c1 c2, cs = c1 ++ c2 ∧ Rd w a c1 d.1 ∧ Rd w b c2 d.2

theorem Rd.len {w : World} : ∀ {s : Sh} {cs : List Value} {d : s.T}, Rd w s cs d → cs.length = s.size
  | .int _, _, _, h => by obtain ⟨rfl, _⟩ := h; rfl
  | .u8, _, _, h => by obtain rfl : _ = _ := h; rfl
  | .bool, _, _, h => by obtain rfl : _ = _ := h; rfl
  | .str, _, _, h => by obtain ⟨rfl, _⟩ := h; rfl
  | .sl _ _, _, _, h => by obtain ⟨A, n, c, rfl, _⟩ := h; rfl
  | .pair a b, _, _, h => by
    obtain ⟨c1, c2, rfl, h1, h2⟩ := h
    rw [List.length_append, Rd.len h1, Rd.len h2]; rfl
theorem Rd.move {w w' : World} (hk : ∀ p : Addr, p.block < w.heap.size → w'.cell? p = w.cell? p) : ∀ {s : Sh} {cs : List Value} {d : s.T}, Rd w s cs d → Rd w' s cs d
  | .int _, _, _, h => h
  | .u8, _, _, h => h
  | .bool, _, _, h => h
  | .str, _, _, h => h
  | .sl _ s, _, _, h => by
    obtain ⟨A, n, c, e, h1, h2, h3, h4, h5⟩ := h
    refine ⟨A, n, c, e, h1, h2, h3, h4, fun hn => ?_⟩
    obtain ⟨g, off, hA, hc⟩ := h5 hn
    refine ⟨g, off, hA, fun i x hx => ?_⟩
    obtain ⟨xs, k1, k2, k3⟩ := hc i x hx
    exact ⟨xs, k1, fun j u hu => (hk _ (World.block_lt_of_cell? w _ (k2 j u hu))).trans (k2 j u hu), k3.move hk⟩
  | .pair a b, _, _, h => by
    obtain ⟨c1, c2, e, h1, h2⟩ := h
    exact ⟨c1, c2, e, h1.move hk, h2.move hk⟩
theorem Rd.below {w w' : World} {s : Sh} {cs : List Value} {d : s.T} (h : Rd w s cs d) (hb : Below w.heap.size w w') : Rd w' s cs d := h.move fun _ hp => hb.cell hp

/-- Do the fields of a struct, one behind the other, have the shape? -/
def fitF (P : Program) (f : TypeId → Sh → Bool) : List Field → Nat → Sh → Bool
  | [], _, _ => false
  | x :: r, off, s => x.offset == off && match r, s with
    | [], s => P.cellsOf x.type == s.size && f x.type s
    | _ :: _, .pair a b => P.cellsOf x.type == a.size && (f x.type a && fitF P f r (off + a.size) b)
    | _, _ => false
def fitA (f : Sh → Bool) (k : Nat) : Nat → Sh → Bool
  | 0, _ => false
  | 1, s => s.size == k && f s
  | n + 2, .pair a b => a.size == k && (f a && fitA f k (n + 1) b)
  | _, _ => false
/-- Has a type the shape? -/
def fitB (P : Program) : Nat → TypeId → Sh → Bool
  | 0, _, _ => false
  | n + 1, t, s => match P.underlying t with
    | some (.int k) => match s with | .int k' => k == k' | .u8 => k == .u8 | _ => false
    | some .bool => match s with | .bool => true | _ => false
    | some .string => match s with | .str => true | _ => false
    | some (.slice e) => match s with | .sl b s' => P.cellsOf e == s'.size && (P.bytesOf e == b && fitB P n e s') | _ => false
    | some (.struct fs) => P.cellsOf t == s.size && fitF P (fitB P n) fs.toList 0 s
    | some (.array k e) => P.cellsOf t == s.size && fitA (fitB P n e) (P.cellsOf e) k s
    | _ => false

section
variable {H : Type} {enc : TypeId × Value → H} {P : Program} {w : World}
theorem weightsAll_mem {e : TypeId} : ∀ {ds : List (DataW H)} {d : DataW H}, d ∈ ds → ∀ m ∈ d.weights P e, m ∈ DataW.weightsAll P e ds
  | x :: r, d, h, m, hm => by
    simp only [DataW.weightsAll, List.mem_append]
    rcases List.mem_cons.1 h with rfl | h
    · exact .inl hm
    · exact .inr (weightsAll_mem h m hm)
theorem choose_lt' {α : Type} {p : Nat → α → Prop} : ∀ {n : Nat}, (∀ i, i < n → ∃ x, p i x) → ∃ l : List α, l.length = n ∧ ∀ i x, l[i]? = some x → p i x
  | 0, _ => ⟨[], rfl, by simp⟩
  | n + 1, h => by
    obtain ⟨l, hl, hp⟩ := choose_lt' (n := n) (fun i hi => h i (by omega))
    obtain ⟨x, hx⟩ := h n (by omega)
    refine ⟨l ++ [x], by simp [hl], fun i y hy => ?_⟩
    rw [List.getElem?_append] at hy
    split at hy
    · exact hp i y hy
    · have hi : i = n := by
        have := (List.getElem?_eq_some_iff.1 hy).1
        simp at this
        omega
      subst hi
      simp [hl] at hy
      exact hy ▸ hx
/-- What a shape's reader gives of a struct's fields from 'off' on. -/
theorem open_fields {n : Nat} {f : TypeId → Sh → Bool} {cs : List Value}
    (hf : ∀ (t : TypeId) (s : Sh) (xs : List Value) (y : DataW H × List MemPlace), f t s = true → DataW.trod enc P w 0 (fun _ => true) true n t xs = some y → (∀ m ∈ y.1.weights P t, m ≤ 140737488351232) → ∃ d : s.T, Rd w s xs d) :
    ∀ (fs : List Field) (off : Nat) (s : Sh) (ys : List (DataW H × List MemPlace)), fitF P f fs off s = true → off + s.size = cs.length →
      (∀ (i : Nat) (x : Field), fs[i]? = some x → DataW.trod enc P w 0 (fun _ => true) true n x.type ((cs.drop x.offset).take (P.cellsOf x.type)) = ys[i]?) → ys.length = fs.length →
      (∀ m ∈ DataW.weightsEach P (fs.map (·.type)) (ys.map (·.1)), m ≤ 140737488351232) → ∃ d : s.T, Rd w s (cs.drop off) d
  | [], off, s, ys, hfit, _, _, _, _ => by simp [fitF] at hfit
  | [x], off, s, ys, hfit, hlen, hy, hyl, hw => by
    simp only [fitF, Bool.and_eq_true, beq_iff_eq] at hfit
    obtain ⟨h1, h2, h3⟩ := hfit
    match ys, hyl with
    | [y], _ =>
      have g := hy 0 x rfl
      rw [h1, h2, List.take_of_length_le (by rw [List.length_drop]; omega)] at g
      exact hf _ _ _ y h3 g (fun m hm => hw m (by simpa [DataW.weightsEach] using hm))
  | x :: z :: r, off, .pair a b, ys, hfit, hlen, hy, hyl, hw => by
    simp only [fitF, Bool.and_eq_true, beq_iff_eq] at hfit
    obtain ⟨h1, h2, h3, h4⟩ := hfit
    match ys, hyl with
    | y :: ys', hyl' =>
      have g := hy 0 x rfl
      rw [h1, h2] at g
      obtain ⟨d1, hd1⟩ := hf _ _ _ y h3 g (fun m hm => hw m (by simp only [List.map_cons, DataW.weightsEach, List.mem_append]; exact .inl hm))
      obtain ⟨d2, hd2⟩ := open_fields hf (z :: r) (off + a.size) b ys' (by simpa only [fitF, Bool.and_eq_true, beq_iff_eq] using h4) (by rw [← hlen]; simp only [Sh.size]; omega) (fun i x' hx' => hy (i + 1) x' hx') (by simpa using hyl')
        (fun m hm => hw m (by simp only [List.map_cons, DataW.weightsEach, List.mem_append] at hm ⊢; exact .inr hm))
      refine ⟨(d1, d2), (cs.drop off).take a.size, cs.drop (off + a.size), ?_, hd1, hd2⟩
      rw [← List.drop_drop, List.take_append_drop]
  | x :: z :: r, off, .int _, ys, hfit, _, _, _, _ => by simp [fitF] at hfit
  | x :: z :: r, off, .u8, ys, hfit, _, _, _, _ => by simp [fitF] at hfit
  | x :: z :: r, off, .bool, ys, hfit, _, _, _, _ => by simp [fitF] at hfit
  | x :: z :: r, off, .str, ys, hfit, _, _, _, _ => by simp [fitF] at hfit
  | x :: z :: r, off, .sl _ _, ys, hfit, _, _, _, _ => by simp [fitF] at hfit
/-- What a shape's reader gives of an array's elements from the k-th on. -/
theorem open_elems {n k : Nat} {e : TypeId} {f : Sh → Bool} {cs : List Value}
    (hf : ∀ (s : Sh) (xs : List Value) (y : DataW H × List MemPlace), f s = true → DataW.trod enc P w 0 (fun _ => true) true n e xs = some y → (∀ m ∈ y.1.weights P e, m ≤ 140737488351232) → ∃ d : s.T, Rd w s xs d) :
    ∀ (r i : Nat) (s : Sh) (ys : List (DataW H × List MemPlace)), fitA f k r s = true → i * k + s.size = cs.length →
      (∀ j, j < r → DataW.trod enc P w 0 (fun _ => true) true n e ((cs.drop ((i + j) * k)).take k) = ys[j]?) → ys.length = r →
      (∀ m ∈ DataW.weightsAll P e (ys.map (·.1)), m ≤ 140737488351232) → ∃ d : s.T, Rd w s (cs.drop (i * k)) d
  | 0, i, s, ys, hfit, _, _, _, _ => by simp [fitA] at hfit
  | 1, i, s, ys, hfit, hlen, hy, hyl, hw => by
    simp only [fitA, Bool.and_eq_true, beq_iff_eq] at hfit
    obtain ⟨h2, h3⟩ := hfit
    match ys, hyl with
    | [y], _ =>
      have g := hy 0 (by omega)
      rw [Nat.add_zero, List.take_of_length_le (by rw [List.length_drop]; omega)] at g
      exact hf _ _ y h3 g (fun m hm => hw m (by simpa [DataW.weightsAll] using hm))
  | r + 2, i, .pair a b, ys, hfit, hlen, hy, hyl, hw => by
    simp only [fitA, Bool.and_eq_true, beq_iff_eq] at hfit
    obtain ⟨h2, h3, h4⟩ := hfit
    match ys, hyl with
    | y :: ys', hyl' =>
      have g := hy 0 (by omega)
      rw [Nat.add_zero] at g
      have e1 : i * k + a.size = (i + 1) * k := by rw [h2, Nat.add_mul, Nat.one_mul]
      obtain ⟨d1, hd1⟩ := hf _ _ y h3 g (fun m hm => hw m (by simp only [List.map_cons, DataW.weightsAll, List.mem_append]; exact .inl hm))
      obtain ⟨d2, hd2⟩ := open_elems hf (r + 1) (i + 1) b ys' h4 (by rw [← hlen, ← e1]; simp only [Sh.size]; omega)
        (fun j hj => by have := hy (j + 1) (by omega); rwa [show i + (j + 1) = i + 1 + j from by omega] at this) (by simpa using hyl') (fun m hm => hw m (by simp only [List.map_cons, DataW.weightsAll, List.mem_append]; exact .inr hm))
      refine ⟨(d1, d2), (cs.drop (i * k)).take k, cs.drop ((i + 1) * k), ?_, hd1, hd2⟩
      rw [← e1, h2, ← List.drop_drop, List.take_append_drop]
  | r + 2, i, .int _, ys, hfit, _, _, _, _ => by simp [fitA] at hfit
  | r + 2, i, .u8, ys, hfit, _, _, _, _ => by simp [fitA] at hfit
  | r + 2, i, .bool, ys, hfit, _, _, _, _ => by simp [fitA] at hfit
  | r + 2, i, .str, ys, hfit, _, _, _, _ => by simp [fitA] at hfit
  | r + 2, i, .sl _ _, ys, hfit, _, _, _, _ => by simp [fitA] at hfit
theorem Sh.size_pos : ∀ s : Sh, 0 < s.size
  | .pair a b => by have := a.size_pos; simp only [Sh.size]; omega
  | .int _ => by simp [Sh.size]
  | .u8 => by simp [Sh.size]
  | .bool => by simp [Sh.size]
  | .str => by simp [Sh.size]
  | .sl _ _ => by simp [Sh.size]

theorem open_any : ∀ (n : Nat) (t : TypeId) (s : Sh) (fuel : Nat) (cs : List Value) (x : DataW H × List MemPlace), fitB P n t s = true → DataW.trod enc P w 0 (fun _ => true) true fuel t cs = some x →
    (∀ m ∈ x.1.weights P t, m ≤ 140737488351232) → ∃ d : s.T, Rd w s cs d
  | 0, _, _, _, _, _, h, _, _ => by simp [fitB] at h
  | n + 1, t, s, fuel, cs, x, h, ht, hw => by
    unfold fitB at h
    split at h
    · rename_i k hu
      obtain ⟨z, rfl, rfl, hz⟩ := DataW.trod_int hu ht
      cases s <;> simp at h
      · subst h
        exact ⟨z, rfl, hz⟩
      · subst h
        have hb := bounds_u8 hz
        refine ⟨UInt8.ofNat z.toNat, ?_⟩
        show _ = [bV _]
        simp only [bV, UInt8.toNat_ofNat']
        congr 2
        omega
    · rename_i hu
      obtain ⟨b, rfl, rfl⟩ := DataW.trod_bool hu ht
      cases s <;> simp at h
      exact ⟨b, rfl⟩
    · rename_i hu
      obtain ⟨b, rfl, rfl, hb⟩ := DataW.trod_string hu ht
      cases s <;> simp at h
      exact ⟨b, rfl, by simpa using hw b.data.toList.length (by simp [DataW.weights])⟩
    · rename_i e hu
      cases s <;> simp at h
      rename_i b s'
      obtain ⟨h1, h2, h3⟩ := h
      rcases open_slice hu ht with ⟨rfl, rfl⟩ | ⟨a, len, cap, m, n', D, Pl, rfl, _, hl, hm, hmm, rfl, hi⟩
      · exact ⟨[], none, 0, 0, rfl, Nat.le_refl _, by omega, by unfold maxLen; omega, rfl, fun h => by omega⟩
      · simp only [if_true] at hmm
        subst hmm
        have hcap : m * b ≤ 140737488351232 := by
          have := hw ((((List.range len).map D).length + ((List.range (m - len)).map fun j => D (len + j)).length) * P.bytesOf e) (by simp [DataW.weights, hu])
          rw [List.length_map, List.length_map, List.length_range, List.length_range, h2, show len + (m - len) = m from by omega] at this
          exact this
        have key : ∀ i, i < len → ∃ d : s'.T, ∃ xs, xs.length = s'.size ∧ (∀ j u, xs[j]? = some u → w.cell? (a.add (i * s'.size + j)) = some u) ∧ Rd w s' xs d := by
          intro i hil
          obtain ⟨cs', hc, ht'⟩ := hi i (by omega)
          rw [h1] at hc
          obtain ⟨_, hcl, hat⟩ := World.cells?_some hc
          obtain ⟨d, hd⟩ := open_any n e s' n' cs' _ h3 ht' (fun m hm => hw m (by
            simp only [DataW.weights, hu, List.mem_cons, List.mem_append]
            exact .inr (.inl (weightsAll_mem (List.mem_map.2 ⟨i, List.mem_range.2 hil, rfl⟩) m hm))))
          refine ⟨d, cs', hcl, fun j u hu' => ?_, hd⟩
          have hj : j < s'.size := by rw [← hcl]; exact (List.getElem?_eq_some_iff.1 hu').1
          rw [← Go.Deep.add_add, hat j hj, hu']
        obtain ⟨l, hll, hlp⟩ := choose_lt' key
        refine ⟨l, _, len, m, rfl, hl, hcap, hm, hll, fun hn => ?_⟩
        obtain ⟨g, off, spot⟩ := a
        have hspot : spot = none := by
          obtain ⟨d, xs, k1, k2, _⟩ := key 0 hn
          have hp := s'.size_pos
          simpa [Addr.add] using World.cell?_spot (k2 0 _ (List.getElem?_eq_getElem (by omega)))
        subst hspot
        refine ⟨g, off, rfl, fun i x hx => ?_⟩
        obtain ⟨xs, k1, k2, k3⟩ := hlp i x hx
        refine ⟨xs, k1, fun j u hu' => ?_, k3⟩
        rw [Nat.add_assoc, ← add_plain']
        exact k2 j u hu'
    · rename_i fs hu
      simp only [Bool.and_eq_true, beq_iff_eq] at h
      obtain ⟨h1, h2⟩ := h
      obtain ⟨ys, n', _, rfl, hcl, hyl, hfl⟩ := DataW.trod_struct hu ht
      have := open_fields (enc := enc) (P := P) (w := w) (f := fitB P n) (cs := cs) (n := n') (fun t s xs y hfit htr hwt => open_any n t s n' xs y hfit htr hwt) fs.toList 0 s ys h2 (by omega) (fun i x hx => hfl i x (by simpa using hx)) (by simpa using hyl)
        (fun m hm => hw m (by simpa [DataW.weights, hu] using hm))
      simpa using this
    · rename_i k e hu
      simp only [Bool.and_eq_true, beq_iff_eq] at h
      obtain ⟨h1, h2⟩ := h
      obtain ⟨ys, n', _, rfl, hcl, hyl, hfl⟩ := DataW.trod_array hu ht
      have := open_elems (enc := enc) (P := P) (w := w) (f := fitB P n e) (cs := cs) (n := n') (e := e) (k := P.cellsOf e) (fun s xs y hfit htr hwt => open_any n e s n' xs y hfit htr hwt) k 0 s ys h2 (by omega) (fun j hj => by rw [Nat.zero_add]; exact hfl j hj) hyl
        (fun m hm => hw m (by simpa [DataW.weights, hu] using hm))
      simpa using this
    · cases h

/-- An argument of the j-th parameter's shape. -/
theorem open_sh {ts : List TypeId} {ds : List (DataW H)} (hsz : (DataW.weightsEach P ts ds).all (· ≤ reachBytes) = true) {j : Nat} {t : TypeId} {d : DataW H} {v : Value} {p : List MemPlace} {s : Sh} (ht : ts[j]? = some t) (hd : ds[j]? = some d)
    (n : Nat) (hfit : fitB P n t s = true) (h : DataW.Trod enc P w 0 (fun _ => true) true t v d p) : ∃ x : s.T, Rd w s v.cells.toList x := by
  obtain ⟨fuel, hf⟩ := h
  refine open_any n t s fuel _ _ hfit hf fun m hm => ?_
  exact of_decide_eq_true (List.all_eq_true.1 hsz _ (DataW.weights_mem_each ht hd m hm))
/-- A slice that came in. -/
theorem open_sh_slice {ts : List TypeId} {ds : List (DataW H)} (hsz : (DataW.weightsEach P ts ds).all (· ≤ reachBytes) = true) {j base b : Nat} {t e : TypeId} {d : DataW H} {v : Value} {p : List MemPlace} {s : Sh} (ht : ts[j]? = some t) (hd : ds[j]? = some d)
    (hu : P.underlying t = some (.slice e)) (hv : Value.okWide P w .any base t v) (n : Nat) (hfit : fitB P n t (.sl b s) = true) (h : DataW.Trod enc P w 0 (fun _ => true) true t v d p) : ∃ (A : Option Addr) (n c : Nat) (x : List s.T), v = .slice A n c ∧ Rd w (.sl b s) [.slice A n c] x := by
  obtain ⟨A, n', c, rfl⟩ := okWide_slice hu hv
  obtain ⟨x, hx⟩ := open_sh hsz ht hd n hfit h
  exact ⟨A, n', c, x, rfl, hx⟩
/-- A struct that came in. -/
theorem open_sh_struct {ts : List TypeId} {ds : List (DataW H)} (hsz : (DataW.weightsEach P ts ds).all (· ≤ reachBytes) = true) {j base : Nat} {t : TypeId} {fs : Array Field} {d : DataW H} {v : Value} {p : List MemPlace} {s : Sh} (ht : ts[j]? = some t) (hd : ds[j]? = some d)
    (hu : P.underlying t = some (.struct fs)) (hv : Value.okWide P w .any base t v) (n : Nat) (hfit : fitB P n t s = true) (h : DataW.Trod enc P w 0 (fun _ => true) true t v d p) : ∃ (cs : List Value) (x : s.T), v = .agg cs.toArray ∧ Rd w s cs x := by
  obtain ⟨cs, rfl, _⟩ := okWide_struct hu hv
  obtain ⟨x, hx⟩ := open_sh hsz ht hd n hfit h
  exact ⟨cs.toList, x, by simp, by simpa [Value.cells] using hx⟩
end

/-! ### What is read, in the other texts' words -/
theorem Rd.bytes {w : World} {A : Option Addr} {n c b : Nat} {l : List UInt8} (h : Rd w (.sl b .u8) [.slice A n c] l) : SlB w A n l ∧ n ≤ c ∧ c * b ≤ 140737488351232 := by
  obtain ⟨A', n', c', e, h1, h2, h3, h4, h5⟩ := h
  simp only [List.cons.injEq, Value.slice.injEq, and_true] at e
  obtain ⟨rfl, rfl, rfl⟩ := e
  refine ⟨⟨by rw [bsV_length]; omega, fun hn => ?_⟩, h1, h2⟩
  obtain ⟨g, off, rfl, hc⟩ := h5 (by omega)
  refine ⟨g, off, rfl, fun j u hu => ?_⟩
  simp only [bsV, List.getElem?_map, Option.map_eq_some_iff] at hu
  obtain ⟨y, hy, rfl⟩ := hu
  obtain ⟨xs, k1, k2, rfl⟩ := hc j y hy
  simpa [Sh.size] using k2 0 _ rfl
theorem Rd.ints {w : World} {A : Option Addr} {n c b : Nat} {k : IntKind} {l : List Int} (h : Rd w (.sl b (.int k)) [.slice A n c] l) : Sl w A n 1 (l.map (Value.int k)) ∧ n ≤ c ∧ c * b ≤ 140737488351232 := by
  obtain ⟨A', n', c', e, h1, h2, h3, h4, h5⟩ := h
  simp only [List.cons.injEq, Value.slice.injEq, and_true] at e
  obtain ⟨rfl, rfl, rfl⟩ := e
  refine ⟨⟨by simp [h4], fun hn => ?_⟩, h1, h2⟩
  obtain ⟨g, off, rfl, hc⟩ := h5 (by omega)
  refine ⟨g, off, rfl, fun j u hu => ?_⟩
  simp only [List.getElem?_map, Option.map_eq_some_iff] at hu
  obtain ⟨y, hy, rfl⟩ := hu
  obtain ⟨xs, k1, k2, rfl, _⟩ := hc j y hy
  simpa [Sh.size] using k2 0 _ rfl
/-- The k-th element of a slice. -/
theorem Rd.elem {w : World} {A : Option Addr} {n c b : Nat} {s : Sh} {l : List s.T} (h : Rd w (.sl b s) [.slice A n c] l) : l.length = n ∧ n ≤ c ∧ c * b ≤ 140737488351232 ∧ c ≤ maxLen ∧
    ∀ k, k < n → ∃ g off x xs, A = some ⟨g, off, none⟩ ∧ l[k]? = some x ∧ xs.length = s.size ∧ (∀ j u, xs[j]? = some u → w.cell? ⟨g, off + k * s.size + j, none⟩ = some u) ∧ Rd w s xs x := by
  obtain ⟨A', n', c', e, h1, h2, h3, h4, h5⟩ := h
  simp only [List.cons.injEq, Value.slice.injEq, and_true] at e
  obtain ⟨rfl, rfl, rfl⟩ := e
  refine ⟨h4, h1, h2, h3, fun k hk => ?_⟩
  obtain ⟨g, off, hA, hc⟩ := h5 (by omega)
  have hx : l[k]? = some (l[k]'(by omega)) := List.getElem?_eq_getElem _
  obtain ⟨xs, k1, k2, k3⟩ := hc k _ hx
  exact ⟨g, off, _, xs, hA, hx, k1, k2, k3⟩
end Go.Proofs.Ytilagblpamhmkaa
namespace Go.Proofs.Ytilagblpamhmkaa
open Go.RowKit
set_option linter.unusedVariables false

/-- A version. -/
structure Vr where
  s : Int
  n : Int
  past : List Sp
  gone : Bool
  val : ByteArray
deriving DecidableEq
def Vr.zero : Vr := ⟨0, 0, [], false, ByteArray.empty⟩
/-- A version by value: its past's slice. -/
abbrev RV := Vr × Option Addr × Nat × Nat
def vV (v : Vr) (A : Option Addr) (n c : Nat) : List Value := [.int .i64 v.s, .int .i64 v.n, .slice A n c, .bool v.gone, .string v.val]
def vV1 (y : RV) : List Value := vV y.1 y.2.1 y.2.2.1 y.2.2.2
theorem vV1_len (y : RV) : (vV1 y).length = 5 := rfl
theorem vV1_one (y : RV) : ∀ u ∈ vV1 y, u.oneCell' = true := by
  intro u hu
  simp only [vV1, vV, List.mem_cons, List.mem_nil_iff, or_false] at hu
  rcases hu with rfl | rfl | rfl | rfl | rfl <;> rfl
/-- What is known of a version's past and value. -/
structure VRow (w : World) (v : Vr) (A : Option Addr) (n c : Nat) : Prop where
  sl : SlS w A n v.past
  cap : n ≤ c
  len : n * 24 ≤ 140737488351232
  wf : (Lit.int .i64 v.s).wf = true ∧ (Lit.int .i64 v.n).wf = true
  wfp : ∀ x ∈ v.past, wfSp x
  str : v.val.size ≤ 140737488351232
/-- A slice of versions. -/
def SlV (w : World) (A : Option Addr) (n : Nat) (l : List Vr) : Prop :=
  ∃ rows : List RV, rows.map (·.1) = l ∧ Sl w A n 5 (rows.flatMap vV1) ∧ ∀ y, y ∈ rows → VRow w y.1 y.2.1 y.2.2.1 y.2.2.2
section
variable {w w' : World} {A : Option Addr} {n c : Nat} {v : Vr} {l : List Vr}
theorem VRow.below (h : VRow w v A n c) (hb : Below w.heap.size w w') : VRow w' v A n c := ⟨Sl.below h.sl hb, h.cap, h.len, h.wf, h.wfp, h.str⟩
theorem VRow.n9 (h : VRow w v A n c) : n ≤ 140737488351232 := by have := h.len; omega
theorem SlV.below (h : SlV w A n l) (hb : Below w.heap.size w w') : SlV w' A n l := by
  obtain ⟨rows, h1, h2, h3⟩ := h
  exact ⟨rows, h1, Sl.below h2 hb, fun y hy => (h3 y hy).below hb⟩
theorem SlV.ext (h : SlV w A n l) (x : Ext w) : SlV x.w A n l := h.below x.below
theorem SlV.nil (w : World) (A : Option Addr) : SlV w A 0 [] := ⟨[], rfl, Sl.nil _ _ _, by simp⟩
theorem SlV.len (h : SlV w A n l) : l.length = n := by
  obtain ⟨rows, h1, h2, h3⟩ := h
  have := h2.1
  rw [flat_len vV1_len] at this
  rw [← h1, List.length_map]
  omega
/-- The k-th version. -/
theorem SlV.at_ (h : SlV w A n l) {k : Nat} (hk : k < n) : ∃ (b off : Nat) (v : Vr) (Ap : Option Addr) (np cp : Nat), A = some ⟨b, off, none⟩ ∧ l[k]? = some v ∧ VRow w v Ap np cp ∧
    w.cell? ⟨b, off + k * 5, none⟩ = some (.int .i64 v.s) ∧ w.cell? ⟨b, off + k * 5 + 1, none⟩ = some (.int .i64 v.n) ∧ w.cell? ⟨b, off + k * 5 + 2, none⟩ = some (.slice Ap np cp) ∧ w.cell? ⟨b, off + k * 5 + 3, none⟩ = some (.bool v.gone) ∧ w.cell? ⟨b, off + k * 5 + 4, none⟩ = some (.string v.val) := by
  have hl := h.len
  obtain ⟨rows, h1, h2, h3⟩ := h
  obtain ⟨b, off, rfl, hc⟩ := h2.2 (by omega)
  have hrl : rows.length = l.length := by rw [← h1, List.length_map]
  obtain ⟨y, hy⟩ : ∃ y, rows[k]? = some y := ⟨_, List.getElem?_eq_getElem (by omega)⟩
  have e : ∀ j u, (vV1 y)[j]? = some u → w.cell? ⟨b, off + (k * 5 + j), none⟩ = some u := fun j u hu => by
    have hj : j < 5 := (List.getElem?_eq_some_iff.1 hu).1
    exact hc _ _ (by rw [flat_at vV1_len rows k j y hy hj]; exact hu)
  refine ⟨b, off, y.1, y.2.1, y.2.2.1, y.2.2.2, rfl, by rw [← h1, List.getElem?_map, hy]; rfl, h3 y (List.mem_of_getElem? hy), e 0 _ rfl, ?_, ?_, ?_, ?_⟩
  · rw [Nat.add_assoc]; exact e 1 _ rfl
  · rw [Nat.add_assoc]; exact e 2 _ rfl
  · rw [Nat.add_assoc]; exact e 3 _ rfl
  · rw [Nat.add_assoc]; exact e 4 _ rfl
end
abbrev spSh : Sh := .pair (.int .i64) (.pair (.int .i64) (.int .i64))
abbrev vrSh : Sh := .pair (.pair (.int .i64) (.int .i64)) (.pair (.sl 24 spSh) (.pair .bool .str))
theorem Rd.spans {w : World} {A : Option Addr} {n c : Nat} {l : List spSh.T} (h : Rd w (.sl 24 spSh) [.slice A n c] l) : SlS w A n l ∧ n ≤ c ∧ c * 24 ≤ 140737488351232 ∧ ∀ x ∈ l, wfSp x := by
  obtain ⟨A', n', c', e, h1, h2, h3, h4, h5⟩ := h
  simp only [List.cons.injEq, Value.slice.injEq, and_true] at e
  obtain ⟨rfl, rfl, rfl⟩ := e
  have key : ∀ (i : Nat) (x : spSh.T), l[i]? = some x → ∃ g off, A = some ⟨g, off, none⟩ ∧ (∀ j u, (spV1 x)[j]? = some u → w.cell? ⟨g, off + i * 3 + j, none⟩ = some u) ∧ wfSp x := by
    intro i x hx
    have hi := (List.getElem?_eq_some_iff.1 hx).1
    obtain ⟨g, off, rfl, hc⟩ := h5 (by omega)
    obtain ⟨xs, k1, k2, k3⟩ := hc i x hx
    obtain ⟨x1, x2, x3⟩ := x
    obtain ⟨c1, c2, rfl, ⟨rfl, w1⟩, d1, d2, rfl, ⟨rfl, w2⟩, rfl, w3⟩ := k3
    exact ⟨g, off, rfl, fun j u hu => k2 j u hu, w1, w2, w3⟩
  refine ⟨⟨by rw [spV_length]; omega, fun hn => ?_⟩, h1, h2, fun x hx => ?_⟩
  · obtain ⟨g, off, hA, hc⟩ := h5 (by omega)
    refine ⟨g, off, hA, fun j u hu => ?_⟩
    have hj : j < l.length * 3 := by
      have := (List.getElem?_eq_some_iff.1 hu).1
      rwa [spV_length] at this
    have hi3 : j / 3 < l.length := by omega
    obtain ⟨g', off', hA', hcx, _⟩ := key (j / 3) _ (List.getElem?_eq_getElem hi3)
    rw [hA] at hA'
    injection hA' with hA'
    injection hA' with e1 e2
    subst e1 e2
    have h1 := spV_at l (j / 3) (j % 3) _ (List.getElem?_eq_getElem hi3) (by omega)
    rw [show j / 3 * 3 + j % 3 = j by omega, hu] at h1
    have h2 := hcx (j % 3) u (by
      rw [h1]
      match hj3 : j % 3, (show j % 3 < 3 by omega) with
      | 0, _ => rfl
      | 1, _ => rfl
      | 2, _ => rfl)
    rw [show off + j = off + j / 3 * 3 + j % 3 by omega]
    exact h2
  · obtain ⟨i, hi, rfl⟩ := List.getElem_of_mem hx
    obtain ⟨_, _, _, _, h⟩ := key i _ (List.getElem?_eq_getElem hi)
    exact h
def vrOf (x : vrSh.T) : Vr := ⟨x.1.1, x.1.2, x.2.1, x.2.2.1, x.2.2.2⟩
theorem vr_open {w : World} {cs : List Value} {x : vrSh.T} (h : Rd w vrSh cs x) : ∃ (A : Option Addr) (n c : Nat), cs = vV (vrOf x) A n c ∧ VRow w (vrOf x) A n c := by
  obtain ⟨⟨s, n⟩, past, gone, val⟩ := x
  obtain ⟨c1, c2, rfl, ⟨a1, a2, rfl, ⟨rfl, w1⟩, rfl, w2⟩, d1, d2, rfl, hp, e1, e2, rfl, rfl, hv⟩ := h
  obtain ⟨A, np, cp, rfl, _⟩ := id hp
  obtain ⟨s1, s2, s3, s4⟩ := Rd.spans hp
  obtain ⟨rfl, hv⟩ := hv
  exact ⟨A, np, cp, rfl, s1, s2, by have := s2; omega, ⟨w1, w2⟩, s4, hv⟩
theorem Rd.vers {w : World} {A : Option Addr} {n c : Nat} {ls : List vrSh.T} (h : Rd w (.sl 64 vrSh) [.slice A n c] ls) : SlV w A n (ls.map vrOf) ∧ n ≤ c ∧ c * 64 ≤ 140737488351232 := by
  obtain ⟨h4, h1, h2, h3, h5⟩ := h.elem
  obtain ⟨rows, hl, hp⟩ := choose_lt' (α := RV) (n := n) (p := fun i y => (∃ x, ls[i]? = some x ∧ vrOf x = y.1) ∧ VRow w y.1 y.2.1 y.2.2.1 y.2.2.2 ∧ ∃ g off, A = some ⟨g, off, none⟩ ∧ ∀ j u, (vV1 y)[j]? = some u → w.cell? ⟨g, off + i * 5 + j, none⟩ = some u) (fun i hi => by
    obtain ⟨g, off, x, xs, hA, hx, _, hc, hr⟩ := h5 i hi
    obtain ⟨Ap, np, cp, rfl, hv⟩ := vr_open hr
    exact ⟨(vrOf x, Ap, np, cp), ⟨x, hx, rfl⟩, hv, g, off, hA, hc⟩)
  refine ⟨⟨rows, ?_, ⟨by rw [flat_len vV1_len, hl], fun hn => ?_⟩, fun y hy => ?_⟩, h1, h2⟩
  · apply List.ext_getElem?
    intro i
    rcases Nat.lt_or_ge i n with hi | hi
    · have hy : rows[i]? = some rows[i] := List.getElem?_eq_getElem (by omega)
      obtain ⟨⟨x, hx, e⟩, _⟩ := hp i _ hy
      rw [List.getElem?_map, List.getElem?_map, hy, hx]
      simp [e]
    · rw [List.getElem?_eq_none (by rw [List.length_map]; omega), List.getElem?_eq_none (by rw [List.length_map]; omega)]
  · have hn' : 0 < n := by omega
    obtain ⟨_, _, g, off, hA, _⟩ := hp 0 _ (List.getElem?_eq_getElem (by omega))
    refine ⟨g, off, hA, fun j u hu => ?_⟩
    have hj := (List.getElem?_eq_some_iff.1 hu).1
    rw [flat_len vV1_len, hl] at hj
    have hy : rows[j / 5]? = some (rows[j / 5]'(by omega)) := List.getElem?_eq_getElem _
    obtain ⟨_, _, g', off', hA', hc⟩ := hp (j / 5) _ hy
    rw [hA] at hA'
    injection hA' with hA'
    injection hA' with e1 e2
    subst e1 e2
    rw [show off + j = off + j / 5 * 5 + j % 5 by omega]
    refine hc (j % 5) u ?_
    rw [← hu, ← flat_at vV1_len rows (j / 5) (j % 5) _ hy (by omega)]
    congr 1
    omega
  · obtain ⟨i, hi, rfl⟩ := List.getElem_of_mem hy
    exact (hp i _ (List.getElem?_eq_getElem hi)).2.1
end Go.Proofs.Ytilagblpamhmkaa
namespace Go.Proofs.Ytilagblpamhmkaa
open Go.RowKit
set_option linter.unusedVariables false

theorem topTo_max {l : List Sp} {k : Nat} {x y z : Int} (hx : l[k]? = some (x, y, z)) : topTo l x (k + 1) = if topTo l x k < z then z else topTo l x k := by
  have e : l.getD k (0, 0, 0) = (x, y, z) := by rw [List.getD_eq_getElem?_getD, hx]; rfl
  rw [topTo, e]
  simp

set_option maxHeartbeats 1000000 in
set_option maxRecDepth 100000 in
theorem spanHas_any (A : Option Addr) (n c : Nat) (l : List Sp) (s m : Int) (w : World) (hs : SlS w A n l) (hn : n ≤ 140737488351232) :
    Calls Try.prog 70 #[.slice A n c, .agg #[.int .i64 s, .int .i64 m]] w fun e w' => e = .returned (.bool (hasB l s m)) ∧ Below w.heap.size w w' := by
  have hll := hs.len
  have HB0 := Lib.hid (Box2.new w 39 s m)
  go_enter Try.func70, Try.ntmps70
  go_wp2
  go_loopw [9] (fun i wr => ∃ (k : Nat), i = .int .i64 (k : Int) ∧ k ≤ n ∧ Hid (NoneTo l s m k) ∧ Hid (Box2 wr w.heap.size 39 s m) ∧ Below w.heap.size w wr) (fun i _ => n - (intOf i).toNat)
  case atStart => exact ⟨0, rfl, Nat.zero_le _, NoneTo.start l s m, HB0, (Below.refl _ _).alloc (Nat.le_refl _) _⟩
  case round =>
    obtain ⟨k, rfl, hk, Hok, Hbox, hbel⟩ := hrel
    have hsz := hbel.size
    by_cases hlt : k < n
    · obtain ⟨b, off, x, y, z, rfl, hx, hc0, hc1, hc2⟩ := SlS.at_ (Sl.below hs hbel) hlt
      have Hx := Lib.hid hx
      have g0 := Hbox.out.c0
      have g1 := Hbox.out.c1
      have g6 := Hbox.out.lt
      have R1 := Lib.hid (Hbox.out.alloc (.cells #[.int .i64 x, .int .i64 y, .int .i64 z] 53))
      have R2 := Lib.hid (hbel.alloc hsz (.cells #[.int .i64 x, .int .i64 y, .int .i64 z] 53))
      clear hx
      by_cases u1 : x = s
      · subst u1
        by_cases u2 : y ≤ m
        · by_cases u3 : m ≤ z
          · have HS := Lib.hid (NoneTo.hit Hx.out (show inSp (x, y, z) x m from ⟨rfl, u2, u3⟩))
            go_wp2
            go_ret
            exact ⟨retb HS.out, R2.out⟩
          · have HS := Lib.hid (Hok.out.step Hx.out (by unfold inSp; simp only; omega))
            go_wp2
            go_roundw
            case rel => exact ⟨k + 1, by go_num, by omega, HS.out, R1, R2.out⟩
            case measure => simp [intOf]; omega
        · have HS := Lib.hid (Hok.out.step Hx.out (by unfold inSp; simp only; omega))
          go_wp2
          go_roundw
          case rel => exact ⟨k + 1, by go_num, by omega, HS.out, R1, R2.out⟩
          case measure => simp [intOf]; omega
      · have HS := Lib.hid (Hok.out.step Hx.out (by unfold inSp; simp only; omega))
        go_wp2
        go_roundw
        case rel => exact ⟨k + 1, by go_num, by omega, HS.out, R1, R2.out⟩
        case measure => simp [intOf]; omega
    · obtain rfl : k = n := by omega
      go_wp2
      go_ret
      exact ⟨retb (Hok.out.all hll), hbel⟩

set_option maxHeartbeats 1000000 in
set_option maxRecDepth 100000 in
theorem spanTop_any (A : Option Addr) (n c : Nat) (l : List Sp) (s : Int) (w : World) (hs : SlS w A n l) (hn : n ≤ 140737488351232) :
    Calls Try.prog 69 #[.slice A n c, .int .i64 s] w fun e w' => e = .returned (.int .i64 (topS l s)) ∧ Below w.heap.size w w' := by
  have hll := hs.len
  go_enter Try.func69, Try.ntmps69
  go_wp2
  go_loopw [5, 10] (fun t i wr => ∃ (k : Nat), i = .int .i64 (k : Int) ∧ t = .int .i64 (topTo l s k) ∧ k ≤ n ∧ Below w.heap.size w wr) (fun _ i _ => n - (intOf i).toNat)
  case atStart => exact ⟨0, rfl, rfl, Nat.zero_le _, Below.refl _ _⟩
  case round =>
    obtain ⟨k, rfl, rfl, hk, hbel⟩ := hrel
    have hsz := hbel.size
    by_cases hlt : k < n
    · obtain ⟨b, off, x, y, z, rfl, hx, hc0, hc1, hc2⟩ := SlS.at_ (Sl.below hs hbel) hlt
      have Hx := Lib.hid hx
      have R2 := Lib.hid (hbel.alloc hsz (.cells #[.int .i64 x, .int .i64 y, .int .i64 z] 53))
      clear hx
      by_cases u1 : x = s
      · subst u1
        have HS := Lib.hid (topTo_max Hx.out)
        go_wp2
        go_roundw
        case rel => exact ⟨k + 1, by go_num, by rw [HS.out], by omega, R2.out⟩
        case measure => simp [intOf]; omega
      · have HS := Lib.hid (topTo_no Hx.out (fun h => u1 h.1))
        go_wp2
        go_roundw
        case rel => exact ⟨k + 1, by go_num, by rw [HS.out], by omega, R2.out⟩
        case measure => simp [intOf]; omega
    · obtain rfl : k = n := by omega
      have HT := Lib.hid (show topS l s = topTo l s k by rw [topS, hll])
      go_wp2
      go_ret
      exact ⟨reti HT.out, hbel⟩

set_option maxHeartbeats 1000000 in
set_option maxRecDepth 100000 in
theorem refHas_any (A : Option Addr) (n c : Nat) (l : List Sp) (s m : Int) (w : World) (hs : SlS w A n l) (hn : n ≤ 140737488351232) :
    Calls Try.prog 81 #[.slice A n c, .agg #[.int .i64 s, .int .i64 m]] w fun e w' => e = .returned (.bool (hasB l s m)) ∧ Below w.heap.size w w' := by
  have hll := hs.len
  have HB0 := Lib.hid (Box2.new w 39 s m)
  have HB1 : Below w.heap.size w (w.alloc (.cells #[.int .i64 s, .int .i64 m] 39)) := (Below.refl _ _).alloc (Nat.le_refl _) _
  have HB := Lib.hid HB1
  have hs1 := Sl.below hs HB1
  have g0 := HB0.out.c0
  have g1 := HB0.out.c1
  clear HB1
  go_enter Try.func81, Try.ntmps81
  go_wp2
  go_loopw [5] (fun i wr => ∃ (k : Nat), i = .int .i64 (k : Int) ∧ k ≤ n ∧ Hid (NoneTo l s m k) ∧ ∃ d, wr = (w.alloc (.cells #[.int .i64 s, .int .i64 m] 39)).drewN d) (fun i _ => n - (intOf i).toNat)
  case atStart => exact ⟨0, rfl, Nat.zero_le _, NoneTo.start l s m, 0, rfl⟩
  case round =>
    obtain ⟨k, rfl, hk, Hok, d, rfl⟩ := hrel
    by_cases hlt : k < n
    · obtain ⟨b, off, x, y, z, rfl, hx, hc0, hc1, hc2⟩ := SlS.at_ hs1 hlt
      have Hx := Lib.hid hx
      clear hx
      have j0 : (0 : Int) ≤ (k : Int) := by omega
      have j1 : (k : Int) < (n : Int) := by omega
      have j2 : ((k : Int)).toNat = k := by omega
      by_cases u1 : x = s
      · subst u1
        by_cases u2 : y ≤ m
        · by_cases u3 : m ≤ z
          · have HS := Lib.hid (NoneTo.hit Hx.out (show inSp (x, y, z) x m from ⟨rfl, u2, u3⟩))
            have v1 : (x == x) = true := beq_self_eq_true x
            have v2 : decide (m ≥ y) = true := decide_eq_true u2
            have v3 : decide (m ≤ z) = true := decide_eq_true u3
            go_wp2
            go_quiet (fail)
            go_wp2
            go_ret
            exact ⟨retb HS.out, below_drewN (below_drewN HB.out _) _⟩
          · have HS := Lib.hid (Hok.out.step Hx.out (by unfold inSp; simp only; omega))
            have v1 : (x == x) = true := beq_self_eq_true x
            have v2 : decide (m ≥ y) = true := decide_eq_true u2
            have v3 : decide (m ≤ z) = false := decide_eq_false u3
            go_wp2
            go_quiet (fail)
            go_wp2
            go_roundw
            case rel => exact ⟨k + 1, by go_num, by omega, HS.out, _, rfl⟩
            case measure => simp [intOf]; omega
        · have HS := Lib.hid (Hok.out.step Hx.out (by unfold inSp; simp only; omega))
          have v1 : (x == x) = true := beq_self_eq_true x
          have v2 : decide (m ≥ y) = false := decide_eq_false u2
          go_wp2
          go_quiet (fail)
          go_wp2
          go_roundw
          case rel => exact ⟨k + 1, by go_num, by omega, HS.out, _, rfl⟩
          case measure => simp [intOf]; omega
      · have HS := Lib.hid (Hok.out.step Hx.out (by unfold inSp; simp only; omega))
        have v1 : (x == s) = false := by simpa using u1
        go_wp2
        go_quiet (fail)
        go_wp2
        go_roundw
        case rel => exact ⟨k + 1, by go_num, by omega, HS.out, _, rfl⟩
        case measure => simp [intOf]; omega
    · obtain rfl : k = n := by omega
      go_wp2
      go_ret
      exact ⟨retb (Hok.out.all hll), below_drewN HB.out _⟩

set_option maxHeartbeats 1000000 in
set_option maxRecDepth 100000 in
theorem refTop_any (A : Option Addr) (n c : Nat) (l : List Sp) (s : Int) (w : World) (hs : SlS w A n l) (hn : n ≤ 140737488351232) :
    Calls Try.prog 80 #[.slice A n c, .int .i64 s] w fun e w' => e = .returned (.int .i64 (topS l s)) ∧ w' = w := by
  have hll := hs.len
  go_enter Try.func80, Try.ntmps80
  go_wp2
  go_loop [5, 6] (fun t i => ∃ (k : Nat), i = .int .i64 (k : Int) ∧ t = .int .i64 (topTo l s k) ∧ k ≤ n) (fun _ i => n - (intOf i).toNat)
  case atStart => exact ⟨0, rfl, rfl, Nat.zero_le _⟩
  case round =>
    obtain ⟨k, rfl, rfl, hk⟩ := hrel
    by_cases hlt : k < n
    · obtain ⟨b, off, x, y, z, rfl, hx, hc0, hc1, hc2⟩ := SlS.at_ hs hlt
      have Hx := Lib.hid hx
      clear hx
      by_cases u1 : x = s
      · subst u1
        by_cases u2 : topTo l x k < z
        · have HS := Lib.hid (topTo_yes Hx.out rfl u2)
          have v1 : (x == x) = true := beq_self_eq_true x
          have v2 : decide (z > topTo l x k) = true := decide_eq_true u2
          go_wp2
          go_round
          case rel => exact ⟨k + 1, by go_num, by rw [HS.out], by omega⟩
          case measure => simp [intOf]; omega
        · have HS := Lib.hid (topTo_no Hx.out (fun h => u2 h.2))
          have v1 : (x == x) = true := beq_self_eq_true x
          have v2 : decide (z > topTo l x k) = false := decide_eq_false u2
          go_wp2
          go_round
          case rel => exact ⟨k + 1, by go_num, by rw [HS.out], by omega⟩
          case measure => simp [intOf]; omega
      · have HS := Lib.hid (topTo_no Hx.out (fun h => u1 h.1))
        have v1 : (x == s) = false := by simpa using u1
        go_wp2
        go_round
        case rel => exact ⟨k + 1, by go_num, by rw [HS.out], by omega⟩
        case measure => simp [intOf]; omega
    · obtain rfl : k = n := by omega
      have HT := Lib.hid (show topS l s = topTo l s k by rw [topS, hll])
      go_wp2
      go_ret
      exact ⟨reti HT.out, rfl⟩
end Go.Proofs.Ytilagblpamhmkaa
namespace Go.Proofs.Ytilagblpamhmkaa
open Go.RowKit
set_option linter.unusedVariables false

theorem rightS_long {l : List Sp} (h : 1024 < l.length) : rightS l = false := rightS_false (fun h' => by omega)
theorem lastOf_at {l : List Sp} {j : Nat} {x : Sp} (hx : l[j]? = some x) {k : Nat} (hk : k = j + 1) : lastOf l k = x := by subst hk; exact last_at hx

theorem SlS.at2 {w : World} {b off n k : Nat} {l : List Sp} (h : SlS w (some ⟨b, off, none⟩) n l) (hk : k < n) :
    ∃ (x y z : Int), l[k]? = some (x, y, z) ∧ w.cell? ⟨b, off + k * 3, none⟩ = some (.int .i64 x) ∧ w.cell? ⟨b, off + k * 3 + 1, none⟩ = some (.int .i64 y) ∧ w.cell? ⟨b, off + k * 3 + 2, none⟩ = some (.int .i64 z) := by
  obtain ⟨b', off', x, y, z, e, h1⟩ := h.at_ hk
  injection e with e
  injection e with e1 e2
  subst e1 e2
  exact ⟨x, y, z, h1⟩

theorem SlS.cells_at {w : World} {b off n k : Nat} {l : List Sp} {x y z : Int} (h : SlS w (some ⟨b, off, none⟩) n l) (hx : l[k]? = some (x, y, z)) :
    w.cell? ⟨b, off + k * 3, none⟩ = some (.int .i64 x) ∧ w.cell? ⟨b, off + k * 3 + 1, none⟩ = some (.int .i64 y) ∧ w.cell? ⟨b, off + k * 3 + 2, none⟩ = some (.int .i64 z) := by
  have hk : k < n := by have := h.len; have := (List.getElem?_eq_some_iff.1 hx).1; omega
  obtain ⟨x', y', z', h0, h1⟩ := h.at2 hk
  rw [hx] at h0
  injection h0 with h0
  injection h0 with e1 h0
  injection h0 with e2 e3
  subst e1 e2 e3
  exact h1

set_option maxHeartbeats 2000000 in
set_option maxRecDepth 100000 in
theorem refRightS_any (A : Option Addr) (n c : Nat) (l : List Sp) (w : World) (hs : SlS w A n l) (hn : n ≤ 140737488351232) :
    Calls Try.prog 79 #[.slice A n c] w fun e w' => e = .returned (.bool (rightS l)) ∧ Below w.heap.size w w' := by
  have hll := hs.len
  by_cases hlong : 1024 < n
  · have HF := Lib.hid (rightS_long (l := l) (by omega))
    go_enter Try.func79, Try.ntmps79
    go_wp2
    go_ret
    exact ⟨retb HF.out, Below.refl _ _⟩
  go_enter Try.func79, Try.ntmps79
  go_wp2
  go_loopw [3] (fun i wr => ∃ (k : Nat), i = .int .i64 (k : Int) ∧ k ≤ n ∧ Hid (RInv l k (lastOf l k)) ∧ Below w.heap.size w wr) (fun i _ => n - (intOf i).toNat)
  case atStart => exact ⟨0, rfl, Nat.zero_le _, RInv.start l, Below.refl _ _⟩
  case round =>
    obtain ⟨k, rfl, hk, Hok, hbel⟩ := hrel
    have hsz := hbel.size
    by_cases hlt : k < n
    · have hsr := Sl.below hs hbel
      obtain ⟨b, off, x, y, z, rfl, hx, hc0, hc1, hc2⟩ := SlS.at_ hsr hlt
      have Hx := Lib.hid hx
      have G0 := Ext.cell hc0
      have G1 := Ext.cell hc1
      have G2 := Ext.cell hc2
      have j0 : (0 : Int) ≤ (k : Int) := by omega
      have j1 : (k : Int) < (n : Int) := by omega
      have HSR := Lib.hid hsr
      clear hx hs hsr hc0 hc1 hc2
      by_cases d1 : 1 ≤ x ∧ x ≤ 16 ∧ 1 ≤ y ∧ y ≤ 4611686018427387904
      · have u1 : dotB x y = true := dotB_true.2 d1
        by_cases d2 : 1 ≤ z ∧ z ≤ 4611686018427387904
        · have u2 : dotB x z = true := dotB_true.2 ⟨d1.1, d1.2.1, d2⟩
          by_cases d3 : z < y
          · have u3 : decide (y > z) = true := decide_eq_true d3
            have HF := Lib.hid (Hok.out.no Hx.out (.inl (by unfold okSp; simp only; omega)))
            clear d1 d2
            go_wp2_with fail
            refine wp_region_ext (by kernel_rfl) (by kernel_rfl) ?_
            repeat (go_big_quiet_step ((go_at_call 78; exact Calls.ext_of (refDot_any _ _ _))))
            refine wpQuiet_nil ?_
            intro w1 hw1
            have BX := Lib.hid (ext_end hw1)
            have B1 := hbel.trans (BX.out.mono hsz)
            clear hw1 G0 G1 G2
            go_wp2
            go_ret
            exact ⟨retb HF.out, B1⟩
          · have u3 : decide (y > z) = false := decide_eq_false d3
            have ho : okSp (x, y, z) := by unfold okSp; simp only; omega
            have HO := Lib.hid ho
            obtain ⟨d11, d12, d13, d14⟩ := d1
            obtain ⟨d21, d22⟩ := d2
            clear ho
            go_wp2_with fail
            refine wp_region_ext (by kernel_rfl) (by kernel_rfl) ?_
            repeat (go_big_quiet_step ((go_at_call 78; exact Calls.ext_of (refDot_any _ _ _))))
            refine wpQuiet_nil ?_
            intro w1 hw1
            have BX := Lib.hid (ext_end hw1)
            have B1 := hbel.trans (BX.out.mono hsz)
            clear hw1 G0 G1 G2
            have hs1 := Sl.below HSR.out BX.out
            clear u1 u2 u3 HSR BX
            rcases Nat.eq_zero_or_pos k with hk0 | hk0
            · have v0 : decide (0 < k) = false := decide_eq_false (by omega)
              have HN := Lib.hid (Hok.out.step Hx.out HO.out (by subst hk0; left; show (0 : Int) < x; omega))
              have HL := Lib.hid (last_at Hx.out)
              clear hk0 hs1
              go_wp2_with fail
              go_quiet (fail)
              go_wp2
              go_roundw
              case rel => exact ⟨k + 1, by go_num, by omega, by rw [HL.out]; exact HN.out, below_drewN B1 _⟩
              case measure => simp [intOf]; omega
            · have v0 : decide (0 < k) = true := decide_eq_true (by omega)
              obtain ⟨x', y', z', hx', hc0', hc1', hc2'⟩ := SlS.at2 hs1 (k := k - 1) (by omega)
              obtain ⟨hc0, hc1, hc2⟩ := SlS.cells_at hs1 Hx.out
              have HL := Lib.hid (lastOf_at hx' (show k = k - 1 + 1 by omega))
              have HLN := Lib.hid (last_at Hx.out)
              have hb := Hok.out.bound (by omega)
              rw [HL.out] at hb
              obtain ⟨p1, p2, p3, p4⟩ := hb
              simp only at p1 p2 p3 p4
              have i0 : (0 : Int) ≤ (k : Int) - 1 := by omega
              have i1 : (1 : Int) ≤ (k : Int) := by omega
              have i2 : (k : Int) - 1 < (n : Int) := by omega
              have i3 : ((k : Int) - 1).toNat = k - 1 := by omega
              have i4 : IntKind.i64.wrap ((k : Int) - 1) = (k : Int) - 1 := IntWalk.i64_in _ (by omega)
              have i5 : IntKind.i64.wrap (y - 1) = y - 1 := IntWalk.i64_in _ (by omega)
              by_cases q1 : x < x'
              · have v1 : decide (x < x') = true := decide_eq_true q1
                have HF := Lib.hid (Hok.out.no Hx.out (.inr (by rw [HL.out]; simp only; omega)))
                clear hs1 hx' q1
                go_wp2_with fail
                go_quiet (fail)
                go_wp2
                go_ret
                exact ⟨retb HF.out, below_drewN B1 _⟩
              · have v1 : decide (x < x') = false := decide_eq_false q1
                by_cases q2 : x = x'
                · subst q2
                  have v2 : (x == x) = true := beq_self_eq_true _
                  by_cases q3 : y - 1 ≤ z'
                  · have v3 : decide (y - 1 ≤ z') = true := decide_eq_true q3
                    have HF := Lib.hid (Hok.out.no Hx.out (.inr (by rw [HL.out]; exact .inr ⟨rfl, by show y ≤ z' + 1; omega⟩)))
                    clear hs1 hx' q1 q3
                    go_wp2_with fail
                    go_quiet (fail)
                    go_wp2
                    go_ret
                    exact ⟨retb HF.out, below_drewN B1 _⟩
                  · have v3 : decide (y - 1 ≤ z') = false := decide_eq_false q3
                    have HN := Lib.hid (Hok.out.step Hx.out HO.out (by rw [HL.out]; right; exact ⟨rfl, by show z' + 1 < y; omega⟩))
                    clear hs1 hx' q1 q3
                    go_wp2_with fail
                    go_quiet (fail)
                    go_wp2
                    go_roundw
                    case rel => exact ⟨k + 1, by go_num, by omega, by rw [HLN.out]; exact HN.out, below_drewN B1 _⟩
                    case measure => simp [intOf]; omega
                · have v2 : (x == x') = false := beq_eq_false_iff_ne.2 q2
                  have HN := Lib.hid (Hok.out.step Hx.out HO.out (by rw [HL.out]; left; show x' < x; omega))
                  clear hs1 hx' q1 q2
                  go_wp2_with fail
                  go_quiet (fail)
                  go_wp2
                  go_roundw
                  case rel => exact ⟨k + 1, by go_num, by omega, by rw [HLN.out]; exact HN.out, below_drewN B1 _⟩
                  case measure => simp [intOf]; omega
        · have u2 : dotB x z = false := dotB_false (by omega)
          have HF := Lib.hid (Hok.out.no Hx.out (.inl (by unfold okSp; simp only; omega)))
          clear d1 d2
          go_wp2_with fail
          refine wp_region_ext (by kernel_rfl) (by kernel_rfl) ?_
          repeat (go_big_quiet_step ((go_at_call 78; exact Calls.ext_of (refDot_any _ _ _))))
          refine wpQuiet_nil ?_
          intro w1 hw1
          have BX := Lib.hid (ext_end hw1)
          have B1 := hbel.trans (BX.out.mono hsz)
          clear hw1 G0 G1 G2
          go_wp2
          go_ret
          exact ⟨retb HF.out, B1⟩
      · have u1 : dotB x y = false := dotB_false d1
        have HF := Lib.hid (Hok.out.no Hx.out (.inl (by unfold okSp; simp only; omega)))
        clear d1
        go_wp2_with fail
        refine wp_region_ext (by kernel_rfl) (by kernel_rfl) ?_
        repeat (go_big_quiet_step ((go_at_call 78; exact Calls.ext_of (refDot_any _ _ _))))
        refine wpQuiet_nil ?_
        intro w1 hw1
        have BX := Lib.hid (ext_end hw1)
        have B1 := hbel.trans (BX.out.mono hsz)
        clear hw1 G0 G1 G2
        go_wp2
        go_ret
        exact ⟨retb HF.out, B1⟩
    · obtain rfl : k = n := by omega
      go_wp2
      go_ret
      exact ⟨retb (by rw [Hok.out.all hll]; simp; omega), hbel⟩
end Go.Proofs.Ytilagblpamhmkaa
namespace Go.Proofs.Ytilagblpamhmkaa
open Go.RowKit
set_option linter.unusedVariables false

theorem Box3.grown {w w' : World} {g : Nat} {t : TypeId} {x y z : Int} {row : Option Nat} (h : Box3 w g t x y z) (hg : w.grownBy w' row) (hr : some g ≠ row) : Box3 w' g t x y z := (hg.block g h.lt hr).trans h
theorem row_ne {w : World} {base : Nat} {e : TypeId} {size : Nat} {v : Value} {n : Nat} {xs : List Value} (h : w.ownsRow base e size v n xs) {g : Nat} (hg : g < base ∨ w.heap.size ≤ g) : some g ≠ v.ownBlock := by
  intro he
  have := h.lt g he.symm
  omega

theorem Box3.put1 {w : World} {g : Nat} {t : TypeId} {x y z : Int} (h : Box3 w g t x y z) (b : Int) : Box3 (w.setCell ⟨g, 1, none⟩ (.int .i64 b)) g t x b z := by
  have h2 := heap_setCell_same w g 1 _ t (.int .i64 b) h
  unfold Box3
  rw [h2]; rfl
theorem Box3.put2 {w : World} {g : Nat} {t : TypeId} {x y z : Int} (h : Box3 w g t x y z) (c : Int) : Box3 (w.setCell ⟨g, 2, none⟩ (.int .i64 c)) g t x y c := by
  have h2 := heap_setCell_same w g 2 _ t (.int .i64 c) h
  unfold Box3
  rw [h2]; rfl
theorem grown_set (w : World) (p : Addr) (u : Value) : w.grownBy (w.setCell p u) (some p.block) :=
  ⟨rfl, rfl, rfl, by simp, fun k hk hne => Below.heap_setCell w p u k (fun e => hne (by rw [e]))⟩
theorem own_set {w : World} {base : Nat} {e : TypeId} {size : Nat} {v : Value} {n : Nat} {xs : List Value} (h : w.ownsRow base e size v n xs) {g j : Nat} (hg : g < base ∨ w.heap.size ≤ g) (u : Value) : (w.setCell ⟨g, j, none⟩ u).ownsRow base e size v n xs :=
  h.kept (grown_set w ⟨g, j, none⟩ u) (.inr (fun he => row_ne h hg he.symm))

/-- Where put's loop stands: out is laid, what is to come stands behind the first k. -/
def PutAt (l : List Sp) (x0 : Sp) (k : Nat) (laid : Bool) (x : Sp) (out : List Sp) : Prop :=
  out ++ putG laid x (l.drop k) = putG false x0 l ∧ okSp x ∧ out.length ≤ k + 1 ∧ (laid = false → out.length ≤ k)
theorem PutAt.start (l : List Sp) {x : Sp} (hx : okSp x) : PutAt l x 0 false x [] := ⟨by rw [List.drop_zero, List.nil_append], hx, by simp, by simp⟩
theorem drop_cons {l : List Sp} {k : Nat} {y : Sp} (hy : l[k]? = some y) : l.drop k = y :: l.drop (k + 1) := by
  obtain ⟨h, e⟩ := List.getElem?_eq_some_iff.1 hy
  rw [List.drop_eq_getElem_cons h, e]
theorem PutAt.tch {l : List Sp} {x0 x y : Sp} {k : Nat} {laid : Bool} {out : List Sp} (h : PutAt l x0 k laid x out) (hy : l[k]? = some y) (hoy : okSp y) (ht : touch y x) : PutAt l x0 (k + 1) laid (growS y x) out := by
  obtain ⟨h1, h2, h3, h4⟩ := h
  refine ⟨?_, grow_ok h2 hoy ht, by omega, fun h => by have := h4 h; omega⟩
  rw [← h1, drop_cons hy, putG, if_pos ht]
theorem PutAt.keep {l : List Sp} {x0 x y : Sp} {k : Nat} {laid : Bool} {out : List Sp} (h : PutAt l x0 k laid x out) (hy : l[k]? = some y) (ht : ¬ touch y x) (hb : ¬ (laid = false ∧ behind y x)) : PutAt l x0 (k + 1) laid x (out ++ [y]) := by
  obtain ⟨h1, h2, h3, h4⟩ := h
  refine ⟨?_, h2, by simp; omega, fun h => by have := h4 h; simp; omega⟩
  rw [← h1, drop_cons hy, putG, if_neg ht, if_neg hb, List.append_assoc]; rfl
theorem PutAt.lay {l : List Sp} {x0 x y : Sp} {k : Nat} {out : List Sp} (h : PutAt l x0 k false x out) (hy : l[k]? = some y) (ht : ¬ touch y x) (hb : behind y x) : PutAt l x0 (k + 1) true x (out ++ [x] ++ [y]) := by
  obtain ⟨h1, h2, h3, h4⟩ := h
  have := h4 rfl
  refine ⟨?_, h2, by simp; omega, fun h => by cases h⟩
  rw [← h1, drop_cons hy, putG, if_neg ht, if_pos ⟨rfl, hb⟩, List.append_assoc, List.append_assoc]; rfl
theorem PutAt.end_ {l : List Sp} {x0 x : Sp} {k : Nat} {laid : Bool} {out : List Sp} (h : PutAt l x0 k laid x out) (hk : l.length = k) (hl : Norm l) (ho : okSp x0) : putS l x0 = if laid then out else out ++ [x] := by
  rw [← putG_false l x0 hl ho, ← h.1, List.drop_of_length_le (by omega), putG]
  cases laid <;> simp

/-- What put leaves: a new list. -/
theorem own_take {w : World} {base : Nat} {e : TypeId} {v : Value} {acc : List Sp} (h : w.ownsRow base e 3 v acc.length (spV acc)) : ∃ A c, v = .slice A acc.length c ∧ SlS w A acc.length acc ∧ acc.length ≤ c := by
  obtain ⟨A, c, rfl, hc, _⟩ := own_slice h
  exact ⟨A, c, rfl, Sl.of_own h, hc⟩


end Go.Proofs.Ytilagblpamhmkaa
namespace Go.Proofs.Ytilagblpamhmkaa
set_option linter.unusedVariables false

/-- y holds all of x. -/
def covS (y x : Sp) : Prop := x.1 = y.1 ∧ y.2.1 ≤ x.2.1 ∧ x.2.2 ≤ y.2.2
instance (y x : Sp) : Decidable (covS y x) := by unfold covS; infer_instance
theorem norm_two {l : List Sp} (h : Norm l) {y z : Sp} (hy : y ∈ l) (hz : z ∈ l) : y = z ∨ gap y z ∨ gap z y := by
  induction l with
  | nil => cases hy
  | cons u l ih =>
    rcases List.mem_cons.1 hy with rfl | hy'
    · rcases List.mem_cons.1 hz with rfl | hz'
      · exact .inl rfl
      · exact .inr (.inl (h.gaps z hz'))
    · rcases List.mem_cons.1 hz with rfl | hz'
      · exact .inr (.inr (h.gaps y hy'))
      · exact ih h.tail hy' hz'
/-- Dots without a gap lie in one span. -/
theorem cov_of_dots {l : List Sp} (h : Norm l) {x : Sp} (hx : okSp x) (hd : ∀ n, x.2.1 ≤ n → n ≤ x.2.2 → has l x.1 n) : ∃ y ∈ l, covS y x := by
  obtain ⟨y, hy, hi⟩ := hd x.2.1 (Int.le_refl _) hx.2.2.2.1
  refine ⟨y, hy, ?_⟩
  rcases Int.lt_or_le y.2.2 x.2.2 with hlt | hle
  · exfalso
    obtain ⟨z, hz, hj⟩ := hd (y.2.2 + 1) (by unfold inSp at hi; omega) (by omega)
    have oy := h.1 y hy
    have oz := h.1 z hz
    rcases norm_two h hy hz with rfl | g | g
    · unfold inSp at hj; omega
    · unfold gap inSp okSp at *; omega
    · unfold gap inSp okSp at *; omega
  · unfold covS inSp at *; omega
/-- Every dot of a is in b. -/
def subS (a b : List Sp) : Prop := ∀ s n, has a s n → has b s n
theorem sub_iff {a b : List Sp} (ha : ∀ x ∈ a, okSp x) (hb : Norm b) : subS a b ↔ ∀ x ∈ a, ∃ y ∈ b, covS y x := by
  constructor
  · intro h x hx
    exact cov_of_dots hb (ha x hx) fun n h1 h2 => h _ _ ⟨x, hx, rfl, h1, h2⟩
  · rintro h s n ⟨x, hx, hi⟩
    obtain ⟨y, hy, hc⟩ := h x hx
    exact ⟨y, hy, by unfold covS inSp at *; omega⟩
theorem put_same {b : List Sp} {x : Sp} (hb : Norm b) (hx : okSp x) : putS b x = b ↔ ∃ y ∈ b, covS y x := by
  obtain ⟨p1, p2⟩ := putS_norm b x hb hx
  constructor
  · intro h
    rw [h] at p2
    exact cov_of_dots hb hx fun n h1 h2 => (p2 _ _).2 (.inr ⟨rfl, h1, h2⟩)
  · rintro ⟨y, hy, hc⟩
    refine norm_ext p1 hb fun s n => ?_
    rw [p2]
    refine ⟨fun h => h.elim id fun h => ⟨y, hy, by unfold covS inSp at *; omega⟩, .inl⟩

/-- One set is within another one: both right, and every dot of the one in the other. -/
noncomputable def withinS (a b : List Sp) : Bool := rightS a && rightS b && @decide (subS a b) (Classical.propDecidable _)
theorem withinS_left {a b : List Sp} (h : rightS a = false) : withinS a b = false := by unfold withinS; rw [h]; rfl
theorem withinS_right {a b : List Sp} (h : rightS b = false) : withinS a b = false := by unfold withinS; rw [h, Bool.and_false]; rfl
theorem withinS_true {a b : List Sp} : withinS a b = true ↔ rightS a = true ∧ rightS b = true ∧ subS a b := by
  unfold withinS
  rw [Bool.and_eq_true, Bool.and_eq_true, @decide_eq_true_iff _ (Classical.propDecidable _), and_assoc]
theorem withinS_eq {a b : List Sp} (ha : rightS a = true) (hb : rightS b = true) : withinS a b = @decide (subS a b) (Classical.propDecidable _) := by unfold withinS; rw [ha, hb]; rfl
theorem withinS_no {a b : List Sp} (hb : rightS b = true) {x : Sp} (hx : x ∈ a) (hn : ∀ y ∈ b, ¬ covS y x) : withinS a b = false := by
  cases h : withinS a b
  · rfl
  · obtain ⟨h1, h2, h3⟩ := withinS_true.1 h
    obtain ⟨y, hy, hc⟩ := (sub_iff (rightS_true.1 h1).1.1 (rightS_true.1 hb).1).1 h3 x hx
    exact absurd hc (hn y hy)

/-- The first k spans of a are within b. -/
def WTo (a b : List Sp) (k : Nat) : Prop := ∀ x ∈ a.take k, ∃ y ∈ b, covS y x
theorem WTo.start (a b : List Sp) : WTo a b 0 := by intro x hx; simp at hx
theorem WTo.step {a b : List Sp} {k : Nat} {x : Sp} (h : WTo a b k) (hx : a[k]? = some x) (hc : ∃ y ∈ b, covS y x) : WTo a b (k + 1) := by
  intro z hz
  rw [List.take_add_one, hx, List.mem_append] at hz
  rcases hz with hz | hz
  · exact h z hz
  · simp at hz; subst hz; exact hc
theorem WTo.all {a b : List Sp} {n : Nat} (h : WTo a b n) (hn : a.length = n) (ha : rightS a = true) (hb : rightS b = true) : withinS a b = true := by
  unfold WTo at h
  rw [List.take_of_length_le (by omega)] at h
  exact withinS_true.2 ⟨ha, hb, (sub_iff (rightS_true.1 ha).1.1 (rightS_true.1 hb).1).2 h⟩
/-- Whether one of the first k spans of b holds x. -/
def foundTo (b : List Sp) (x : Sp) (k : Nat) : Bool := (b.take k).any fun y => decide (covS y x)
theorem foundTo_zero (b : List Sp) (x : Sp) : foundTo b x 0 = false := rfl
theorem foundTo_step {b : List Sp} {x y : Sp} {k : Nat} (hy : b[k]? = some y) : foundTo b x (k + 1) = (foundTo b x k || decide (covS y x)) := by
  unfold foundTo
  rw [List.take_add_one, hy, List.any_append]
  simp
theorem foundTo_yes {b : List Sp} {x : Sp} {k : Nat} (h : foundTo b x k = true) : ∃ y ∈ b, covS y x := by
  unfold foundTo at h
  rw [List.any_eq_true] at h
  obtain ⟨y, hy, hc⟩ := h
  exact ⟨y, List.mem_of_mem_take hy, by simpa using hc⟩
theorem foundTo_no {b : List Sp} {x : Sp} {n : Nat} (hn : b.length = n) (h : foundTo b x n = false) : ∀ y ∈ b, ¬ covS y x := by
  unfold foundTo at h
  rw [List.take_of_length_le (by omega), List.any_eq_false] at h
  intro y hy hc
  exact h y hy (by simpa using hc)

/-! ### How many dots -/
def sizeTo (l : List Sp) : Nat → Int
  | 0 => 0
  | k + 1 => min (sizeTo l k + ((l.getD k (0, 0, 0)).2.2 - (l.getD k (0, 0, 0)).2.1 + 1)) 4611686018427387904
noncomputable def sizeS (l : List Sp) : Int := if rightS l = true then sizeTo l l.length else 0
theorem sizeTo_step {l : List Sp} {k : Nat} {x y z : Int} (hx : l[k]? = some (x, y, z)) : sizeTo l (k + 1) = min (sizeTo l k + (z - y + 1)) 4611686018427387904 := by
  have e : l.getD k (0, 0, 0) = (x, y, z) := by rw [List.getD_eq_getElem?_getD, hx]; rfl
  rw [sizeTo, e]
theorem getD_ok {l : List Sp} {k : Nat} (h : ∀ x ∈ l, okSp x) (hk : k < l.length) : okSp (l.getD k (0, 0, 0)) := by
  rw [List.getD_eq_getElem?_getD, List.getElem?_eq_getElem hk]
  exact h _ (List.getElem_mem hk)
theorem sizeTo_bd {l : List Sp} (h : ∀ x ∈ l, okSp x) : ∀ {k : Nat}, k ≤ l.length → 0 ≤ sizeTo l k ∧ sizeTo l k ≤ 4611686018427387904
  | 0, _ => by simp [sizeTo]
  | k + 1, hk => by
    have h1 := sizeTo_bd h (k := k) (by omega)
    have h2 := getD_ok h (k := k) (by omega)
    rw [sizeTo]
    unfold okSp at h2
    omega
theorem sizeTo_full {l : List Sp} (h : ∀ x ∈ l, okSp x) {k : Nat} (hk : sizeTo l k = 4611686018427387904) : ∀ {j : Nat}, k ≤ j → j ≤ l.length → sizeTo l j = 4611686018427387904
  | 0, h1, _ => by have : k = 0 := by omega
                   subst this; exact hk
  | j + 1, h1, h2 => by
    rcases Nat.lt_or_ge j k with h3 | h3
    · have : k = j + 1 := by omega
      subst this; exact hk
    · have h4 := sizeTo_full h hk h3 (by omega)
      have h5 := getD_ok h (k := j) (by omega)
      rw [sizeTo, h4]
      unfold okSp at h5
      omega
theorem sizeS_full {l : List Sp} {k : Nat} {x y z : Int} (hr : rightS l = true) (hx : l[k]? = some (x, y, z)) (h : 4611686018427387904 - sizeTo l k ≤ z - y) : sizeS l = 4611686018427387904 := by
  have hl := (List.getElem?_eq_some_iff.1 hx).1
  have ho := (rightS_true.1 hr).1.1
  unfold sizeS
  rw [if_pos hr]
  exact sizeTo_full ho (k := k + 1) (by rw [sizeTo_step hx]; omega) (by omega) (Nat.le_refl _)
theorem sizeS_wrong {l : List Sp} (h : rightS l = false) : sizeS l = 0 := by unfold sizeS; rw [h]; rfl
theorem sizeS_right {l : List Sp} (h : rightS l = true) : sizeS l = sizeTo l l.length := by unfold sizeS; rw [if_pos h]
end Go.Proofs.Ytilagblpamhmkaa
namespace Go.Proofs.Ytilagblpamhmkaa
open Go.RowKit
set_option linter.unusedVariables false

/-- What comes of two sets put together: the list and the error's number. -/
noncomputable def joinSL (a b : List Sp) : List Sp := if rightS a = true ∧ rightS b = true ∧ (mergeL a b).length ≤ 1024 then mergeL a b else []
noncomputable def joinSE (a b : List Sp) : Int := if rightS a = true ∧ rightS b = true then (if (mergeL a b).length ≤ 1024 then 0 else 30) else 1
theorem joinS_wrong {a b : List Sp} (h : ¬ (rightS a = true ∧ rightS b = true)) : joinSL a b = [] ∧ joinSE a b = 1 := by
  unfold joinSL joinSE
  rw [if_neg (fun h' => h ⟨h'.1, h'.2.1⟩), if_neg h]; exact ⟨rfl, rfl⟩
theorem joinS_full {a b : List Sp} (ha : rightS a = true) (hb : rightS b = true) (h : 1024 < (mergeL a b).length) : joinSL a b = [] ∧ joinSE a b = 30 := by
  unfold joinSL joinSE
  rw [if_neg (fun h' => absurd h'.2.2 (by omega)), if_pos ⟨ha, hb⟩, if_neg (by omega)]; exact ⟨rfl, rfl⟩
theorem joinS_yes {a b : List Sp} (ha : rightS a = true) (hb : rightS b = true) (h : (mergeL a b).length ≤ 1024) : joinSL a b = mergeL a b ∧ joinSE a b = 0 := by
  unfold joinSL joinSE
  rw [if_pos ⟨ha, hb, h⟩, if_pos ⟨ha, hb⟩, if_pos h]; exact ⟨rfl, rfl⟩

/-- What a call leaves that answers new spans and an error's number. -/
def NewSpansE (w : World) (l : List Sp) (x : Int) (e : Ending) (w' : World) : Prop :=
  ∃ A n c, e = .returned (.tuple #[.slice A n c, .int .i64 x]) ∧ SlS w' A n l ∧ n ≤ c ∧ w'.ownsRow w.heap.size 53 3 (.slice A n c) n (spV l) ∧ Below w.heap.size w w'
theorem NewSpansE.nil {w w' : World} {x : Int} (b : Below w.heap.size w w') : NewSpansE w [] x (.returned (.tuple #[.slice none 0 0, .int .i64 x])) w' :=
  ⟨none, 0, 0, rfl, Sl.nil _ _ _, Nat.le_refl _, World.ownsRow_nil _ _ _ _, b⟩

/-- The first k spans of b are laid into a. -/
def FoldTo (a b : List Sp) (k : Nat) (cur : List Sp) : Prop := cur = (b.take k).foldl putS a ∧ Norm cur ∧ cur.length ≤ a.length + k
theorem putS_len : ∀ (l : List Sp) (x : Sp), (putS l x).length ≤ l.length + 1
  | [], x => by simp [putS]
  | y :: l, x => by
    rw [putS]
    split
    · have := putS_len l (growS y x); simp; omega
    · split
      · simp
      · have := putS_len l x; simp; omega
theorem FoldTo.start {a : List Sp} (b : List Sp) (ha : Norm a) : FoldTo a b 0 a := ⟨by simp, ha, by omega⟩
theorem FoldTo.step {a b cur : List Sp} {k : Nat} {x : Sp} (h : FoldTo a b k cur) (hx : b[k]? = some x) (ho : okSp x) : FoldTo a b (k + 1) (putS cur x) := by
  obtain ⟨h1, h2, h3⟩ := h
  refine ⟨?_, (putS_norm cur x h2 ho).1, by have := putS_len cur x; omega⟩
  rw [List.take_add_one, hx, List.foldl_append, ← h1]; rfl
theorem FoldTo.all {a b cur : List Sp} {n : Nat} (h : FoldTo a b n cur) (hn : b.length = n) (ha : Norm a) (hb : Norm b) : cur = mergeL a b := by
  rw [merge_eq ha hb, h.1, List.take_of_length_le (by omega)]

end Go.Proofs.Ytilagblpamhmkaa
namespace Go.Proofs.Ytilagblpamhmkaa
open Go.RowKit
set_option linter.unusedVariables false

/-- Where the merging stands: what is left of both lists, and what is gathered. -/
def JoinAt (l1 l2 la lb out : List Sp) : Prop := mergeF (la.length + lb.length) la lb out = mergeL l1 l2 ∧ (∀ x ∈ la, okSp x) ∧ (∀ x ∈ lb, okSp x) ∧ (∀ x ∈ out, okSp x) ∧ out.length + la.length + lb.length ≤ l1.length + l2.length
theorem JoinAt.start {l1 l2 : List Sp} (h1 : Norm l1) (h2 : Norm l2) : JoinAt l1 l2 l1 l2 [] := ⟨rfl, h1.1, h2.1, by simp, by simp⟩
theorem pushS_ok {out : List Sp} {x : Sp} (h : ∀ y ∈ out, okSp y) (hx : okSp x) : (∀ y ∈ pushS out x, okSp y) ∧ (pushS out x).length ≤ out.length + 1 := by
  rcases List.eq_nil_or_concat out with rfl | ⟨o, z, rfl⟩
  · rw [pushS_nil]; exact ⟨fun y hy => by rw [List.mem_singleton] at hy; subst hy; exact hx, by simp⟩
  · rw [List.concat_eq_append] at *
    have hz := h z (by simp)
    rw [pushS_snoc]
    split
    · rename_i hc
      refine ⟨fun y hy => ?_, by simp⟩
      rcases List.mem_append.1 hy with hy | hy
      · exact h y (by simp [hy])
      · rw [List.mem_singleton] at hy; subst hy; unfold okSp at *; simp only; omega
    · refine ⟨fun y hy => ?_, by simp⟩
      rcases List.mem_append.1 hy with hy | hy
      · exact h y hy
      · rw [List.mem_singleton] at hy; subst hy; exact hx
theorem JoinAt.left {l1 l2 la lb out : List Sp} {x : Sp} (h : JoinAt l1 l2 (x :: la) lb out) (hc : lb = [] ∨ ∃ y lb', lb = y :: lb' ∧ beforeB x y = true) : JoinAt l1 l2 la lb (pushS out x) := by
  obtain ⟨h1, h2, h3, h4, h5⟩ := h
  obtain ⟨p1, p2⟩ := pushS_ok h4 (h2 x (List.mem_cons_self ..))
  refine ⟨?_, fun y hy => h2 y (List.mem_cons_of_mem _ hy), h3, p1, by simp at h5; omega⟩
  rw [← h1, List.length_cons, show la.length + 1 + lb.length = la.length + lb.length + 1 by omega]
  rcases hc with rfl | ⟨y, lb', rfl, hb⟩
  · rw [mergeF]
  · rw [mergeF, if_pos hb]
theorem JoinAt.right {l1 l2 la lb out : List Sp} {y : Sp} (h : JoinAt l1 l2 la (y :: lb) out) (hc : la = [] ∨ ∃ x la', la = x :: la' ∧ beforeB x y = false) : JoinAt l1 l2 la lb (pushS out y) := by
  obtain ⟨h1, h2, h3, h4, h5⟩ := h
  obtain ⟨p1, p2⟩ := pushS_ok h4 (h3 y (List.mem_cons_self ..))
  refine ⟨?_, h2, fun z hz => h3 z (List.mem_cons_of_mem _ hz), p1, by simp at h5; omega⟩
  rw [← h1, List.length_cons, show la.length + (lb.length + 1) = la.length + lb.length + 1 by omega]
  rcases hc with rfl | ⟨x, la', rfl, hb⟩
  · rw [mergeF]
  · rw [mergeF, if_neg (by rw [hb]; simp)]
theorem JoinAt.end_ {l1 l2 out : List Sp} (h : JoinAt l1 l2 [] [] out) : out = mergeL l1 l2 := h.1

/-- The rest of a slice of spans behind its first one. -/
theorem SlS.tail {w : World} {b off n : Nat} {x : Sp} {l : List Sp} (h : SlS w (some ⟨b, off, none⟩) n (x :: l)) : SlS w (some ⟨b, off + 3, none⟩) (n - 1) l := by
  have hl := h.len
  have h1 := Sl.cut (k := 1) (cap := n + 1) h (by simp at hl; omega) (by omega)
  rw [if_neg (by simp at hl; omega)] at h1
  unfold SlS
  simpa [add_plain', spV, spV1] using h1
theorem SlS.nil_of {w : World} {A : Option Addr} {l : List Sp} (h : SlS w A 0 l) (B : Option Addr) : SlS w B 0 [] := Sl.nil _ _ _

theorem spV_set (o : List Sp) (a b c d : Int) : (spV (o ++ [(a, b, c)])).set (o.length * 3 + 2) (.int .i64 d) = spV (o ++ [(a, b, d)]) := by
  rw [spV_append, spV_append, ← spV_length o, List.set_append_right _ _ (by omega)]
  congr 1
  rw [show (spV o).length + 2 - (spV o).length = 2 by omega]
  rfl


theorem SlS.tail1 {w : World} {A : Option Addr} {n : Nat} {x : Sp} {l : List Sp} (h : SlS w A n (x :: l)) (hc : n ≤ 1) (B : Option Addr) : SlS w B (n - 1) l := by
  have hl := h.len
  simp at hl
  have e1 : l = [] := List.eq_nil_of_length_eq_zero (by omega)
  have e2 : n - 1 = 0 := by omega
  rw [e1, e2]
  exact Sl.nil _ _ _
theorem own_setN {w : World} {base : Nat} {e : TypeId} {size : Nat} {v : Value} {n : Nat} {xs : List Value} (h : w.ownsRow base e size v n xs) {g j : Nat} (hne : v.ownBlock ≠ some g) (u : Value) : (w.setCell ⟨g, j, none⟩ u).ownsRow base e size v n xs :=
  h.kept (grown_set w ⟨g, j, none⟩ u) (.inr hne)
theorem own_drewN {w : World} {base : Nat} {e : TypeId} {size : Nat} {v : Value} {n : Nat} {xs : List Value} (h : w.ownsRow base e size v n xs) (k : Nat) : (w.drewN k).ownsRow base e size v n xs := h
theorem Box3.drewN {w : World} {g : Nat} {t : TypeId} {x y z : Int} (h : Box3 w g t x y z) (k : Nat) : Box3 (w.drewN k) g t x y z := h
/-- The box of the loop's span is no block of the row. -/
def Apart (v : Value) (g : Nat) : Prop := v.ownBlock ≠ some g

/-- What a round's choice leaves. -/
def Chosen (w : World) (l1 l2 out : List Sp) (base g tot : Nat) (vo : Value) (m : Nat) (s0 s1 : Value) (wx : World) : Prop :=
  ∃ (A' : Option Addr) (na' ca' : Nat) (B' : Option Addr) (nb' cb' : Nat) (la' lb' : List Sp) (x1 x2 x3 : Int), s0 = .slice A' na' ca' ∧ s1 = .slice B' nb' cb' ∧ na' + nb' < tot ∧ na' ≤ ca' ∧ nb' ≤ cb' ∧ SlS w A' na' la' ∧ SlS w B' nb' lb' ∧
    JoinAt l1 l2 la' lb' (pushS out (x1, x2, x3)) ∧ okSp (x1, x2, x3) ∧ Box3 wx g 53 x1 x2 x3 ∧ wx.ownsRow base 53 3 vo m (spV out) ∧ Below w.heap.size w wx ∧ g + 1 ≤ wx.heap.size
theorem Chosen.mk {w : World} {l1 l2 out : List Sp} {base g tot : Nat} {vo : Value} {m : Nat} {w5 : World} {A' : Option Addr} {na' ca' : Nat} {B' : Option Addr} {nb' cb' : Nat} {la' lb' : List Sp} {x1 x2 x3 : Int}
    (ht : na' + nb' < tot) (h1 : na' ≤ ca') (h2 : nb' ≤ cb') (sa : SlS w A' na' la') (sb : SlS w B' nb' lb') (hj : JoinAt l1 l2 la' lb' (pushS out (x1, x2, x3))) (hx : okSp (x1, x2, x3))
    (hb : Box3 w5 g 53 0 0 0) (ho : w5.ownsRow base 53 3 vo m (spV out)) (hn : Apart vo g) (hl : Below w.heap.size w w5) (hg : w.heap.size ≤ g) (hs : g + 1 ≤ w5.heap.size) :
    Chosen w l1 l2 out base g tot vo m (.slice A' na' ca') (.slice B' nb' cb') (((w5.setCell ⟨g, 0, none⟩ (.int .i64 x1)).setCell ⟨g, 1, none⟩ (.int .i64 x2)).setCell ⟨g, 2, none⟩ (.int .i64 x3)).drew :=
  ⟨A', na', ca', B', nb', cb', la', lb', x1, x2, x3, rfl, rfl, ht, h1, h2, sa, sb, hj, hx, hb.set3 x1 x2 x3, own_setN (own_setN (own_setN ho hn _) hn _) hn _, (below_set3 hl hg _ _ _).drew, by simp [World.setCell]; omega⟩


end Go.Proofs.Ytilagblpamhmkaa
namespace Go.Proofs.Ytilagblpamhmkaa
open Go.RowKit
set_option linter.unusedVariables false

noncomputable def addSL (l : List Sp) (s n : Int) : List Sp := if dotB s n = true then joinSL l [(s, n, n)] else []
noncomputable def addSE (l : List Sp) (s n : Int) : Int := if dotB s n = true then joinSE l [(s, n, n)] else 1
theorem addS_no {l : List Sp} {s n : Int} (h : dotB s n = false) : addSL l s n = [] ∧ addSE l s n = 1 := by unfold addSL addSE; rw [h]; exact ⟨rfl, rfl⟩
theorem addS_yes {l : List Sp} {s n : Int} (h : dotB s n = true) : addSL l s n = joinSL l [(s, n, n)] ∧ addSE l s n = joinSE l [(s, n, n)] := by unfold addSL addSE; rw [h]; exact ⟨rfl, rfl⟩
theorem NewSpansE.wide {w w0 w' : World} {l : List Sp} {x : Int} {e : Ending} (h : NewSpansE w0 l x e w') (b : Below w.heap.size w w0) : NewSpansE w l x e w' := by
  obtain ⟨A, n, c, h1, h2, h3, h4, h5⟩ := h
  exact ⟨A, n, c, h1, h2, h3, own_lower h4 b.size, b.trans (h5.mono b.size)⟩
theorem sl_one (w : World) (x y z : Int) (t : TypeId) : SlS (w.alloc (.cells #[.int .i64 x, .int .i64 y, .int .i64 z] t)) (some ⟨w.heap.size, 0, none⟩) 1 [(x, y, z)] :=
  ⟨rfl, fun _ => ⟨w.heap.size, 0, rfl, fun j u hu => by
    have := cell_three_new w (.int .i64 x) (.int .i64 y) (.int .i64 z) t j u hu
    rwa [add_plain'] at this⟩⟩


end Go.Proofs.Ytilagblpamhmkaa
