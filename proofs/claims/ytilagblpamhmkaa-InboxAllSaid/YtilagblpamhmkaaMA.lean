/-
  Words for memory that all our walks share: a slice that reads as a list of values, kept over what a call leaves; rows of the call's own. No program is looked at here.
  Layer 1 in plain Lean: a number's bytes, reading them back. No program is looked at here.
  The plain laws of layer 1: a number is read back from its bytes, and bytes that are read are the number's own.
  Arguments opened: what a law's walk is told of each argument that was read as data. No program is looked at here.
  Slices of spans (three numbers each) and dots by value: how they lie in memory, and how they are opened as arguments. No program is looked at here.
  Layer 3 in plain Lean: sets of dots as spans. A right list is determined by its dots. No program is looked at here.
  Two sets of spans put together, in plain Lean: by merging, and by laying one span after another into the list: both are the same.
  span.Right tells whether a list of spans is right.
  Layer 6 in plain Lean: what is written one behind the other, and reading it back. No program is looked at here.
-/
import Derived.WalkKit
import Derived.Below
import Derived.Laws.OwnMore
import Derived.Deep.AppendLies
import Derived.Deep.Draws
import Derived.Maps.AppendAt
import Derived.Lib.AppendStr
import Derived.Lib.Hide
import Derived.Laws.AppendOwnNone
import Derived.Laws.BytesArg
import Derived.ProofKit
import Derived.OpenShut
import Derived.ShutString
import Derived.ChangeOld
import Derived.SizedLaws
import Derived.Deep.CondSized
import Derived.Lib.SmallJoins
import Derived.Deep.Slices
import Derived.Deep.Fields
import Derived.Test.YtilagblpamhmkaaProg
import Derived.Deep.QuietTactic
import Derived.BigQuiet
namespace Go.Proofs.Ytilagblpamhmkaa
open Go.RowKit

/-! ### A slice that reads as a list of cells -/
/-- The slice with head A and n elements of sz cells each holds the cells xs in the world w. -/
def Sl (w : World) (A : Option Addr) (n sz : Nat) (xs : List Value) : Prop :=
  xs.length = n * sz ∧ (0 < n * sz → ∃ b off, A = some ⟨b, off, none⟩ ∧ ∀ j u, xs[j]? = some u → w.cell? ⟨b, off + j, none⟩ = some u)

theorem add_plain' (b off k : Nat) : (⟨b, off, none⟩ : Addr).add k = ⟨b, off + k, none⟩ := by unfold Addr.add; split <;> simp_all

section
variable {w w' : World} {n sz : Nat} {A : Option Addr} {xs : List Value}

theorem Sl.nil (w : World) (A : Option Addr) (sz : Nat) : Sl w A 0 sz [] := ⟨by simp, fun h => absurd h (by simp)⟩

theorem Sl.move (h : Sl w A n sz xs) (hk : ∀ p : Addr, p.block < w.heap.size → w'.cell? p = w.cell? p) : Sl w' A n sz xs :=
  ⟨h.1, fun hn => by
    obtain ⟨b, off, e, hc⟩ := h.2 hn
    exact ⟨b, off, e, fun j u hu => (hk _ (World.block_lt_of_cell? w _ (hc j u hu))).trans (hc j u hu)⟩⟩

theorem Sl.below (h : Sl w A n sz xs) (hb : Below w.heap.size w w') : Sl w' A n sz xs := h.move fun _ hp => hb.cell hp
theorem Sl.drew (h : Sl w A n sz xs) : Sl w.drew A n sz xs := h
theorem Sl.drewN (h : Sl w A n sz xs) (k : Nat) : Sl (w.drewN k) A n sz xs := h
theorem Sl.alloc (h : Sl w A n sz xs) (o : Obj) : Sl (w.alloc o) A n sz xs := h.move fun p hp => World.cell?_alloc_lt w o p hp

theorem Sl.at1 {k : Nat} (h : Sl w A n 1 xs) (hk : k < n) : ∃ b off u, A = some ⟨b, off, none⟩ ∧ xs[k]? = some u ∧ w.cell? ⟨b, off + k, none⟩ = some u := by
  obtain ⟨b, off, e, hc⟩ := h.2 (by omega)
  have hl : k < xs.length := by have := h.1; omega
  exact ⟨b, off, xs[k], e, List.getElem?_eq_getElem hl, hc k _ (List.getElem?_eq_getElem hl)⟩

theorem Sl.of_own {base : Nat} {e : TypeId} {c : Nat} (h : w.ownsRow base e sz (.slice A n c) n xs) : Sl w A n sz xs := by
  refine ⟨h.1, fun hn => ?_⟩
  obtain ⟨g, cap, hv, _, hlt⟩ := h.form (Nat.pos_of_ne_zero fun e => by subst e; simp at hn)
  have hA : A = some ⟨g, 0, none⟩ := by injection hv
  subst hA
  exact ⟨g, 0, rfl, fun j u hu => by rw [← add_plain']; exact h.cells (g := g) rfl j u hu⟩

theorem Sl.cut (h : Sl w A n sz xs) {k cap : Nat} (hk : k ≤ n) (hc : n ≤ cap) :
    Sl w (if cap = k then A else A.map (·.add (k * sz))) (n - k) sz (xs.drop (k * sz)) := by
  refine ⟨by rw [List.length_drop, h.1, Nat.sub_mul], fun hn => ?_⟩
  have hnk : k < n := by
    rcases Nat.lt_or_ge k n with h1 | h1
    · exact h1
    · have : n - k = 0 := by omega
      rw [this] at hn; simp at hn
  have hs : 0 < sz := Nat.pos_of_ne_zero fun e => by subst e; simp at hn
  obtain ⟨b, off, rfl, hcell⟩ := h.2 (Nat.mul_pos (by omega) hs)
  rw [if_neg (by omega)]
  refine ⟨b, off + k * sz, by simp [add_plain'], fun j u hu => ?_⟩
  rw [Nat.add_assoc]
  exact hcell _ u (by rw [← hu, List.getElem?_drop])

theorem Sl.take (h : Sl w A n sz xs) {k : Nat} (hk : k ≤ n) : Sl w A k sz (xs.take (k * sz)) := by
  refine ⟨by rw [List.length_take, h.1]; exact Nat.min_eq_left (Nat.mul_le_mul_right _ hk), fun hn => ?_⟩
  obtain ⟨b, off, e, hc⟩ := h.2 (Nat.lt_of_lt_of_le hn (Nat.mul_le_mul_right _ hk))
  refine ⟨b, off, e, fun j u hu => hc j u ?_⟩
  rw [List.getElem?_take] at hu
  split at hu
  · exact hu
  · cases hu

/-- The cells at the slice's head, for the laws on append (nil let in by the caller). -/
theorem Sl.cells {b off : Nat} (h : Sl w (some ⟨b, off, none⟩) n sz xs) : ∀ j u, xs[j]? = some u → w.cell? ((⟨b, off, none⟩ : Addr).add j) = some u := by
  intro j u hu
  have hl : j < xs.length := by
    rcases Nat.lt_or_ge j xs.length with h1 | h1
    · exact h1
    · rw [List.getElem?_eq_none h1] at hu; cases hu
  obtain ⟨b', off', e, hc⟩ := h.2 (by have := h.1; omega)
  injection e with e
  injection e with e1 e2
  subst e1 e2
  rw [add_plain']
  exact hc j u hu

theorem Sl.load {P : Program} {b off : Nat} (h : Sl w (some ⟨b, off, none⟩) n sz xs) : (loadCells ⟨b, off, none⟩ (n * sz)).run P w = .ok xs.toArray w := by
  have := run_loadCells_list (P := P) w ⟨b, off, none⟩ xs (h.cells)
  rwa [h.1] at this
end

/-! ### What the call owns stays owned over what leaves old blocks alone -/
section
variable {w w' : World} {base : Nat} {e : TypeId} {size : Nat} {v : Value} {n : Nat} {xs : List Value}
theorem grown_of_below (h : Below w.heap.size w w') (row : Option Nat) : w.grownBy w' row := ⟨h.os, h.tape, h.output, h.size, fun i hi _ => h.block i hi⟩
theorem own_below (h : w.ownsRow base e size v n xs) (hb : Below w.heap.size w w') : w'.ownsRow base e size v n xs :=
  h.kept (grown_of_below hb none) (by cases hv : v.ownBlock <;> simp)
theorem own_lower {b' : Nat} (h : w.ownsRow base e size v n xs) (hb : b' ≤ base) : w.ownsRow b' e size v n xs := by
  refine ⟨h.1, ?_⟩
  rcases h.2 with h2 | ⟨g, cap, cur, hv, hg, r⟩
  · exact .inl h2
  · exact .inr ⟨g, cap, cur, hv, by omega, r⟩
theorem below_drewN {B : Nat} {a w : World} (h : Below B a w) (k : Nat) : Below B a (w.drewN k) := ⟨h.os, h.tape, h.output, h.size, h.block⟩
/-- The value that owns a row is a slice of that length. -/
theorem own_slice (h : w.ownsRow base e size v n xs) : ∃ A c, v = .slice A n c ∧ n ≤ c ∧ c ≤ maxLen := by
  rcases h.2 with ⟨rfl, rfl⟩ | ⟨g, cap, cur, rfl, _, _, hnc, hcm, _⟩
  · exact ⟨none, 0, rfl, Nat.le_refl _, by unfold maxLen; omega⟩
  · exact ⟨_, cap, rfl, hnc, hcm⟩
end

/-- Behind 'out = append(out, x)': x was laid in a block of its own, then the row grew. -/
theorem below_push {B : Nat} {w0 wr w1 : World} {base : Nat} {e : TypeId} {size : Nat} {v : Value} {n : Nat} {xs : List Value} {o : Obj} (hbel : Below B w0 wr) (hown : wr.ownsRow base e size v n xs)
    (hgrow : (wr.alloc o).grownBy w1 v.ownBlock) (hB : B ≤ wr.heap.size) (hb : B ≤ base) : Below B w0 w1 :=
  (hbel.alloc hB o).grown hgrow (by simp; omega) (fun k hk => Nat.le_trans hb (hown.lt k hk).1)
/-- Behind an append whose source lay there already. -/
theorem below_grow {B : Nat} {w0 wr w1 : World} {base : Nat} {e : TypeId} {size : Nat} {v : Value} {n : Nat} {xs : List Value} (hbel : Below B w0 wr) (hown : wr.ownsRow base e size v n xs)
    (hgrow : wr.grownBy w1 v.ownBlock) (hB : B ≤ wr.heap.size) (hb : B ≤ base) : Below B w0 w1 :=
  hbel.grown hgrow hB (fun k hk => Nat.le_trans hb (hown.lt k hk).1)

/-! ### append onto a row of the call's own, whatever slice is appended (nil too) -/
section
variable {P : Program} (w : World)
theorem run_append_sl (base : Nat) (t ty e : TypeId) (i : TypeInfo) (z : Value) (size bytes : Nat) (ht : P.underlying t = some (.slice e)) (hi : P.info? e = some i) (hz : i.zero = some z)
    (hsize : i.size = size) (hby : i.bytes = bytes) (hzs : z.cells.size = size) (hsz : 0 < size)
    (v : Value) (n : Nat) (xs : List Value) (hown : w.ownsRow base e size v n xs)
    (A : Option Addr) (m c : Nat) (news : List Value) (hr : Sl w A m size news) (h1 : ∀ u ∈ news, u.oneCell' = true)
    (h63 : n + m ≤ maxLen) (hbytes : (n + m) * bytes ≤ 140737488355328) (hbase : base ≤ w.heap.size) :
    ∃ v' w', (Builtin.append_ #[t, t] ty #[v, .slice A m c]).run P w = .ok v' w' ∧ w'.ownsRow base e size v' (n + m) (xs ++ news) ∧ w.grownBy w' v.ownBlock ∧
      (v'.ownBlock = v.ownBlock ∨ v'.ownBlock = some w.heap.size) := by
  have hz0 : m = 0 → news = [] := fun h => List.eq_nil_of_length_eq_zero (by rw [hr.1, h, Nat.zero_mul])
  rcases A with _ | ad
  · have hm : m = 0 := by
      rcases Nat.eq_zero_or_pos m with h0 | h0
      · exact h0
      · obtain ⟨b, off, h, _⟩ := hr.2 (Nat.mul_pos h0 hsz)
        cases h
    have hn := hz0 hm
    subst hm hn
    refine ⟨v, w, ?_, by simpa using hown, World.grownBy.refl w _, .inl rfl⟩
    rcases hown.2 with ⟨rfl, rfl⟩ | ⟨g, cap, cur, rfl, _, _, hnc, _⟩
    · simp [Builtin.append_, run_underlying ht, sizeOf, typeInfo, hi, Builtin.lenOf, Builtin.firstCells]
    · simp [Builtin.append_, run_underlying ht, sizeOf, typeInfo, hi, Builtin.lenOf, Builtin.firstCells, hnc, storeCells]
  · have hcells : ∀ j u, news[j]? = some u → w.cell? (ad.add j) = some u := by
      intro j u hu
      rcases Nat.eq_zero_or_pos m with h0 | h0
      · rw [hz0 h0] at hu; simp at hu
      · obtain ⟨b, off, h, hc⟩ := hr.2 (Nat.mul_pos h0 hsz)
        injection h with h
        subst h
        rw [add_plain']
        exact hc j u hu
    obtain ⟨v', w', hrun, h2, h3, _, h5⟩ := run_append_own_at (P := P) w base t ty e i z size bytes ht hi hz hsize hby hzs hsz v n xs hown ad m c news hr.1 hcells h1 h63 hbytes hbase
    exact ⟨v', w', hrun, h2, h3, h5⟩

theorem wpList_append_sl {ops : Array Oper} {rest : List Oper} {o : Oper} {a : Act} {Q : Exit → Act → World → Prop} (hgd : o.guard = none) (s x : Operand) (t : TypeId)
    (ho : o.op = .call { callee := .builtin .append, args := #[s, x], argTypes := #[t, t] })
    (base : Nat) (e : TypeId) (i : TypeInfo) (z : Value) (size bytes : Nat) (ht : P.underlying t = some (.slice e)) (hi : P.info? e = some i) (hz : i.zero = some z)
    (hsize : i.size = size) (hby : i.bytes = bytes) (hzs : z.cells.size = size) (hsz : 0 < size)
    (v : Value) (n : Nat) (xs : List Value) (hs : a.eval s = v) (hown : w.ownsRow base e size v n xs)
    (A : Option Addr) (m c : Nat) (news : List Value) (hx : a.eval x = .slice A m c) (hr : Sl w A m size news) (h1 : ∀ u ∈ news, u.oneCell' = true)
    (h63 : n + m ≤ maxLen) (hbytes : (n + m) * bytes ≤ 140737488355328) (hbase : base ≤ w.heap.size)
    (h : ∀ v' w', w'.ownsRow base e size v' (n + m) (xs ++ news) → w.grownBy w' v.ownBlock → (v'.ownBlock = v.ownBlock ∨ v'.ownBlock = some w.heap.size) → wpList P ops Q rest (a.put o.dst v') w') : wpList P ops Q (o :: rest) a w := by
  refine wpList_plain hgd fun K hK => ?_
  obtain ⟨v', w', hr', h2, h3, h4⟩ := run_append_sl (P := P) w base t o.type e i z size bytes ht hi hz hsize hby hzs hsz v n xs hown A m c news hr h1 h63 hbytes hbase
  unfold Oper.wp execOp
  simp only [ho, resolve, invoke, builtin, Sem.run_bind, Sem.run_pure, Result.andThen_ok, List.map_toArray, List.map_cons, List.map_nil, hs, hx, hr']
  exact hK _ _ (h v' w' h2 h3 h4)
end

/-! ### An array of the call's own: block g holds N cells, the first of which are xs -/
def Arr (w : World) (g : Nat) (t : TypeId) (N : Nat) (xs : List Value) : Prop :=
  ∃ cs : Array Value, w.heap[g]? = some (.cells cs t (0, 0)) ∧ cs.size = N ∧ cs.toList.take xs.length = xs
section
variable {w w' : World} {g : Nat} {t : TypeId} {N : Nat} {xs : List Value}
theorem Arr.new (w : World) (cs : Array Value) (t : TypeId) : Arr (w.alloc (.cells cs t)) w.heap.size t cs.size [] := ⟨cs, heap_alloc_new w _, rfl, by simp⟩
theorem Arr.new' (w : World) (cs : Array Value) (t : TypeId) (hN : cs.size = N) : Arr (w.alloc (.cells cs t)) w.heap.size t N [] := by subst hN; exact Arr.new w cs t
theorem Arr.cell (h : Arr w g t N xs) {j : Nat} (hj : j < N) : ∃ v, w.cell? ⟨g, j, none⟩ = some v := by
  obtain ⟨cs, hg, rfl, _⟩ := h
  exact ⟨cs[j], by rw [cell_of_row w g j cs t (0, 0) hg]; simp [hj]⟩
theorem Arr.free (h : Arr w g t N xs) (j : Nat) : w.frozen? ⟨g, j, none⟩ = false := by
  obtain ⟨cs, hg, _, _⟩ := h
  exact frozen_of_row w g j cs t hg
theorem Arr.drew (h : Arr w g t N xs) : Arr w.drew g t N xs := h
theorem Arr.drewN (h : Arr w g t N xs) (k : Nat) : Arr (w.drewN k) g t N xs := h
theorem Arr.lt (h : Arr w g t N xs) : g < w.heap.size := by
  obtain ⟨cs, hg, _, _⟩ := h
  exact (Array.getElem?_eq_some_iff.1 hg).1
theorem Arr.below (h : Arr w g t N xs) (hb : Below w.heap.size w w') : Arr w' g t N xs := by
  have hl := h.lt
  obtain ⟨cs, hg, h1, h2⟩ := h
  exact ⟨cs, (hb.block g hl).trans hg, h1, h2⟩
theorem Arr.push (h : Arr w g t N xs) (hl : xs.length < N) (v : Value) {k : Nat} (hk : k = xs.length) : Arr (w.setCell ⟨g, k, none⟩ v) g t N (xs ++ [v]) := by
  subst hk
  obtain ⟨cs, hg, rfl, ht⟩ := h
  refine ⟨cs.setIfInBounds xs.length v, heap_setCell_same w g xs.length cs t v hg, by simp, ?_⟩
  rw [Array.toList_setIfInBounds, List.length_append, List.length_singleton, List.take_add_one, List.take_set_of_le (Nat.le_refl _), ht]
  simp [hl]
theorem Arr.read (h : Arr w g t N xs) {n : Nat} (hn : xs.length = n) : Sl w (some ⟨g, 0, none⟩) n 1 xs := by
  obtain ⟨cs, hg, rfl, ht⟩ := h
  refine ⟨by omega, fun _ => ⟨g, 0, rfl, fun j u hu => ?_⟩⟩
  rw [Nat.zero_add, cell_of_row w g j cs t (0, 0) hg]
  rw [← ht, List.getElem?_take] at hu
  split at hu
  · simpa using hu
  · cases hu
end

/-- The ending that returns a bool. -/
theorem retb {a b : Bool} (h : b = a) : Ending.returned (Value.bool a) = Ending.returned (Value.bool b) := by rw [h]
theorem reti {k : IntKind} {a b : Int} (h : b = a) : Ending.returned (Value.int k a) = Ending.returned (Value.int k b) := by rw [h]

/-! ### Bytes -/
/-- A byte as a value. -/
def bV (b : UInt8) : Value := .int .u8 b.toNat
def bsV (l : List UInt8) : List Value := l.map bV
theorem bsV_length (l : List UInt8) : (bsV l).length = l.length := by simp [bsV]
theorem bsV_append (a b : List UInt8) : bsV (a ++ b) = bsV a ++ bsV b := by simp [bsV]
theorem bsV_drop (k : Nat) (l : List UInt8) : (bsV l).drop k = bsV (l.drop k) := by simp [bsV, List.map_drop]
theorem bsV_take (k : Nat) (l : List UInt8) : (bsV l).take k = bsV (l.take k) := by simp [bsV, List.map_take]
theorem own_byte {w : World} {base : Nat} {e : TypeId} {v : Value} {acc : List UInt8} {x : UInt8} {u : Value} {n : Nat} (h : w.ownsRow base e 1 v n (bsV acc ++ [u])) (hn : n = acc.length + 1) (hu : u = bV x) :
    w.ownsRow base e 1 v (acc ++ [x]).length (bsV (acc ++ [x])) := by
  subst hn hu
  rw [bsV_append, List.length_append]
  exact h
theorem strCells_bsV (s : ByteArray) : Lib.strCells s = bsV s.data.toList := rfl
theorem bsV_one (l : List UInt8) : ∀ u ∈ bsV l, u.oneCell' = true := by
  intro u hu
  simp only [bsV, List.mem_map] at hu
  obtain ⟨b, _, rfl⟩ := hu
  rfl

/-- A slice that reads as bytes. -/
def SlB (w : World) (A : Option Addr) (n : Nat) (l : List UInt8) : Prop := Sl w A n 1 (bsV l)
theorem SlB.len {w : World} {A : Option Addr} {n : Nat} {l : List UInt8} (h : SlB w A n l) : l.length = n := by have := h.1; rw [bsV_length] at this; omega
theorem SlB.at_ {w : World} {A : Option Addr} {n k : Nat} {l : List UInt8} (h : SlB w A n l) (hk : k < n) :
    ∃ (b off c : Nat), A = some ⟨b, off, none⟩ ∧ c < 256 ∧ l[k]? = some (UInt8.ofNat c) ∧ w.cell? ⟨b, off + k, none⟩ = some (.int .u8 (c : Int)) := by
  obtain ⟨b, off, u, rfl, hx, hc⟩ := Sl.at1 h hk
  simp only [bsV, List.getElem?_map, Option.map_eq_some_iff] at hx
  obtain ⟨y, hy, rfl⟩ := hx
  exact ⟨b, off, y.toNat, rfl, UInt8.toNat_lt y, by rw [hy]; simp, hc⟩

/-- string(b), b a slice that reads as bytes (nil too). -/
theorem run_convert_SlB {P : Program} {w : World} {A : Option Addr} {n : Nat} {l : List UInt8} (h : SlB w A n l) (src e dst : TypeId) (hs : P.underlying src = some (.slice e)) (he : P.underlying e = some (.int .u8))
    (hd : P.underlying dst = some .string) (c : Nat) : (convert src dst (.slice A n c)).run P w = .ok (.string ⟨l.toArray⟩) w := by
  rw [run_convert_bytes_string w src dst e A n c hs he hd]
  rcases A with _ | ⟨b, off, s⟩
  · have hn : l.length = 0 := by
      have h1 := SlB.len h
      rcases Nat.eq_zero_or_pos n with h0 | h0
      · omega
      · obtain ⟨_, _, e, _⟩ := h.2 (by omega); cases e
    have : l = [] := List.eq_nil_of_length_eq_zero hn
    subst this
    simp [Conv.bytesToString]; rfl
  · have hl : (loadCells ⟨b, off, s⟩ n).run P w = .ok ((l.map fun y => ((y.toNat : Nat) : Int)).map (Value.int .u8)).toArray w := by
      have e1 : (l.map fun y => ((y.toNat : Nat) : Int)).map (Value.int .u8) = bsV l := by simp [bsV, bV]
      rw [e1]
      rcases Nat.eq_zero_or_pos n with h0 | h0
      · have : l = [] := List.eq_nil_of_length_eq_zero (by have := SlB.len h; omega)
        subst this h0
        have := run_loadCells_list (P := P) w ⟨b, off, s⟩ [] (by simp)
        simpa [bsV] using this
      · obtain ⟨b', off', e, _⟩ := h.2 (by omega)
        injection e with e
        injection e with e1 e2 e3
        subst e1 e2 e3
        have := Sl.load (P := P) h
        rwa [Nat.mul_one] at this
    rw [run_bytesToString w _ n c _ hl, foldl_push_bytes]
    simp [ByteArray.empty, ByteArray.emptyWithCapacity]
    rw [show ((fun n => UInt8.ofNat n.toNat) ∘ fun y : UInt8 => ((y.toNat : Nat) : Int)) = id from by funext y; simp]
    simp
    rfl

end Go.Proofs.Ytilagblpamhmkaa
namespace Go.Proofs.Ytilagblpamhmkaa

/-- A number's bytes, seven bits each, the lowest first; at most f + 1 of them. -/
def putN : Nat → Nat → List UInt8
  | 0, u => [UInt8.ofNat u]
  | f + 1, u => if u < 128 then [UInt8.ofNat u] else UInt8.ofNat (u % 128 + 128) :: putN f (u / 128)
/-- The bytes of a Go number: what is below 0 counts as 0. -/
def putNum (n : Int) : List UInt8 := putN 8 n.toNat

theorem putN_len (f u : Nat) : 1 ≤ (putN f u).length ∧ (putN f u).length ≤ f + 1 := by
  induction f generalizing u with
  | zero => simp [putN]
  | succ f ih =>
    unfold putN
    split
    · simp
    · have := ih (u / 128); simp; omega
theorem putNum_len (n : Int) : 1 ≤ (putNum n).length ∧ (putNum n).length ≤ 9 := putN_len 8 _

/-- Where the loop of PutNum stands: acc is written, m is left. -/
def PutInv (N : Nat) (acc : List UInt8) (m : Nat) : Prop :=
  ∃ f, acc.length + f ≤ 8 ∧ m < 128 ^ (f + 1) ∧ acc ++ putN f m = putN 8 N
theorem PutInv.start {N : Nat} (h : N < 9223372036854775808) : PutInv N [] N := ⟨8, by simp, by simpa using h, rfl⟩
theorem PutInv.step {N m : Nat} {acc : List UInt8} (h : PutInv N acc m) (hm : 128 ≤ m) : PutInv N (acc ++ [UInt8.ofNat (m % 128 + 128)]) (m / 128) := by
  obtain ⟨f, h1, h2, h3⟩ := h
  match f, h1, h2, h3 with
  | 0, h1, h2, h3 => simp at h2; omega
  | f + 1, h1, h2, h3 =>
    refine ⟨f, by simp; omega, ?_, ?_⟩
    · have h4 : 128 ^ (f + 1 + 1) = 128 ^ (f + 1) * 128 := Nat.pow_succ ..
      rw [Nat.div_lt_iff_lt_mul (by omega)]; omega
    · rw [← h3, List.append_assoc, List.singleton_append]
      congr 1
      conv => rhs; unfold putN
      rw [if_neg (by omega)]
theorem PutInv.stop {N m : Nat} {acc : List UInt8} (h : PutInv N acc m) (hm : m < 128) : acc ++ [UInt8.ofNat m] = putN 8 N := by
  obtain ⟨f, _, _, h3⟩ := h
  rw [← h3]
  congr 1
  cases f with
  | zero => rfl
  | succ f => unfold putN; rw [if_pos hm]
theorem PutInv.len {N m : Nat} {acc : List UInt8} (h : PutInv N acc m) : acc.length ≤ 8 := by obtain ⟨f, h1, _, _⟩ := h; omega

theorem or_128 : ∀ x : Nat, x < 256 → x ||| 128 = x % 128 + 128 := by decide +kernel
theorem and_127 : ∀ x : Nat, x < 256 → x &&& 127 = x % 128 := by decide +kernel

/-! ### Reading a number -/
/-- What is read of the bytes l as a number: the i-th byte stands next, acc is read; the number and how many bytes, or the error's number. -/
def rdN : List UInt8 → Nat → Nat → Except Int (Nat × Nat)
  | [], _, _ => .error 4
  | c :: r, i, acc =>
    if (i = 8 ∧ 127 < c.toNat) ∨ (0 < i ∧ c.toNat = 0) then .error 2
    else if c.toNat < 128 then .ok (acc + c.toNat * 128 ^ i, i + 1)
    else rdN r (i + 1) (acc + c.toNat % 128 * 128 ^ i)
def rdNum (l : List UInt8) : Except Int (Nat × Nat) := rdN l 0 0

end Go.Proofs.Ytilagblpamhmkaa
namespace Go.Proofs.Ytilagblpamhmkaa

theorem byte_toNat (x : Nat) (h : x < 256) : (UInt8.ofNat x).toNat = x := by simp [UInt8.toNat_ofNat']; omega

theorem rdN_putN (f : Nat) : ∀ (u i acc : Nat) (rest : List UInt8), i + f ≤ 8 → u < 128 ^ (f + 1) → (0 < i → 0 < u) →
    rdN (putN f u ++ rest) i acc = .ok (acc + u * 128 ^ i, i + (putN f u).length) := by
  induction f with
  | zero =>
    intro u i acc rest hi hu hp
    simp only [Nat.zero_add, Nat.pow_one] at hu
    unfold putN
    rw [List.singleton_append]
    unfold rdN
    rw [byte_toNat u (by omega), if_neg (by omega), if_pos hu]
    simp
  | succ f ih =>
    intro u i acc rest hi hu hp
    unfold putN
    by_cases hs : u < 128
    · rw [if_pos hs, List.singleton_append]
      unfold rdN
      rw [byte_toNat u (by omega), if_neg (by omega), if_pos hs]
      simp
    · rw [if_neg hs, List.cons_append]
      unfold rdN
      rw [byte_toNat _ (by omega), if_neg (by omega), if_neg (by omega)]
      have h4 : 128 ^ (f + 1 + 1) = 128 ^ (f + 1) * 128 := Nat.pow_succ ..
      rw [ih (u / 128) (i + 1) _ rest (by omega) (by rw [Nat.div_lt_iff_lt_mul (by omega)]; omega) (fun _ => by omega)]
      have e1 : (u % 128 + 128) % 128 = u % 128 := by omega
      have e2 : (128 : Nat) ^ (i + 1) = 128 ^ i * 128 := Nat.pow_succ ..
      have e3 : u = u / 128 * 128 + u % 128 := by omega
      have e4 : u * 128 ^ i = (u / 128) * (128 ^ i * 128) + u % 128 * 128 ^ i := by
        conv => lhs; rw [e3]
        rw [Nat.add_mul, Nat.mul_assoc, Nat.mul_comm 128 (128 ^ i)]
      rw [e1, e2, e4]
      congr 2
      · omega
      · simp; omega

theorem rdNum_putNum (n : Nat) (h : n < 9223372036854775808) (rest : List UInt8) : rdNum (putN 8 n ++ rest) = .ok (n, (putN 8 n).length) := by
  have := rdN_putN 8 n 0 0 rest (by omega) (by simpa using h) (by omega)
  simpa [rdNum] using this

theorem rdN_ok (l : List UInt8) : ∀ (i acc n k : Nat), i ≤ 8 → rdN l i acc = .ok (n, k) →
    ∃ u j, n = acc + u * 128 ^ i ∧ k = i + j ∧ 1 ≤ j ∧ i + j ≤ 9 ∧ j ≤ l.length ∧ u < 128 ^ j ∧ (0 < i → 0 < u) ∧ ∀ f, j ≤ f + 1 → l.take j = putN f u := by
  induction l with
  | nil => intro i acc n k _ h; simp [rdN] at h
  | cons c r ih =>
    intro i acc n k hi h
    unfold rdN at h
    split at h
    · cases h
    · rename_i hbad
      split at h
      · rename_i hc
        simp only [Except.ok.injEq, Prod.mk.injEq] at h
        obtain ⟨rfl, rfl⟩ := h
        refine ⟨c.toNat, 1, rfl, rfl, by omega, by omega, by simp, by omega, by omega, fun f hf => ?_⟩
        have e : (c :: r).take 1 = [UInt8.ofNat c.toNat] := by simp
        rw [e]
        cases f with
        | zero => rfl
        | succ f => unfold putN; rw [if_pos hc]
      · rename_i hc
        have hi8 : i < 8 := by omega
        have hlt := UInt8.toNat_lt c
        obtain ⟨u, j, h1, h2, h3, h4, h5, h6, h7, h8⟩ := ih (i + 1) _ n k (by omega) h
        have hu := h7 (by omega)
        have e2 : (128 : Nat) ^ (i + 1) = 128 ^ i * 128 := Nat.pow_succ ..
        have e5 : (128 : Nat) ^ (j + 1) = 128 ^ j * 128 := Nat.pow_succ ..
        refine ⟨u * 128 + c.toNat % 128, j + 1, ?_, by omega, by omega, by omega, by simp; omega, by omega, by omega, fun f hf => ?_⟩
        · rw [h1, e2, Nat.add_mul, Nat.mul_assoc, Nat.mul_comm 128 (128 ^ i)]; omega
        · match f, hf with
          | 0, hf => omega
          | f + 1, hf =>
            unfold putN
            rw [if_neg (by omega), List.take_succ_cons, h8 f (by omega)]
            have e3 : (u * 128 + c.toNat % 128) / 128 = u := by omega
            have e4 : (u * 128 + c.toNat % 128) % 128 + 128 = c.toNat := by omega
            rw [e3, e4]
            simp

/-- Bytes that are read as a number are the number's own. -/
theorem rdNum_ok {l : List UInt8} {n k : Nat} (h : rdNum l = .ok (n, k)) : 1 ≤ k ∧ k ≤ 9 ∧ k ≤ l.length ∧ n < 9223372036854775808 ∧ l.take k = putN 8 n := by
  obtain ⟨u, j, h1, h2, h3, h4, h5, h6, _, h8⟩ := rdN_ok l 0 0 n k (by omega) h
  have e : n = u := by omega
  have e2 : k = j := by omega
  subst e e2
  have h9 : (128 : Nat) ^ k ≤ 128 ^ 9 := Nat.pow_le_pow_right (by omega) (by omega)
  have h10 : (128 : Nat) ^ 9 = 9223372036854775808 := by decide
  exact ⟨h3, by omega, h5, by omega, h8 8 (by omega)⟩

theorem rdN_err (l : List UInt8) : ∀ (i acc : Nat) (x : Int), rdN l i acc = .error x → x = 2 ∨ x = 4 := by
  induction l with
  | nil => intro i acc x h; simp only [rdN, Except.error.injEq] at h; omega
  | cons c r ih =>
    intro i acc x h
    unfold rdN at h
    split at h
    · simp only [Except.error.injEq] at h; omega
    · split at h
      · cases h
      · exact ih _ _ _ h

end Go.Proofs.Ytilagblpamhmkaa
namespace Go.Proofs.Ytilagblpamhmkaa
open Go.ChangeShapes Go.WideShapes Go.ChangeAt Go.RowKit
open Go.ChangeMaps (open_string shut_string)

section
variable {H : Type} {enc : TypeId × Value → H} {P : Program} {w : World} {base : Nat} {t e : TypeId} {v : Value} {d : DataW H} {p : List MemPlace}

/-- The datum of a slice of capacity cap. -/
def CapOf (d : DataW H) (cap : Nat) : Prop := cap = 0 ∨ ∃ elems spare, d = .slice elems spare ∧ elems.length + spare.length = cap

/-- A slice of integers of one kind: the numbers zs are its elements. -/
theorem open_nums {k : IntKind} (ht : P.underlying t = some (.slice e)) (he : P.underlying e = some (.int k)) (hC : P.cellsOf e = 1) (hv : Value.okWide P w .any base t v) (h : DataW.Trod enc P w 0 (fun _ => true) true t v d p) :
    ∃ A len cap, ∃ zs : List Int, v = .slice A len cap ∧ Sl w A len 1 (zs.map (Value.int k)) ∧ (∀ z ∈ zs, (Lit.int k z).wf = true) ∧ len ≤ cap ∧ cap ≤ maxLen ∧ CapOf d cap := by
  obtain ⟨a0, len, cap, rfl⟩ := okWide_slice ht hv
  obtain ⟨fuel, hf⟩ := h
  rcases open_ints ht he hC hf with ⟨hcs, _⟩ | ⟨x, l, c, zs, hcs, _, hl, hm, hz, hx, hcell, hwz⟩
  · simp [Value.cells] at hcs
    obtain ⟨rfl, rfl, rfl⟩ := hcs
    exact ⟨none, 0, 0, [], rfl, Sl.nil _ _ _, by simp, Nat.le_refl _, by unfold maxLen; omega, .inl rfl⟩
  · simp [Value.cells] at hcs
    obtain ⟨rfl, rfl, rfl⟩ := hcs
    simp only [Prod.mk.injEq] at hx
    obtain ⟨rfl, _⟩ := hx
    simp only [if_true] at hz
    refine ⟨_, len, cap, zs.take len, rfl, ⟨by simp; omega, fun hn => ?_⟩, fun z hzz => hwz z (List.mem_of_mem_take hzz), hl, hm, .inr ⟨_, _, rfl, by simp [lits]; omega⟩⟩
    obtain ⟨b, off, spot⟩ := x
    have hspot : spot = none := by simpa [Addr.add] using World.cell?_spot (hcell 0 (by omega))
    subst hspot
    refine ⟨b, off, rfl, fun j u hu => ?_⟩
    simp only [List.getElem?_map, List.getElem?_take, Option.map_eq_some_iff] at hu
    obtain ⟨z, hz1, rfl⟩ := hu
    split at hz1
    · have hj : j < zs.length := (List.getElem?_eq_some_iff.1 hz1).1
      rw [← add_plain', hcell j hj]
      simp [List.getD, hz1]
    · cases hz1

/-- A slice of bytes. -/
theorem open_bytes (ht : P.underlying t = some (.slice e)) (he : P.underlying e = some (.int .u8)) (hC : P.cellsOf e = 1) (hv : Value.okWide P w .any base t v) (h : DataW.Trod enc P w 0 (fun _ => true) true t v d p) :
    ∃ A len cap l, v = .slice A len cap ∧ SlB w A len l ∧ len ≤ cap ∧ cap ≤ maxLen ∧ CapOf d cap := by
  obtain ⟨A, len, cap, zs, rfl, hs, hw, h1, h2, h3⟩ := open_nums ht he hC hv h
  refine ⟨A, len, cap, zs.map fun z => UInt8.ofNat z.toNat, rfl, ?_, h1, h2, h3⟩
  have e1 : bsV (zs.map fun z => UInt8.ofNat z.toNat) = zs.map (Value.int .u8) := by
    simp only [bsV, List.map_map]
    refine List.map_congr_left fun z hz => ?_
    have hb := bounds_u8 (hw z hz)
    simp only [Function.comp, bV, UInt8.toNat_ofNat']
    congr 1
    omega
  unfold SlB
  rw [e1]
  exact hs

/-- What the form's own reach says of a slice. -/
theorem reach_cap {ts : List TypeId} {ds : List (DataW H)} (h : (DataW.weightsEach P ts ds).all (· ≤ reachBytes) = true) {j cap n : Nat} (hd : ds[j]? = some d) (hc : CapOf d cap) (ht : ts[j]? = some t)
    (hu : P.underlying t = some (.slice e)) (hb : P.bytesOf e = n) : cap * n ≤ 140737488351232 := by
  rcases hc with rfl | ⟨elems, spare, rfl, rfl⟩
  · omega
  · have := sized_slice h ht hd hu
    rw [hb] at this
    simpa [reachBytes] using this
end
end Go.Proofs.Ytilagblpamhmkaa
namespace Go.Proofs.Ytilagblpamhmkaa
open Go.ChangeShapes Go.WideShapes Go.ChangeAt Go.RowKit Go.Deep Go.Joins

/-- A span: its site, its first count, its last one. -/
abbrev Sp := Int × Int × Int
def spV1 (x : Sp) : List Value := [.int .i64 x.1, .int .i64 x.2.1, .int .i64 x.2.2]
def spV : List Sp → List Value
  | [] => []
  | x :: l => spV1 x ++ spV l
def comp (x : Sp) (r : Nat) : Int := if r = 0 then x.1 else if r = 1 then x.2.1 else x.2.2
theorem spV_length (l : List Sp) : (spV l).length = l.length * 3 := by
  induction l with
  | nil => rfl
  | cons x l ih => simp only [spV, spV1, List.length_append, List.length_cons, List.length_nil, ih]; omega
theorem spV_append (a b : List Sp) : spV (a ++ b) = spV a ++ spV b := by
  induction a with
  | nil => rfl
  | cons x l ih => simp only [spV, List.cons_append, ih, List.append_assoc]
theorem spV_at (l : List Sp) : ∀ (i r : Nat) (x : Sp), l[i]? = some x → r < 3 → (spV l)[i * 3 + r]? = some (.int .i64 (comp x r)) := by
  induction l with
  | nil => intro i r x h; simp at h
  | cons y l ih =>
    intro i r x h hr
    cases i with
    | zero =>
      simp only [List.getElem?_cons_zero, Option.some.injEq] at h
      subst h
      match r, hr with
      | 0, _ => rfl
      | 1, _ => rfl
      | 2, _ => rfl
    | succ i =>
      simp only [List.getElem?_cons_succ] at h
      have e : (i + 1) * 3 + r = i * 3 + r + 3 := by omega
      rw [e]
      show (spV1 y ++ spV l)[i * 3 + r + 3]? = _
      rw [List.getElem?_append_right (by simp [spV1])]
      simpa [spV1] using ih i r x h hr
theorem spV_one (l : List Sp) : ∀ u ∈ spV l, u.oneCell' = true := by
  induction l with
  | nil => intro u hu; cases hu
  | cons x l ih =>
    intro u hu
    simp only [spV, List.mem_append] at hu
    rcases hu with hu | hu
    · simp only [spV1, List.mem_cons, List.mem_nil_iff, or_false] at hu
      rcases hu with rfl | rfl | rfl <;> rfl
    · exact ih u hu

/-- A slice of spans. -/
def SlS (w : World) (A : Option Addr) (n : Nat) (l : List Sp) : Prop := Sl w A n 3 (spV l)
theorem SlS.len {w : World} {A : Option Addr} {n : Nat} {l : List Sp} (h : SlS w A n l) : l.length = n := by have := h.1; rw [spV_length] at this; omega
theorem SlS.at_ {w : World} {A : Option Addr} {n k : Nat} {l : List Sp} (h : SlS w A n l) (hk : k < n) :
    ∃ (b off : Nat) (x y z : Int), A = some ⟨b, off, none⟩ ∧ l[k]? = some (x, y, z) ∧ w.cell? ⟨b, off + k * 3, none⟩ = some (.int .i64 x) ∧ w.cell? ⟨b, off + k * 3 + 1, none⟩ = some (.int .i64 y) ∧ w.cell? ⟨b, off + k * 3 + 2, none⟩ = some (.int .i64 z) := by
  obtain ⟨b, off, rfl, hc⟩ := h.2 (by omega)
  have hl := h.len
  have hx : l[k]? = some l[k] := List.getElem?_eq_getElem (by omega)
  refine ⟨b, off, _, _, _, rfl, hx, ?_, ?_, ?_⟩
  · exact hc (k * 3 + 0) _ (spV_at l k 0 _ hx (by omega))
  · rw [Nat.add_assoc]; exact hc (k * 3 + 1) _ (spV_at l k 1 _ hx (by omega))
  · rw [Nat.add_assoc]; exact hc (k * 3 + 2) _ (spV_at l k 2 _ hx (by omega))

def wfSp (x : Sp) : Prop := (Lit.int .i64 x.1).wf = true ∧ (Lit.int .i64 x.2.1).wf = true ∧ (Lit.int .i64 x.2.2).wf = true

section
variable {H : Type} {enc : TypeId × Value → H} {P : Program} {w : World} {base : Nat} {t e : TypeId} {v : Value} {d : DataW H} {p : List MemPlace}

/-- A dot by value. -/
theorem open_dot {f0 f1 : Field} {r : Reach} {b0 : Nat} {spare : Nat → Bool} {held : Bool} (hs : P.underlying t = some (.struct #[f0, f1])) (hone : oneCellFields P #[f0, f1] = true) (hC : P.cellsOf t = 2) (u0 : P.underlying f0.type = some (.int .i64)) (u1 : P.underlying f1.type = some (.int .i64))
    (hv : Value.okWide P w r b0 t v) (h : DataW.Trod enc P w base spare held t v d p) :
    ∃ x y : Int, v = .agg #[.int .i64 x, .int .i64 y] ∧ (Lit.int .i64 x).wf = true ∧ (Lit.int .i64 y).wf = true := by
  obtain ⟨c0, c1, y0, y1, m, rfl, rfl, rfl, h0, h1⟩ := open_agg2 hs hone hC hv h
  obtain ⟨x, e0, _, w0⟩ := DataW.trod_int u0 h0
  obtain ⟨y, e1, _, w1⟩ := DataW.trod_int u1 h1
  injection e0 with e0
  injection e1 with e1
  subst e0 e1
  exact ⟨x, y, rfl, w0, w1⟩

/-- A slice of spans. -/
theorem open_spans {f0 f1 f2 : Field} (ht : P.underlying t = some (.slice e)) (he : P.underlying e = some (.struct #[f0, f1, f2])) (hone : oneCellFields P #[f0, f1, f2] = true) (hC : P.cellsOf e = 3)
    (u0 : P.underlying f0.type = some (.int .i64)) (u1 : P.underlying f1.type = some (.int .i64)) (u2 : P.underlying f2.type = some (.int .i64)) (hv : Value.okWide P w .any base t v) (h : DataW.Trod enc P w 0 (fun _ => true) true t v d p) :
    ∃ A len cap l, v = .slice A len cap ∧ SlS w A len l ∧ (∀ x ∈ l, wfSp x) ∧ len ≤ cap ∧ cap ≤ maxLen ∧ CapOf d cap := by
  obtain ⟨a0, len, cap, rfl⟩ := okWide_slice ht hv
  obtain ⟨fuel, hf⟩ := h
  rcases open_slice ht hf with ⟨hcs, _⟩ | ⟨a, len', cap', m, n, D, Pl, hcs, _, hl, hm, hmm, hx, hi⟩
  · simp [Value.cells] at hcs
    obtain ⟨rfl, rfl, rfl⟩ := hcs
    exact ⟨none, 0, 0, [], rfl, Sl.nil _ _ _, by simp, Nat.le_refl _, by unfold maxLen; omega, .inl rfl⟩
  · simp [Value.cells] at hcs
    obtain ⟨rfl, rfl, rfl⟩ := hcs
    simp only [if_true] at hmm
    subst hmm
    simp only [Prod.mk.injEq] at hx
    obtain ⟨rfl, _⟩ := hx
    have key : ∀ i, i < len → ∃ x : Sp, wfSp x ∧ ∀ r, r < 3 → w.cell? (a.add (i * 3 + r)) = some (.int .i64 (comp x r)) := by
      intro i hil
      obtain ⟨cs', hc, ht'⟩ := hi i (by omega)
      rw [hC] at hc
      obtain ⟨ys, n', _, _, hlen, hyl, hfl⟩ := DataW.trod_struct he ht'
      obtain ⟨_, hcl, hat⟩ := World.cells?_some hc
      match cs', hcl with
      | [c0, c1, c2], _ =>
        obtain ⟨o0, q0⟩ := hone_of hone 0 f0 rfl
        obtain ⟨o1, q1⟩ := hone_of hone 1 f1 rfl
        obtain ⟨o2, q2⟩ := hone_of hone 2 f2 rfl
        match ys, hyl with
        | [y0, y1, y2], _ =>
          have g0 : DataW.trod enc P w 0 (fun _ => true) true n' f0.type [c0] = some y0 := by simpa [o0, q0] using hfl 0 f0 rfl
          have g1 : DataW.trod enc P w 0 (fun _ => true) true n' f1.type [c1] = some y1 := by simpa [o1, q1] using hfl 1 f1 rfl
          have g2 : DataW.trod enc P w 0 (fun _ => true) true n' f2.type [c2] = some y2 := by simpa [o2, q2] using hfl 2 f2 rfl
          obtain ⟨x0, e0, _, w0⟩ := DataW.trod_int u0 g0
          obtain ⟨x1, e1, _, w1⟩ := DataW.trod_int u1 g1
          obtain ⟨x2, e2, _, w2⟩ := DataW.trod_int u2 g2
          injection e0 with e0
          injection e1 with e1
          injection e2 with e2
          subst e0 e1 e2
          refine ⟨(x0, x1, x2), ⟨w0, w1, w2⟩, fun r hr => ?_⟩
          rw [← Go.Deep.add_add, hat r hr]
          match r, hr with
          | 0, _ => rfl
          | 1, _ => rfl
          | 2, _ => rfl
    obtain ⟨X, hX⟩ := choose_lt (α := Sp) (p := fun i x => wfSp x ∧ ∀ r, r < 3 → w.cell? (a.add (i * 3 + r)) = some (.int .i64 (comp x r))) key
    refine ⟨_, len, _, (List.range len).map X, rfl, ⟨by rw [spV_length]; simp, fun hn => ?_⟩, ?_, hl, hm, .inr ⟨_, _, rfl, by simp; omega⟩⟩
    · obtain ⟨b, off, spot⟩ := a
      have hspot : spot = none := by simpa [Addr.add] using World.cell?_spot ((hX 0 (by omega)).2 0 (by omega))
      subst hspot
      refine ⟨b, off, rfl, fun j u hu => ?_⟩
      have hj : j < len * 3 := by
        rcases Nat.lt_or_ge j (len * 3) with h1 | h1
        · exact h1
        · rw [List.getElem?_eq_none (by rw [spV_length]; simpa using h1)] at hu; cases hu
      have hi3 : j / 3 < len := by omega
      have hg : ((List.range len).map X)[j / 3]? = some (X (j / 3)) := by simp [hi3]
      have h1 := spV_at _ (j / 3) (j % 3) _ hg (by omega)
      have e1 : j / 3 * 3 + j % 3 = j := by omega
      rw [e1, hu] at h1
      have h2 := (hX (j / 3) hi3).2 (j % 3) (by omega)
      rw [e1, add_plain'] at h2
      rw [h2, h1]
    · intro x hx
      simp only [List.mem_map, List.mem_range] at hx
      obtain ⟨i, hi', rfl⟩ := hx
      exact (hX i hi').1
end
end Go.Proofs.Ytilagblpamhmkaa
namespace Go.Proofs.Ytilagblpamhmkaa
set_option linter.unusedVariables false

/-- One right span. -/
def okSp (x : Sp) : Prop := 1 ≤ x.1 ∧ x.1 ≤ 16 ∧ 1 ≤ x.2.1 ∧ x.2.1 ≤ x.2.2 ∧ x.2.2 ≤ 4611686018427387904
/-- y lies behind x, and does not touch it. -/
def gap (x y : Sp) : Prop := x.1 < y.1 ∨ (x.1 = y.1 ∧ x.2.2 + 1 < y.2.1)
/-- Right but for the number of spans. -/
def Norm (l : List Sp) : Prop := (∀ x ∈ l, okSp x) ∧ l.Pairwise gap
/-- The dot (s, n) is in a span, in a list. -/
def inSp (x : Sp) (s n : Int) : Prop := x.1 = s ∧ x.2.1 ≤ n ∧ n ≤ x.2.2
def has (l : List Sp) (s n : Int) : Prop := ∃ x ∈ l, inSp x s n
/-- x begins no later than y. -/
def startLe (x y : Sp) : Prop := x.1 < y.1 ∨ (x.1 = y.1 ∧ x.2.1 ≤ y.2.1)

theorem has_nil (s n : Int) : ¬ has [] s n := by rintro ⟨x, h, _⟩; cases h
theorem has_cons (x : Sp) (l : List Sp) (s n : Int) : has (x :: l) s n ↔ inSp x s n ∨ has l s n := by
  constructor
  · rintro ⟨y, hy, h⟩
    rcases List.mem_cons.1 hy with rfl | hy
    · exact .inl h
    · exact .inr ⟨y, hy, h⟩
  · rintro (h | ⟨y, hy, h⟩)
    · exact ⟨x, List.mem_cons_self .., h⟩
    · exact ⟨y, List.mem_cons_of_mem _ hy, h⟩
theorem has_append (a b : List Sp) (s n : Int) : has (a ++ b) s n ↔ has a s n ∨ has b s n := by
  constructor
  · rintro ⟨y, hy, h⟩
    rcases List.mem_append.1 hy with hy | hy
    · exact .inl ⟨y, hy, h⟩
    · exact .inr ⟨y, hy, h⟩
  · rintro (⟨y, hy, h⟩ | ⟨y, hy, h⟩)
    · exact ⟨y, List.mem_append.2 (.inl hy), h⟩
    · exact ⟨y, List.mem_append.2 (.inr hy), h⟩

theorem gap_trans {x y z : Sp} (h1 : gap x y) (hy : okSp y) (h2 : gap y z) : gap x z := by
  unfold gap okSp at *; omega
theorem gap_startLe {x y : Sp} (hx : okSp x) (h : gap x y) : startLe x y := by unfold gap okSp startLe at *; omega
theorem gap_not_in {x y : Sp} {s n : Int} (h : gap x y) (h1 : inSp x s n) (h2 : inSp y s n) : False := by unfold gap inSp at *; omega

theorem Norm.nil : Norm [] := ⟨by simp, List.Pairwise.nil⟩
theorem Norm.tail {x : Sp} {l : List Sp} (h : Norm (x :: l)) : Norm l := ⟨fun y hy => h.1 y (List.mem_cons_of_mem _ hy), (List.pairwise_cons.1 h.2).2⟩
theorem Norm.head {x : Sp} {l : List Sp} (h : Norm (x :: l)) : okSp x := h.1 x (List.mem_cons_self ..)
theorem Norm.gaps {x : Sp} {l : List Sp} (h : Norm (x :: l)) : ∀ y ∈ l, gap x y := (List.pairwise_cons.1 h.2).1
theorem Norm.cons {x : Sp} {l : List Sp} (hx : okSp x) (hg : ∀ y ∈ l, gap x y) (h : Norm l) : Norm (x :: l) :=
  ⟨fun y hy => by
    rcases List.mem_cons.1 hy with rfl | hy
    · exact hx
    · exact h.1 y hy, List.pairwise_cons.2 ⟨hg, h.2⟩⟩

/-- The first dot of a right list begins its first span: what else is in it comes behind. -/
theorem Norm.first {x : Sp} {l : List Sp} (h : Norm (x :: l)) {s n : Int} (hd : has (x :: l) s n) : x.1 < s ∨ (x.1 = s ∧ x.2.1 ≤ n) := by
  obtain ⟨y, hy, hi⟩ := hd
  rcases List.mem_cons.1 hy with rfl | hy
  · unfold inSp at hi; omega
  · have := h.gaps y hy
    have hx := h.head
    unfold gap okSp inSp at *; omega

theorem first_same {x y : Sp} {a b : List Sp} (ha : Norm (x :: a)) (hb : Norm (y :: b)) (h : ∀ s n, has (x :: a) s n ↔ has (y :: b) s n) : x = y := by
  have hx := ha.head
  have hy := hb.head
  have h1 := hb.first ((h x.1 x.2.1).1 ⟨x, List.mem_cons_self .., rfl, Int.le_refl _, hx.2.2.2.1⟩)
  have h2 := ha.first ((h y.1 y.2.1).2 ⟨y, List.mem_cons_self .., rfl, Int.le_refl _, hy.2.2.2.1⟩)
  have e1 : x.1 = y.1 := by omega
  have e2 : x.2.1 = y.2.1 := by omega
  have key : ∀ (p q : Sp) (u v : List Sp), Norm (p :: u) → okSp q → p.1 = q.1 → p.2.1 = q.2.1 → (∀ s n, has (q :: v) s n → has (p :: u) s n) → ¬ p.2.2 < q.2.2 := by
    intro p q u v hp hq f1 f2 hh hlt
    obtain ⟨z, hz, hi⟩ := hh q.1 (p.2.2 + 1) ⟨q, List.mem_cons_self .., rfl, by have := hp.head; unfold okSp at *; omega, by omega⟩
    rcases List.mem_cons.1 hz with rfl | hz
    · unfold inSp at hi; omega
    · have := hp.gaps z hz
      unfold gap inSp at *; omega
  have k1 := key x y a b ha hy e1 e2 (fun s n => (h s n).2)
  have k2 := key y x b a hb hx e1.symm e2.symm (fun s n => (h s n).1)
  have e3 : x.2.2 = y.2.2 := by omega
  exact Prod.ext e1 (Prod.ext e2 e3)

/-- A right list is determined by its dots. -/
theorem norm_ext : ∀ {a b : List Sp}, Norm a → Norm b → (∀ s n, has a s n ↔ has b s n) → a = b
  | [], [], _, _, _ => rfl
  | [], y :: b, _, hb, h => absurd ((h y.1 y.2.1).2 ⟨y, List.mem_cons_self .., rfl, Int.le_refl _, hb.head.2.2.2.1⟩) (has_nil _ _)
  | x :: a, [], ha, _, h => absurd ((h x.1 x.2.1).1 ⟨x, List.mem_cons_self .., rfl, Int.le_refl _, ha.head.2.2.2.1⟩) (has_nil _ _)
  | x :: a, y :: b, ha, hb, h => by
    have e := first_same ha hb h
    subst e
    have : a = b := norm_ext ha.tail hb.tail (fun s n => by
      have := h s n
      rw [has_cons, has_cons] at this
      constructor
      · intro hd
        rcases this.1 (.inr hd) with h1 | h1
        · obtain ⟨z, hz, hi⟩ := hd
          exact (gap_not_in (ha.gaps z hz) h1 hi).elim
        · exact h1
      · intro hd
        rcases this.2 (.inr hd) with h1 | h1
        · obtain ⟨z, hz, hi⟩ := hd
          exact (gap_not_in (hb.gaps z hz) h1 hi).elim
        · exact h1)
    rw [this]

/-! ### The merging of two lists -/
/-- A span comes behind what is gathered: it goes on the last one, or becomes the last one. -/
def pushS (out : List Sp) (x : Sp) : List Sp :=
  match out.getLast? with
  | none => [x]
  | some z => if z.1 = x.1 ∧ x.2.1 ≤ z.2.2 + 1 then out.dropLast ++ [(z.1, z.2.1, max z.2.2 x.2.2)] else out ++ [x]

theorem pushS_nil (x : Sp) : pushS [] x = [x] := rfl
theorem pushS_snoc (out : List Sp) (z x : Sp) : pushS (out ++ [z]) x = if z.1 = x.1 ∧ x.2.1 ≤ z.2.2 + 1 then out ++ [(z.1, z.2.1, max z.2.2 x.2.2)] else out ++ [z] ++ [x] := by
  simp [pushS]

theorem norm_snoc {out : List Sp} {x : Sp} (h : Norm out) (hx : okSp x) (hg : ∀ y ∈ out, gap y x) : Norm (out ++ [x]) :=
  ⟨fun y hy => by
    rcases List.mem_append.1 hy with hy | hy
    · exact h.1 y hy
    · rw [List.mem_singleton] at hy; subst hy; exact hx,
   List.pairwise_append.2 ⟨h.2, List.pairwise_singleton _ _, fun a ha b hb => by rw [List.mem_singleton] at hb; subst hb; exact hg a ha⟩⟩
theorem norm_init {out : List Sp} {z : Sp} (h : Norm (out ++ [z])) : Norm out ∧ okSp z ∧ ∀ y ∈ out, gap y z := by
  have hp := List.pairwise_append.1 h.2
  exact ⟨⟨fun y hy => h.1 y (List.mem_append.2 (.inl hy)), hp.1⟩, h.1 z (by simp), fun y hy => hp.2.2 y hy z (by simp)⟩

theorem pushS_norm {out : List Sp} {x : Sp} (h : Norm out) (hx : okSp x) (hs : ∀ y ∈ out, startLe y x) :
    Norm (pushS out x) ∧ (∀ s n, has (pushS out x) s n ↔ has out s n ∨ inSp x s n) ∧ (∀ w, startLe x w → ∀ y ∈ pushS out x, startLe y w) := by
  rcases List.eq_nil_or_concat out with rfl | ⟨o, z, rfl⟩
  · rw [pushS_nil]
    refine ⟨Norm.cons hx (by simp) Norm.nil, fun s n => ?_, fun w hw y hy => ?_⟩
    · rw [has_cons]
      constructor
      · rintro (h | h)
        · exact .inr h
        · exact (has_nil _ _ h).elim
      · rintro (h | h)
        · exact (has_nil _ _ h).elim
        · exact .inl h
    · rw [List.mem_singleton] at hy; subst hy; exact hw
  · rw [List.concat_eq_append] at *
    obtain ⟨hno, hz, hgz⟩ := norm_init h
    have hsz := hs z (by simp)
    rw [pushS_snoc]
    by_cases hc : z.1 = x.1 ∧ x.2.1 ≤ z.2.2 + 1
    · rw [if_pos hc]
      refine ⟨norm_snoc hno ?_ fun y hy => ?_, fun s n => ?_, fun w hw y hy => ?_⟩
      · unfold okSp at *; simp only; omega
      · have := hgz y hy; unfold gap at *; simpa using this
      · rw [has_append, has_append, has_cons, has_cons]
        have e : inSp (z.1, z.2.1, max z.2.2 x.2.2) s n ↔ inSp z s n ∨ inSp x s n := by
          unfold inSp startLe okSp at *; simp only; omega
        rw [e]
        have hn := has_nil s n
        constructor
        · rintro (h | (h | h) | h)
          · exact .inl (.inl h)
          · exact .inl (.inr (.inl h))
          · exact .inr h
          · exact (hn h).elim
        · rintro ((h | h | h) | h)
          · exact .inl h
          · exact .inr (.inl (.inl h))
          · exact (hn h).elim
          · exact .inr (.inl (.inr h))
      · have hxw := hw
        rcases List.mem_append.1 hy with hy | hy
        · have h1 := hs y (by simp [hy])
          unfold startLe at *; omega
        · rw [List.mem_singleton] at hy; subst hy
          unfold startLe at *; simp only; omega
    · rw [if_neg hc]
      have hzx : gap z x := by unfold gap startLe okSp at *; omega
      refine ⟨norm_snoc h hx fun y hy => ?_, fun s n => ?_, fun w hw y hy => ?_⟩
      · rcases List.mem_append.1 hy with hy | hy
        · exact gap_trans (hgz y hy) hz hzx
        · rw [List.mem_singleton] at hy; subst hy; exact hzx
      · rw [has_append (o ++ [z]) [x], has_cons x []]
        have hn := has_nil s n
        constructor
        · rintro (h | h | h)
          · exact .inl h
          · exact .inr h
          · exact (hn h).elim
        · rintro (h | h)
          · exact .inl h
          · exact .inr (.inl h)
      · rcases List.mem_append.1 hy with hy | hy
        · have h1 := hs y hy
          unfold startLe at *; omega
        · rw [List.mem_singleton] at hy; subst hy; exact hw

end Go.Proofs.Ytilagblpamhmkaa
namespace Go.Proofs.Ytilagblpamhmkaa
set_option linter.unusedVariables false

/-- x comes first. -/
def beforeB (x y : Sp) : Bool := decide (x.1 < y.1) || (decide (x.1 = y.1) && decide (x.2.1 < y.2.1))
theorem beforeB_true {x y : Sp} : beforeB x y = true ↔ x.1 < y.1 ∨ (x.1 = y.1 ∧ x.2.1 < y.2.1) := by
  unfold beforeB
  rw [Bool.or_eq_true, Bool.and_eq_true, decide_eq_true_iff, decide_eq_true_iff, decide_eq_true_iff]

def mergeF : Nat → List Sp → List Sp → List Sp → List Sp
  | 0, _, _, out => out
  | _ + 1, [], [], out => out
  | f + 1, x :: a, [], out => mergeF f a [] (pushS out x)
  | f + 1, [], y :: b, out => mergeF f [] b (pushS out y)
  | f + 1, x :: a, y :: b, out => if beforeB x y then mergeF f a (y :: b) (pushS out x) else mergeF f (x :: a) b (pushS out y)
def mergeL (a b : List Sp) : List Sp := mergeF (a.length + b.length) a b []

theorem mergeF_norm : ∀ (f : Nat) (a b out : List Sp), a.length + b.length ≤ f → Norm a → Norm b → Norm out → (∀ y ∈ out, ∀ z ∈ a, startLe y z) → (∀ y ∈ out, ∀ z ∈ b, startLe y z) →
    Norm (mergeF f a b out) ∧ ∀ s n, has (mergeF f a b out) s n ↔ has out s n ∨ has a s n ∨ has b s n := by
  intro f
  induction f with
  | zero =>
    intro a b out hf ha hb ho h1 h2
    have e1 : a = [] := List.eq_nil_of_length_eq_zero (by omega)
    have e2 : b = [] := List.eq_nil_of_length_eq_zero (by omega)
    subst e1 e2
    refine ⟨ho, fun s n => ?_⟩
    have := has_nil s n
    constructor
    · exact .inl
    · rintro (h | h | h)
      · exact h
      · exact (this h).elim
      · exact (this h).elim
  | succ f ih =>
    intro a b out hf ha hb ho h1 h2
    match a, b, hf, ha, hb, h1, h2 with
    | [], [], hf, ha, hb, h1, h2 =>
      refine ⟨ho, fun s n => ?_⟩
      have := has_nil s n
      constructor
      · exact .inl
      · rintro (h | h | h)
        · exact h
        · exact (this h).elim
        · exact (this h).elim
    | x :: a, [], hf, ha, hb, h1, h2 =>
      obtain ⟨p1, p2, p3⟩ := pushS_norm ho ha.head (fun y hy => h1 y hy x (List.mem_cons_self ..))
      obtain ⟨q1, q2⟩ := ih a [] (pushS out x) (by simp at hf ⊢; omega) ha.tail hb p1 (fun y hy z hz => p3 z (gap_startLe ha.head (ha.gaps z hz)) y hy) (fun y hy z hz => by cases hz)
      refine ⟨q1, fun s n => ?_⟩
      rw [mergeF, q2, p2, has_cons]
      constructor
      · rintro ((h | h) | h | h)
        · exact .inl h
        · exact .inr (.inl (.inl h))
        · exact .inr (.inl (.inr h))
        · exact .inr (.inr h)
      · rintro (h | (h | h) | h)
        · exact .inl (.inl h)
        · exact .inl (.inr h)
        · exact .inr (.inl h)
        · exact .inr (.inr h)
    | [], y :: b, hf, ha, hb, h1, h2 =>
      obtain ⟨p1, p2, p3⟩ := pushS_norm ho hb.head (fun z hz => h2 z hz y (List.mem_cons_self ..))
      obtain ⟨q1, q2⟩ := ih [] b (pushS out y) (by simp at hf ⊢; omega) ha hb.tail p1 (fun y hy z hz => by cases hz) (fun w hw z hz => p3 z (gap_startLe hb.head (hb.gaps z hz)) w hw)
      refine ⟨q1, fun s n => ?_⟩
      rw [mergeF, q2, p2, has_cons]
      constructor
      · rintro ((h | h) | h | h)
        · exact .inl h
        · exact .inr (.inr (.inl h))
        · exact .inr (.inl h)
        · exact .inr (.inr (.inr h))
      · rintro (h | h | h | h)
        · exact .inl (.inl h)
        · exact .inr (.inl h)
        · exact .inl (.inr h)
        · exact .inr (.inr h)
    | x :: a, y :: b, hf, ha, hb, h1, h2 =>
      by_cases hbf : beforeB x y = true
      · obtain ⟨p1, p2, p3⟩ := pushS_norm ho ha.head (fun z hz => h1 z hz x (List.mem_cons_self ..))
        have hxy : startLe x y := by have := beforeB_true.1 hbf; unfold startLe; omega
        have hxb : ∀ z ∈ y :: b, startLe x z := fun z hz => by
          rcases List.mem_cons.1 hz with rfl | hz
          · exact hxy
          · have := gap_startLe hb.head (hb.gaps z hz); unfold startLe at *; omega
        obtain ⟨q1, q2⟩ := ih a (y :: b) (pushS out x) (by simp at hf ⊢; omega) ha.tail hb p1 (fun w hw z hz => p3 z (gap_startLe ha.head (ha.gaps z hz)) w hw) (fun w hw z hz => p3 z (hxb z hz) w hw)
        rw [mergeF, if_pos hbf]
        refine ⟨q1, fun s n => ?_⟩
        rw [q2, p2, has_cons x a]
        constructor
        · rintro ((h | h) | h | h)
          · exact .inl h
          · exact .inr (.inl (.inl h))
          · exact .inr (.inl (.inr h))
          · exact .inr (.inr h)
        · rintro (h | (h | h) | h)
          · exact .inl (.inl h)
          · exact .inl (.inr h)
          · exact .inr (.inl h)
          · exact .inr (.inr h)
      · obtain ⟨p1, p2, p3⟩ := pushS_norm ho hb.head (fun z hz => h2 z hz y (List.mem_cons_self ..))
        have hyx : startLe y x := by
          have : ¬ (x.1 < y.1 ∨ (x.1 = y.1 ∧ x.2.1 < y.2.1)) := fun h => hbf (beforeB_true.2 h)
          unfold startLe; omega
        have hya : ∀ z ∈ x :: a, startLe y z := fun z hz => by
          rcases List.mem_cons.1 hz with rfl | hz
          · exact hyx
          · have := gap_startLe ha.head (ha.gaps z hz); unfold startLe at *; omega
        obtain ⟨q1, q2⟩ := ih (x :: a) b (pushS out y) (by simp at hf ⊢; omega) ha hb.tail p1 (fun w hw z hz => p3 z (hya z hz) w hw) (fun w hw z hz => p3 z (gap_startLe hb.head (hb.gaps z hz)) w hw)
        rw [mergeF, if_neg hbf]
        refine ⟨q1, fun s n => ?_⟩
        rw [q2, p2, has_cons y b]
        constructor
        · rintro ((h | h) | h | h)
          · exact .inl h
          · exact .inr (.inr (.inl h))
          · exact .inr (.inl h)
          · exact .inr (.inr (.inr h))
        · rintro (h | h | h | h)
          · exact .inl (.inl h)
          · exact .inr (.inl h)
          · exact .inl (.inr h)
          · exact .inr (.inr h)

theorem mergeL_norm {a b : List Sp} (ha : Norm a) (hb : Norm b) : Norm (mergeL a b) ∧ ∀ s n, has (mergeL a b) s n ↔ has a s n ∨ has b s n := by
  obtain ⟨h1, h2⟩ := mergeF_norm (a.length + b.length) a b [] (Nat.le_refl _) ha hb Norm.nil (fun y hy => by cases hy) (fun y hy => by cases hy)
  refine ⟨h1, fun s n => ?_⟩
  rw [mergeL, h2]
  have := has_nil s n
  constructor
  · rintro (h | h)
    · exact (this h).elim
    · exact h
  · exact .inr

/-! ### One span laid into a list -/
def touch (y x : Sp) : Prop := y.1 = x.1 ∧ y.2.1 - 1 ≤ x.2.2 ∧ x.2.1 - 1 ≤ y.2.2
instance (y x : Sp) : Decidable (touch y x) := by unfold touch; infer_instance
def growS (y x : Sp) : Sp := (x.1, min y.2.1 x.2.1, max y.2.2 x.2.2)
def behind (y x : Sp) : Prop := x.1 < y.1 ∨ (y.1 = x.1 ∧ x.2.2 < y.2.1)
instance (y x : Sp) : Decidable (behind y x) := by unfold behind; infer_instance

def putS : List Sp → Sp → List Sp
  | [], x => [x]
  | y :: l, x => if touch y x then putS l (growS y x) else if behind y x then x :: y :: l else y :: putS l x

theorem grow_ok {x y : Sp} (hx : okSp x) (hy : okSp y) (h : touch y x) : okSp (growS y x) := by unfold okSp growS touch at *; simp only; omega
theorem grow_in {x y : Sp} (hx : okSp x) (hy : okSp y) (h : touch y x) (s n : Int) : inSp (growS y x) s n ↔ inSp y s n ∨ inSp x s n := by unfold okSp growS touch inSp at *; simp only; omega

theorem putS_gap : ∀ (l : List Sp) (x y : Sp), (∀ z ∈ l, gap y z) → gap y x → ∀ w ∈ putS l x, gap y w
  | [], x, y, _, hx, w, hw => by
    rw [putS, List.mem_singleton] at hw; subst hw; exact hx
  | z :: l, x, y, hl, hx, w, hw => by
    have hz := hl z (List.mem_cons_self ..)
    have hl' := fun u hu => hl u (List.mem_cons_of_mem _ hu)
    rw [putS] at hw
    split at hw
    · rename_i ht
      exact putS_gap l (growS z x) y hl' (by unfold gap growS touch at *; simp only; omega) w hw
    · split at hw
      · rcases List.mem_cons.1 hw with rfl | hw
        · exact hx
        · exact hl w hw
      · rcases List.mem_cons.1 hw with rfl | hw
        · exact hz
        · exact putS_gap l x y hl' hx w hw

theorem putS_norm : ∀ (l : List Sp) (x : Sp), Norm l → okSp x → Norm (putS l x) ∧ ∀ s n, has (putS l x) s n ↔ has l s n ∨ inSp x s n
  | [], x, _, hx => by
    refine ⟨Norm.cons hx (by simp) Norm.nil, fun s n => ?_⟩
    rw [putS, has_cons]
    exact ⟨fun h => h.symm, fun h => h.symm⟩
  | y :: l, x, hl, hx => by
    have hy := hl.head
    rw [putS]
    split
    · rename_i ht
      obtain ⟨q1, q2⟩ := putS_norm l (growS y x) hl.tail (grow_ok hx hy ht)
      refine ⟨q1, fun s n => ?_⟩
      rw [q2, grow_in hx hy ht, has_cons]
      constructor
      · rintro (h | h | h)
        · exact .inl (.inr h)
        · exact .inl (.inl h)
        · exact .inr h
      · rintro ((h | h) | h)
        · exact .inr (.inl h)
        · exact .inl h
        · exact .inr (.inr h)
    · rename_i ht
      split
      · rename_i hb
        have hg : gap x y := by unfold gap touch behind okSp at *; omega
        refine ⟨Norm.cons hx (fun z hz => ?_) hl, fun s n => ?_⟩
        · rcases List.mem_cons.1 hz with rfl | hz
          · exact hg
          · exact gap_trans hg hy (hl.gaps z hz)
        · rw [has_cons x]
          exact ⟨fun h => h.symm, fun h => h.symm⟩
      · rename_i hb
        have hg : gap y x := by unfold gap touch behind okSp at *; omega
        obtain ⟨q1, q2⟩ := putS_norm l x hl.tail hx
        refine ⟨Norm.cons hy (putS_gap l x y hl.gaps hg) q1, fun s n => ?_⟩
        rw [has_cons, q2, has_cons]
        constructor
        · rintro (h | h | h)
          · exact .inl (.inl h)
          · exact .inl (.inr h)
          · exact .inr h
        · rintro ((h | h) | h)
          · exact .inl h
          · exact .inr (.inl h)
          · exact .inr (.inr h)

theorem foldPut_norm : ∀ (b a : List Sp), Norm a → (∀ y ∈ b, okSp y) → Norm (b.foldl putS a) ∧ ∀ s n, has (b.foldl putS a) s n ↔ has a s n ∨ has b s n
  | [], a, ha, _ => ⟨ha, fun s n => ⟨.inl, fun h => h.elim id (fun h => (has_nil _ _ h).elim)⟩⟩
  | y :: b, a, ha, hb => by
    obtain ⟨p1, p2⟩ := putS_norm a y ha (hb y (List.mem_cons_self ..))
    obtain ⟨q1, q2⟩ := foldPut_norm b (putS a y) p1 (fun z hz => hb z (List.mem_cons_of_mem _ hz))
    refine ⟨q1, fun s n => ?_⟩
    rw [List.foldl_cons, q2, p2, has_cons]
    constructor
    · rintro ((h | h) | h)
      · exact .inl h
      · exact .inr (.inl h)
      · exact .inr (.inr h)
    · rintro (h | h | h)
      · exact .inl (.inl h)
      · exact .inl (.inr h)
      · exact .inr h

/-- Merging is laying one span after another. -/
theorem merge_eq {a b : List Sp} (ha : Norm a) (hb : Norm b) : mergeL a b = b.foldl putS a := by
  obtain ⟨p1, p2⟩ := mergeL_norm ha hb
  obtain ⟨q1, q2⟩ := foldPut_norm b a ha hb.1
  exact norm_ext p1 q1 (fun s n => by rw [p2, q2])

/-! ### As the code lays it: with a mark whether the span is laid -/
def putG : Bool → Sp → List Sp → List Sp
  | laid, x, [] => if laid then [] else [x]
  | laid, x, y :: l => if touch y x then putG laid (growS y x) l else if laid = false ∧ behind y x then x :: y :: putG true x l else y :: putG laid x l
theorem putG_true : ∀ (l : List Sp) (x : Sp), (∀ y ∈ l, ¬ touch y x) → putG true x l = l
  | [], x, _ => rfl
  | y :: l, x, h => by
    rw [putG, if_neg (h y (List.mem_cons_self ..)), if_neg (by simp), putG_true l x (fun z hz => h z (List.mem_cons_of_mem _ hz))]
theorem putG_false : ∀ (l : List Sp) (x : Sp), Norm l → okSp x → putG false x l = putS l x
  | [], x, _, _ => rfl
  | y :: l, x, hl, hx => by
    rw [putG, putS]
    split
    · rename_i ht
      exact putG_false l _ hl.tail (grow_ok hx hl.head ht)
    · rename_i ht
      by_cases hb : behind y x
      · rw [if_pos ⟨rfl, hb⟩, if_pos hb, putG_true l x (fun z hz => ?_)]
        have h1 := hl.gaps z hz
        have h2 := hl.head
        unfold gap touch behind okSp at *; omega
      · rw [if_neg (fun h => hb h.2), if_neg hb, putG_false l x hl.tail hx]
end Go.Proofs.Ytilagblpamhmkaa
namespace Go.Proofs.Ytilagblpamhmkaa
open Go.RowKit
set_option linter.unusedVariables false

/-- A list of spans is right. -/
noncomputable def rightS (l : List Sp) : Bool := @decide (Norm l ∧ l.length ≤ 1024) (Classical.propDecidable _)
theorem rightS_true {l : List Sp} : rightS l = true ↔ Norm l ∧ l.length ≤ 1024 := by unfold rightS; exact @decide_eq_true_iff _ (Classical.propDecidable _)
theorem rightS_false {l : List Sp} (h : ¬ (Norm l ∧ l.length ≤ 1024)) : rightS l = false := by
  cases hr : rightS l
  · rfl
  · exact absurd (rightS_true.1 hr) h

theorem norm_take {l : List Sp} (h : Norm l) (k : Nat) : Norm (l.take k) := ⟨fun x hx => h.1 x (List.mem_of_mem_take hx), h.2.sublist (List.take_sublist _ _)⟩
/-- The last of the first k spans; (0, 0, 0) where there is none. -/
def lastOf (l : List Sp) (k : Nat) : Sp := if k = 0 then (0, 0, 0) else l.getD (k - 1) (0, 0, 0)
/-- Where Right's loop stands: the first k are right, p is the last of them. -/
def RInv (l : List Sp) (k : Nat) (p : Sp) : Prop := Norm (l.take k) ∧ p = lastOf l k
theorem RInv.start (l : List Sp) : RInv l 0 (0, 0, 0) := ⟨by rw [List.take_zero]; exact Norm.nil, rfl⟩
theorem RInv.bound {l : List Sp} {k : Nat} {p : Sp} (h : RInv l k p) (hk : k ≤ l.length) : 0 ≤ p.1 ∧ p.1 ≤ 16 ∧ 0 ≤ p.2.2 ∧ p.2.2 ≤ 4611686018427387904 := by
  obtain ⟨h1, rfl⟩ := h
  unfold lastOf
  split
  · simp
  · have hm : l.getD (k - 1) (0, 0, 0) ∈ l.take k := by
      rw [List.getD_eq_getElem?_getD, List.getElem?_eq_getElem (by omega)]
      exact List.mem_take_iff_getElem.2 ⟨k - 1, by omega, rfl⟩
    have := h1.1 _ hm
    unfold okSp at this; omega
theorem last_at {l : List Sp} {k : Nat} {x : Sp} (hx : l[k]? = some x) : lastOf l (k + 1) = x := by
  unfold lastOf
  rw [if_neg (by omega), Nat.add_sub_cancel, List.getD_eq_getElem?_getD, hx]; rfl
theorem RInv.step {l : List Sp} {k : Nat} {p x : Sp} (h : RInv l k p) (hx : l[k]? = some x) (ho : okSp x) (hg : p.1 < x.1 ∨ (p.1 = x.1 ∧ p.2.2 + 1 < x.2.1)) : RInv l (k + 1) x := by
  refine ⟨?_, (last_at hx).symm⟩
  have e : l.take (k + 1) = l.take k ++ [x] := by rw [List.take_add_one, hx]; rfl
  rw [e]
  obtain ⟨h1, rfl⟩ := h
  refine norm_snoc h1 ho fun y hy => ?_
  rcases Nat.eq_zero_or_pos k with rfl | hk
  · simp at hy
  · obtain ⟨j, hj⟩ : ∃ j, k = j + 1 := ⟨k - 1, by omega⟩
    subst hj
    have hkl : j < l.length := by have := (List.getElem?_eq_some_iff.1 hx).1; omega
    obtain ⟨z, hz⟩ : ∃ z, l[j]? = some z := ⟨_, List.getElem?_eq_getElem hkl⟩
    rw [last_at hz] at hg
    have e2 : l.take (j + 1) = l.take j ++ [z] := by rw [List.take_add_one, hz]; rfl
    rw [e2] at h1 hy
    obtain ⟨_, hzo, hgz⟩ := norm_init h1
    rcases List.mem_append.1 hy with hy | hy
    · exact gap_trans (hgz y hy) hzo hg
    · rw [List.mem_singleton] at hy; subst hy; exact hg
theorem RInv.no {l : List Sp} {k : Nat} {p x : Sp} (h : RInv l k p) (hx : l[k]? = some x) (hb : ¬ okSp x ∨ (x.1 < p.1 ∨ (x.1 = p.1 ∧ x.2.1 ≤ p.2.2 + 1))) : rightS l = false := by
  refine rightS_false fun ⟨hn, _⟩ => ?_
  have hok := hn.1 x (List.mem_of_getElem? hx)
  rcases hb with hb | hb
  · exact hb hok
  · obtain ⟨h1, rfl⟩ := h
    rcases Nat.eq_zero_or_pos k with rfl | hk
    · unfold lastOf okSp at *; simp at hb; omega
    · obtain ⟨j, hj⟩ : ∃ j, k = j + 1 := ⟨k - 1, by omega⟩
      subst hj
      have hkl : j + 1 < l.length := (List.getElem?_eq_some_iff.1 hx).1
      obtain ⟨z, hz⟩ : ∃ z, l[j]? = some z := ⟨_, List.getElem?_eq_getElem (by omega)⟩
      rw [last_at hz] at hb
      have hp := List.pairwise_iff_getElem.1 hn.2 j (j + 1) (by omega) hkl (by omega)
      rw [(List.getElem?_eq_some_iff.1 hz).2, (List.getElem?_eq_some_iff.1 hx).2] at hp
      unfold gap at hp; omega
theorem RInv.all {l : List Sp} {n : Nat} {p : Sp} (h : RInv l n p) (hn : l.length = n) : rightS l = decide (n ≤ 1024) := by
  have h1 := h.1
  rw [List.take_of_length_le (by omega)] at h1
  by_cases hc : n ≤ 1024
  · rw [decide_eq_true hc]; exact rightS_true.2 ⟨h1, by omega⟩
  · rw [decide_eq_false hc]; exact rightS_false (fun h => hc (by omega))

/-- A span in a block of the call's own. -/
def Box3 (w : World) (g : Nat) (t : TypeId) (x y z : Int) : Prop := w.heap[g]? = some (.cells #[.int .i64 x, .int .i64 y, .int .i64 z] t (0, 0))
section
variable {w w' : World} {g : Nat} {t : TypeId} {x y z : Int}
theorem Box3.new (w : World) (t : TypeId) (x y z : Int) : Box3 (w.alloc (.cells #[.int .i64 x, .int .i64 y, .int .i64 z] t)) w.heap.size t x y z := heap_alloc_new w _
theorem Box3.lt (h : Box3 w g t x y z) : g < w.heap.size := (Array.getElem?_eq_some_iff.1 h).1
theorem Box3.below (h : Box3 w g t x y z) (b : Below w.heap.size w w') : Box3 w' g t x y z := (b.block g h.lt).trans h
theorem Box3.c0 (h : Box3 w g t x y z) : w.cell? ⟨g, 0, none⟩ = some (.int .i64 x) := by rw [cell_of_row w g 0 _ t (0, 0) h]; rfl
theorem Box3.c1 (h : Box3 w g t x y z) : w.cell? ⟨g, 1, none⟩ = some (.int .i64 y) := by rw [cell_of_row w g 1 _ t (0, 0) h]; rfl
theorem Box3.c2 (h : Box3 w g t x y z) : w.cell? ⟨g, 2, none⟩ = some (.int .i64 z) := by rw [cell_of_row w g 2 _ t (0, 0) h]; rfl
theorem Box3.set3 (h : Box3 w g t x y z) (a b c : Int) : Box3 (((w.setCell ⟨g, 0, none⟩ (.int .i64 a)).setCell ⟨g, 1, none⟩ (.int .i64 b)).setCell ⟨g, 2, none⟩ (.int .i64 c)) g t a b c := by
  have h1 := heap_setCell_same w g 0 _ t (.int .i64 a) h
  have h2 := heap_setCell_same _ g 1 _ t (.int .i64 b) h1
  have h3 := heap_setCell_same _ g 2 _ t (.int .i64 c) h2
  unfold Box3
  rw [h3]
  rfl
theorem Box3.alloc (h : Box3 w g t x y z) (o : Obj) : Box3 (w.alloc o) g t x y z := (Below.heap_alloc w o g h.lt).trans h
theorem below_set3 {B : Nat} {w0 : World} (hb : Below B w0 w) (hg : B ≤ g) (a b c : Value) : Below B w0 (((w.setCell ⟨g, 0, none⟩ a).setCell ⟨g, 1, none⟩ b).setCell ⟨g, 2, none⟩ c) :=
  ((hb.setCell (p := ⟨g, 0, none⟩) hg a).setCell (p := ⟨g, 1, none⟩) hg b).setCell (p := ⟨g, 2, none⟩) hg c
theorem Box3.fr (h : Box3 w g t x y z) (j : Nat) : w.frozen? ⟨g, j, none⟩ = false := frozen_of_row w g j _ t h
end

set_option maxHeartbeats 1000000 in
set_option maxRecDepth 100000 in
theorem spanRight_any (A : Option Addr) (n c : Nat) (l : List Sp) (w : World) (hs : SlS w A n l) (hn : n ≤ 140737488351232) :
    Calls Try.prog 68 #[.slice A n c] w fun e w' => e = .returned (.bool (rightS l)) ∧ Below w.heap.size w w' := by
  have hll := hs.len
  have HB0 := Lib.hid (Box3.new w 53 0 0 0)
  go_enter Try.func68, Try.ntmps68
  go_wp2
  go_loopw [9] (fun i wr => ∃ (k : Nat) (p1 p2 p3 : Int), i = .int .i64 (k : Int) ∧ k ≤ n ∧ Hid (RInv l k (p1, p2, p3)) ∧ Hid (Box3 wr w.heap.size 53 p1 p2 p3) ∧ Below w.heap.size w wr) (fun i _ => n - (intOf i).toNat)
  case atStart => exact ⟨0, 0, 0, 0, rfl, Nat.zero_le _, RInv.start l, HB0, (Below.refl _ _).alloc (Nat.le_refl _) _⟩
  case round =>
    obtain ⟨k, p1, p2, p3, rfl, hk, Hok, Hbox, hbel⟩ := hrel
    have hsz := hbel.size
    by_cases hlt : k < n
    · obtain ⟨b, off, x, y, z, rfl, hx, hc0, hc1, hc2⟩ := SlS.at_ (Sl.below hs hbel) hlt
      have Hx := Lib.hid hx
      obtain ⟨q1, q2, q3, q4⟩ := Hok.out.bound (by omega)
      have g0 := Hbox.out.c0
      have g1 := Hbox.out.c1
      have g2 := Hbox.out.c2
      have g3 := Hbox.out.fr 0
      have g4 := Hbox.out.fr 1
      have g5 := Hbox.out.fr 2
      have g6 := Hbox.out.lt
      clear hx
      simp only at q1 q2 q3 q4
      by_cases u1 : x < 1
      · go_wp2
        go_ret
        exact ⟨retb (Hok.out.no Hx.out (.inl (by unfold okSp; simp only; omega))), hbel.alloc hsz _⟩
      by_cases u2 : 16 < x
      · go_wp2
        go_ret
        exact ⟨retb (Hok.out.no Hx.out (.inl (by unfold okSp; simp only; omega))), hbel.alloc hsz _⟩
      by_cases u3 : y < 1
      · go_wp2
        go_ret
        exact ⟨retb (Hok.out.no Hx.out (.inl (by unfold okSp; simp only; omega))), hbel.alloc hsz _⟩
      by_cases u4 : z < y
      · go_wp2
        go_ret
        exact ⟨retb (Hok.out.no Hx.out (.inl (by unfold okSp; simp only; omega))), hbel.alloc hsz _⟩
      by_cases u5 : 4611686018427387904 < z
      · go_wp2
        go_ret
        exact ⟨retb (Hok.out.no Hx.out (.inl (by unfold okSp; simp only; omega))), hbel.alloc hsz _⟩
      by_cases u6 : x < p1
      · go_wp2
        go_ret
        exact ⟨retb (Hok.out.no Hx.out (.inr (by simp only; omega))), hbel.alloc hsz _⟩
      by_cases u7 : p1 < x
      · have HS := Lib.hid (Hok.out.step Hx.out (by unfold okSp; simp only; omega) (.inl u7))
        have R1 := Lib.hid ((Hbox.out.set3 x y z).alloc (.cells #[.int .i64 x, .int .i64 y, .int .i64 z] 53))
        have R2 := Lib.hid ((below_set3 hbel (Nat.le_refl w.heap.size) (.int .i64 x) (.int .i64 y) (.int .i64 z)).alloc (by simp [World.setCell]; omega) (.cells #[.int .i64 x, .int .i64 y, .int .i64 z] 53))
        go_wp2
        go_roundw
        case rel => exact ⟨k + 1, x, y, z, by go_num, by omega, HS.out, R1, R2.out⟩
        case measure => simp [intOf]; omega
      by_cases u8 : y ≤ p3 + 1
      · go_wp2
        go_ret
        exact ⟨retb (Hok.out.no Hx.out (.inr (by simp only; omega))), hbel.alloc hsz _⟩
      · have ex : x = p1 := by omega
        subst ex
        have HS := Lib.hid (Hok.out.step Hx.out (by unfold okSp; simp only; omega) (.inr ⟨rfl, by simp only; omega⟩))
        have R1 := Lib.hid ((Hbox.out.set3 x y z).alloc (.cells #[.int .i64 x, .int .i64 y, .int .i64 z] 53))
        have R2 := Lib.hid ((below_set3 hbel (Nat.le_refl w.heap.size) (.int .i64 x) (.int .i64 y) (.int .i64 z)).alloc (by simp [World.setCell]; omega) (.cells #[.int .i64 x, .int .i64 y, .int .i64 z] 53))
        go_wp2
        go_roundw
        case rel => exact ⟨k + 1, x, y, z, by go_num, by omega, HS.out, R1, R2.out⟩
        case measure => simp [intOf]; omega
    · obtain rfl : k = n := by omega
      go_wp2
      go_ret
      exact ⟨retb (by rw [Hok.out.all hll, decide_eq_decide]; omega), hbel⟩
end Go.Proofs.Ytilagblpamhmkaa
namespace Go.Proofs.Ytilagblpamhmkaa
open Go.RowKit
set_option linter.unusedVariables false

/-- The number at a place, and the place behind it. -/
def pNum (L : List UInt8) (a : Nat) : Option (Nat × Nat) := match rdNum (L.drop a) with | .ok (n, k) => some (n, a + k) | .error _ => none
theorem pNum_ok {L : List UInt8} {a n k : Nat} (h : rdNum (L.drop a) = .ok (n, k)) : pNum L a = some (n, a + k) := by unfold pNum; rw [h]
theorem pNum_no {L : List UInt8} {a : Nat} {x : Int} (h : rdNum (L.drop a) = .error x) : pNum L a = none := by unfold pNum; rw [h]
theorem pNum_some {L : List UInt8} {a n a1 : Nat} (h : pNum L a = some (n, a1)) : ∃ k, rdNum (L.drop a) = .ok (n, k) ∧ a1 = a + k := by
  unfold pNum at h
  split at h
  · rename_i m k e
    simp only [Option.some.injEq, Prod.mk.injEq] at h
    obtain ⟨rfl, rfl⟩ := h
    exact ⟨k, e, rfl⟩
  · cases h
theorem pNum_none {L : List UInt8} {a : Nat} (h : pNum L a = none) : ∃ x, rdNum (L.drop a) = .error x := by
  unfold pNum at h
  split at h
  · cases h
  · exact ⟨_, by assumption⟩

/-- How a thing is written, and read. -/
structure Form (α : Type) where
  enc : α → List UInt8
  p : List UInt8 → Nat → Option (α × Nat)
  good : α → Prop
  le : ∀ L a x a1, p L a = some (x, a1) → a < a1 ∧ a1 ≤ L.length
  fwd : ∀ L a x a1, p L a = some (x, a1) → good x → L.drop a = enc x ++ L.drop a1
  bwd : ∀ L a x r, good x → L.drop a = enc x ++ r → p L a = some (x, a + (enc x).length)

theorem snoc_ind {α : Type} {P : List α → Prop} (h0 : P []) (h1 : ∀ l x, P l → P (l ++ [x])) (l : List α) : P l := by
  have h : ∀ m : List α, P m.reverse := by
    intro m
    induction m with
    | nil => exact h0
    | cons x m ih => rw [List.reverse_cons]; exact h1 _ _ ih
  have := h l.reverse
  rwa [List.reverse_reverse] at this
theorem drop_next {L l r : List UInt8} {a : Nat} (h : L.drop a = l ++ r) : L.drop (a + l.length) = r := by
  rw [← List.drop_drop, h, List.drop_left]

theorem pNum_le {L : List UInt8} {a n a1 : Nat} (h : pNum L a = some (n, a1)) : a < a1 ∧ a1 ≤ L.length ∧ a1 ≤ a + 9 ∧ n < 9223372036854775808 := by
  obtain ⟨k, hr, rfl⟩ := pNum_some h
  obtain ⟨h1, h2, h3, h4, _⟩ := rdNum_ok hr
  rw [List.length_drop] at h3
  exact ⟨by omega, by omega, by omega, h4⟩
theorem pNum_fwd {L : List UInt8} {a n a1 : Nat} (h : pNum L a = some (n, a1)) : L.drop a = putN 8 n ++ L.drop a1 := by
  obtain ⟨k, hr, rfl⟩ := pNum_some h
  obtain ⟨h1, h2, h3, h4, h5⟩ := rdNum_ok hr
  rw [← h5, ← List.drop_drop]
  exact (List.take_append_drop k (L.drop a)).symm
theorem pNum_bwd {L r : List UInt8} {a n : Nat} (hn : n < 9223372036854775808) (h : L.drop a = putN 8 n ++ r) : pNum L a = some (n, a + (putN 8 n).length) := pNum_ok (by rw [h]; exact rdNum_putNum n hn r)
def numForm : Form Nat where
  enc := putN 8
  p := pNum
  good n := n < 9223372036854775808
  le L a x a1 h := ⟨(pNum_le h).1, (pNum_le h).2.1⟩
  fwd L a x a1 h _ := pNum_fwd h
  bwd L a x r h e := pNum_bwd h e

section
variable {α : Type}
/-- k things, one behind the other. -/
def pRep (p : List UInt8 → Nat → Option (α × Nat)) (L : List UInt8) : Nat → Nat → Option (List α × Nat)
  | 0, a => some ([], a)
  | k + 1, a => match pRep p L k a with
    | some (xs, a1) => match p L a1 with
      | some (x, a2) => some (xs ++ [x], a2)
      | none => none
    | none => none
variable {p : List UInt8 → Nat → Option (α × Nat)} {L : List UInt8} {k a a1 a2 n : Nat} {xs : List α} {x : α}
theorem pRep_step (h : pRep p L k a = some (xs, a1)) (hp : p L a1 = some (x, a2)) : pRep p L (k + 1) a = some (xs ++ [x], a2) := by simp only [pRep, h, hp]
theorem pRep_none (h : pRep p L k a = none) : ∀ n, k ≤ n → pRep p L n a = none := by
  intro n hn
  induction n with
  | zero => obtain rfl : k = 0 := by omega
            exact h
  | succ n ih =>
    rcases Nat.lt_or_ge n k with h1 | h1
    · obtain rfl : k = n + 1 := by omega
      exact h
    · simp only [pRep, ih h1]
theorem pRep_stop (h : pRep p L k a = some (xs, a1)) (hp : p L a1 = none) (hn : k < n) : pRep p L n a = none :=
  pRep_none (k := k + 1) (by simp only [pRep, h, hp]) n hn
theorem pRep_len : ∀ (k : Nat) {xs : List α} {a1 : Nat}, pRep p L k a = some (xs, a1) → xs.length = k
  | 0, xs, a1, h => by simp only [pRep, Option.some.injEq, Prod.mk.injEq] at h; rw [← h.1]; rfl
  | k + 1, xs, a1, h => by
    simp only [pRep] at h
    split at h
    · rename_i ys b e
      split at h
      · simp only [Option.some.injEq, Prod.mk.injEq] at h
        rw [← h.1, List.length_append, pRep_len k e]; rfl
      · cases h
    · cases h
end
section
variable {α : Type} (F : Form α) {L : List UInt8} {a a1 : Nat}
theorem pRep_le : ∀ (k : Nat) {xs : List α} {a1 : Nat}, a ≤ L.length → pRep F.p L k a = some (xs, a1) → a + k ≤ a1 ∧ a1 ≤ L.length
  | 0, xs, a1, ha, h => by simp only [pRep, Option.some.injEq, Prod.mk.injEq] at h; omega
  | k + 1, xs, a1, ha, h => by
    simp only [pRep] at h
    split at h
    · rename_i ys b e
      split at h
      · rename_i x c e2
        simp only [Option.some.injEq, Prod.mk.injEq] at h
        have h1 := pRep_le k ha e
        have h2 := F.le _ _ _ _ e2
        omega
      · cases h
    · cases h
theorem pRep_fwd : ∀ (k : Nat) {xs : List α} {a1 : Nat}, pRep F.p L k a = some (xs, a1) → (∀ x ∈ xs, F.good x) → L.drop a = xs.flatMap F.enc ++ L.drop a1
  | 0, xs, a1, h, _ => by
    simp only [pRep, Option.some.injEq, Prod.mk.injEq] at h
    obtain ⟨rfl, rfl⟩ := h
    rfl
  | k + 1, xs, a1, h, hg => by
    simp only [pRep] at h
    split at h
    · rename_i ys b e
      split at h
      · rename_i x c e2
        simp only [Option.some.injEq, Prod.mk.injEq] at h
        obtain ⟨rfl, rfl⟩ := h
        rw [pRep_fwd k e (fun y hy => hg y (List.mem_append_left _ hy)), F.fwd _ _ _ _ e2 (hg x (by simp)), List.flatMap_append]
        simp
      · cases h
    · cases h
theorem pRep_bwd : ∀ (xs : List α) (r : List UInt8), (∀ x ∈ xs, F.good x) → L.drop a = xs.flatMap F.enc ++ r → pRep F.p L xs.length a = some (xs, a + (xs.flatMap F.enc).length) := by
  intro xs
  induction xs using snoc_ind with
  | h0 => intro r _ _; rfl
  | h1 ys y ih =>
    intro r hg h
    rw [List.flatMap_append, List.append_assoc] at h
    have h1 := ih _ (fun x hx => hg x (List.mem_append_left _ hx)) h
    have h3 := drop_next h
    rw [List.flatMap_cons, List.flatMap_nil, List.append_nil] at h3
    have h2 := F.bwd L _ y r (hg y (by simp)) h3
    rw [List.length_append, List.length_singleton, pRep_step h1 h2]
    simp only [List.flatMap_append, List.length_append, Option.some.injEq, Prod.mk.injEq, true_and]
    simp only [List.flatMap_cons, List.flatMap_nil, List.append_nil]
    omega
/-- A list: its length, then its things. -/
def pTake (p : List UInt8 → Nat → Option (α × Nat)) (L : List UInt8) (a : Nat) : Option (List α × Nat) :=
  match pNum L a with
  | some (n, a1) => if n ≤ L.length - a1 then pRep p L n a1 else none
  | none => none
theorem pTake_eq {p : List UInt8 → Nat → Option (α × Nat)} {n : Nat} (h : pNum L a = some (n, a1)) (hn : n ≤ L.length - a1) : pTake p L a = pRep p L n a1 := by unfold pTake; simp only [h]; rw [if_pos hn]
theorem pTake_no {p : List UInt8 → Nat → Option (α × Nat)} (h : pNum L a = none) : pTake p L a = none := by unfold pTake; simp only [h]
theorem pTake_many {p : List UInt8 → Nat → Option (α × Nat)} {n : Nat} (h : pNum L a = some (n, a1)) (hn : L.length - a1 < n) : pTake p L a = none := by unfold pTake; simp only [h]; rw [if_neg (by omega)]
theorem pTake_some {p : List UInt8 → Nat → Option (α × Nat)} {xs : List α} {b : Nat} (h : pTake p L a = some (xs, b)) : ∃ n a1, pNum L a = some (n, a1) ∧ n ≤ L.length - a1 ∧ pRep p L n a1 = some (xs, b) ∧ xs.length = n := by
  unfold pTake at h
  split at h
  · rename_i n a1 e
    split at h
    · exact ⟨n, a1, e, by assumption, h, pRep_len _ h⟩
    · cases h
  · cases h
def lenc (F : Form α) (l : List α) : List UInt8 := putN 8 l.length ++ l.flatMap F.enc
theorem flat_pos (hp : ∀ x, F.good x → 1 ≤ (F.enc x).length) : ∀ (l : List α), (∀ x ∈ l, F.good x) → l.length ≤ (l.flatMap F.enc).length
  | [], _ => by simp
  | x :: l, h => by
    have h1 := hp x (h x (List.mem_cons_self ..))
    have h2 := flat_pos hp l (fun y hy => h y (List.mem_cons_of_mem _ hy))
    rw [List.flatMap_cons, List.length_append, List.length_cons]; omega
theorem enc_pos (x : α) (hx : F.good x) : 1 ≤ (F.enc x).length := by
  have h := F.bwd (F.enc x) 0 x [] hx (by simp)
  have := F.le _ _ _ _ h
  omega
def listForm (F : Form α) : Form (List α) where
  enc := lenc F
  p := pTake F.p
  good l := (∀ x ∈ l, F.good x) ∧ l.length < 9223372036854775808
  le L a x a1 h := by
    obtain ⟨n, b, e, hn, hr, _⟩ := pTake_some h
    have h1 := pNum_le e
    have h2 := pRep_le F n (by omega) hr
    omega
  fwd L a x a1 h hg := by
    obtain ⟨n, b, e, hn, hr, hl⟩ := pTake_some h
    rw [pNum_fwd e, pRep_fwd F n hr hg.1, ← List.append_assoc]
    unfold lenc
    rw [hl]
  bwd L a x r hg e := by
    unfold lenc at e ⊢
    rw [List.append_assoc] at e
    have h1 := pNum_bwd hg.2 e
    have h2 := drop_next e
    have h3 := pRep_bwd F x r hg.1 h2
    have h4 := congrArg List.length h2
    rw [List.length_drop, List.length_append] at h4
    have h5 := flat_pos F (enc_pos F) x hg.1
    rw [pTake_eq h1 (by omega), h3, List.length_append]
    simp only [Option.some.injEq, Prod.mk.injEq, true_and]
    omega
end

/-! ### Sets of dots -/
/-- A span; ok tells what of its last two numbers is let through. -/
def gSpan (ok : Nat → Nat → Bool) (L : List UInt8) (a : Nat) : Option (Sp × Nat) :=
  match pNum L a with
  | some (s, a1) => match pNum L a1 with
    | some (f, a2) => match pNum L a2 with
      | some (m, a3) => if ok f m = true then some (((s : Int), (f : Int), wrap64 ((f : Int) + (m : Int))), a3) else none
      | none => none
    | none => none
  | none => none
/-- The bytes of a span. -/
def spB (x : Sp) : List UInt8 := putN 8 x.1.toNat ++ (putN 8 x.2.1.toNat ++ putN 8 (x.2.2 - x.2.1).toNat)
theorem gSpan_some {ok : Nat → Nat → Bool} {L : List UInt8} {a a3 : Nat} {x : Sp} (h : gSpan ok L a = some (x, a3)) :
    ∃ s f m a1 a2, pNum L a = some (s, a1) ∧ pNum L a1 = some (f, a2) ∧ pNum L a2 = some (m, a3) ∧ ok f m = true ∧ x = ((s : Int), (f : Int), wrap64 ((f : Int) + (m : Int))) := by
  unfold gSpan at h
  split at h
  · rename_i s a1 e1
    split at h
    · rename_i f a2 e2
      split at h
      · rename_i m b e3
        split at h
        · simp only [Option.some.injEq, Prod.mk.injEq] at h
          obtain ⟨rfl, rfl⟩ := h
          exact ⟨s, f, m, a1, a2, e1, e2, e3, by assumption, rfl⟩
        · cases h
      · cases h
    · cases h
  · cases h
def spanForm (ok : Nat → Nat → Bool) (hok : ∀ f m, f + m ≤ 4611686018427387904 → ok f m = true) : Form Sp where
  enc := spB
  p := gSpan ok
  good := okSp
  le L a x a1 h := by
    obtain ⟨s, f, m, b1, b2, e1, e2, e3, _⟩ := gSpan_some h
    have h1 := pNum_le e1
    have h2 := pNum_le e2
    have h3 := pNum_le e3
    omega
  fwd L a x a1 h hg := by
    obtain ⟨s, f, m, b1, b2, e1, e2, e3, ho, rfl⟩ := gSpan_some h
    have h2 := (pNum_le e2).2.2.2
    have h3 := (pNum_le e3).2.2.2
    unfold okSp at hg
    simp only at hg
    have hw : wrap64 ((f : Int) + (m : Int)) = (f : Int) + (m : Int) := by
      have := hg.2.2.2.1
      have h0 := hg.2.2.1
      unfold wrap64 at this ⊢
      omega
    rw [pNum_fwd e1, pNum_fwd e2, pNum_fwd e3]
    unfold spB
    simp only [hw]
    rw [show ((f : Int) + (m : Int) - (f : Int)).toNat = m by omega]
    simp [List.append_assoc]
  bwd L a x r hg e := by
    obtain ⟨s, f, t⟩ := x
    unfold okSp at hg
    simp only at hg
    unfold spB at e ⊢
    simp only at e ⊢
    rw [List.append_assoc, List.append_assoc] at e
    have h1 := pNum_bwd (show s.toNat < 9223372036854775808 by omega) e
    have e2 := drop_next e
    have h2 := pNum_bwd (show f.toNat < 9223372036854775808 by omega) e2
    have e3 := drop_next e2
    have h3 := pNum_bwd (show (t - f).toNat < 9223372036854775808 by omega) e3
    unfold gSpan
    simp only [h1, h2, h3]
    rw [if_pos (hok _ _ (by omega))]
    simp only [Option.some.injEq, Prod.mk.injEq, List.length_append]
    refine ⟨⟨by omega, by omega, ?_⟩, by omega⟩
    unfold wrap64
    omega
/-- The bytes of a set. -/
def setB (l : List Sp) : List UInt8 := putN 8 l.length ++ l.flatMap spB
theorem right_good {l : List Sp} (h : rightS l = true) : (∀ x ∈ l, okSp x) ∧ l.length < 9223372036854775808 := by
  have := rightS_true.1 h
  exact ⟨this.1.1, by omega⟩
/-- What is read of bytes as a set. -/
noncomputable def setR (ok : Nat → Nat → Bool) (b : List UInt8) : Option (List Sp) :=
  match pTake (gSpan ok) b 0 with
  | some (l, a) => if a = b.length ∧ rightS l = true then some l else none
  | none => none
theorem setR_iff {ok : Nat → Nat → Bool} (hok : ∀ f m, f + m ≤ 4611686018427387904 → ok f m = true) (b : List UInt8) (l : List Sp) : setR ok b = some l ↔ rightS l = true ∧ b = setB l := by
  have F := listForm (spanForm ok hok)
  constructor
  · intro h
    unfold setR at h
    split at h
    · rename_i l' a e
      split at h
      · rename_i hc
        simp only [Option.some.injEq] at h
        subst h
        refine ⟨hc.2, ?_⟩
        have := (listForm (spanForm ok hok)).fwd b 0 l' a e (right_good hc.2)
        rw [List.drop_zero, hc.1, List.drop_length, List.append_nil] at this
        exact this
      · cases h
    · cases h
  · rintro ⟨hr, rfl⟩
    have := (listForm (spanForm ok hok)).bwd (setB l) 0 l [] (right_good hr) (by rw [List.drop_zero, List.append_nil]; rfl)
    unfold setR
    have e2 : pTake (gSpan ok) (setB l) 0 = some (l, (setB l).length) := by rw [show (setB l).length = 0 + ((listForm (spanForm ok hok)).enc l).length from (Nat.zero_add _).symm]; exact this
    rw [e2]
    show (if (setB l).length = (setB l).length ∧ rightS l = true then some l else none) = some l
    rw [if_pos ⟨rfl, hr⟩]
theorem opt_ext {α : Type} {a b : Option α} (h : ∀ x, a = some x ↔ b = some x) : a = b := by
  cases a with
  | none => cases b with
    | none => rfl
    | some y => exact absurd ((h y).2 rfl) (by simp)
  | some y => exact ((h y).1 rfl).symm
theorem setR_eq {ok ok' : Nat → Nat → Bool} (h : ∀ f m, f + m ≤ 4611686018427387904 → ok f m = true) (h' : ∀ f m, f + m ≤ 4611686018427387904 → ok' f m = true) (b : List UInt8) : setR ok b = setR ok' b :=
  opt_ext fun l => by rw [setR_iff h, setR_iff h']
end Go.Proofs.Ytilagblpamhmkaa
