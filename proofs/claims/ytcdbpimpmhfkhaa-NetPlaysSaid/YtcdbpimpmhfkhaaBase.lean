/-
  Words for memory that all our walks share: a slice that reads as a list of values, kept over what a call leaves; rows of the call's own. No program is looked at here.
-/
import Derived.WalkKit
import Derived.Below
import Derived.Laws.OwnMore
import Derived.Deep.AppendLies
import Derived.Deep.Draws
import Derived.Maps.AppendAt
import Derived.Lib.AppendStr
import Derived.Lib.Hide
import Derived.Laws.AppendOwnNone
import Derived.Laws.BytesArg
namespace Go.Proofs.Ytcdbpimpmhfkhaa
open Go.RowKit

/-! ### A slice that reads as a list of cells -/
/-- The slice with head A and n elements of sz cells each holds the cells xs in the world w. -/
def Sl (w : World) (A : Option Addr) (n sz : Nat) (xs : List Value) : Prop :=
  xs.length = n * sz ∧ (0 < n * sz → ∃ b off, A = some ⟨b, off, none⟩ ∧ ∀ j u, xs[j]? = some u → w.cell? ⟨b, off + j, none⟩ = some u)

theorem add_plain' (b off k : Nat) : (⟨b, off, none⟩ : Addr).add k = ⟨b, off + k, none⟩ := by unfold Addr.add; split <;> simp_all

section
variable {w w' : World} {n sz : Nat} {A : Option Addr} {xs : List Value}

theorem Sl.nil (w : World) (A : Option Addr) (sz : Nat) : Sl w A 0 sz [] := ⟨by simp, fun h => absurd h (by simp)⟩

theorem Sl.move (h : Sl w A n sz xs) (hk : ∀ p : Addr, p.block < w.heap.size → w'.cell? p = w.cell? p) : Sl w' A n sz xs :=
  ⟨h.1, fun hn => by
    obtain ⟨b, off, e, hc⟩ := h.2 hn
    exact ⟨b, off, e, fun j u hu => (hk _ (World.block_lt_of_cell? w _ (hc j u hu))).trans (hc j u hu)⟩⟩

theorem Sl.below (h : Sl w A n sz xs) (hb : Below w.heap.size w w') : Sl w' A n sz xs := h.move fun _ hp => hb.cell hp
theorem Sl.drew (h : Sl w A n sz xs) : Sl w.drew A n sz xs := h
theorem Sl.drewN (h : Sl w A n sz xs) (k : Nat) : Sl (w.drewN k) A n sz xs := h
theorem Sl.alloc (h : Sl w A n sz xs) (o : Obj) : Sl (w.alloc o) A n sz xs := h.move fun p hp => World.cell?_alloc_lt w o p hp

theorem Sl.at1 {k : Nat} (h : Sl w A n 1 xs) (hk : k < n) : ∃ b off u, A = some ⟨b, off, none⟩ ∧ xs[k]? = some u ∧ w.cell? ⟨b, off + k, none⟩ = some u := by
  obtain ⟨b, off, e, hc⟩ := h.2 (by omega)
  have hl : k < xs.length := by have := h.1; omega
  exact ⟨b, off, xs[k], e, List.getElem?_eq_getElem hl, hc k _ (List.getElem?_eq_getElem hl)⟩

theorem Sl.of_own {base : Nat} {e : TypeId} {c : Nat} (h : w.ownsRow base e sz (.slice A n c) n xs) : Sl w A n sz xs := by
  refine ⟨h.1, fun hn => ?_⟩
  obtain ⟨g, cap, hv, _, hlt⟩ := h.form (Nat.pos_of_ne_zero fun e => by subst e; simp at hn)
  have hA : A = some ⟨g, 0, none⟩ := by injection hv
  subst hA
  exact ⟨g, 0, rfl, fun j u hu => by rw [← add_plain']; exact h.cells (g := g) rfl j u hu⟩

theorem Sl.cut (h : Sl w A n sz xs) {k cap : Nat} (hk : k ≤ n) (hc : n ≤ cap) :
    Sl w (if cap = k then A else A.map (·.add (k * sz))) (n - k) sz (xs.drop (k * sz)) := by
  refine ⟨by rw [List.length_drop, h.1, Nat.sub_mul], fun hn => ?_⟩
  have hnk : k < n := by
    rcases Nat.lt_or_ge k n with h1 | h1
    · exact h1
    · have : n - k = 0 := by omega
      rw [this] at hn; simp at hn
  have hs : 0 < sz := Nat.pos_of_ne_zero fun e => by subst e; simp at hn
  obtain ⟨b, off, rfl, hcell⟩ := h.2 (Nat.mul_pos (by omega) hs)
  rw [if_neg (by omega)]
  refine ⟨b, off + k * sz, by simp [add_plain'], fun j u hu => ?_⟩
  rw [Nat.add_assoc]
  exact hcell _ u (by rw [← hu, List.getElem?_drop])

theorem Sl.take (h : Sl w A n sz xs) {k : Nat} (hk : k ≤ n) : Sl w A k sz (xs.take (k * sz)) := by
  refine ⟨by rw [List.length_take, h.1]; exact Nat.min_eq_left (Nat.mul_le_mul_right _ hk), fun hn => ?_⟩
  obtain ⟨b, off, e, hc⟩ := h.2 (Nat.lt_of_lt_of_le hn (Nat.mul_le_mul_right _ hk))
  refine ⟨b, off, e, fun j u hu => hc j u ?_⟩
  rw [List.getElem?_take] at hu
  split at hu
  · exact hu
  · cases hu

/-- The cells at the slice's head, for the laws on append (nil let in by the caller). -/
theorem Sl.cells {b off : Nat} (h : Sl w (some ⟨b, off, none⟩) n sz xs) : ∀ j u, xs[j]? = some u → w.cell? ((⟨b, off, none⟩ : Addr).add j) = some u := by
  intro j u hu
  have hl : j < xs.length := by
    rcases Nat.lt_or_ge j xs.length with h1 | h1
    · exact h1
    · rw [List.getElem?_eq_none h1] at hu; cases hu
  obtain ⟨b', off', e, hc⟩ := h.2 (by have := h.1; omega)
  injection e with e
  injection e with e1 e2
  subst e1 e2
  rw [add_plain']
  exact hc j u hu

theorem Sl.load {P : Program} {b off : Nat} (h : Sl w (some ⟨b, off, none⟩) n sz xs) : (loadCells ⟨b, off, none⟩ (n * sz)).run P w = .ok xs.toArray w := by
  have := run_loadCells_list (P := P) w ⟨b, off, none⟩ xs (h.cells)
  rwa [h.1] at this
end

/-! ### What the call owns stays owned over what leaves old blocks alone -/
section
variable {w w' : World} {base : Nat} {e : TypeId} {size : Nat} {v : Value} {n : Nat} {xs : List Value}
theorem grown_of_below (h : Below w.heap.size w w') (row : Option Nat) : w.grownBy w' row := ⟨h.os, h.tape, h.output, h.size, fun i hi _ => h.block i hi⟩
theorem own_below (h : w.ownsRow base e size v n xs) (hb : Below w.heap.size w w') : w'.ownsRow base e size v n xs :=
  h.kept (grown_of_below hb none) (by cases hv : v.ownBlock <;> simp)
theorem own_lower {b' : Nat} (h : w.ownsRow base e size v n xs) (hb : b' ≤ base) : w.ownsRow b' e size v n xs := by
  refine ⟨h.1, ?_⟩
  rcases h.2 with h2 | ⟨g, cap, cur, hv, hg, r⟩
  · exact .inl h2
  · exact .inr ⟨g, cap, cur, hv, by omega, r⟩
theorem below_drewN {B : Nat} {a w : World} (h : Below B a w) (k : Nat) : Below B a (w.drewN k) := ⟨h.os, h.tape, h.output, h.size, h.block⟩
/-- The value that owns a row is a slice of that length. -/
theorem own_slice (h : w.ownsRow base e size v n xs) : ∃ A c, v = .slice A n c ∧ n ≤ c ∧ c ≤ maxLen := by
  rcases h.2 with ⟨rfl, rfl⟩ | ⟨g, cap, cur, rfl, _, _, hnc, hcm, _⟩
  · exact ⟨none, 0, rfl, Nat.le_refl _, by unfold maxLen; omega⟩
  · exact ⟨_, cap, rfl, hnc, hcm⟩
end

/-- Behind 'out = append(out, x)': x was laid in a block of its own, then the row grew. -/
theorem below_push {B : Nat} {w0 wr w1 : World} {base : Nat} {e : TypeId} {size : Nat} {v : Value} {n : Nat} {xs : List Value} {o : Obj} (hbel : Below B w0 wr) (hown : wr.ownsRow base e size v n xs)
    (hgrow : (wr.alloc o).grownBy w1 v.ownBlock) (hB : B ≤ wr.heap.size) (hb : B ≤ base) : Below B w0 w1 :=
  (hbel.alloc hB o).grown hgrow (by simp; omega) (fun k hk => Nat.le_trans hb (hown.lt k hk).1)
/-- Behind an append whose source lay there already. -/
theorem below_grow {B : Nat} {w0 wr w1 : World} {base : Nat} {e : TypeId} {size : Nat} {v : Value} {n : Nat} {xs : List Value} (hbel : Below B w0 wr) (hown : wr.ownsRow base e size v n xs)
    (hgrow : wr.grownBy w1 v.ownBlock) (hB : B ≤ wr.heap.size) (hb : B ≤ base) : Below B w0 w1 :=
  hbel.grown hgrow hB (fun k hk => Nat.le_trans hb (hown.lt k hk).1)

/-! ### append onto a row of the call's own, whatever slice is appended (nil too) -/
section
variable {P : Program} (w : World)
theorem run_append_sl (base : Nat) (t ty e : TypeId) (i : TypeInfo) (z : Value) (size bytes : Nat) (ht : P.underlying t = some (.slice e)) (hi : P.info? e = some i) (hz : i.zero = some z)
    (hsize : i.size = size) (hby : i.bytes = bytes) (hzs : z.cells.size = size) (hsz : 0 < size)
    (v : Value) (n : Nat) (xs : List Value) (hown : w.ownsRow base e size v n xs)
    (A : Option Addr) (m c : Nat) (news : List Value) (hr : Sl w A m size news) (h1 : ∀ u ∈ news, u.oneCell' = true)
    (h63 : n + m ≤ maxLen) (hbytes : (n + m) * bytes ≤ 140737488355328) (hbase : base ≤ w.heap.size) :
    ∃ v' w', (Builtin.append_ #[t, t] ty #[v, .slice A m c]).run P w = .ok v' w' ∧ w'.ownsRow base e size v' (n + m) (xs ++ news) ∧ w.grownBy w' v.ownBlock ∧
      (v'.ownBlock = v.ownBlock ∨ v'.ownBlock = some w.heap.size) := by
  have hz0 : m = 0 → news = [] := fun h => List.eq_nil_of_length_eq_zero (by rw [hr.1, h, Nat.zero_mul])
  rcases A with _ | ad
  · have hm : m = 0 := by
      rcases Nat.eq_zero_or_pos m with h0 | h0
      · exact h0
      · obtain ⟨b, off, h, _⟩ := hr.2 (Nat.mul_pos h0 hsz)
        cases h
    have hn := hz0 hm
    subst hm hn
    refine ⟨v, w, ?_, by simpa using hown, World.grownBy.refl w _, .inl rfl⟩
    rcases hown.2 with ⟨rfl, rfl⟩ | ⟨g, cap, cur, rfl, _, _, hnc, _⟩
    · simp [Builtin.append_, run_underlying ht, sizeOf, typeInfo, hi, Builtin.lenOf, Builtin.firstCells]
    · simp [Builtin.append_, run_underlying ht, sizeOf, typeInfo, hi, Builtin.lenOf, Builtin.firstCells, hnc, storeCells]
  · have hcells : ∀ j u, news[j]? = some u → w.cell? (ad.add j) = some u := by
      intro j u hu
      rcases Nat.eq_zero_or_pos m with h0 | h0
      · rw [hz0 h0] at hu; simp at hu
      · obtain ⟨b, off, h, hc⟩ := hr.2 (Nat.mul_pos h0 hsz)
        injection h with h
        subst h
        rw [add_plain']
        exact hc j u hu
    obtain ⟨v', w', hrun, h2, h3, _, h5⟩ := run_append_own_at (P := P) w base t ty e i z size bytes ht hi hz hsize hby hzs hsz v n xs hown ad m c news hr.1 hcells h1 h63 hbytes hbase
    exact ⟨v', w', hrun, h2, h3, h5⟩

theorem wpList_append_sl {ops : Array Oper} {rest : List Oper} {o : Oper} {a : Act} {Q : Exit → Act → World → Prop} (hgd : o.guard = none) (s x : Operand) (t : TypeId)
    (ho : o.op = .call { callee := .builtin .append, args := #[s, x], argTypes := #[t, t] })
    (base : Nat) (e : TypeId) (i : TypeInfo) (z : Value) (size bytes : Nat) (ht : P.underlying t = some (.slice e)) (hi : P.info? e = some i) (hz : i.zero = some z)
    (hsize : i.size = size) (hby : i.bytes = bytes) (hzs : z.cells.size = size) (hsz : 0 < size)
    (v : Value) (n : Nat) (xs : List Value) (hs : a.eval s = v) (hown : w.ownsRow base e size v n xs)
    (A : Option Addr) (m c : Nat) (news : List Value) (hx : a.eval x = .slice A m c) (hr : Sl w A m size news) (h1 : ∀ u ∈ news, u.oneCell' = true)
    (h63 : n + m ≤ maxLen) (hbytes : (n + m) * bytes ≤ 140737488355328) (hbase : base ≤ w.heap.size)
    (h : ∀ v' w', w'.ownsRow base e size v' (n + m) (xs ++ news) → w.grownBy w' v.ownBlock → (v'.ownBlock = v.ownBlock ∨ v'.ownBlock = some w.heap.size) → wpList P ops Q rest (a.put o.dst v') w') : wpList P ops Q (o :: rest) a w := by
  refine wpList_plain hgd fun K hK => ?_
  obtain ⟨v', w', hr', h2, h3, h4⟩ := run_append_sl (P := P) w base t o.type e i z size bytes ht hi hz hsize hby hzs hsz v n xs hown A m c news hr h1 h63 hbytes hbase
  unfold Oper.wp execOp
  simp only [ho, resolve, invoke, builtin, Sem.run_bind, Sem.run_pure, Result.andThen_ok, List.map_toArray, List.map_cons, List.map_nil, hs, hx, hr']
  exact hK _ _ (h v' w' h2 h3 h4)
end

/-! ### An array of the call's own: block g holds N cells, the first of which are xs -/
def Arr (w : World) (g : Nat) (t : TypeId) (N : Nat) (xs : List Value) : Prop :=
  ∃ cs : Array Value, w.heap[g]? = some (.cells cs t (0, 0)) ∧ cs.size = N ∧ cs.toList.take xs.length = xs
section
variable {w w' : World} {g : Nat} {t : TypeId} {N : Nat} {xs : List Value}
theorem Arr.new (w : World) (cs : Array Value) (t : TypeId) : Arr (w.alloc (.cells cs t)) w.heap.size t cs.size [] := ⟨cs, heap_alloc_new w _, rfl, by simp⟩
theorem Arr.new' (w : World) (cs : Array Value) (t : TypeId) (hN : cs.size = N) : Arr (w.alloc (.cells cs t)) w.heap.size t N [] := by subst hN; exact Arr.new w cs t
theorem Arr.cell (h : Arr w g t N xs) {j : Nat} (hj : j < N) : ∃ v, w.cell? ⟨g, j, none⟩ = some v := by
  obtain ⟨cs, hg, rfl, _⟩ := h
  exact ⟨cs[j], by rw [cell_of_row w g j cs t (0, 0) hg]; simp [hj]⟩
theorem Arr.free (h : Arr w g t N xs) (j : Nat) : w.frozen? ⟨g, j, none⟩ = false := by
  obtain ⟨cs, hg, _, _⟩ := h
  exact frozen_of_row w g j cs t hg
theorem Arr.drew (h : Arr w g t N xs) : Arr w.drew g t N xs := h
theorem Arr.drewN (h : Arr w g t N xs) (k : Nat) : Arr (w.drewN k) g t N xs := h
theorem Arr.lt (h : Arr w g t N xs) : g < w.heap.size := by
  obtain ⟨cs, hg, _, _⟩ := h
  exact (Array.getElem?_eq_some_iff.1 hg).1
theorem Arr.below (h : Arr w g t N xs) (hb : Below w.heap.size w w') : Arr w' g t N xs := by
  have hl := h.lt
  obtain ⟨cs, hg, h1, h2⟩ := h
  exact ⟨cs, (hb.block g hl).trans hg, h1, h2⟩
theorem Arr.push (h : Arr w g t N xs) (hl : xs.length < N) (v : Value) {k : Nat} (hk : k = xs.length) : Arr (w.setCell ⟨g, k, none⟩ v) g t N (xs ++ [v]) := by
  subst hk
  obtain ⟨cs, hg, rfl, ht⟩ := h
  refine ⟨cs.setIfInBounds xs.length v, heap_setCell_same w g xs.length cs t v hg, by simp, ?_⟩
  rw [Array.toList_setIfInBounds, List.length_append, List.length_singleton, List.take_add_one, List.take_set_of_le (Nat.le_refl _), ht]
  simp [hl]
theorem Arr.read (h : Arr w g t N xs) {n : Nat} (hn : xs.length = n) : Sl w (some ⟨g, 0, none⟩) n 1 xs := by
  obtain ⟨cs, hg, rfl, ht⟩ := h
  refine ⟨by omega, fun _ => ⟨g, 0, rfl, fun j u hu => ?_⟩⟩
  rw [Nat.zero_add, cell_of_row w g j cs t (0, 0) hg]
  rw [← ht, List.getElem?_take] at hu
  split at hu
  · simpa using hu
  · cases hu
end

/-- The ending that returns a bool. -/
theorem retb {a b : Bool} (h : b = a) : Ending.returned (Value.bool a) = Ending.returned (Value.bool b) := by rw [h]
theorem reti {k : IntKind} {a b : Int} (h : b = a) : Ending.returned (Value.int k a) = Ending.returned (Value.int k b) := by rw [h]

/-! ### Bytes -/
/-- A byte as a value. -/
def bV (b : UInt8) : Value := .int .u8 b.toNat
def bsV (l : List UInt8) : List Value := l.map bV
theorem bsV_length (l : List UInt8) : (bsV l).length = l.length := by simp [bsV]
theorem bsV_append (a b : List UInt8) : bsV (a ++ b) = bsV a ++ bsV b := by simp [bsV]
theorem bsV_drop (k : Nat) (l : List UInt8) : (bsV l).drop k = bsV (l.drop k) := by simp [bsV, List.map_drop]
theorem bsV_take (k : Nat) (l : List UInt8) : (bsV l).take k = bsV (l.take k) := by simp [bsV, List.map_take]
theorem own_byte {w : World} {base : Nat} {e : TypeId} {v : Value} {acc : List UInt8} {x : UInt8} {u : Value} {n : Nat} (h : w.ownsRow base e 1 v n (bsV acc ++ [u])) (hn : n = acc.length + 1) (hu : u = bV x) :
    w.ownsRow base e 1 v (acc ++ [x]).length (bsV (acc ++ [x])) := by
  subst hn hu
  rw [bsV_append, List.length_append]
  exact h
theorem strCells_bsV (s : ByteArray) : Lib.strCells s = bsV s.data.toList := rfl
theorem bsV_one (l : List UInt8) : ∀ u ∈ bsV l, u.oneCell' = true := by
  intro u hu
  simp only [bsV, List.mem_map] at hu
  obtain ⟨b, _, rfl⟩ := hu
  rfl

/-- A slice that reads as bytes. -/
def SlB (w : World) (A : Option Addr) (n : Nat) (l : List UInt8) : Prop := Sl w A n 1 (bsV l)
theorem SlB.len {w : World} {A : Option Addr} {n : Nat} {l : List UInt8} (h : SlB w A n l) : l.length = n := by have := h.1; rw [bsV_length] at this; omega
theorem SlB.at_ {w : World} {A : Option Addr} {n k : Nat} {l : List UInt8} (h : SlB w A n l) (hk : k < n) :
    ∃ (b off c : Nat), A = some ⟨b, off, none⟩ ∧ c < 256 ∧ l[k]? = some (UInt8.ofNat c) ∧ w.cell? ⟨b, off + k, none⟩ = some (.int .u8 (c : Int)) := by
  obtain ⟨b, off, u, rfl, hx, hc⟩ := Sl.at1 h hk
  simp only [bsV, List.getElem?_map, Option.map_eq_some_iff] at hx
  obtain ⟨y, hy, rfl⟩ := hx
  exact ⟨b, off, y.toNat, rfl, UInt8.toNat_lt y, by rw [hy]; simp, hc⟩

/-- string(b), b a slice that reads as bytes (nil too). -/
theorem run_convert_SlB {P : Program} {w : World} {A : Option Addr} {n : Nat} {l : List UInt8} (h : SlB w A n l) (src e dst : TypeId) (hs : P.underlying src = some (.slice e)) (he : P.underlying e = some (.int .u8))
    (hd : P.underlying dst = some .string) (c : Nat) : (convert src dst (.slice A n c)).run P w = .ok (.string ⟨l.toArray⟩) w := by
  rw [run_convert_bytes_string w src dst e A n c hs he hd]
  rcases A with _ | ⟨b, off, s⟩
  · have hn : l.length = 0 := by
      have h1 := SlB.len h
      rcases Nat.eq_zero_or_pos n with h0 | h0
      · omega
      · obtain ⟨_, _, e, _⟩ := h.2 (by omega); cases e
    have : l = [] := List.eq_nil_of_length_eq_zero hn
    subst this
    simp [Conv.bytesToString]; rfl
  · have hl : (loadCells ⟨b, off, s⟩ n).run P w = .ok ((l.map fun y => ((y.toNat : Nat) : Int)).map (Value.int .u8)).toArray w := by
      have e1 : (l.map fun y => ((y.toNat : Nat) : Int)).map (Value.int .u8) = bsV l := by simp [bsV, bV]
      rw [e1]
      rcases Nat.eq_zero_or_pos n with h0 | h0
      · have : l = [] := List.eq_nil_of_length_eq_zero (by have := SlB.len h; omega)
        subst this h0
        have := run_loadCells_list (P := P) w ⟨b, off, s⟩ [] (by simp)
        simpa [bsV] using this
      · obtain ⟨b', off', e, _⟩ := h.2 (by omega)
        injection e with e
        injection e with e1 e2 e3
        subst e1 e2 e3
        have := Sl.load (P := P) h
        rwa [Nat.mul_one] at this
    rw [run_bytesToString w _ n c _ hl, foldl_push_bytes]
    simp [ByteArray.empty, ByteArray.emptyWithCapacity]
    rw [show ((fun n => UInt8.ofNat n.toNat) ∘ fun y : UInt8 => ((y.toNat : Nat) : Int)) = id from by funext y; simp]
    simp
    rfl

end Go.Proofs.Ytcdbpimpmhfkhaa
