/-
  Versions by dots: order, what came behind, right sets. No program is looked at here.
  Records and messages: plain, their bytes, reading them. No program is looked at here.
  num.Text and firthref01.Text read a text.
  firth/code's reader: a text, an address, a hash; lists of numbers, of hashes.
-/
import Derived.Test.YtilagblpamhmkaaVerOne
import Derived.Test.YtilagblpamhmkaaMA
import Derived.Laws.BitsAllLaws
import Derived.Test.YtilagblpamhmkaaMB
import Derived.OpenShut
namespace Go.Proofs.Ytilagblpamhmkaa
open Go.RowKit
set_option linter.unusedVariables false

def dltB (s n s' n' : Int) : Bool := decide (s < s' ∨ (s = s' ∧ n < n'))
theorem dltB_yes {s n s' n' : Int} (h : s < s' ∨ (s = s' ∧ n < n')) : dltB s n s' n' = true := decide_eq_true h
theorem dltB_no {s n s' n' : Int} (h : ¬ (s < s' ∨ (s = s' ∧ n < n'))) : dltB s n s' n' = false := decide_eq_false h
def dlt (x y : Vr) : Prop := dltB x.s x.n y.s y.n = true
theorem dlt_iff {x y : Vr} : dlt x y ↔ (x.s < y.s ∨ (x.s = y.s ∧ x.n < y.n)) := by unfold dlt dltB; rw [decide_eq_true_iff]
theorem dlt_trans {x y z : Vr} (h1 : dlt x y) (h2 : dlt y z) : dlt x z := by rw [dlt_iff] at *; omega
theorem dlt_irrefl (x : Vr) : ¬ dlt x x := by rw [dlt_iff]; omega
noncomputable def behB (l : List Vr) (s n : Int) : Bool := l.any fun v => hasB v.past s n
theorem behB_true {l : List Vr} {s n : Int} : behB l s n = true ↔ ∃ v ∈ l, hasB v.past s n = true := by unfold behB; rw [List.any_eq_true]
theorem behB_false {l : List Vr} {s n : Int} : behB l s n = false ↔ ∀ v ∈ l, hasB v.past s n = false := by unfold behB; rw [List.any_eq_false]; simp
def BehTo (l : List Vr) (s n : Int) (k : Nat) : Prop := ∀ v ∈ l.take k, hasB v.past s n = false
theorem mem_take_succ {α : Type} {l : List α} {k : Nat} {x y : α} (hx : l[k]? = some x) (hy : y ∈ l.take (k + 1)) : y ∈ l.take k ∨ y = x := by
  rw [List.take_add_one, hx] at hy
  simpa using hy
theorem BehTo.start (l : List Vr) (s n : Int) : BehTo l s n 0 := by intro v hv; simp at hv
theorem BehTo.step {l : List Vr} {s n : Int} {k : Nat} {x : Vr} (h : BehTo l s n k) (hx : l[k]? = some x) (hn : hasB x.past s n = false) : BehTo l s n (k + 1) := by
  intro v hv
  rcases mem_take_succ hx hv with h1 | rfl
  · exact h v h1
  · exact hn
theorem BehTo.hit {l : List Vr} {s n : Int} {k : Nat} {x : Vr} (hx : l[k]? = some x) (hn : hasB x.past s n = true) : behB l s n = true := behB_true.2 ⟨x, List.mem_of_getElem? hx, hn⟩
theorem BehTo.all {l : List Vr} {s n : Int} {k : Nat} (h : BehTo l s n k) (hk : l.length = k) : behB l s n = false := behB_false.2 fun v hv => h v (by rw [List.take_of_length_le (by omega)]; exact hv)

/-- A right set. -/
def RightV (l : List Vr) : Prop := ((∀ v ∈ l, okVB v = true ∧ behB l v.s v.n = false) ∧ l.Pairwise dlt) ∧ l.length ≤ 512
noncomputable def rightV (l : List Vr) : Bool := @decide (RightV l) (Classical.propDecidable _)
theorem rightV_true {l : List Vr} : rightV l = true ↔ RightV l := by unfold rightV; exact @decide_eq_true_iff _ (Classical.propDecidable _)
theorem rightV_false {l : List Vr} (h : ¬ RightV l) : rightV l = false := by
  unfold rightV
  exact @decide_eq_false _ (Classical.propDecidable _) h
def VInv (l : List Vr) (k : Nat) : Prop := (∀ v ∈ l.take k, okVB v = true ∧ behB l v.s v.n = false) ∧ (l.take k).Pairwise dlt
theorem VInv.start (l : List Vr) : VInv l 0 := ⟨by intro v hv; simp at hv, by rw [List.take_zero]; exact List.Pairwise.nil⟩
theorem VInv.step {l : List Vr} {k : Nat} {x : Vr} (h : VInv l k) (hx : l[k]? = some x) (ho : okVB x = true) (hb : behB l x.s x.n = false) (hd : k = 0 ∨ ∃ y, l[k - 1]? = some y ∧ dlt y x) : VInv l (k + 1) := by
  refine ⟨fun v hv => ?_, ?_⟩
  · rcases mem_take_succ hx hv with h1 | rfl
    · exact h.1 v h1
    · exact ⟨ho, hb⟩
  · rw [List.take_add_one, hx]
    refine List.pairwise_append.2 ⟨h.2, List.pairwise_singleton _ _, fun a ha b hb' => ?_⟩
    have : b = x := by simpa using hb'
    subst this
    rcases hd with h0 | ⟨y, hy, hyx⟩
    · subst h0
      simp at ha
    · obtain ⟨j, hj, rfl⟩ := List.getElem_of_mem ha
      rw [List.length_take] at hj
      rw [List.getElem_take]
      have hyl := (List.getElem?_eq_some_iff.1 hy)
      obtain ⟨hl, e⟩ := hyl
      by_cases hjk : j = k - 1
      · subst hjk
        rw [e]
        exact hyx
      · refine dlt_trans ?_ hyx
        rw [← e]
        have := List.pairwise_iff_getElem.1 h.2 j (k - 1) (by rw [List.length_take]; omega) (by rw [List.length_take]; omega) (by omega)
        rwa [List.getElem_take, List.getElem_take] at this
theorem VInv.no {l : List Vr} {k : Nat} {x : Vr} (hx : l[k]? = some x) (hb : okVB x = false ∨ behB l x.s x.n = true ∨ (0 < k ∧ ∃ y, l[k - 1]? = some y ∧ dltB y.s y.n x.s x.n = false)) : rightV l = false := by
  refine rightV_false fun h => ?_
  have hm := List.mem_of_getElem? hx
  rcases hb with hb | hb | ⟨h0, y, hy, hd⟩
  · have := (h.1.1 x hm).1
    rw [hb] at this
    cases this
  · have := (h.1.1 x hm).2
    rw [hb] at this
    cases this
  · obtain ⟨h1, e1⟩ := List.getElem?_eq_some_iff.1 hx
    obtain ⟨h2, e2⟩ := List.getElem?_eq_some_iff.1 hy
    have := List.pairwise_iff_getElem.1 h.1.2 (k - 1) k h2 h1 (by omega)
    rw [e1, e2] at this
    unfold dlt at this
    rw [hd] at this
    cases this
theorem VInv.all {l : List Vr} {n : Nat} (h : VInv l n) (hn : l.length = n) : rightV l = decide (n ≤ 512) := by
  have e : l.take n = l := List.take_of_length_le (by omega)
  unfold VInv at h
  rw [e] at h
  by_cases hc : n ≤ 512
  · rw [decide_eq_true hc]
    exact rightV_true.2 ⟨h, by omega⟩
  · rw [decide_eq_false hc]
    exact rightV_false fun h' => hc (by have := h'.2; omega)
theorem rightV_long {l : List Vr} (h : 512 < l.length) : rightV l = false := rightV_false fun h' => by have := h'.2; omega
end Go.Proofs.Ytilagblpamhmkaa
namespace Go.Proofs.Ytilagblpamhmkaa
open Go.RowKit
set_option linter.unusedVariables false

/-- A record. -/
structure Rc where
  key : ByteArray
  vers : List Vr
deriving DecidableEq
/-- A message. -/
structure Mg where
  kind : Int
  fs : Int
  fn : Int
  ts : Int
  tn : Int
  id : Int
  n : Int
  fo : Int
  code : Int
  key : ByteArray
  recs : List Rc
  vec : List Int
  path : List Int
  hashes : List Int
  route : List Int
deriving DecidableEq

/-! ### Bytes -/
def listB {α : Type} (enc : α → List UInt8) (l : List α) : List UInt8 := putN 8 l.length ++ l.flatMap enc
def txtB (s : ByteArray) : List UInt8 := putN 8 s.size ++ s.data.toList
def hshB (x : Int) : List UInt8 := putNum (x / 4294967296) ++ putNum (x % 4294967296)
def tailB (v : Vr) : List UInt8 := if v.gone then putN 8 1 else putN 8 0 ++ txtB v.val
def verB (v : Vr) : List UInt8 := putNum v.s ++ (putNum v.n ++ (setB v.past ++ tailB v))
def recB (r : Rc) : List UInt8 := txtB r.key ++ listB verB r.vers
def msgB (m : Mg) : List UInt8 :=
  putNum m.kind ++ (putNum m.fs ++ (putNum m.fn ++ (putNum m.ts ++ (putNum m.tn ++ (putNum m.id ++ (putNum m.n ++ (putNum m.fo ++ (putNum m.code ++ (txtB m.key ++ (listB recB m.recs ++ (listB putNum m.vec ++ (listB putNum m.path ++ (listB hshB m.hashes ++ listB putNum m.route)))))))))))))
theorem bytes_len (s : ByteArray) : s.data.toList.length = s.size := Array.length_toList
theorem txtB_len (s : ByteArray) : (txtB s).length ≤ 9 + s.size := by
  unfold txtB
  rw [List.length_append, bytes_len]
  have := putN_len 8 s.size
  omega
theorem hshB_len (x : Int) : 1 ≤ (hshB x).length ∧ (hshB x).length ≤ 18 := by
  unfold hshB
  rw [List.length_append]
  have h1 := putNum_len (x / 4294967296)
  have h2 := putNum_len (x % 4294967296)
  omega
theorem flat_le {α : Type} (enc : α → List UInt8) (k : Nat) : ∀ (l : List α), (∀ x ∈ l, (enc x).length ≤ k) → (l.flatMap enc).length ≤ k * l.length
  | [], _ => by simp
  | x :: l, h => by
    have h1 := h x (List.mem_cons_self ..)
    have h2 := flat_le enc k l (fun y hy => h y (List.mem_cons_of_mem _ hy))
    rw [List.flatMap_cons, List.length_append, List.length_cons, Nat.mul_succ]; omega
theorem flat_take {α : Type} (a : List UInt8) (enc : α → List UInt8) {l : List α} {i : Nat} {x : α} (h : l[i]? = some x) : a ++ (l.take i).flatMap enc ++ enc x = a ++ (l.take (i + 1)).flatMap enc := by
  rw [List.take_add_one, h, List.flatMap_append, List.append_assoc]
  simp
theorem listB_len {α : Type} (enc : α → List UInt8) (k : Nat) (l : List α) (h : ∀ x ∈ l, (enc x).length ≤ k) : (listB enc l).length ≤ 9 + k * l.length := by
  unfold listB
  rw [List.length_append]
  have := putN_len 8 l.length
  have := flat_le enc k l h
  omega
theorem u64_low (x : Int) (h0 : 0 ≤ x) (h1 : x < 18446744073709551616) : bits .and .u64 x 4294967295 = x % 4294967296 := by
  rw [u64_and x 4294967295 h0 h1 (by omega) (by omega)]
  have e : ((4294967295 : Int)).toNat = 2 ^ 32 - 1 := by decide
  rw [e, Nat.and_two_pow_sub_one_eq_mod]
  omega

/-! ### Right -/
noncomputable def rightR (r : Rc) : Bool := decide (1 ≤ r.key.size) && (decide (r.key.size ≤ 32) && rightV r.vers)
theorem rightR_true {r : Rc} : rightR r = true ↔ 1 ≤ r.key.size ∧ r.key.size ≤ 32 ∧ rightV r.vers = true := by unfold rightR; simp
def inB (lo hi x : Int) : Bool := decide (lo ≤ x) && decide (x ≤ hi)
theorem inB_true {lo hi x : Int} : inB lo hi x = true ↔ lo ≤ x ∧ x ≤ hi := by unfold inB; simp
def placeB (s n : Int) : Bool := inB 1 16 s && inB 0 8 n
theorem placeB_true {s n : Int} : placeB s n = true ↔ (1 ≤ s ∧ s ≤ 16) ∧ 0 ≤ n ∧ n ≤ 8 := by unfold placeB; rw [Bool.and_eq_true, inB_true, inB_true]
def allB {α : Type} (ok : α → Bool) (most : Nat) (l : List α) : Bool := l.all ok && decide (l.length ≤ most)
theorem allB_true {α : Type} {ok : α → Bool} {most : Nat} {l : List α} : allB ok most l = true ↔ (∀ x ∈ l, ok x = true) ∧ l.length ≤ most := by unfold allB; rw [Bool.and_eq_true, List.all_eq_true, decide_eq_true_iff]
noncomputable def rightM (m : Mg) : Bool :=
  inB 1 17 m.kind && (placeB m.fs m.fn && (placeB m.ts m.tn && (decide (0 ≤ m.id) && (decide (0 ≤ m.n) && (inB 0 8 m.fo && (inB 0 999 m.code && (decide (m.key.size ≤ 32) &&
    (m.recs.all rightR && (allB (inB 0 4611686018427387904) 16 m.vec && (allB (inB 0 15) 2 m.path && (decide (m.hashes.length ≤ 16) && allB (inB 1 16) 16 m.route)))))))))))
structure RightM (m : Mg) : Prop where
  kind : 1 ≤ m.kind ∧ m.kind ≤ 17
  from_ : (1 ≤ m.fs ∧ m.fs ≤ 16) ∧ 0 ≤ m.fn ∧ m.fn ≤ 8
  to_ : (1 ≤ m.ts ∧ m.ts ≤ 16) ∧ 0 ≤ m.tn ∧ m.tn ≤ 8
  id : 0 ≤ m.id
  n : 0 ≤ m.n
  fo : 0 ≤ m.fo ∧ m.fo ≤ 8
  code : 0 ≤ m.code ∧ m.code ≤ 999
  key : m.key.size ≤ 32
  recs : ∀ r ∈ m.recs, rightR r = true
  vec : (∀ x ∈ m.vec, 0 ≤ x ∧ x ≤ 4611686018427387904) ∧ m.vec.length ≤ 16
  path : (∀ x ∈ m.path, 0 ≤ x ∧ x ≤ 15) ∧ m.path.length ≤ 2
  hashes : m.hashes.length ≤ 16
  route : (∀ x ∈ m.route, 1 ≤ x ∧ x ≤ 16) ∧ m.route.length ≤ 16
theorem rightM_true {m : Mg} : rightM m = true ↔ RightM m := by
  unfold rightM
  simp only [Bool.and_eq_true, inB_true, placeB_true, allB_true, decide_eq_true_iff, List.all_eq_true]
  constructor
  · rintro ⟨a, b, c, d, e, f, g, h, i, j, k, l, m⟩
    exact ⟨a, b, c, d, e, f, g, h, i, j, k, l, m⟩
  · rintro ⟨a, b, c, d, e, f, g, h, i, j, k, l, m⟩
    exact ⟨a, b, c, d, e, f, g, h, i, j, k, l, m⟩
/-- What a message has by its kinds of numbers alone. -/
structure WfM (m : Mg) : Prop where
  id : m.id ≤ 9223372036854775807
  n : m.n ≤ 9223372036854775807
  recs : m.recs.length < 9223372036854775808
  hashes : ∀ x ∈ m.hashes, 0 ≤ x ∧ x < 18446744073709551616

/-! ### Reading -/
def bindP {α β : Type} (p : List UInt8 → Nat → Option (α × Nat)) (k : α → Nat → Option β) (L : List UInt8) (a : Nat) : Option β :=
  match p L a with
  | some (x, a1) => k x a1
  | none => none
section
variable {α β : Type} {p : List UInt8 → Nat → Option (α × Nat)} {k : α → Nat → Option β} {L : List UInt8} {a a1 : Nat} {x : α} {y : β}
theorem bindP_yes (h : p L a = some (x, a1)) : bindP p k L a = k x a1 := by unfold bindP; rw [h]
theorem bindP_no (h : p L a = none) : bindP p k L a = none := by unfold bindP; rw [h]
theorem bindP_some (h : bindP p k L a = some y) : ∃ x a1, p L a = some (x, a1) ∧ k x a1 = some y := by
  unfold bindP at h
  split at h
  · exact ⟨_, _, by assumption, h⟩
  · cases h
end
theorem pRep_all {α : Type} {p : List UInt8 → Nat → Option (α × Nat)} {L : List UInt8} {a : Nat} {P : α → Prop} (hp : ∀ L a x a1, p L a = some (x, a1) → P x) : ∀ (k : Nat) {xs : List α} {a1 : Nat}, pRep p L k a = some (xs, a1) → ∀ x ∈ xs, P x
  | 0, xs, a1, h => by simp only [pRep, Option.some.injEq, Prod.mk.injEq] at h; rw [← h.1]; simp
  | k + 1, xs, a1, h => by
    simp only [pRep] at h
    split at h
    · rename_i ys b e
      split at h
      · rename_i x c e2
        simp only [Option.some.injEq, Prod.mk.injEq] at h
        rw [← h.1]
        intro y hy
        rcases List.mem_append.1 hy with hy | hy
        · exact pRep_all hp k e y hy
        · rw [List.mem_singleton.1 hy]
          exact hp _ _ _ _ e2
      · cases h
    · cases h
def gInt : List UInt8 → Nat → Option (Int × Nat) := fun L a => bindP pNum (fun n a1 => some ((n : Int), a1)) L a
theorem gInt_yes {L : List UInt8} {a n a1 : Nat} (h : pNum L a = some (n, a1)) : gInt L a = some ((n : Int), a1) := bindP_yes h
theorem gInt_no {L : List UInt8} {a : Nat} (h : pNum L a = none) : gInt L a = none := bindP_no h
theorem gInt_some {L : List UInt8} {a a1 : Nat} {x : Int} (h : gInt L a = some (x, a1)) : ∃ n : Nat, x = (n : Int) ∧ pNum L a = some (n, a1) := by
  obtain ⟨n, b, h1, h2⟩ := bindP_some h
  simp only [Option.some.injEq, Prod.mk.injEq] at h2
  obtain ⟨rfl, rfl⟩ := h2
  exact ⟨n, rfl, h1⟩
def intForm : Form Int where
  enc := putNum
  p := gInt
  good n := 0 ≤ n ∧ n < 9223372036854775808
  le L a x a1 h := by
    obtain ⟨n, _, h1⟩ := gInt_some h
    have := pNum_le h1
    omega
  fwd L a x a1 h _ := by
    obtain ⟨n, rfl, h1⟩ := gInt_some h
    exact pNum_fwd h1
  bwd L a x r h e := by
    obtain ⟨n, rfl⟩ := Int.eq_ofNat_of_zero_le h.1
    exact gInt_yes (pNum_bwd (by omega) e)
def gText : List UInt8 → Nat → Option (ByteArray × Nat) := fun L a => bindP pNum (fun m a1 => if L.length < a1 + m then none else some (⟨((L.drop a1).take m).toArray⟩, a1 + m)) L a
def textForm : Form ByteArray where
  enc := txtB
  p := gText
  good t := t.size < 9223372036854775808
  le L a x a1 h := by
    obtain ⟨m, b, h1, h2⟩ := bindP_some h
    have := pNum_le h1
    split at h2
    · cases h2
    · simp only [Option.some.injEq, Prod.mk.injEq] at h2
      omega
  fwd L a x a1 h _ := by
    obtain ⟨m, b, h1, h2⟩ := bindP_some h
    split at h2
    · cases h2
    · rename_i hl
      simp only [Option.some.injEq, Prod.mk.injEq] at h2
      obtain ⟨rfl, rfl⟩ := h2
      have e : (⟨((L.drop b).take m).toArray⟩ : ByteArray).size = m := by
        show ((L.drop b).take m).toArray.size = m
        rw [List.size_toArray, List.length_take, List.length_drop]; omega
      unfold txtB
      rw [e, pNum_fwd h1, ← List.drop_drop, List.append_assoc, List.take_append_drop]
  bwd L a x r hg e := by
    unfold txtB at e ⊢
    rw [List.append_assoc] at e
    have h1 := pNum_bwd hg e
    have h2 := drop_next e
    have h4 := congrArg List.length h2
    rw [List.length_drop, List.length_append, bytes_len] at h4
    have hl := pNum_le h1
    unfold gText
    rw [bindP_yes h1, if_neg (by omega), h2, List.length_append, bytes_len]
    simp only [Option.some.injEq, Prod.mk.injEq]
    refine ⟨?_, by omega⟩
    rw [List.take_left' (bytes_len x)]
def gHash : List UInt8 → Nat → Option (Int × Nat) := fun L a => bindP pNum (fun h a1 => bindP pNum (fun l a2 => if h < 4294967296 ∧ l < 4294967296 then some ((h : Int) * 4294967296 + (l : Int), a2) else none) L a1) L a
def hashForm : Form Int where
  enc := hshB
  p := gHash
  good x := 0 ≤ x ∧ x < 18446744073709551616
  le L a x a1 h := by
    obtain ⟨m, b, h1, h2⟩ := bindP_some h
    obtain ⟨l, c, h3, h4⟩ := bindP_some h2
    have := pNum_le h1
    have := pNum_le h3
    split at h4
    · simp only [Option.some.injEq, Prod.mk.injEq] at h4
      omega
    · cases h4
  fwd L a x a1 h _ := by
    obtain ⟨m, b, h1, h2⟩ := bindP_some h
    obtain ⟨l, c, h3, h4⟩ := bindP_some h2
    split at h4
    · rename_i hl
      simp only [Option.some.injEq, Prod.mk.injEq] at h4
      obtain ⟨rfl, rfl⟩ := h4
      unfold hshB
      rw [show ((m : Int) * 4294967296 + (l : Int)) / 4294967296 = (m : Int) by omega, show ((m : Int) * 4294967296 + (l : Int)) % 4294967296 = (l : Int) by omega, pNum_fwd h1, pNum_fwd h3, List.append_assoc]
      rfl
    · cases h4
  bwd L a x r hg e := by
    unfold hshB at e ⊢
    rw [List.append_assoc] at e
    have h1 := pNum_bwd (n := (x / 4294967296).toNat) (by omega) e
    have h2 := drop_next e
    have h3 := pNum_bwd (n := (x % 4294967296).toNat) (by omega) h2
    unfold gHash
    rw [bindP_yes h1]
    refine (bindP_yes h3).trans ?_
    rw [if_pos (by omega), List.length_append]
    simp only [Option.some.injEq, Prod.mk.injEq]
    exact ⟨by omega, by unfold putNum; omega⟩

/-! ### Versions, records, messages -/
def gTail (s n : Int) (past : List Sp) : List UInt8 → Nat → Option (Vr × Nat) := fun L a => bindP pNum (fun k a1 =>
  if k = 0 then bindP gText (fun t a2 => some (⟨s, n, past, false, t⟩, a2)) L a1 else if k = 1 then some (⟨s, n, past, true, ByteArray.empty⟩, a1) else none) L a
def gVer (ok : Nat → Nat → Bool) : List UInt8 → Nat → Option (Vr × Nat) := fun L a => bindP gInt (fun s a1 => bindP gInt (fun n a2 => bindP (pTake (gSpan ok)) (fun past a3 => gTail s n past L a3) L a2) L a1) L a
def gRec (ok : Nat → Nat → Bool) : List UInt8 → Nat → Option (Rc × Nat) := fun L a => bindP gText (fun k a1 => bindP (pTake (gVer ok)) (fun vs a2 => some (⟨k, vs⟩, a2)) L a1) L a
def gMsg (ok : Nat → Nat → Bool) : List UInt8 → Nat → Option (Mg × Nat) := fun L a =>
  bindP gInt (fun kind a => bindP gInt (fun fs a => bindP gInt (fun fn a => bindP gInt (fun ts a => bindP gInt (fun tn a => bindP gInt (fun id a => bindP gInt (fun n a => bindP gInt (fun fo a => bindP gInt (fun code a =>
    bindP gText (fun key a => bindP (pTake (gRec ok)) (fun recs a => bindP (pTake gInt) (fun vec a => bindP (pTake gInt) (fun path a => bindP (pTake gHash) (fun hashes a => bindP (pTake gInt) (fun route a =>
      some (⟨kind, fs, fn, ts, tn, id, n, fo, code, key, recs, vec, path, hashes, route⟩, a)) L a) L a) L a) L a) L a) L a) L a) L a) L a) L a) L a) L a) L a) L a) L a
theorem okVB_true {v : Vr} : okVB v = true ↔ dotB v.s v.n = true ∧ rightS v.past = true ∧ topS v.past v.s < v.n ∧ v.val.size ≤ 256 ∧ (v.gone = true → v.val.size = 0) := by
  unfold okVB
  simp only [Bool.and_eq_true, decide_eq_true_iff, Bool.or_eq_true, Bool.not_eq_true']
  cases v.gone <;> simp
theorem empty_of_size {b : ByteArray} (h : b.size = 0) : b = ByteArray.empty := by
  cases b with
  | mk d =>
    have : d = #[] := Array.eq_empty_of_size_eq_zero h
    subst this
    rfl
section
variable {ok : Nat → Nat → Bool} (hok : ∀ f m, f + m ≤ 4611686018427387904 → ok f m = true)
def tailGood (v : Vr) : Prop := v.val.size < 9223372036854775808 ∧ (v.gone = true → v.val = ByteArray.empty)
theorem gTail_fwd {L : List UInt8} {s n : Int} {past : List Sp} {a a1 : Nat} {v : Vr} (h : gTail s n past L a = some (v, a1)) (hg : tailGood v) : v.s = s ∧ v.n = n ∧ v.past = past ∧ a < a1 ∧ a1 ≤ L.length ∧ L.drop a = tailB v ++ L.drop a1 := by
  obtain ⟨k, b, h1, h2⟩ := bindP_some h
  have hl := pNum_le h1
  split at h2
  · rename_i hk
    subst hk
    obtain ⟨t, c, h3, h4⟩ := bindP_some h2
    simp only [Option.some.injEq, Prod.mk.injEq] at h4
    obtain ⟨rfl, rfl⟩ := h4
    have := textForm.le _ _ _ _ h3
    refine ⟨rfl, rfl, rfl, by omega, by omega, ?_⟩
    rw [pNum_fwd h1, textForm.fwd _ _ _ _ h3 hg.1, ← List.append_assoc]
    rfl
  · split at h2
    · rename_i hk
      subst hk
      simp only [Option.some.injEq, Prod.mk.injEq] at h2
      obtain ⟨rfl, rfl⟩ := h2
      exact ⟨rfl, rfl, rfl, by omega, by omega, pNum_fwd h1⟩
    · cases h2
theorem gTail_le {L : List UInt8} {s n : Int} {past : List Sp} {a a1 : Nat} {v : Vr} (h : gTail s n past L a = some (v, a1)) : a < a1 ∧ a1 ≤ L.length := by
  obtain ⟨k, b, h1, h2⟩ := bindP_some h
  have hl := pNum_le h1
  split at h2
  · obtain ⟨t, c, h3, h4⟩ := bindP_some h2
    simp only [Option.some.injEq, Prod.mk.injEq] at h4
    have := textForm.le _ _ _ _ h3
    omega
  · split at h2
    · simp only [Option.some.injEq, Prod.mk.injEq] at h2
      omega
    · cases h2
theorem gTail_bwd {L : List UInt8} {a : Nat} (v : Vr) (r : List UInt8) (hg : tailGood v) (e : L.drop a = tailB v ++ r) : gTail v.s v.n v.past L a = some (v, a + (tailB v).length) := by
  obtain ⟨s, n, past, gone, val⟩ := v
  unfold tailB at e ⊢
  unfold gTail
  cases gone with
  | true =>
    have h1 := pNum_bwd (n := 1) (by omega) e
    have h2 : val = ByteArray.empty := hg.2 rfl
    rw [bindP_yes h1, if_neg (by omega), if_pos rfl, h2]
    rfl
  | false =>
    simp only [Bool.false_eq_true, if_false] at e ⊢
    rw [List.append_assoc] at e
    have h1 := pNum_bwd (n := 0) (by omega) e
    have h2 := textForm.bwd L _ val r hg.1 (drop_next e)
    rw [bindP_yes h1, if_pos rfl]
    refine (bindP_yes h2).trans ?_
    rw [List.length_append]
    simp only [Option.some.injEq, Prod.mk.injEq, true_and]
    show _ + (txtB val).length = _
    omega
theorem verGood {v : Vr} (h : okVB v = true) : (0 ≤ v.s ∧ v.s < 9223372036854775808) ∧ (0 ≤ v.n ∧ v.n < 9223372036854775808) ∧ ((∀ x ∈ v.past, okSp x) ∧ v.past.length < 9223372036854775808) ∧ tailGood v := by
  obtain ⟨h1, h2, h3, h4, h5⟩ := okVB_true.1 h
  rw [dotB_true] at h1
  exact ⟨by omega, by omega, right_good h2, by omega, fun hg => empty_of_size (h5 hg)⟩
noncomputable def verForm : Form Vr where
  enc := verB
  p := gVer ok
  good v := okVB v = true
  le L a x a1 h := by
    obtain ⟨s, b, h1, h2⟩ := bindP_some h
    obtain ⟨n, c, h3, h4⟩ := bindP_some h2
    obtain ⟨past, d, h5, h6⟩ := bindP_some h4
    have := intForm.le _ _ _ _ h1
    have := intForm.le _ _ _ _ h3
    have := (listForm (spanForm ok hok)).le _ _ _ _ h5
    have := gTail_le h6
    omega
  fwd L a x a1 h hg := by
    obtain ⟨s, b, h1, h2⟩ := bindP_some h
    obtain ⟨n, c, h3, h4⟩ := bindP_some h2
    obtain ⟨past, d, h5, h6⟩ := bindP_some h4
    obtain ⟨g1, g2, g3, g4⟩ := verGood hg
    obtain ⟨rfl, rfl, rfl, _, _, e⟩ := gTail_fwd h6 g4
    rw [intForm.fwd _ _ _ _ h1 g1, intForm.fwd _ _ _ _ h3 g2, (listForm (spanForm ok hok)).fwd _ _ _ _ h5 g3, e]
    show putNum x.s ++ (putNum x.n ++ (setB x.past ++ (tailB x ++ _))) = verB x ++ _
    unfold verB
    simp only [List.append_assoc]
  bwd L a x r hg e := by
    obtain ⟨g1, g2, g3, g4⟩ := verGood hg
    unfold verB at e ⊢
    simp only [List.append_assoc] at e
    have h1 := intForm.bwd L a x.s _ g1 e
    have e2 := drop_next e
    have h2 := intForm.bwd L _ x.n _ g2 e2
    have e3 := drop_next e2
    have h3 := (listForm (spanForm ok hok)).bwd L _ x.past _ g3 e3
    have e4 := drop_next e3
    have h4 := gTail_bwd x r g4 e4
    refine (bindP_yes h1).trans ((bindP_yes h2).trans ((bindP_yes h3).trans (h4.trans ?_)))
    simp only [List.length_append, Option.some.injEq, Prod.mk.injEq, true_and]
    omega
theorem rightV_good {l : List Vr} (h : rightV l = true) : (∀ v ∈ l, okVB v = true) ∧ l.length < 9223372036854775808 := by
  have := rightV_true.1 h
  exact ⟨fun v hv => (this.1.1 v hv).1, by have := this.2; omega⟩
noncomputable def recForm : Form Rc where
  enc := recB
  p := gRec ok
  good r := rightR r = true
  le L a x a1 h := by
    obtain ⟨k, b, h1, h2⟩ := bindP_some h
    obtain ⟨vs, c, h3, h4⟩ := bindP_some h2
    have := textForm.le _ _ _ _ h1
    have := (listForm (verForm hok)).le _ _ _ _ h3
    simp only [Option.some.injEq, Prod.mk.injEq] at h4
    omega
  fwd L a x a1 h hg := by
    obtain ⟨k, b, h1, h2⟩ := bindP_some h
    obtain ⟨vs, c, h3, h4⟩ := bindP_some h2
    simp only [Option.some.injEq, Prod.mk.injEq] at h4
    obtain ⟨rfl, rfl⟩ := h4
    obtain ⟨g1, g2, g3⟩ := rightR_true.1 hg
    rw [textForm.fwd _ _ _ _ h1 (show k.size < _ by simp only at g2; omega), (listForm (verForm hok)).fwd _ _ _ _ h3 (rightV_good g3), ← List.append_assoc]
    rfl
  bwd L a x r hg e := by
    obtain ⟨g1, g2, g3⟩ := rightR_true.1 hg
    unfold recB at e ⊢
    rw [List.append_assoc] at e
    have h1 := textForm.bwd L a x.key _ (show x.key.size < _ by omega) e
    have e2 := drop_next e
    have h2 := (listForm (verForm hok)).bwd L _ x.vers _ (rightV_good g3) e2
    refine (bindP_yes h1).trans ((bindP_yes h2).trans ?_)
    simp only [List.length_append, Option.some.injEq, Prod.mk.injEq, true_and]
    show _ + (txtB x.key).length + (listB verB x.vers).length = _
    omega
include hok in
theorem gMsg_fwd {L : List UInt8} {a z : Nat} {m : Mg} (h : gMsg ok L a = some (m, z)) (hg : RightM m) : L.drop a = msgB m ++ L.drop z ∧ WfM m ∧ a < z ∧ z ≤ L.length := by
  obtain ⟨x1, a1, h1, h⟩ := bindP_some h
  obtain ⟨x2, a2, h2, h⟩ := bindP_some h
  obtain ⟨x3, a3, h3, h⟩ := bindP_some h
  obtain ⟨x4, a4, h4, h⟩ := bindP_some h
  obtain ⟨x5, a5, h5, h⟩ := bindP_some h
  obtain ⟨x6, a6, h6, h⟩ := bindP_some h
  obtain ⟨x7, a7, h7, h⟩ := bindP_some h
  obtain ⟨x8, a8, h8, h⟩ := bindP_some h
  obtain ⟨x9, a9, h9, h⟩ := bindP_some h
  obtain ⟨x10, a10, h10, h⟩ := bindP_some h
  obtain ⟨x11, a11, h11, h⟩ := bindP_some h
  obtain ⟨x12, a12, h12, h⟩ := bindP_some h
  obtain ⟨x13, a13, h13, h⟩ := bindP_some h
  obtain ⟨x14, a14, h14, h⟩ := bindP_some h
  obtain ⟨x15, a15, h15, h⟩ := bindP_some h
  simp only [Option.some.injEq, Prod.mk.injEq] at h
  obtain ⟨rfl, rfl⟩ := h
  obtain ⟨g1, g2, g3, g4, g5, g6, g7, g8, g9, g10, g11, g12, g13⟩ := hg
  simp only at g1 g2 g3 g4 g5 g6 g7 g8 g9 g10 g11 g12 g13
  have l1 := intForm.le _ _ _ _ h1
  have l2 := intForm.le _ _ _ _ h2
  have l3 := intForm.le _ _ _ _ h3
  have l4 := intForm.le _ _ _ _ h4
  have l5 := intForm.le _ _ _ _ h5
  have l6 := intForm.le _ _ _ _ h6
  have l7 := intForm.le _ _ _ _ h7
  have l8 := intForm.le _ _ _ _ h8
  have l9 := intForm.le _ _ _ _ h9
  have l10 := textForm.le _ _ _ _ h10
  have l11 := (listForm (recForm hok)).le _ _ _ _ h11
  have l12 := (listForm intForm).le _ _ _ _ h12
  have l13 := (listForm intForm).le _ _ _ _ h13
  have l14 := (listForm hashForm).le _ _ _ _ h14
  have l15 := (listForm intForm).le _ _ _ _ h15
  have w6 : x6 ≤ 9223372036854775807 := by
    obtain ⟨k, rfl, hk⟩ := gInt_some h6
    have := pNum_le hk
    omega
  have w7 : x7 ≤ 9223372036854775807 := by
    obtain ⟨k, rfl, hk⟩ := gInt_some h7
    have := pNum_le hk
    omega
  have w11 : x11.length < 9223372036854775808 := by
    obtain ⟨k, b, hk, _, _, e⟩ := pTake_some h11
    have := pNum_le hk
    omega
  have w14 : ∀ x ∈ x14, 0 ≤ x ∧ x < 18446744073709551616 := by
    obtain ⟨k, b, _, _, hr, _⟩ := pTake_some h14
    exact pRep_all (P := fun x => 0 ≤ x ∧ x < 18446744073709551616) (fun L a x a1 hx => by
      obtain ⟨m, b, h1, h2⟩ := bindP_some hx
      obtain ⟨l, c, h3, h4⟩ := bindP_some h2
      split at h4
      · simp only [Option.some.injEq, Prod.mk.injEq] at h4
        omega
      · cases h4) k hr
  refine ⟨?_, ⟨w6, w7, w11, w14⟩, by omega, by omega⟩
  rw [intForm.fwd _ _ _ _ h1 (show 0 ≤ x1 ∧ _ by omega), intForm.fwd _ _ _ _ h2 (show 0 ≤ x2 ∧ _ by omega), intForm.fwd _ _ _ _ h3 (show 0 ≤ x3 ∧ _ by omega), intForm.fwd _ _ _ _ h4 (show 0 ≤ x4 ∧ _ by omega), intForm.fwd _ _ _ _ h5 (show 0 ≤ x5 ∧ _ by omega),
    intForm.fwd _ _ _ _ h6 (show 0 ≤ x6 ∧ _ by omega), intForm.fwd _ _ _ _ h7 (show 0 ≤ x7 ∧ _ by omega), intForm.fwd _ _ _ _ h8 (show 0 ≤ x8 ∧ _ by omega), intForm.fwd _ _ _ _ h9 (show 0 ≤ x9 ∧ _ by omega), textForm.fwd _ _ _ _ h10 (show x10.size < _ by omega),
    (listForm (recForm hok)).fwd _ _ _ _ h11 ⟨g9, w11⟩, (listForm intForm).fwd _ _ _ _ h12 ⟨fun x hx => (show 0 ≤ x ∧ _ by have := g10.1 x hx; omega), by omega⟩, (listForm intForm).fwd _ _ _ _ h13 ⟨fun x hx => (show 0 ≤ x ∧ _ by have := g11.1 x hx; omega), by omega⟩,
    (listForm hashForm).fwd _ _ _ _ h14 ⟨w14, by omega⟩, (listForm intForm).fwd _ _ _ _ h15 ⟨fun x hx => (show 0 ≤ x ∧ _ by have := g13.1 x hx; omega), by omega⟩]
  unfold msgB
  simp only [List.append_assoc]
  rfl
include hok in
theorem gMsg_bwd {L : List UInt8} {a : Nat} (m : Mg) (r : List UInt8) (hg : RightM m) (hw : WfM m) (e0 : L.drop a = msgB m ++ r) : gMsg ok L a = some (m, a + (msgB m).length) := by
  obtain ⟨x1, x2, x3, x4, x5, x6, x7, x8, x9, x10, x11, x12, x13, x14, x15⟩ := m
  obtain ⟨g1, g2, g3, g4, g5, g6, g7, g8, g9, g10, g11, g12, g13⟩ := hg
  obtain ⟨w6, w7, w11, w14⟩ := hw
  simp only at g1 g2 g3 g4 g5 g6 g7 g8 g9 g10 g11 g12 g13 w6 w7 w11 w14
  unfold msgB at e0 ⊢
  simp only [List.append_assoc] at e0 ⊢
  have h1 := intForm.bwd L _ x1 _ (show 0 ≤ x1 ∧ _ by omega) e0
  have e1 := drop_next e0
  have h2 := intForm.bwd L _ x2 _ (show 0 ≤ x2 ∧ _ by omega) e1
  have e2 := drop_next e1
  have h3 := intForm.bwd L _ x3 _ (show 0 ≤ x3 ∧ _ by omega) e2
  have e3 := drop_next e2
  have h4 := intForm.bwd L _ x4 _ (show 0 ≤ x4 ∧ _ by omega) e3
  have e4 := drop_next e3
  have h5 := intForm.bwd L _ x5 _ (show 0 ≤ x5 ∧ _ by omega) e4
  have e5 := drop_next e4
  have h6 := intForm.bwd L _ x6 _ (show 0 ≤ x6 ∧ _ by omega) e5
  have e6 := drop_next e5
  have h7 := intForm.bwd L _ x7 _ (show 0 ≤ x7 ∧ _ by omega) e6
  have e7 := drop_next e6
  have h8 := intForm.bwd L _ x8 _ (show 0 ≤ x8 ∧ _ by omega) e7
  have e8 := drop_next e7
  have h9 := intForm.bwd L _ x9 _ (show 0 ≤ x9 ∧ _ by omega) e8
  have e9 := drop_next e8
  have h10 := textForm.bwd L _ x10 _ (show x10.size < _ by omega) e9
  have e10 := drop_next e9
  have h11 := (listForm (recForm hok)).bwd L _ x11 _ ⟨g9, w11⟩ e10
  have e11 := drop_next e10
  have h12 := (listForm intForm).bwd L _ x12 _ ⟨fun x hx => (show 0 ≤ x ∧ _ by have := g10.1 x hx; omega), by omega⟩ e11
  have e12 := drop_next e11
  have h13 := (listForm intForm).bwd L _ x13 _ ⟨fun x hx => (show 0 ≤ x ∧ _ by have := g11.1 x hx; omega), by omega⟩ e12
  have e13 := drop_next e12
  have h14 := (listForm hashForm).bwd L _ x14 _ ⟨w14, by omega⟩ e13
  have e14 := drop_next e13
  have h15 := (listForm intForm).bwd L _ x15 _ ⟨fun x hx => (show 0 ≤ x ∧ _ by have := g13.1 x hx; omega), by omega⟩ e14
  have e15 := drop_next e14
  refine (bindP_yes h1).trans ((bindP_yes h2).trans ((bindP_yes h3).trans ((bindP_yes h4).trans ((bindP_yes h5).trans ((bindP_yes h6).trans ((bindP_yes h7).trans ((bindP_yes h8).trans ((bindP_yes h9).trans ((bindP_yes h10).trans ((bindP_yes h11).trans ((bindP_yes h12).trans ((bindP_yes h13).trans ((bindP_yes h14).trans ((bindP_yes h15).trans ?_))))))))))))))
  simp only [List.length_append, Option.some.injEq, Prod.mk.injEq, true_and]
  show a + (putNum x1).length + (putNum x2).length + (putNum x3).length + (putNum x4).length + (putNum x5).length + (putNum x6).length + (putNum x7).length + (putNum x8).length + (putNum x9).length + (txtB x10).length + (listB recB x11).length + (listB putNum x12).length + (listB putNum x13).length + (listB hshB x14).length + (listB putNum x15).length = _
  omega
end
/-- What is read of bytes as a record, as a message. -/
noncomputable def recR (ok : Nat → Nat → Bool) (b : List UInt8) : Option Rc :=
  match gRec ok b 0 with
  | some (x, a) => if a = b.length ∧ rightR x = true then some x else none
  | none => none
noncomputable def msgR (ok : Nat → Nat → Bool) (b : List UInt8) : Option Mg :=
  match gMsg ok b 0 with
  | some (x, a) => if a = b.length ∧ rightM x = true then some x else none
  | none => none
section
variable {ok : Nat → Nat → Bool} (hok : ∀ f m, f + m ≤ 4611686018427387904 → ok f m = true)
include hok in
theorem recR_iff (b : List UInt8) (r : Rc) : recR ok b = some r ↔ rightR r = true ∧ b = recB r := by
  constructor
  · intro h
    unfold recR at h
    split at h
    · rename_i x a e
      split at h
      · rename_i hc
        simp only [Option.some.injEq] at h
        subst h
        refine ⟨hc.2, ?_⟩
        have := (recForm hok).fwd b 0 _ a e hc.2
        rw [List.drop_zero, hc.1, List.drop_length, List.append_nil] at this
        exact this
      · cases h
    · cases h
  · rintro ⟨hr, rfl⟩
    have := (recForm hok).bwd (recB r) 0 r [] hr (by rw [List.drop_zero, List.append_nil]; rfl)
    unfold recR
    have e2 : gRec ok (recB r) 0 = some (r, (recB r).length) := by rw [show (recB r).length = 0 + ((recForm hok).enc r).length from (Nat.zero_add _).symm]; exact this
    rw [e2]
    show (if (recB r).length = (recB r).length ∧ rightR r = true then some r else none) = some r
    rw [if_pos ⟨rfl, hr⟩]
include hok in
theorem msgR_iff (b : List UInt8) (m : Mg) : msgR ok b = some m ↔ rightM m = true ∧ WfM m ∧ b = msgB m := by
  constructor
  · intro h
    unfold msgR at h
    split at h
    · rename_i x a e
      split at h
      · rename_i hc
        simp only [Option.some.injEq] at h
        subst h
        obtain ⟨h1, h2, _⟩ := gMsg_fwd hok e (rightM_true.1 hc.2)
        refine ⟨hc.2, h2, ?_⟩
        rw [List.drop_zero, hc.1, List.drop_length, List.append_nil] at h1
        exact h1
      · cases h
    · cases h
  · rintro ⟨hr, hw, rfl⟩
    have := gMsg_bwd hok (L := msgB m) (a := 0) m [] (rightM_true.1 hr) hw (by rw [List.drop_zero, List.append_nil])
    rw [Nat.zero_add] at this
    unfold msgR
    rw [this]
    show (if (msgB m).length = (msgB m).length ∧ rightM m = true then some m else none) = some m
    rw [if_pos ⟨rfl, hr⟩]
end
theorem recR_eq {ok ok' : Nat → Nat → Bool} (h : ∀ f m, f + m ≤ 4611686018427387904 → ok f m = true) (h' : ∀ f m, f + m ≤ 4611686018427387904 → ok' f m = true) (b : List UInt8) : recR ok b = recR ok' b :=
  opt_ext fun l => by rw [recR_iff h, recR_iff h']
theorem msgR_eq {ok ok' : Nat → Nat → Bool} (h : ∀ f m, f + m ≤ 4611686018427387904 → ok f m = true) (h' : ∀ f m, f + m ≤ 4611686018427387904 → ok' f m = true) (b : List UInt8) : msgR ok b = msgR ok' b :=
  opt_ext fun l => by rw [msgR_iff h, msgR_iff h']
end Go.Proofs.Ytilagblpamhmkaa
namespace Go.Proofs.Ytilagblpamhmkaa
open Go.RowKit
set_option linter.unusedVariables false

/-- What is read of the bytes l at a place as a text of at most 'most' bytes: the text, the place behind it, the error's number. -/
def textOf (l : List UInt8) (at_ : Nat) (most : Int) : ByteArray × Int × Int :=
  match rdNum (l.drop at_) with
  | .error x => (ByteArray.empty, 0, x)
  | .ok (m, k) =>
    if max most 0 < (m : Int) then (ByteArray.empty, 0, 3)
    else if l.length < at_ + k + m then (ByteArray.empty, 0, 4)
    else (⟨((l.drop (at_ + k)).take m).toArray⟩, (at_ : Int) + k + m, 0)
def textVal (t : ByteArray × Int × Int) : Value := .tuple #[.string t.1, .int .i64 t.2.1, .int .i64 t.2.2]
def TextAns (w : World) (t : ByteArray × Int × Int) (e : Ending) (w' : World) : Prop := e = .returned (textVal t) ∧ w = w'

theorem SlB.part {w : World} {b off n from_ m : Nat} {l : List UInt8} (hs : SlB w (some ⟨b, off, none⟩) n l) (h : from_ + m ≤ n) : SlB w (some ⟨b, off + from_, none⟩) m ((l.drop from_).take m) := by
  have hl := hs.len
  refine ⟨by rw [bsV_length, List.length_take, List.length_drop]; omega, fun hm => ⟨b, off + from_, rfl, fun j u hu => ?_⟩⟩
  simp only [bsV, List.getElem?_map, List.getElem?_take, List.getElem?_drop, Option.map_eq_some_iff] at hu
  obtain ⟨y, hy, rfl⟩ := hu
  split at hy
  · obtain ⟨b', off', e, hc⟩ := hs.2 (by omega)
    injection e with e
    injection e with e1 e2
    subst e1 e2
    rw [Nat.add_assoc]
    exact hc (from_ + j) _ (by simp [bsV, hy])
  · cases hy

set_option maxHeartbeats 1000000 in
set_option maxRecDepth 100000 in
theorem text_any (A : Option Addr) (n c at_ : Nat) (most : Int) (l : List UInt8) (w : World) (hs : SlB w A n l) (hc : n ≤ c) (hcap : n ≤ 140737488351232) (hat : at_ ≤ n) (hmost : most ≤ 9223372036854775807) :
    Calls Try.prog 87 #[.slice A n c, .int .i64 (at_ : Int), .int .i64 most] w (TextAns w (textOf l at_ most)) := by
  have hll := hs.len
  rcases hr : rdNum (l.drop at_) with x | ⟨m, k⟩
  · have C1 := Lib.hid (num_err hs hc hcap hat hr)
    have hT := Lib.hid (show textOf l at_ most = (ByteArray.empty, 0, x) by simp only [textOf, hr])
    have hx : x = 2 ∨ x = 4 := rdN_err _ _ _ _ hr
    clear hr
    have hx0 : ((x : Int) == 0) = false := by rw [beq_eq_false_iff_ne]; omega
    have hx1 : (x != 0) = true := by rw [bne_iff_ne]; omega
    clear hx
    go_enter Try.func87, Try.ntmps87
    go_wp2_with fail
    refine C1.out.mono ?_
    rintro e w' ⟨rfl, rfl⟩
    go_wp2
    go_ret3
    exact ⟨by rw [hT.out]; rfl, rfl⟩
  · obtain ⟨hk1, hk9, hkl, hm63, htake⟩ := rdNum_ok hr
    have C1 := Lib.hid (num_ok hs hc hcap hat hr)
    have HR := Lib.hid hr
    clear hr htake
    rw [List.length_drop] at hkl
    obtain ⟨b, off, -, rfl, -, -, -⟩ := hs.at_ (k := at_) (by omega)
    rcases (show (0 ≤ most ∧ max most 0 = most) ∨ (most < 0 ∧ max most 0 = 0) by omega) with ⟨hm0, hq⟩ | ⟨hm0, hq⟩
    all_goals
      have Hq := Lib.hid hq
      clear hq
      by_cases h1 : max most 0 < (m : Int)
      · have hT := Lib.hid (show textOf l at_ most = (ByteArray.empty, 0, 3) by simp only [textOf, HR.out]; rw [if_pos h1])
        rw [Hq.out] at h1
        go_enter Try.func87, Try.ntmps87
        go_wp2_with fail
        refine C1.out.mono ?_
        rintro e w' ⟨rfl, rfl⟩
        go_wp2
        all_goals go_ret3
        all_goals exact ⟨by rw [hT.out]; rfl, rfl⟩
      · by_cases h2 : n < at_ + k + m
        · have hT := Lib.hid (show textOf l at_ most = (ByteArray.empty, 0, 4) by simp only [textOf, HR.out]; rw [if_neg h1, if_pos (by omega)])
          rw [Hq.out] at h1
          go_enter Try.func87, Try.ntmps87
          go_wp2_with fail
          refine C1.out.mono ?_
          rintro e w' ⟨rfl, rfl⟩
          go_wp2
          all_goals go_ret3
          all_goals exact ⟨by rw [hT.out]; rfl, rfl⟩
        · have hT := Lib.hid (show textOf l at_ most = (⟨((l.drop (at_ + k)).take m).toArray⟩, (at_ : Int) + k + m, 0) by simp only [textOf, HR.out]; rw [if_neg h1, if_neg (by omega)])
          rw [Hq.out] at h1
          have hp := hs.part (from_ := at_ + k) (m := m) (by omega)
          have hcv := run_convert_SlB (P := Try.prog) hp 24 5 9 Try.underlying24 Try.underlying5 Try.underlying9
          by_cases h3 : c = at_ + k
          · obtain rfl : m = 0 := by omega
            subst h3
            have hcv0 := run_convert_SlB (P := Try.prog) (show SlB w (some ⟨b, off, none⟩) 0 [] from Sl.nil _ _ _) 24 5 9 Try.underlying24 Try.underlying5 Try.underlying9
            clear hcv hp
            go_enter Try.func87, Try.ntmps87
            go_wp2_with fail
            refine C1.out.mono ?_
            rintro e w' ⟨rfl, rfl⟩
            go_wp2
            all_goals go_ret3
            all_goals exact ⟨by rw [hT.out]; simp [textVal], rfl⟩
          · go_enter Try.func87, Try.ntmps87
            go_wp2_with fail
            refine C1.out.mono ?_
            rintro e w' ⟨rfl, rfl⟩
            go_wp2
            all_goals go_ret3
            all_goals exact ⟨by rw [hT.out]; rfl, rfl⟩

end Go.Proofs.Ytilagblpamhmkaa
namespace Go.Proofs.Ytilagblpamhmkaa
open Go.RowKit
set_option linter.unusedVariables false

theorem Try.infoI64c : (Try.prog.info? 2).map (fun i => (i.zero, i.size, i.bytes)) = some (some (.int .i64 0), 1, 8) := by kernel_rfl
theorem Try.infoIntc : (Try.prog.info? 3).map (fun i => (i.zero, i.size, i.bytes)) = some (some (.int .i64 0), 1, 8) := by kernel_rfl
theorem Try.infoU64c : (Try.prog.info? 145).map (fun i => (i.zero, i.size, i.bytes)) = some (some (.int .u64 0), 1, 8) := by kernel_rfl
theorem textOf_yes {L : List UInt8} {a a1 : Nat} {t : ByteArray} (h : gText L a = some (t, a1)) : textOf L a (L.length : Int) = (t, (a1 : Int), 0) := by
  obtain ⟨m, b, h1, h2⟩ := bindP_some h
  obtain ⟨k, hr, rfl⟩ := pNum_some h1
  split at h2
  · cases h2
  · simp only [Option.some.injEq, Prod.mk.injEq] at h2
    obtain ⟨rfl, rfl⟩ := h2
    unfold textOf
    rw [hr]
    simp only
    rw [if_neg (by omega), if_neg (by omega)]
    simp only [Prod.mk.injEq, and_true, true_and]
    omega
theorem textOf_no {L : List UInt8} {a : Nat} (h : gText L a = none) : ∃ x, x ≠ 0 ∧ textOf L a (L.length : Int) = (ByteArray.empty, 0, x) := by
  cases h1 : pNum L a with
  | none =>
    obtain ⟨x, hr⟩ := pNum_none h1
    have hx : x = 2 ∨ x = 4 := rdN_err _ _ _ _ hr
    refine ⟨x, by omega, ?_⟩
    unfold textOf
    rw [hr]
  | some p =>
    obtain ⟨m, b⟩ := p
    have h2 := (bindP_yes (p := pNum) (k := fun m a1 => if L.length < a1 + m then none else some ((⟨((L.drop a1).take m).toArray⟩ : ByteArray), a1 + m)) h1).symm.trans h
    obtain ⟨k, hr, rfl⟩ := pNum_some h1
    split at h2
    · rename_i hl
      unfold textOf
      rw [hr]
      simp only
      by_cases h3 : max (L.length : Int) 0 < (m : Int)
      · exact ⟨3, by omega, if_pos h3⟩
      · exact ⟨4, by omega, by rw [if_neg h3, if_pos (by omega)]⟩
    · cases h2
set_option maxHeartbeats 1000000 in
theorem rtext_yes {w : World} {r : Nat} {A : Option Addr} {n c : Nat} {L : List UInt8} {a a1 : Nat} {t : ByteArray} (h : RSt w r A n c L a) (hp : gText L a = some (t, a1)) :
    Calls Try.prog 75 #[.pointer (some ⟨r, 0, none⟩)] w fun e w' => e = .returned (.string t) ∧ RSt w' r A n c L a1 ∧ Fr (fun i => i = r) w w' := by
  have hle := textForm.le L a t a1 hp
  have hl := h.len
  have hT := textOf_yes hp
  rw [hl] at hT
  have C := Lib.hid (fun z : Ext w => calls_swap (show Calls Try.prog 87 #[.slice A n c, .int .i64 (a : Int), .int .i64 (n : Int)] z.w (fun e w' => e = .returned (.tuple #[.string t, .int .i64 (a1 : Int), .int .i64 0]) ∧ z.w = w') from by
    have h1 := text_any A n c a (n : Int) L z.w (h.move z.below).sl h.cap h.size h.le (by have := h.size; omega)
    rw [hT] at h1
    exact h1))
  clear hp hT
  have hsz := h.size
  have C0 := Ext.cell h.c0
  have C1 := Ext.cell h.c1
  have H := Lib.hid h
  clear h
  go_enter Try.func75, Try.ntmps75
  go_wp2_with fail
  refine wp_region_ext (by kernel_rfl) (by kernel_rfl) ?_
  repeat (go_big_quiet_step ((go_at_call 87; exact Calls.ext_same (C.out _))))
  refine wpQuiet_nil ?_
  intro w1 hw1
  have b1 := ext_end hw1
  have H1 := Lib.hid (H.out.move b1)
  have f1 := H1.out.fr 1
  have c1 := H1.out.c1
  have HB := Lib.hid b1
  clear hw1 C0 C1 b1
  have HE := Lib.hid (H1.out.set (b := a1) (by omega))
  go_wp2
  go_ret
  exact ⟨rfl, HE.out.1, (Fr.of_below HB.out).trans HE.out.2 (fun _ h => .inl h)⟩
set_option maxHeartbeats 1000000 in
theorem rtext_no {w : World} {r : Nat} {A : Option Addr} {n c : Nat} {L : List UInt8} {a : Nat} (h : RSt w r A n c L a) (hp : gText L a = none) :
    Calls Try.prog 75 #[.pointer (some ⟨r, 0, none⟩)] w fun e w' => e = wrongE ∧ Fr (fun i => i = r) w w' := by
  obtain ⟨x, hx, hT⟩ := textOf_no hp
  have hl := h.len
  rw [hl] at hT
  have hx0 : (x == 0) = false := by rw [beq_eq_false_iff_ne]; omega
  have hx1 : (x != 0) = true := by rw [bne_iff_ne]; omega
  have C := Lib.hid (fun z : Ext w => calls_swap (show Calls Try.prog 87 #[.slice A n c, .int .i64 (a : Int), .int .i64 (n : Int)] z.w (fun e w' => e = .returned (.tuple #[.string ByteArray.empty, .int .i64 0, .int .i64 x]) ∧ z.w = w') from by
    have h1 := text_any A n c a (n : Int) L z.w (h.move z.below).sl h.cap h.size h.le (by have := h.size; omega)
    rw [hT] at h1
    exact h1))
  clear hp hT hx
  have hsz := h.size
  have C0 := Ext.cell h.c0
  have C1 := Ext.cell h.c1
  have H := Lib.hid h
  clear h
  go_enter Try.func75, Try.ntmps75
  go_wp2_with fail
  refine wp_region_ext (by kernel_rfl) (by kernel_rfl) ?_
  repeat (go_big_quiet_step ((go_at_call 87; exact Calls.ext_same (C.out _))))
  refine wpQuiet_nil ?_
  intro w1 hw1
  have b1 := ext_end hw1
  have H1 := Lib.hid (H.out.move b1)
  have f1 := H1.out.fr 1
  have c1 := H1.out.c1
  have HB := Lib.hid b1
  clear hw1 C0 C1 b1
  go_wp2
  exact ⟨rfl, rfl, Fr.of_below HB.out⟩
/-! What a reader of one thing answers. -/
def GAns {α : Type} (R : World → α → Value → Prop) (w : World) (r : Nat) (A : Option Addr) (n c : Nat) (L : List UInt8) (o : Option (α × Nat)) (e : Ending) (w' : World) : Prop :=
  match o with
  | some (x, a) => ∃ v, e = .returned v ∧ R w' x v ∧ RSt w' r A n c L a ∧ Fr (fun i => i = r) w w'
  | none => e = wrongE ∧ Fr (fun i => i = r) w w'
section
variable {α : Type} {R : World → α → Value → Prop} {w : World} {r : Nat} {A : Option Addr} {n c : Nat} {L : List UInt8} {o : Option (α × Nat)} {w' : World}
theorem GAns.no (ho : o = none) (h : Fr (fun i => i = r) w w') : GAns R w r A n c L o wrongE w' := by rw [ho]; exact ⟨rfl, h⟩
theorem GAns.yes {xs : α} {a : Nat} {v : Value} (ho : o = some (xs, a)) (hv : R w' xs v) (h : RSt w' r A n c L a) (hf : Fr (fun i => i = r) w w') : GAns R w r A n c L o (.returned v) w' := by rw [ho]; exact ⟨v, rfl, hv, h, hf⟩
end
def gAddr : List UInt8 → Nat → Option ((Int × Int) × Nat) := fun L a => bindP gInt (fun s a1 => bindP gInt (fun n a2 => some ((s, n), a2)) L a1) L a
def AddrV (_ : World) (x : Int × Int) (v : Value) : Prop := v = .agg #[.int .i64 x.1, .int .i64 x.2]
theorem hash_or (h l : Nat) (h1 : h < 4294967296) (h2 : l < 4294967296) : bits .or .u64 ((h : Int) * 4294967296) (l : Int) = (h : Int) * 4294967296 + (l : Int) := by
  rw [show (h : Int) * 4294967296 = ((h * 4294967296 : Nat) : Int) by omega, u64_or_nat _ _ (by omega) (by omega)]
  have e := Nat.shiftLeft_add_eq_or_of_lt (b := l) (i := 32) (by omega) h
  rw [Nat.shiftLeft_eq] at e
  have e2 : h * 4294967296 ||| l = h * 4294967296 + l := e.symm
  rw [e2]
  omega
def IntV (_ : World) (x : Int) (v : Value) : Prop := v = .int .i64 x
def HshV (_ : World) (x : Int) (v : Value) : Prop := v = .int .u64 x
end Go.Proofs.Ytilagblpamhmkaa
