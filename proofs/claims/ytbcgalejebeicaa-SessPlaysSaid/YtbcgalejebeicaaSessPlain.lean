/-
  Layer 21 in plain Lean: sessions. No program is looked at here.
-/
import Derived.Test.YtbcgalejebeicaaBase
namespace Go.Proofs.Ytbcgalejebeicaa
set_option linter.unusedVariables false

/-- A session: its site, its token, its ask under way (0: none). -/
structure Ses where
  site : Int
  tok : List UInt8
  op : Int
def Ses.ok (x : Ses) : Prop := 0 ≤ x.op
/-- Whose ask it is: the number; 0: nobody's. -/
def findS (l : List Ses) (op : Int) : Nat :=
  match l.findIdx? (fun x => decide (0 < op) && (x.op == op)) with
  | some i => i + 1
  | none => 0
/-- The session of a number. -/
def getS (l : List Ses) (n : Int) : Option Ses := if 1 ≤ n then l[n.toNat - 1]? else none
/-- Begin: site, token, the error's number; and the sessions behind it. -/
def beginA (l : List Ses) (n op : Int) : Int × List UInt8 × Int :=
  match getS l n with
  | none => (0, [], 210)
  | some x => if op < 1 ∨ 0 < findS l op then (0, [], 1) else if x.op ≠ 0 then (0, [], 202) else (x.site, x.tok, 0)
def beginL (l : List Ses) (n op : Int) : List Ses :=
  match getS l n with
  | none => l
  | some x => if op < 1 ∨ 0 < findS l op then l else if x.op ≠ 0 then l else l.set (n.toNat - 1) { x with op := op }
/-- End. -/
def endL (l : List Ses) (op : Int) (tok : List UInt8) : List Ses :=
  match findS l op with
  | 0 => l
  | k + 1 => match l[k]? with
    | none => l
    | some x => l.set k { x with op := 0, tok := if tok = [] then x.tok else tok }
/-- Go. -/
def goA (sites : Int) (l : List Ses) (n site : Int) : Int :=
  match getS l n with
  | none => 210
  | some x => if site < 1 ∨ sites < site then 1 else if x.op ≠ 0 then 202 else 0
def goL (sites : Int) (l : List Ses) (n site : Int) : List Ses :=
  match getS l n with
  | none => l
  | some x => if site < 1 ∨ sites < site then l else if x.op ≠ 0 then l else l.set (n.toNat - 1) { x with site := site }
/-- What is asked: no ask twice. -/
def Asks (l : List Ses) : Prop := (∀ x ∈ l, 0 ≤ x.op) ∧ ∀ (i j : Nat) (x y : Ses), l[i]? = some x → l[j]? = some y → x.op = y.op → 0 < x.op → i = j

theorem findS_some {l : List Ses} {op : Int} {k : Nat} (h : findS l op = k + 1) : 0 < op ∧ ∃ x, l[k]? = some x ∧ x.op = op := by
  unfold findS at h
  split at h
  · rename_i i hi
    obtain rfl : i = k := by omega
    obtain ⟨h1, h2, _⟩ := List.findIdx?_eq_some_iff_getElem.1 hi
    simp only [Bool.and_eq_true, decide_eq_true_eq, beq_iff_eq] at h2
    exact ⟨h2.1, l[i], List.getElem?_eq_getElem h1, h2.2⟩
  · omega
theorem findS_no {l : List Ses} {op : Int} (h : ∀ x, x ∈ l → 0 < op → x.op ≠ op) : findS l op = 0 := by
  rcases hf : findS l op with _ | k
  · rfl
  · obtain ⟨h1, x, hx, h2⟩ := findS_some hf
    exact absurd h2 (h x (List.mem_of_getElem? hx) h1)
theorem findS_zero {l : List Ses} {op : Int} (h : findS l op = 0) : ∀ x, x ∈ l → 0 < op → x.op ≠ op := by
  intro x hx hp he
  unfold findS at h
  split at h
  · omega
  · rename_i hn
    have := List.findIdx?_eq_none_iff.1 hn x hx
    simp [hp, he] at this
theorem findS_eq {l : List Ses} {op : Int} {k : Nat} {x : Ses} (ha : Asks l) (hx : l[k]? = some x) (he : x.op = op) (hp : 0 < op) : findS l op = k + 1 := by
  rcases hf : findS l op with _ | j
  · exact absurd he (findS_zero hf x (List.mem_of_getElem? hx) hp)
  · obtain ⟨h1, y, hy, h2⟩ := findS_some hf
    rw [ha.2 k j x y hx hy (by rw [he, h2]) (by rw [he]; exact hp)]
theorem getElem?_set' {l : List Ses} {k i : Nat} {x y z : Ses} (hx : l[k]? = some x) (h : (l.set k y)[i]? = some z) : (i = k ∧ z = y) ∨ (i ≠ k ∧ l[i]? = some z) := by
  rw [List.getElem?_set] at h
  split at h
  · rename_i e
    subst e
    split at h
    · injection h with h; exact .inl ⟨rfl, h.symm⟩
    · cases h
  · rename_i e
    exact .inr ⟨fun e' => e e'.symm, h⟩
theorem Asks.begin {l : List Ses} {k : Nat} {x : Ses} {op : Int} (ha : Asks l) (hx : l[k]? = some x) (hp : 0 < op) (hf : findS l op = 0) : Asks (l.set k { x with op := op }) := by
  refine ⟨fun y hy => ?_, fun i j y z hy hz e hp' => ?_⟩
  · obtain ⟨i, hi⟩ := List.getElem?_of_mem hy
    rcases getElem?_set' hx hi with ⟨_, rfl⟩ | ⟨_, h⟩
    · exact Int.le_of_lt hp
    · exact ha.1 y (List.mem_of_getElem? h)
  · rcases getElem?_set' hx hy with ⟨rfl, rfl⟩ | ⟨n1, h1⟩
    · rcases getElem?_set' hx hz with ⟨rfl, rfl⟩ | ⟨n2, h2⟩
      · rfl
      · exact absurd e.symm (findS_zero hf z (List.mem_of_getElem? h2) hp)
    · rcases getElem?_set' hx hz with ⟨rfl, rfl⟩ | ⟨n2, h2⟩
      · exact absurd e (findS_zero hf y (List.mem_of_getElem? h1) hp)
      · exact ha.2 i j y z h1 h2 e hp'
theorem Asks.quiet {l : List Ses} {k : Nat} {x y : Ses} (ha : Asks l) (hx : l[k]? = some x) (he : y.op = 0 ∨ y.op = x.op) : Asks (l.set k y) := by
  have hx0 := ha.1 x (List.mem_of_getElem? hx)
  refine ⟨fun z hz => ?_, fun i j u v hu hv e hp => ?_⟩
  · obtain ⟨i, hi⟩ := List.getElem?_of_mem hz
    rcases getElem?_set' hx hi with ⟨_, rfl⟩ | ⟨_, h⟩
    · omega
    · exact ha.1 z (List.mem_of_getElem? h)
  · rcases getElem?_set' hx hu with ⟨rfl, rfl⟩ | ⟨n1, h1⟩
    · rcases getElem?_set' hx hv with ⟨rfl, rfl⟩ | ⟨n2, h2⟩
      · rfl
      · exact ha.2 i j x v hx h2 (by omega) (by omega)
    · rcases getElem?_set' hx hv with ⟨rfl, rfl⟩ | ⟨n2, h2⟩
      · exact ha.2 i j u x h1 hx (by omega) hp
      · exact ha.2 i j u v h1 h2 e hp
theorem Asks.open_ {l : List Ses} {x : Ses} (ha : Asks l) (he : x.op = 0) : Asks (l ++ [x]) := by
  refine ⟨fun z hz => ?_, fun i j u v hu hv e hp => ?_⟩
  · rcases List.mem_append.1 hz with h | h
    · exact ha.1 z h
    · obtain rfl := List.mem_singleton.1 h
      omega
  · rw [List.getElem?_append] at hu hv
    split at hu
    · split at hv
      · exact ha.2 i j u v hu hv e hp
      · have := List.mem_of_getElem? hv
        obtain rfl := List.mem_singleton.1 this
        omega
    · have := List.mem_of_getElem? hu
      obtain rfl := List.mem_singleton.1 this
      omega
theorem find_open {l : List Ses} {x : Ses} (ha : Asks l) (he : x.op = 0) (op : Int) : findS (l ++ [x]) op = findS l op := by
  rcases hf : findS l op with _ | k
  · refine findS_no fun y hy hp => ?_
    rcases List.mem_append.1 hy with h | h
    · exact findS_zero hf y h hp
    · obtain rfl := List.mem_singleton.1 h
      omega
  · obtain ⟨h1, y, hy, h2⟩ := findS_some hf
    have hk := (List.getElem?_eq_some_iff.1 hy).1
    exact findS_eq (ha.open_ he) (by rw [List.getElem?_append_left hk]; exact hy) h2 h1
theorem find_begin {l : List Ses} {k : Nat} {x : Ses} {op : Int} (ha : Asks l) (hx : l[k]? = some x) (hx0 : x.op = 0) (hp : 0 < op) (hf : findS l op = 0) (op' : Int) : findS (l.set k { x with op := op }) op' = if op' = op then k + 1 else findS l op' := by
  have ha' := ha.begin hx hp hf
  have hk := (List.getElem?_eq_some_iff.1 hx).1
  split
  · rename_i e
    subst e
    exact findS_eq ha' (by rw [List.getElem?_set_self hk]) rfl hp
  · rename_i hne
    rcases hf' : findS l op' with _ | j
    · refine findS_no fun y hy hp' => ?_
      obtain ⟨i, hi⟩ := List.getElem?_of_mem hy
      rcases getElem?_set' hx hi with ⟨_, rfl⟩ | ⟨_, h⟩
      · exact fun e => hne e.symm
      · exact findS_zero hf' y (List.mem_of_getElem? h) hp'
    · obtain ⟨h1, y, hy, h2⟩ := findS_some hf'
      have hjk : k ≠ j := by
        rintro rfl
        rw [hx] at hy
        injection hy with hy
        subst hy
        omega
      exact findS_eq ha' (by rw [List.getElem?_set_ne hjk]; exact hy) h2 h1
theorem find_quiet {l : List Ses} {k : Nat} {x y : Ses} (ha : Asks l) (hx : l[k]? = some x) (he : y.op = x.op) (op' : Int) : findS (l.set k y) op' = findS l op' := by
  have ha' := ha.quiet hx (.inr he)
  have hk := (List.getElem?_eq_some_iff.1 hx).1
  rcases hf' : findS l op' with _ | j
  · refine findS_no fun z hz hp' => ?_
    obtain ⟨i, hi⟩ := List.getElem?_of_mem hz
    rcases getElem?_set' hx hi with ⟨_, rfl⟩ | ⟨_, h⟩
    · rw [he]; exact findS_zero hf' x (List.mem_of_getElem? hx) hp'
    · exact findS_zero hf' z (List.mem_of_getElem? h) hp'
  · obtain ⟨h1, z, hz, h2⟩ := findS_some hf'
    by_cases hjk : k = j
    · subst hjk
      rw [hx] at hz
      injection hz with hz
      subst hz
      exact findS_eq ha' (by rw [List.getElem?_set_self hk]) (he.trans h2) h1
    · exact findS_eq ha' (by rw [List.getElem?_set_ne hjk]; exact hz) h2 h1
theorem find_end {l : List Ses} {k : Nat} {x y : Ses} {op : Int} (ha : Asks l) (hx : l[k]? = some x) (hf : findS l op = k + 1) (he : y.op = 0) (op' : Int) : findS (l.set k y) op' = if op' = op then 0 else findS l op' := by
  have ha' := ha.quiet hx (.inl he)
  have hk := (List.getElem?_eq_some_iff.1 hx).1
  obtain ⟨g1, x', hx', g2⟩ := findS_some hf
  rw [hx] at hx'
  injection hx' with hx'
  subst hx'
  have other : ∀ z, z ∈ l.set k y → 0 < z.op → ∃ j, j ≠ k ∧ l[j]? = some z := by
    intro z hz hp
    obtain ⟨i, hi⟩ := List.getElem?_of_mem hz
    rcases getElem?_set' hx hi with ⟨_, rfl⟩ | ⟨n, h⟩
    · omega
    · exact ⟨i, n, h⟩
  split
  · rename_i e
    subst e
    refine findS_no fun z hz hp e => ?_
    obtain ⟨j, n, h⟩ := other z hz (by omega)
    exact n (ha.2 j k z x h hx (by omega) (by omega))
  · rename_i hne
    rcases hf' : findS l op' with _ | j
    · refine findS_no fun z hz hp' e => ?_
      obtain ⟨j, n, h⟩ := other z hz (by omega)
      exact findS_zero hf' z (List.mem_of_getElem? h) hp' e
    · obtain ⟨h1, z, hz, h2⟩ := findS_some hf'
      have hjk : k ≠ j := by
        rintro rfl
        rw [hx] at hz
        injection hz with hz
        subst hz
        omega
      exact findS_eq ha' (by rw [List.getElem?_set_ne hjk]; exact hz) h2 h1
/-- Open. -/
def openA (sites : Int) (l : List Ses) (site : Int) : Int × Int := if 1 ≤ site ∧ site ≤ sites then ((l.length : Int) + 1, 0) else (0, 1)
def openL (sites : Int) (l : List Ses) (site : Int) : List Ses := if 1 ≤ site ∧ site ≤ sites then l ++ [⟨site, [], 0⟩] else l
end Go.Proofs.Ytbcgalejebeicaa
