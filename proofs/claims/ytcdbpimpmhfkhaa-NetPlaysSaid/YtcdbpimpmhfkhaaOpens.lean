/-
  Arguments opened: what a law's walk is told of each argument that was read as data. No program is looked at here.
-/
import Derived.Test.YtcdbpimpmhfkhaaBase
import Derived.ProofKit
import Derived.OpenShut
import Derived.ShutString
import Derived.ChangeOld
import Derived.SizedLaws
import Derived.Deep.CondSized
namespace Go.Proofs.Ytcdbpimpmhfkhaa
open Go.ChangeShapes Go.WideShapes Go.ChangeAt Go.RowKit
open Go.ChangeMaps (open_string shut_string)

section
variable {H : Type} {enc : TypeId × Value → H} {P : Program} {w : World} {base : Nat} {t e : TypeId} {v : Value} {d : DataW H} {p : List MemPlace}

/-- The datum of a slice of capacity cap. -/
def CapOf (d : DataW H) (cap : Nat) : Prop := cap = 0 ∨ ∃ elems spare, d = .slice elems spare ∧ elems.length + spare.length = cap

/-- A slice of integers of one kind: the numbers zs are its elements. -/
theorem open_nums {k : IntKind} (ht : P.underlying t = some (.slice e)) (he : P.underlying e = some (.int k)) (hC : P.cellsOf e = 1) (hv : Value.okWide P w .any base t v) (h : DataW.Trod enc P w 0 (fun _ => true) true t v d p) :
    ∃ A len cap, ∃ zs : List Int, v = .slice A len cap ∧ Sl w A len 1 (zs.map (Value.int k)) ∧ (∀ z ∈ zs, (Lit.int k z).wf = true) ∧ len ≤ cap ∧ cap ≤ maxLen ∧ CapOf d cap := by
  obtain ⟨a0, len, cap, rfl⟩ := okWide_slice ht hv
  obtain ⟨fuel, hf⟩ := h
  rcases open_ints ht he hC hf with ⟨hcs, _⟩ | ⟨x, l, c, zs, hcs, _, hl, hm, hz, hx, hcell, hwz⟩
  · simp [Value.cells] at hcs
    obtain ⟨rfl, rfl, rfl⟩ := hcs
    exact ⟨none, 0, 0, [], rfl, Sl.nil _ _ _, by simp, Nat.le_refl _, by unfold maxLen; omega, .inl rfl⟩
  · simp [Value.cells] at hcs
    obtain ⟨rfl, rfl, rfl⟩ := hcs
    simp only [Prod.mk.injEq] at hx
    obtain ⟨rfl, _⟩ := hx
    simp only [if_true] at hz
    refine ⟨_, len, cap, zs.take len, rfl, ⟨by simp; omega, fun hn => ?_⟩, fun z hzz => hwz z (List.mem_of_mem_take hzz), hl, hm, .inr ⟨_, _, rfl, by simp [lits]; omega⟩⟩
    obtain ⟨b, off, spot⟩ := x
    have hspot : spot = none := by simpa [Addr.add] using World.cell?_spot (hcell 0 (by omega))
    subst hspot
    refine ⟨b, off, rfl, fun j u hu => ?_⟩
    simp only [List.getElem?_map, List.getElem?_take, Option.map_eq_some_iff] at hu
    obtain ⟨z, hz1, rfl⟩ := hu
    split at hz1
    · have hj : j < zs.length := (List.getElem?_eq_some_iff.1 hz1).1
      rw [← add_plain', hcell j hj]
      simp [List.getD, hz1]
    · cases hz1

/-- A slice of bytes. -/
theorem open_bytes (ht : P.underlying t = some (.slice e)) (he : P.underlying e = some (.int .u8)) (hC : P.cellsOf e = 1) (hv : Value.okWide P w .any base t v) (h : DataW.Trod enc P w 0 (fun _ => true) true t v d p) :
    ∃ A len cap l, v = .slice A len cap ∧ SlB w A len l ∧ len ≤ cap ∧ cap ≤ maxLen ∧ CapOf d cap := by
  obtain ⟨A, len, cap, zs, rfl, hs, hw, h1, h2, h3⟩ := open_nums ht he hC hv h
  refine ⟨A, len, cap, zs.map fun z => UInt8.ofNat z.toNat, rfl, ?_, h1, h2, h3⟩
  have e1 : bsV (zs.map fun z => UInt8.ofNat z.toNat) = zs.map (Value.int .u8) := by
    simp only [bsV, List.map_map]
    refine List.map_congr_left fun z hz => ?_
    have hb := bounds_u8 (hw z hz)
    simp only [Function.comp, bV, UInt8.toNat_ofNat']
    congr 1
    omega
  unfold SlB
  rw [e1]
  exact hs

/-- What the form's own reach says of a slice. -/
theorem reach_cap {ts : List TypeId} {ds : List (DataW H)} (h : (DataW.weightsEach P ts ds).all (· ≤ reachBytes) = true) {j cap n : Nat} (hd : ds[j]? = some d) (hc : CapOf d cap) (ht : ts[j]? = some t)
    (hu : P.underlying t = some (.slice e)) (hb : P.bytesOf e = n) : cap * n ≤ 140737488351232 := by
  rcases hc with rfl | ⟨elems, spare, rfl, rfl⟩
  · omega
  · have := sized_slice h ht hd hu
    rw [hb] at this
    simpa [reachBytes] using this
end
end Go.Proofs.Ytcdbpimpmhfkhaa
