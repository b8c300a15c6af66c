/-
  What the bound of an '..UptoSaid' row gives: lengths. (The bound itself stands in the given rows.)
-/
import Derived.Test.YtgnedaihchmoaaaRows
import Derived.Test.YtgnedaihchmoaaaMA
namespace Go.Proofs.Ytgnedaihchmoaaa

theorem bulk_one {H : Type} (d : DataW H) : 1 ≤ Rows.uptoBulk d := by
  cases d with
  | lit l => cases l <;> simp [Rows.uptoBulk]
  | nil => simp [Rows.uptoBulk]
  | ptr d => simp [Rows.uptoBulk]
  | slice e s => simp [Rows.uptoBulk]
  | agg p => simp [Rows.uptoBulk]
  | iface t d => simp [Rows.uptoBulk]
  | map e => simp [Rows.uptoBulk]
  | held h => simp [Rows.uptoBulk]
theorem bulk_len {H : Type} (l : List (DataW H)) : l.length ≤ Rows.uptoBulkAll l := by
  induction l with
  | nil => simp [Rows.uptoBulkAll]
  | cons x r ih => have := bulk_one x; simp only [Rows.uptoBulkAll, List.length_cons]; omega
theorem bulk_cap {H : Type} {d : DataW H} {cap : Nat} (h : CapOf d cap) : cap ≤ Rows.uptoBulk d := by
  rcases h with rfl | ⟨elems, spare, rfl, rfl⟩
  · omega
  · have h1 := bulk_len elems
    have h2 := bulk_len spare
    simp only [Rows.uptoBulk]
    omega
theorem bulk_str {H : Type} (s : ByteArray) : s.size ≤ Rows.uptoBulk (DataW.lit (H := H) (.string s.data.toList)) := by
  have e : s.data.toList.length = s.size := by rw [Array.length_toList]; rfl
  simp only [Rows.uptoBulk]
  omega
end Go.Proofs.Ytgnedaihchmoaaa
