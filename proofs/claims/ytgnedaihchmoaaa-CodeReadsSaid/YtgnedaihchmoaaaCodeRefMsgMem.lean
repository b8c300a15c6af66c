/-
  firthref06.Msg: what a message that is being read lies in.
-/
import Derived.Test.YtgnedaihchmoaaaCodeRefReadR
namespace Go.Proofs.Ytgnedaihchmoaaa
open Go.RowKit
set_option linter.unusedVariables false

/-- The document's reader, the answer's block, the message's block. -/
structure MSt (w wc : World) (r g2 g8 : Nat) (A : Option Addr) (n c : Nat) (L : List UInt8) (a : Nat) (bad : Bool) (v0 v1 v2 v3 v4 v5 v6 v7 v8 v9 v10 v11 v12 v13 v14 : Value) : Prop where
  st : QSt wc r A n c L a bad
  fr : Fr (fun i => i = r) w wc
  b2 : MBox wc g2 (.int .i64 0) (.int .i64 0) (.int .i64 0) (.int .i64 0) (.int .i64 0) (.int .i64 0) (.int .i64 0) (.int .i64 0) (.int .i64 0) (.string ⟨#[]⟩) (.slice none 0 0) (.slice none 0 0) (.slice none 0 0) (.slice none 0 0) (.slice none 0 0)
  b8 : MBox wc g8 v0 v1 v2 v3 v4 v5 v6 v7 v8 v9 v10 v11 v12 v13 v14
  far : ∀ b off s', 0 < n → A = some ⟨b, off, s'⟩ → b < w.heap.size
  lr : r < w.heap.size
  l2 : g2 < w.heap.size
  ne : g2 ≠ r
  l8 : w.heap.size ≤ g8
section
variable {w wc wd : World} {r g2 g8 : Nat} {A : Option Addr} {n c : Nat} {L : List UInt8} {a a' : Nat} {bad bad' : Bool} {v0 v1 v2 v3 v4 v5 v6 v7 v8 v9 v10 v11 v12 v13 v14 : Value}
theorem MSt.call (h : MSt w wc r g2 g8 A n c L a bad v0 v1 v2 v3 v4 v5 v6 v7 v8 v9 v10 v11 v12 v13 v14) (hq : QSt wd r A n c L a' bad') (f : Fr (fun i => i = r) wc wd) : MSt w wd r g2 g8 A n c L a' bad' v0 v1 v2 v3 v4 v5 v6 v7 v8 v9 v10 v11 v12 v13 v14 := by
  have h1 := h.lr; have h2 := h.l2; have h3 := h.ne; have h8 := h.l8
  exact ⟨hq, h.fr.on f, h.b2.fr f (by omega), h.b8.fr f (by omega), h.far, h.lr, h.l2, h.ne, h.l8⟩
/-- A store into the message's block. -/
theorem MSt.store (h : MSt w wc r g2 g8 A n c L a bad v0 v1 v2 v3 v4 v5 v6 v7 v8 v9 v10 v11 v12 v13 v14) (j : Nat) (u : Value) {u0 u1 u2 u3 u4 u5 u6 u7 u8 u9 u10 u11 u12 u13 u14 : Value}
    (e : (#[v0, v1, v2, v3, v4, v5, v6, v7, v8, v9, v10, v11, v12, v13, v14] : Array Value).setIfInBounds j u = #[u0, u1, u2, u3, u4, u5, u6, u7, u8, u9, u10, u11, u12, u13, u14]) :
    MSt w (wc.setCell ⟨g8, j, none⟩ u) r g2 g8 A n c L a bad u0 u1 u2 u3 u4 u5 u6 u7 u8 u9 u10 u11 u12 u13 u14 := by
  have h1 := h.lr; have h2 := h.l2; have h3 := h.ne; have h8 := h.l8
  refine ⟨h.st.setOther (by omega) (fun b' off s'' hn ea => by have := h.far b' off s'' hn ea; omega) u, h.fr.put (by omega) u, h.b2.other (by omega) u, ?_, h.far, h.lr, h.l2, h.ne, h.l8⟩
  unfold MBox
  rw [heap_setCell_same wc g8 j _ _ u h.b8, e]
theorem MSt.spoil (h : MSt w wc r g2 g8 A n c L a bad v0 v1 v2 v3 v4 v5 v6 v7 v8 v9 v10 v11 v12 v13 v14) : MSt w (wc.setCell ⟨r, 2, none⟩ (.bool true)) r g2 g8 A n c L a true v0 v1 v2 v3 v4 v5 v6 v7 v8 v9 v10 v11 v12 v13 v14 :=
  h.call h.st.setBad.1 h.st.setBad.2
/-- New memory, and rows that grow, behind block g8. -/
theorem MSt.move {B : Nat} (h : MSt w wc r g2 g8 A n c L a bad v0 v1 v2 v3 v4 v5 v6 v7 v8 v9 v10 v11 v12 v13 v14) (b : Below B wc wd) (hB : g8 < B) : MSt w wd r g2 g8 A n c L a bad v0 v1 v2 v3 v4 v5 v6 v7 v8 v9 v10 v11 v12 v13 v14 := by
  have h1 := h.lr; have h2 := h.l2; have h3 := h.ne; have h8 := h.l8
  exact ⟨h.st.moveB (B := B) (by omega) (fun b' off s' hn e => by have := h.far b' off s' hn e; omega) b, fr_low h.fr b (by omega), (b.block g2 (by omega)).trans h.b2, (b.block g8 hB).trans h.b8, h.far, h.lr, h.l2, h.ne, h.l8⟩
theorem MSt.start {a0 : Nat} {b0 : Bool} (hq : QSt wc r A n c L a0 b0) (f : Fr (fun i => i = r) w wc) (h2 : MBox wc g2 (.int .i64 0) (.int .i64 0) (.int .i64 0) (.int .i64 0) (.int .i64 0) (.int .i64 0) (.int .i64 0) (.int .i64 0) (.int .i64 0) (.string ⟨#[]⟩) (.slice none 0 0) (.slice none 0 0) (.slice none 0 0) (.slice none 0 0) (.slice none 0 0))
    (far : ∀ b off s', 0 < n → A = some ⟨b, off, s'⟩ → b < w.heap.size) (lr : r < w.heap.size) (l2 : g2 < w.heap.size) (ne : g2 ≠ r) (hg : g8 = wc.heap.size) :
    MSt w (wc.alloc (.cells #[v0, v1, v2, v3, v4, v5, v6, v7, v8, v9, v10, v11, v12, v13, v14] 30)) r g2 g8 A n c L a0 b0 v0 v1 v2 v3 v4 v5 v6 v7 v8 v9 v10 v11 v12 v13 v14 := by
  subst hg
  have b := (Below.refl wc.heap.size wc).alloc (Nat.le_refl _) (.cells #[v0, v1, v2, v3, v4, v5, v6, v7, v8, v9, v10, v11, v12, v13, v14] 30)
  exact ⟨hq.move b, f.trans (Fr.of_below b (fp := fun i => i = r)) fun _ h => .inl h, (b.block _ (lt_of_block h2)).trans h2, heap_alloc_new wc _, far, lr, l2, ne, f.size⟩
end
/-- A row of numbers that is being read, made in blocks from B on: outside of it nothing but the reader and the message's block has turned. -/
structure LSt (ws wr : World) (r g8 : Nat) (e : TypeId) (f : Int → Value) (Ao : Option Addr) (k co : Nat) (xs : List Int) : Prop where
  own : wr.ownsRow ws.heap.size e 1 (.slice Ao k co) k (xs.map f)
  fr : Fr (fun i => i = r ∨ i = g8) ws wr
end Go.Proofs.Ytgnedaihchmoaaa
