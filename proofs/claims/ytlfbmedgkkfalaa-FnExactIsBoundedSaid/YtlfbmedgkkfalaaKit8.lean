/- A block of four cells of the call's own. Conditions: none. -/
import Derived.Test.YtlfbmedgkkfalaaKit6
namespace Go.Proofs.Ytlfbmedgkkfalaa
open Go.RowKit
/-- block g is four cells -/
def Blk4 (w : World) (g : Nat) (t : TypeId) (u0 u1 u2 u3 : Value) : Prop := w.heap[g]? = some (.cells #[u0, u1, u2, u3] t (0, 0))
section
variable {w w' : World} {g : Nat} {t : TypeId} {u0 u1 u2 u3 : Value}
theorem Blk4.lt (h : Blk4 w g t u0 u1 u2 u3) : g < w.heap.size := lt_of_block h
theorem Blk4.c0 (h : Blk4 w g t u0 u1 u2 u3) : w.cell? ⟨g, 0, none⟩ = some u0 := by unfold Blk4 at h; simp [World.cell?, h]
theorem Blk4.c1 (h : Blk4 w g t u0 u1 u2 u3) : w.cell? ⟨g, 1, none⟩ = some u1 := by unfold Blk4 at h; simp [World.cell?, h]
theorem Blk4.c2 (h : Blk4 w g t u0 u1 u2 u3) : w.cell? ⟨g, 2, none⟩ = some u2 := by unfold Blk4 at h; simp [World.cell?, h]
theorem Blk4.c3 (h : Blk4 w g t u0 u1 u2 u3) : w.cell? ⟨g, 3, none⟩ = some u3 := by unfold Blk4 at h; simp [World.cell?, h]
theorem Blk4.set (h : Blk4 w g t u0 u1 u2 u3) (j : Nat) (u : Value) : (w.setCell ⟨g, j, none⟩ u).heap[g]? = some (.cells (#[u0, u1, u2, u3].setIfInBounds j u) t (0, 0)) := by
  have hlt := lt_of_block h
  unfold Blk4 at h
  have h' : w.heap[g] = .cells #[u0, u1, u2, u3] t (0, 0) := by simpa [Array.getElem?_eq_getElem hlt] using h
  show (w.heap.modify g _)[g]? = _
  rw [Array.getElem?_eq_getElem (by simpa using hlt), Array.getElem_modify_self, h']
  rfl
theorem Blk4.all {x0 x1 x2 x3 : Value} (h : Blk4 w g t u0 u1 u2 u3) : Blk4 ((((w.setCell ⟨g, 0, none⟩ x0).setCell ⟨g, 1, none⟩ x1).setCell ⟨g, 2, none⟩ x2).setCell ⟨g, 3, none⟩ x3) g t x0 x1 x2 x3 := by
  have h1 : Blk4 (w.setCell ⟨g, 0, none⟩ x0) g t x0 u1 u2 u3 := h.set 0 x0
  have h2 : Blk4 ((w.setCell ⟨g, 0, none⟩ x0).setCell ⟨g, 1, none⟩ x1) g t x0 x1 u2 u3 := h1.set 1 x1
  have h3 : Blk4 (((w.setCell ⟨g, 0, none⟩ x0).setCell ⟨g, 1, none⟩ x1).setCell ⟨g, 2, none⟩ x2) g t x0 x1 x2 u3 := h2.set 2 x2
  exact h3.set 3 x3
theorem Blk4.next (hb : Below w.heap.size w w') (h : Blk4 w g t u0 u1 u2 u3) : Blk4 w' g t u0 u1 u2 u3 := (hb.block g h.lt).trans h
theorem Blk4.next_drew (hb : Below w.heap.size w.drew w') (h : Blk4 w g t u0 u1 u2 u3) : Blk4 w' g t u0 u1 u2 u3 := Blk4.next (w := w.drew) hb h
theorem Blk4.alloc (h : Blk4 w g t u0 u1 u2 u3) (o : Obj) : Blk4 (w.alloc o) g t u0 u1 u2 u3 := h.next ((Below.refl w.heap.size w).alloc (Nat.le_refl _) o)
theorem Blk4.drew (h : Blk4 w g t u0 u1 u2 u3) : Blk4 w.drew g t u0 u1 u2 u3 := h
theorem Blk4.new (w : World) (t : TypeId) (u0 u1 u2 u3 : Value) : Blk4 (w.alloc (.cells #[u0, u1, u2, u3] t)) w.heap.size t u0 u1 u2 u3 := by
  unfold Blk4
  show (w.heap.push _)[w.heap.size]? = _
  simp
theorem Blk4.new_at {w : World} {t : TypeId} {u0 u1 u2 u3 : Value} (hg : g = w.heap.size) : Blk4 (w.alloc (.cells #[u0, u1, u2, u3] t)) g t u0 u1 u2 u3 := by
  subst hg; exact Blk4.new _ _ _ _ _ _
end
end Go.Proofs.Ytlfbmedgkkfalaa
