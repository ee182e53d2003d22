/- A block of cells of the call's own, laid open as a list. Conditions: none. -/
import Derived.Test.YtlfbmedgkkfalaaKit8
namespace Go.Proofs.Ytlfbmedgkkfalaa
open Go.RowKit
/-- block g is these cells -/
def BlkL (w : World) (g : Nat) (t : TypeId) (L : List Value) : Prop := w.heap[g]? = some (.cells L.toArray t (0, 0))
section
variable {w w' : World} {g : Nat} {t : TypeId} {L : List Value}
theorem BlkL.lt (h : BlkL w g t L) : g < w.heap.size := lt_of_block h
theorem BlkL.c (h : BlkL w g t L) (j : Nat) {u : Value} (hu : L[j]? = some u) : w.cell? ⟨g, j, none⟩ = some u := by
  unfold BlkL at h; simp [World.cell?, h, hu]
theorem BlkL.free (h : BlkL w g t L) (j : Nat) : w.frozen? ⟨g, j, none⟩ = false := by unfold BlkL at h; simp [World.frozen?, h]
theorem BlkL.set (h : BlkL w g t L) (j : Nat) (u : Value) : BlkL (w.setCell ⟨g, j, none⟩ u) g t (L.set j u) := by
  have hlt := lt_of_block h
  unfold BlkL at h ⊢
  have h' : w.heap[g] = .cells L.toArray t (0, 0) := by simpa [Array.getElem?_eq_getElem hlt] using h
  show (w.heap.modify g _)[g]? = _
  rw [Array.getElem?_eq_getElem (by simpa using hlt), Array.getElem_modify_self, h']
  simp
theorem BlkL.next (hb : Below w.heap.size w w') (h : BlkL w g t L) : BlkL w' g t L := (hb.block g h.lt).trans h
theorem BlkL.alloc (h : BlkL w g t L) (o : Obj) : BlkL (w.alloc o) g t L := h.next ((Below.refl w.heap.size w).alloc (Nat.le_refl _) o)
theorem BlkL.drew (h : BlkL w g t L) : BlkL w.drew g t L := h
theorem BlkL.other (h : BlkL w g t L) {p : Addr} (hp : p.block ≠ g) (u : Value) : BlkL (w.setCell p u) g t L := by
  unfold BlkL at h ⊢
  show (w.heap.modify p.block _)[g]? = _
  rw [Array.getElem?_modify, if_neg hp]; exact h
theorem BlkL.new (w : World) (t : TypeId) (cs : Array Value) (hg : g = w.heap.size) : BlkL (w.alloc (.cells cs t)) g t cs.toList := by
  subst hg
  unfold BlkL
  show (w.heap.push _)[w.heap.size]? = _
  simp
end
/-- of the world behind a walk's first piece only this is kept -/
theorem wp_forget {P : Program} {c : Code} {Q : Exit → Act → World → Prop} {a : Act} {W : World} (R : World → Prop) (hR : R W) (h : ∀ w', R w' → c.wp P Q a w') : c.wp P Q a W := h W hR
theorem bp_forget {P : Program} {fn : Func} {Q : Ending → World → Prop} {x : Exit} {a : Act} {W : World} (R : World → Prop) (hR : R W) (h : ∀ w', R w' → bodyPost P fn Q x a w') : bodyPost P fn Q x a W := h W hR
end Go.Proofs.Ytlfbmedgkkfalaa
