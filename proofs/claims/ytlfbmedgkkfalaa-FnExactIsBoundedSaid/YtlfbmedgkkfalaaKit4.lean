/- A block of three cells of the call's own. Conditions: none. -/
import Derived.Test.YtlfbmedgkkfalaaKit3
import Derived.OneCell
import Derived.Deep.QuietTactic
namespace Go.Proofs.Ytlfbmedgkkfalaa
open Go.RowKit

/-- a callee that leaves the world, in a region that draws -/
theorem quiet_same {P : Program} {f : FuncId} {args : Array Value} {w : World} {n : Nat} {v : Value}
    (h : Calls P f args (w.drewN n) fun e w' => e = .returned v ∧ w.drewN n = w') : Calls P f args (w.drewN n) fun e w'' => e = .returned v ∧ ∃ m, w'' = w.drewN m :=
  h.mono fun _ _ ⟨he, hm⟩ => ⟨he, n, hm.symm⟩
/-- a new row without elements -/
theorem new_heap (w : World) (o : Obj) : (w.alloc o).heap[w.heap.size]? = some o := by
  show (w.heap.push _)[w.heap.size]? = _
  simp
theorem OwnI.empty {T : TypeId} (w : World) {base : Nat} (hb : base ≤ w.heap.size) : OwnI T (w.alloc (.cells #[] T)) base (some ⟨w.heap.size, 0, none⟩) 0 0 [] :=
  ⟨rfl, .inr ⟨w.heap.size, 0, #[], rfl, hb, new_heap w _, Nat.le_refl _, Nat.zero_le _, rfl, rfl⟩⟩
theorem OwnE.empty {α : Type} {enc : α → List Value} {sz : Nat} {T : TypeId} (w : World) {base : Nat} (hb : base ≤ w.heap.size) : OwnE enc sz T (w.alloc (.cells #[] T)) base (some ⟨w.heap.size, 0, none⟩) 0 0 [] :=
  ⟨rfl, by simp, .inr ⟨w.heap.size, 0, #[], rfl, hb, new_heap w _, Nat.le_refl _, Nat.zero_le _, by simp, by simp⟩⟩
/-- block g is three cells -/
def Blk3 (w : World) (g : Nat) (t : TypeId) (u0 u1 u2 : Value) : Prop := w.heap[g]? = some (.cells #[u0, u1, u2] t (0, 0))
section
variable {w w' : World} {g : Nat} {t : TypeId} {u0 u1 u2 : Value}
theorem Blk3.lt (h : Blk3 w g t u0 u1 u2) : g < w.heap.size := lt_of_block h
theorem Blk3.c0 (h : Blk3 w g t u0 u1 u2) : w.cell? ⟨g, 0, none⟩ = some u0 := by unfold Blk3 at h; simp [World.cell?, h]
theorem Blk3.c1 (h : Blk3 w g t u0 u1 u2) : w.cell? ⟨g, 1, none⟩ = some u1 := by unfold Blk3 at h; simp [World.cell?, h]
theorem Blk3.c2 (h : Blk3 w g t u0 u1 u2) : w.cell? ⟨g, 2, none⟩ = some u2 := by unfold Blk3 at h; simp [World.cell?, h]
theorem Blk3.free (h : Blk3 w g t u0 u1 u2) (j : Nat) : w.frozen? ⟨g, j, none⟩ = false := by unfold Blk3 at h; simp [World.frozen?, h]
theorem Blk3.set (h : Blk3 w g t u0 u1 u2) (j : Nat) (u : Value) : (w.setCell ⟨g, j, none⟩ u).heap[g]? = some (.cells (#[u0, u1, u2].setIfInBounds j u) t (0, 0)) := by
  have hlt := lt_of_block h
  unfold Blk3 at h
  have h' : w.heap[g] = .cells #[u0, u1, u2] t (0, 0) := by simpa [Array.getElem?_eq_getElem hlt] using h
  show (w.heap.modify g _)[g]? = _
  rw [Array.getElem?_eq_getElem (by simpa using hlt), Array.getElem_modify_self, h']
  rfl
theorem Blk3.set1 (h : Blk3 w g t u0 u1 u2) (u : Value) : Blk3 (w.setCell ⟨g, 1, none⟩ u) g t u0 u u2 := h.set 1 u
theorem Blk3.set2 (h : Blk3 w g t u0 u1 u2) (u : Value) : Blk3 (w.setCell ⟨g, 2, none⟩ u) g t u0 u1 u := h.set 2 u
theorem Blk3.below {B : Nat} (h : Blk3 w g t u0 u1 u2) (hb : Below B w w') (hg : g < B) : Blk3 w' g t u0 u1 u2 := (hb.block g hg).trans h
theorem Blk3.kept {ro : Option Nat} (h : Blk3 w g t u0 u1 u2) (hg : w.grownBy w' ro) (hne : some g ≠ ro) : Blk3 w' g t u0 u1 u2 := (hg.block g h.lt hne).trans h
theorem Blk3.alloc (h : Blk3 w g t u0 u1 u2) (o : Obj) : Blk3 (w.alloc o) g t u0 u1 u2 := h.below ((Below.refl w.heap.size w).alloc (Nat.le_refl _) o) h.lt
theorem Blk3.drewN (h : Blk3 w g t u0 u1 u2) (k : Nat) : Blk3 (w.drewN k) g t u0 u1 u2 := h
theorem Blk3.new (w : World) (t : TypeId) (u0 u1 u2 : Value) : Blk3 (w.alloc (.cells #[u0, u1, u2] t)) w.heap.size t u0 u1 u2 := by
  unfold Blk3
  show (w.heap.push _)[w.heap.size]? = _
  simp
end

section
variable {P : Program} {ops : Array Oper} {rest : List Oper} {o : Oper} {a : Act} {Q : Exit → Act → World → Prop}
/-- 'out = append(out, y)' on a row of the call's own, y in a block that has just been made -/
theorem wpl_appI (W : World) (t1 : TypeId) {TS T : TypeId} (ht : P.underlying TS = some (.slice T)) (hinfo : (P.info? T).map (fun i => (i.zero, i.size, i.bytes)) = some (some (.int .i64 0), 1, 8))
    (hgd : o.guard = none) (s x : Operand) (ho : o.op = .call { callee := .builtin .append, args := #[s, x], argTypes := #[TS, TS] })
    (base : Nat) (A : Option Addr) (n c : Nat) (zs : List Int) (hs : a.eval s = .slice A n c) (hown : OwnI T W base A n c zs)
    (y : Int) (hx : a.eval x = .slice (some ⟨W.heap.size, 0, none⟩) 1 1)
    (hn : n + 1 ≤ 1099511627776) (hbase : base ≤ W.heap.size)
    (h : ∀ A' c' w', OwnI T w' base A' (n + 1) c' (zs ++ [y]) → (∀ B, B ≤ base → Below B W w') → W.grownBy w' (Value.slice A n c).ownBlock → wpList P ops Q rest (a.put o.dst (.slice A' (n + 1) c')) w') :
    wpList P ops Q (o :: rest) a (W.alloc (.cells #[.int .i64 y] t1)) := by
  refine wpl_app1 _ ht hinfo hgd s x ho base A n c zs hs (hown.alloc _) ⟨W.heap.size, 0, none⟩ 1 y hx ?_ hn (by rw [isz_alloc]; omega) ?_
  · have hx' : (W.alloc (.cells #[.int .i64 y] t1)).heap[W.heap.size]? = some (.cells #[.int .i64 y] t1) := by
      show (W.heap.push _)[W.heap.size]? = _
      simp
    unfold World.cell?
    rw [hx']
    rfl
  · intro A' c' w' hown' hg
    refine h A' c' w' hown' (fun B hB => ?_) (grown_tr (World.grownBy_alloc W _ _) hg)
    exact ((Below.refl B W).alloc (Nat.le_trans hB hbase) _).grown hg (by rw [isz_alloc]; omega) (fun g e => Nat.le_trans hB (own_row hown g e).1)
end
end Go.Proofs.Ytlfbmedgkkfalaa
