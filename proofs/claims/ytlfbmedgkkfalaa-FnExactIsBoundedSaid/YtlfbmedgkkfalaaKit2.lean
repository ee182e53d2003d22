/- More small lemmas: chains of calls. Conditions: none. -/
import Derived.Test.YtlfbmedgkkfalaaKitE
namespace Go.Proofs.Ytlfbmedgkkfalaa
open Go.RowKit
/-- one call more -/
theorem below_next {B : Nat} {W w1 w2 : World} (h2 : Below w1.heap.size w1 w2) (h : Below B W w1) (hB : B ≤ W.heap.size) : Below B W w2 := h.trans (h2.mono (Nat.le_trans hB h.size))
theorem below_next_drew {B : Nat} {W w1 w2 : World} (h2 : Below w1.heap.size w1.drew w2) (h : Below B W w1) (hB : B ≤ W.heap.size) : Below B W w2 := below_next (w1 := w1.drew) h2 h.drew hB
theorem RI.next {w1 w2 : World} {A : Option Addr} {n : Nat} {zs : List Int} (h2 : Below w1.heap.size w1 w2) (h : RI w1 w1.heap.size A n zs) : RI w2 w2.heap.size A n zs := h.up h2
theorem RI.next_drew {w1 w2 : World} {A : Option Addr} {n : Nat} {zs : List Int} (h2 : Below w1.heap.size w1.drew w2) (h : RI w1 w1.heap.size A n zs) : RI w2 w2.heap.size A n zs := RI.next (w1 := w1.drew) h2 h
theorem RI.alloc' {w : World} {A : Option Addr} {n : Nat} {zs : List Int} (h : RI w w.heap.size A n zs) (o : Obj) : RI (w.alloc o) (w.alloc o).heap.size A n zs := h.up ((Below.refl _ _).alloc (Nat.le_refl _) _)
theorem below_alloc {B : Nat} {W w : World} (h : Below B W w) (hB : B ≤ W.heap.size) (o : Obj) : Below B W (w.alloc o) := h.alloc (Nat.le_trans hB h.size) o
theorem RI.set' {w : World} {A : Option Addr} {n : Nat} {zs : List Int} {B : Nat} (h : RI w B A n zs) {p : Addr} (hp : B ≤ p.block) (v : Value) : RI (w.setCell p v) B A n zs :=
  h.below ((Below.refl B w).setCell hp v) (Nat.le_refl _)
end Go.Proofs.Ytlfbmedgkkfalaa
