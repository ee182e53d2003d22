/- More small notions: rows of faults that are handed back, marked faults, rows that lie apart. Conditions: none. -/
import Derived.Test.YtlfbmedgkkfalaaKit2
namespace Go.Proofs.Ytlfbmedgkkfalaa
open Go.RowKit

/-- a slice of elements of the call's own is handed back -/
def RetE {α : Type} (enc : α → List Value) (sz : Nat) (T : TypeId) (w0 : World) (n : Nat) (zs : List α) (e : Ending) (w' : World) : Prop :=
  ∃ A c, e = .returned (.slice A n c) ∧ OwnE enc sz T w' w0.heap.size A n c zs ∧ Below w0.heap.size w0 w'
/-- the same with a code -/
def RetEC {α : Type} (enc : α → List Value) (sz : Nat) (T : TypeId) (w0 : World) (zs : List α) (code : Int) (e : Ending) (w' : World) : Prop :=
  ∃ A n c, e = .returned (.tuple #[.slice A n c, .int .i64 code]) ∧ OwnE enc sz T w' w0.heap.size A n c zs ∧ Below w0.heap.size w0 w'

theorem apartI_lo {A1 : Option Addr} {n1 c1 B1 E1 B2 E2 : Nat} {ro : Option Nat} (r1 : ∀ g, (Value.slice A1 n1 c1).ownBlock = some g → B1 ≤ g ∧ g < E1) (r2 : ∀ g, ro = some g → B2 ≤ g ∧ g < E2) (h : E1 ≤ B2) :
    ∀ g o, A1 = some ⟨g, o, none⟩ → some g ≠ ro := by
  intro g o e hro
  subst e
  have a := r1 g rfl
  have b := r2 g hro.symm
  omega
theorem apartI_hi {A1 : Option Addr} {n1 c1 B1 E1 B2 E2 : Nat} {ro : Option Nat} (r1 : ∀ g, (Value.slice A1 n1 c1).ownBlock = some g → B1 ≤ g ∧ g < E1) (r2 : ∀ g, ro = some g → B2 ≤ g ∧ g < E2) (h : E2 ≤ B1) :
    ∀ g o, A1 = some ⟨g, o, none⟩ → some g ≠ ro := by
  intro g o e hro
  subst e
  have a := r1 g rfl
  have b := r2 g hro.symm
  omega
theorem apartE_lo {o1 : Option Nat} {B1 E1 B2 E2 : Nat} {ro : Option Nat} (r1 : ∀ g, o1 = some g → B1 ≤ g ∧ g < E1) (r2 : ∀ g, ro = some g → B2 ≤ g ∧ g < E2) (h : E1 ≤ B2) :
    o1 = none ∨ o1 ≠ ro := by
  rcases o1 with _ | g
  · exact .inl rfl
  · refine .inr fun e => ?_
    have a := r1 g rfl
    have b := r2 g e.symm
    omega
theorem apartE_hi {o1 : Option Nat} {B1 E1 B2 E2 : Nat} {ro : Option Nat} (r1 : ∀ g, o1 = some g → B1 ≤ g ∧ g < E1) (r2 : ∀ g, ro = some g → B2 ≤ g ∧ g < E2) (h : E2 ≤ B1) :
    o1 = none ∨ o1 ≠ ro := by
  rcases o1 with _ | g
  · exact .inl rfl
  · refine .inr fun e => ?_
    have a := r1 g rfl
    have b := r2 g e.symm
    omega

/-- a marked fault; faults marked from k on -/
def mkF (k : Int) : Flt := ⟨k, k + 1, k + 1 + 1, k + 1 + 1 + 1⟩
def marksF (k : Int) (n : Nat) : List Flt := (List.range n).map fun (i : Nat) => mkF (k + 4 * (i : Int))
theorem marksF_len (k : Int) (n : Nat) : (marksF k n).length = n := by simp [marksF]
theorem marksF_ge {k : Int} {n i : Nat} (h : i < n) : ge (marksF k n) i = mkF (k + 4 * i) := by simp [ge, marksF, h]
def markToF (zs : List Flt) (q : Int) (k : Nat) : List Flt := marksF q k ++ zs.drop k
theorem markToF_zero (zs : List Flt) (q : Int) : markToF zs q 0 = zs := by simp [markToF, marksF]
theorem markToF_all {zs : List Flt} {q : Int} {n : Nat} (h : zs.length = n) : markToF zs q n = marksF q n := by simp [markToF, ← h]
theorem markToF_len {zs : List Flt} {q : Int} {n k : Nat} (h : zs.length = n) (hk : k ≤ n) : (markToF zs q k).length = n := by
  simp [markToF, marksF]; omega
theorem markToF_set {zs : List Flt} {q : Int} {n k : Nat} (h : zs.length = n) (hk : k < n) : (markToF zs q k).set k (mkF (q + 4 * k)) = markToF zs q (k + 1) := by
  unfold markToF
  rw [List.set_append_right _ _ (by rw [marksF_len]; omega), marksF_len, Nat.sub_self, List.drop_eq_getElem_cons (by omega), List.set_cons_zero]
  simp [marksF, List.range_succ]
/-- a copy of elements that has come to k -/
def fillToE {α : Type} (x0 : α) (zs : List α) (n k : Nat) : List α := zs.take k ++ List.replicate (n - k) x0
theorem fillToE_zero {α : Type} (x0 : α) (zs : List α) (n : Nat) : fillToE x0 zs n 0 = List.replicate n x0 := by simp [fillToE]
theorem fillToE_all {α : Type} {x0 : α} {zs : List α} {n : Nat} (h : zs.length = n) : fillToE x0 zs n n = zs := by simp [fillToE, ← h]
theorem fillToE_set {α : Type} [Inhabited α] {x0 : α} {zs : List α} {n k : Nat} (h : zs.length = n) (hk : k < n) : (fillToE x0 zs n k).set k (ge zs k) = fillToE x0 zs n (k + 1) := by
  have h1 : (zs.take k).length = k := by simp; omega
  unfold fillToE
  rw [take_ge (by omega), List.set_append_right _ _ (by omega), h1, Nat.sub_self, show n - k = (n - (k + 1)) + 1 from by omega, List.replicate_succ]
  simp
theorem fillToE_ge {α : Type} [Inhabited α] {x0 : α} {zs : List α} {n k : Nat} (h : zs.length = n) (hk : k < n) : ge (fillToE x0 zs n k) k = x0 := by
  have h1 : (zs.take k).length = k := by simp; omega
  unfold ge fillToE
  rw [List.getD_eq_getElem?_getD, List.getElem?_append_right (by omega), h1, Nat.sub_self, show n - k = (n - (k + 1)) + 1 from by omega, List.replicate_succ]
  rfl
theorem ge_set_self {α : Type} [Inhabited α] {zs : List α} {k : Nat} (h : k < zs.length) (x : α) : ge (zs.set k x) k = x := by simp [ge, h]
end Go.Proofs.Ytlfbmedgkkfalaa
