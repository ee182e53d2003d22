/- Which samples a script of flips flips, with no program in sight. Conditions: none. -/
import Derived.Test.YtlfbmedgkkfalaaScript
namespace Go.Proofs.Ytlfbmedgkkfalaa
open Go.RowKit

/-- a mark is turned -/
def togM (ms : List Int) (p : Nat) : List Int := ms.set p (1 - gi ms p)
theorem togM_len (ms : List Int) (p : Nat) : (togM ms p).length = ms.length := by simp [togM]
theorem togM_gi {ms : List Int} {p i : Nat} (h : i < ms.length) : gi (togM ms p) i = if i = p then 1 - gi ms p else gi ms i := by
  unfold togM gi
  rw [List.getD_eq_getElem?_getD, List.getElem?_set]
  by_cases hip : p = i
  · subst hip
    rw [if_pos rfl, if_pos rfl, if_pos h]; rfl
  · rw [if_neg hip, if_neg (fun e => hip e.symm), List.getD_eq_getElem?_getD]
/-- the marks behind a script -/
def marksOf (fs : List Flt) : List Int := fs.foldl (fun ms f => togM ms f.pos.toNat) (List.replicate 8193 0)
theorem marksOf_take {fs : List Flt} {k : Nat} (h : k < fs.length) : marksOf (fs.take (k + 1)) = togM (marksOf (fs.take k)) (ge fs k).pos.toNat := by
  unfold marksOf
  rw [take_ge h, List.foldl_append]
  rfl
theorem foldl_tog_len (fs : List Flt) : ∀ ms : List Int, (fs.foldl (fun ms f => togM ms f.pos.toNat) ms).length = ms.length := by
  induction fs with
  | nil => intro ms; rfl
  | cons f fs ih => intro ms; exact (ih _).trans (togM_len _ _)
theorem marksOf_len (fs : List Flt) : (marksOf fs).length = 8193 := (foldl_tog_len fs _).trans List.length_replicate
theorem foldl_tog_bit (fs : List Flt) : ∀ ms : List Int, (∀ i, i < ms.length → gi ms i = 0 ∨ gi ms i = 1) → ∀ i, i < ms.length → gi (fs.foldl (fun ms f => togM ms f.pos.toNat) ms) i = 0 ∨ gi (fs.foldl (fun ms f => togM ms f.pos.toNat) ms) i = 1 := by
  induction fs with
  | nil => intro ms h; exact h
  | cons f fs ih =>
    intro ms h i hi
    refine ih (togM ms f.pos.toNat) (fun j hj => ?_) i (by rw [togM_len]; exact hi)
    rw [togM_len] at hj
    rw [togM_gi hj]
    split
    · rename_i he
      subst he
      rcases h _ hj with h | h <;> omega
    · exact h j hj
theorem marksOf_bit (fs : List Flt) {i : Nat} (h : i < 8193) : gi (marksOf fs) i = 0 ∨ gi (marksOf fs) i = 1 := by
  refine foldl_tog_bit fs _ (fun j hj => .inl ?_) i (by rw [List.length_replicate]; exact h)
  rw [List.length_replicate] at hj
  unfold gi
  rw [List.getD_eq_getElem?_getD, List.getElem?_replicate, if_pos hj]; rfl

/-- the marked places from a on, n places -/
def posF (ms : List Int) (a n : Nat) : List Int := ((List.range' a n).filter fun i => decide (gi ms i = 1)).map fun (i : Nat) => (i : Int)
theorem posF_succ (ms : List Int) (a n : Nat) : posF ms a (n + 1) = posF ms a n ++ (if gi ms (a + n) = 1 then [((a + n : Nat) : Int)] else []) := by
  unfold posF
  rw [List.range'_concat, List.filter_append, List.map_append]
  congr 1
  rw [Nat.one_mul]
  by_cases h : gi ms (a + n) = 1 <;> simp [h]
theorem posF_zero (ms : List Int) (a : Nat) : posF ms a 0 = [] := by simp [posF]
theorem posF_split (ms : List Int) (p n : Nat) (h : p < n) : posF ms 0 n = posF ms 0 p ++ ((if gi ms p = 1 then [(p : Int)] else []) ++ posF ms (p + 1) (n - (p + 1))) := by
  obtain ⟨m, rfl⟩ : ∃ m, n = p + 1 + m := ⟨n - (p + 1), by omega⟩
  rw [show p + 1 + m - (p + 1) = m from by omega]
  have h1 : List.range' 0 (p + 1 + m) = List.range' 0 (p + 1) ++ List.range' (p + 1) m := by
    rw [← List.range'_append_1, Nat.zero_add]
  have h2 : posF ms 0 (p + 1 + m) = posF ms 0 (p + 1) ++ posF ms (p + 1) m := by
    unfold posF
    rw [h1, List.filter_append, List.map_append]
  rw [h2, posF_succ, List.append_assoc, Nat.zero_add]
theorem posF_congr {ms ms' : List Int} {a n : Nat} (h : ∀ i, a ≤ i → i < a + n → gi ms i = gi ms' i) : posF ms a n = posF ms' a n := by
  unfold posF
  congr 1
  apply List.filter_congr
  intro i hi
  rw [List.mem_range'_1] at hi
  rw [h i hi.1 hi.2]
theorem posF_lt {ms : List Int} {a n : Nat} {z : Int} (h : z ∈ posF ms a n) : (a : Int) ≤ z ∧ z < (a : Int) + (n : Int) := by
  unfold posF at h
  obtain ⟨i, hi, rfl⟩ := List.mem_map.1 h
  have := (List.mem_filter.1 hi).1
  rw [List.mem_range'_1] at this
  omega
theorem posF_len (ms : List Int) (a n : Nat) : (posF ms a n).length ≤ n := by
  unfold posF
  rw [List.length_map]
  exact Nat.le_trans (List.length_filter_le _ _) (by simp)
/-- the places behind one turn more -/
theorem posF_tog {ms : List Int} {p n : Nat} (hp : p < n) (hn : n ≤ ms.length) (hb : gi ms p = 0 ∨ gi ms p = 1) :
    posF (togM ms p) 0 n = posF ms 0 p ++ ((if gi ms p = 1 then [] else [(p : Int)]) ++ posF ms (p + 1) (n - (p + 1))) := by
  rw [posF_split _ p n hp, togM_gi (by omega), if_pos rfl]
  have e1 : posF (togM ms p) 0 p = posF ms 0 p := posF_congr fun i _ h2 => by rw [togM_gi (by omega), if_neg (by omega)]
  have e2 : posF (togM ms p) (p + 1) (n - (p + 1)) = posF ms (p + 1) (n - (p + 1)) := posF_congr fun i h1 h2 => by rw [togM_gi (by omega), if_neg (by omega)]
  rw [e1, e2]
  rcases hb with h | h <;> rw [h] <;> rfl
def allFl (fs : List Flt) : Bool := fs.all fun f => decide (f.kd = 1)
theorem allFl_take {fs : List Flt} {k : Nat} (hk : k < fs.length) : allFl (fs.take (k + 1)) = (allFl (fs.take k) && decide ((ge fs k).kd = 1)) := by
  rw [take_ge hk]; simp [allFl]
theorem allFl_no {fs : List Flt} {k : Nat} (hk : k < fs.length) (h : (ge fs k).kd ≠ 1) : allFl fs = false := by
  refine Bool.eq_false_iff.2 fun ht => ?_
  have := List.all_eq_true.1 ht (ge fs k) (mem_ge hk)
  simp [h] at this

namespace FlipsOf
def res (fs : List Flt) : List Int := if isScript fs = true ∧ allFl fs = true then posF (marksOf fs) 0 8193 else []
def cod (fs : List Flt) : Int := if isScript fs then (if allFl fs then 0 else 5) else 2
theorem res_len (fs : List Flt) : (res fs).length ≤ 8193 := by
  unfold res
  split
  · exact posF_len _ _ _
  · simp
end FlipsOf
end Go.Proofs.Ytlfbmedgkkfalaa
