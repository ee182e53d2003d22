/- The walks of the codes of a list and a script, of the program and the reference. Conditions: lists of at most 2^40 numbers. -/
import Derived.Test.YtlfbmedgkkfalaaScript
namespace Go.Proofs.Ytlfbmedgkkfalaa
open Go.RowKit

/-- the code of a list and a script -/
def bsCode (zs : List Int) (fs : List Flt) : Int := if isBits zs then (if isScript fs then 0 else 2) else 1

set_option maxHeartbeats 1000000 in
theorem scriptCode_any (A B : Option Addr) (n c m d : Nat) (zs : List Int) (fs : List Flt) (w : World) (h : RI w w.heap.size A n zs) (hn : n ≤ 1099511627776) (hf : RE encF 4 w w.heap.size B m fs) (hm : m ≤ 1099511627776) :
    Calls Try.prog 172 #[.slice A n c, .slice B m d] w (RetV w (.int .i64 (bsCode zs fs))) := by
  rcases bool_cases (isBits zs) with hz | hz
  case inr =>
    have E := Lib.hid (show bsCode zs fs = 1 from by simp [bsCode, hz])
    go_enter Try.func172, Try.ntmps172
    go_wp2_with (go_at_call 155; refine (iIsBits_any _ _ _ _ _ h hn).mono ?_; rintro e w' ⟨rfl, rfl⟩)
    go_ret
    exact ⟨ret_int E.out.symm, by go_grown⟩
  rcases bool_cases (isScript fs) with hs | hs
  all_goals
    go_enter Try.func172, Try.ntmps172
    go_wp2_with (go_at_call 155; refine (iIsBits_any _ _ _ _ _ h hn).mono ?_; rintro e w' ⟨rfl, rfl⟩)
    refine (iIsScript_any B m d fs w hf hm).mono ?_
    rw [hs]
    rintro e w1 ⟨rfl, hb1⟩
    go_wp2
    go_ret
    exact ⟨ret_int (by simp [bsCode, hz, hs]), hb1⟩

set_option maxHeartbeats 1000000 in
theorem l26Code_any (A B : Option Addr) (n c m d : Nat) (zs : List Int) (fs : List Flt) (w : World) (h : RI w w.heap.size A n zs) (hn : n ≤ 1099511627776) (hf : RE encF 4 w w.heap.size B m fs) (hm : m ≤ 1099511627776) :
    Calls Try.prog 173 #[.slice A n c, .slice B m d] w (RetV w (.int .i64 (bsCode zs fs))) := by
  rcases bool_cases (isBits zs) with hz | hz
  case inr =>
    have E := Lib.hid (show bsCode zs fs = 1 from by simp [bsCode, hz])
    go_enter Try.func173, Try.ntmps173
    go_wp2_with (go_at_call 154; refine (sIsBits_any _ _ _ _ _ h hn).mono ?_; rintro e w' ⟨rfl, rfl⟩)
    go_ret
    exact ⟨ret_int E.out.symm, by go_grown⟩
  rcases bool_cases (isScript fs) with hs | hs
  all_goals
    go_enter Try.func173, Try.ntmps173
    go_wp2_with (go_at_call 154; refine (sIsBits_any _ _ _ _ _ h hn).mono ?_; rintro e w' ⟨rfl, rfl⟩)
    refine (sIsScript_any B m d fs w hf hm).mono ?_
    rw [hs]
    rintro e w1 ⟨rfl, hb1⟩
    go_wp2
    go_ret
    exact ⟨ret_int (by simp [bsCode, hz, hs]), hb1⟩

/-- is a fault an inversion of whole cells -/
def cellF (f : Flt) : Bool := decide (f.kd = 2) && (decide (f.pos % 8 = 0) && decide (f.len % 8 = 0))
def allC (fs : List Flt) : Bool := fs.all cellF
theorem allC_take {fs : List Flt} {k : Nat} (hk : k < fs.length) : allC (fs.take (k + 1)) = (allC (fs.take k) && cellF (ge fs k)) := by
  rw [take_ge hk]; simp [allC]
theorem allC_no {fs : List Flt} {k : Nat} (hk : k < fs.length) (h : cellF (ge fs k) = false) : allC fs = false := by
  refine Bool.eq_false_iff.2 fun ht => ?_
  have := List.all_eq_true.1 ht (ge fs k) (mem_ge hk)
  rw [h] at this; cases this
/-- is cell k inverted by a fault; how often by a script -/
def hit (f : Flt) (k : Nat) : Bool := inR (8 * (k : Int)) f.pos (f.pos + f.len - 1)
def hits (fs : List Flt) (k : Nat) : Nat := (fs.filter fun f => hit f k).length
theorem hits_take {fs : List Flt} {j : Nat} (hj : j < fs.length) (k : Nat) : hits (fs.take (j + 1)) k = hits (fs.take j) k + (if hit (ge fs j) k then 1 else 0) := by
  rw [take_ge hj]
  unfold hits
  rw [List.filter_append, List.length_append]
  by_cases h : hit (ge fs j) k = true
  · simp [h]
  · simp [h]
/-- is a cell wrong -/
def odd (fs : List Flt) (k : Nat) : Bool := decide (hits fs k % 2 = 1)
/-- the wrong cells below k -/
def wrongTo (fs : List Flt) : Nat → List Int
  | 0 => []
  | k + 1 => wrongTo fs k ++ (if odd fs k then [(k : Int)] else [])
theorem wrongTo_yes {fs : List Flt} {k : Nat} (h : odd fs k = true) : wrongTo fs (k + 1) = wrongTo fs k ++ [(k : Int)] := by simp [wrongTo, h]
theorem wrongTo_no {fs : List Flt} {k : Nat} (h : odd fs k = false) : wrongTo fs (k + 1) = wrongTo fs k := by simp [wrongTo, h]
theorem wrongTo_len (fs : List Flt) (k : Nat) : (wrongTo fs k).length ≤ k := by
  induction k with
  | zero => simp [wrongTo]
  | succ k ih => unfold wrongTo; split <;> simp <;> omega
namespace CellErrors
def res (zs : List Int) (fs : List Flt) : List Int := if bsCode zs fs = 0 ∧ allC fs = true then wrongTo fs (zs.length / 8) else []
def cod (zs : List Int) (fs : List Flt) : Int := if bsCode zs fs = 0 then (if allC fs then 0 else 5) else bsCode zs fs
theorem res_len (zs : List Int) (fs : List Flt) : (res zs fs).length ≤ zs.length := by
  unfold res; split
  · have := wrongTo_len fs (zs.length / 8)
    omega
  · simp
end CellErrors
end Go.Proofs.Ytlfbmedgkkfalaa
