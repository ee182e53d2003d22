/- Walks, laws and small notions for the claims of this seat, several texts as one (FaultS, Script). Conditions: as each theorem states them. -/
import Derived.Test.YtojmikalnalfbaaGreatDoorB2
import Derived.Test.YtojmikalnalfbaaGreatDoorB1
import Derived.Deep.RegionHeld3
namespace Go.Proofs.YtojmikalnalfbaaGreatDoor
open Go.RowKit

theorem infoFault : (Tryz.prog.info? 26).map (fun i => (i.zero, i.size, i.bytes)) = some (some (.agg #[.int .i64 0, .int .i64 0, .int .i64 0, .int .i64 0]), 4, 32) := by kernel_rfl

/-- what szFaultS answers -/
def szF (n : Nat) (left : Int) : Int := if left - (n : Int) < 0 then -1 else left - (n : Int)
theorem szF_neg {n : Nat} (h : ¬ n ≤ 1048576) : szF n 1048576 = -1 := by unfold szF; rw [if_pos (by omega)]
theorem szF_pos {n : Nat} (h : n ≤ 1048576) : szF n 1048576 = 1048576 - (n : Int) := by unfold szF; rw [if_neg (by omega)]

end Go.Proofs.YtojmikalnalfbaaGreatDoor

namespace Go.Proofs.YtojmikalnalfbaaGreatDoor
open Go.RowKit

def allF (fs : List Flt) : Bool := fs.all isFault
def isScript (fs : List Flt) : Bool := decide (fs.length ≤ 30) && allF fs
theorem allF_take {fs : List Flt} {k : Nat} (hk : k < fs.length) : allF (fs.take (k + 1)) = (allF (fs.take k) && isFault (ge fs k)) := by
  rw [take_ge hk]; simp [allF]
theorem allF_no {fs : List Flt} {k : Nat} (hk : k < fs.length) (h : isFault (ge fs k) = false) : allF fs = false := by
  refine Bool.eq_false_iff.2 fun ht => ?_
  have := List.all_eq_true.1 ht (ge fs k) (mem_ge hk)
  rw [h] at this; cases this
theorem allF_ge {fs : List Flt} (h : allF fs = true) {k : Nat} (hk : k < fs.length) : isFault (ge fs k) = true := List.all_eq_true.1 h (ge fs k) (mem_ge hk)

set_option maxHeartbeats 1000000 in
theorem sIsScript_any (A : Option Addr) (n c : Nat) (fs : List Flt) (w : World) (h : RE encF 4 w w.heap.size A n fs) (hn : n ≤ 1099511627776) :
    Calls Tryz.prog 28 #[.slice A n c] w (RetV w (.bool (isScript fs))) := by
  have L := Lib.hid h.len
  go_enter Tryz.func28, Tryz.ntmps28
  go_wp2
  go_loopw [3] (fun i wr => ∃ k : Nat, k ≤ n ∧ i = .int .i64 k ∧ allF (fs.take k) = true ∧ Below w.heap.size w wr) (fun i _ => n - (intOf i).toNat)
  case atStart => exact ⟨0, Nat.zero_le _, rfl, rfl, Below.refl _ _⟩
  case round =>
    obtain ⟨k, hk, rfl, hall, hb⟩ := hrel
    have Hall := Lib.hid hall
    clear hall
    by_cases hlt : k < n
    · obtain ⟨b, o, rfl, hbl, hc⟩ := (h.below hb (Nat.le_refl _)).get (by omega)
      have hc0 := hc k hlt 0 _ rfl
      have hc1 := hc k hlt 1 _ rfl
      have hc2 := hc k hlt 2 _ rfl
      have hc3 := hc k hlt 3 _ rfl
      clear hc
      rw [Nat.add_zero] at hc0
      rcases bool_cases (isFault (ge fs k)) with hf | hf
      all_goals
        have HF := Lib.hid hf
        go_wp2_with fail
        refine (sIsFault_any _ _ _ _ _).mono ?_
        rw [show isFault ⟨(ge fs k).kd, (ge fs k).pos, (ge fs k).len, (ge fs k).val⟩ = _ from hf]
        clear hf
        rintro e w1 ⟨rfl, hb1⟩
        have hb1' := below_next hb1 hb (Nat.le_refl _)
      · go_wp2
        go_roundw
        case rel => exact ⟨k + 1, by omega, by go_num, by rw [allF_take (by rw [L.out]; exact hlt), Hall.out, HF.out]; rfl, hb1'⟩
        case measure => simp [intOf]; omega
      · go_wp2
        go_ret
        exact ⟨ret_bool (by unfold isScript; rw [allF_no (by rw [L.out]; exact hlt) HF.out]; simp), hb1'⟩
    · have hkn : k = n := by omega
      have hz : allF fs = true := by have := Hall.out; rwa [List.take_of_length_le (by rw [h.len]; omega)] at this
      have Hz := Lib.hid hz
      clear hz hkn
      by_cases hl : n ≤ 30
      all_goals
        go_wp2
        go_ret
        exact ⟨ret_bool (by unfold isScript; rw [Hz.out, L.out]; simp; omega), hb⟩

set_option maxHeartbeats 1000000 in
theorem notFault_any (k p l v : Int) (w : World) :
    Calls Tryz.prog 74 #[.agg #[.int .i64 k, .int .i64 p, .int .i64 l, .int .i64 v]] w (RetV w (.bool (!isFault ⟨k, p, l, v⟩))) := by
  go_enter Tryz.func74, Tryz.ntmps74
  go_wp2_with fail
  refine (iIsFault_any _ _ _ _ _).mono ?_
  rintro e w1 ⟨rfl, hb1⟩
  go_wp2
  go_ret
  exact ⟨rfl, below_next hb1 (below_alloc (Below.refl _ _) (Nat.le_refl _) _) (Nat.le_refl _)⟩

set_option maxHeartbeats 1000000 in
theorem indexNot_any (A : Option Addr) (n c : Nat) (fs : List Flt) (w : World) (h : RE encF 4 w w.heap.size A n fs) (hn : n ≤ 1099511627776) :
    Calls Tryz.prog 84 #[.slice A n c, .func (.func 74) #[] #[]] w fun e w' => ∃ z : Int, e = .returned (.int .i64 z) ∧ decide (0 ≤ z) = (!allF fs) ∧ Below w.heap.size w w' := by
  have L := Lib.hid h.len
  go_enter Tryz.func84, Tryz.ntmps84
  go_wp2
  go_loopw [5, 8] (fun _ i wr => ∃ k : Nat, k ≤ n ∧ i = .int .i64 k ∧ allF (fs.take k) = true ∧ Below w.heap.size w wr) (fun _ i _ => n - (intOf i).toNat)
  case atStart => exact ⟨0, Nat.zero_le _, rfl, rfl, Below.refl _ _⟩
  case round =>
    obtain ⟨k, hk, rfl, hall, hb⟩ := hrel
    have Hall := Lib.hid hall
    clear hall
    by_cases hlt : k < n
    · obtain ⟨b, o, rfl, hbl, hc⟩ := (h.below hb (Nat.le_refl _)).get (by omega)
      have hc0 := hc k hlt 0 _ rfl
      have hc1 := hc k hlt 1 _ rfl
      have hc2 := hc k hlt 2 _ rfl
      have hc3 := hc k hlt 3 _ rfl
      clear hc
      rw [Nat.add_zero] at hc0
      rcases bool_cases (isFault (ge fs k)) with hf | hf
      all_goals
        have HF := Lib.hid hf
        go_wp2_with fail
        refine (notFault_any _ _ _ _ _).mono ?_
        rw [show isFault ⟨(ge fs k).kd, (ge fs k).pos, (ge fs k).len, (ge fs k).val⟩ = _ from hf]
        clear hf
        rintro e w1 ⟨rfl, hb1⟩
        have hb1' := below_next hb1 hb (Nat.le_refl _)
      · go_wp2
        go_roundw
        case rel => exact ⟨k + 1, by omega, by go_num, by rw [allF_take (by rw [L.out]; exact hlt), Hall.out, HF.out]; rfl, hb1'⟩
        case measure => simp [intOf]; omega
      · go_wp2
        go_ret
        exact ⟨(k : Int), rfl, by rw [allF_no (by rw [L.out]; exact hlt) HF.out]; simp, hb1'⟩
    · have hkn : k = n := by omega
      have hz : allF fs = true := by have := Hall.out; rwa [List.take_of_length_le (by rw [h.len]; omega)] at this
      have Hz := Lib.hid hz
      clear hz hkn
      go_wp2
      go_ret
      exact ⟨-1, rfl, by rw [Hz.out]; rfl, hb⟩

set_option maxHeartbeats 1000000 in
theorem containsNot_any (A : Option Addr) (n c : Nat) (fs : List Flt) (w : World) (h : RE encF 4 w w.heap.size A n fs) (hn : n ≤ 1099511627776) :
    Calls Tryz.prog 73 #[.slice A n c, .func (.func 74) #[] #[]] w (RetV w (.bool (!allF fs))) := by
  go_enter Tryz.func73, Tryz.ntmps73
  go_wp2_with fail
  refine (indexNot_any A n c fs w h hn).mono ?_
  rintro e w1 ⟨z, rfl, hz, hb1⟩
  have HZ := Lib.hid hz
  clear hz
  go_wp2
  go_ret
  exact ⟨ret_bool HZ.out, hb1⟩

set_option maxHeartbeats 1000000 in
theorem iIsScript_any (A : Option Addr) (n c : Nat) (fs : List Flt) (w : World) (h : RE encF 4 w w.heap.size A n fs) (hn : n ≤ 1099511627776) :
    Calls Tryz.prog 52 #[.slice A n c] w (RetV w (.bool (isScript fs))) := by
  have L := Lib.hid h.len
  by_cases hl : n ≤ 30
  · go_enter Tryz.func52, Tryz.ntmps52
    go_wp2_with fail
    refine (containsNot_any A n c fs w h hn).mono ?_
    rintro e w1 ⟨rfl, hb1⟩
    go_wp2
    go_ret
    exact ⟨ret_bool (by unfold isScript; rw [L.out]; simp [hl]), hb1⟩
  · have hd : decide ((n : Int) ≤ 30) = false := by simp; omega
    go_enter Tryz.func52, Tryz.ntmps52
    go_wp2
    go_ret
    exact ⟨ret_bool (by unfold isScript; rw [L.out]; simp [hl]), Below.refl _ _⟩

/-- what CountSlips answers -/
def slipOf (f : Flt) : Int := if f.kd = 4 then f.len else if f.kd = 3 then - f.len else 0
def sumTo (fs : List Flt) : Int := (fs.map slipOf).sum
theorem sum_take {fs : List Flt} {k : Nat} (hk : k < fs.length) : sumTo (fs.take (k + 1)) = sumTo (fs.take k) + slipOf (ge fs k) := by
  rw [take_ge hk]; simp [sumTo]
theorem slip_bd {f : Flt} (h : isFault f = true) : -8192 ≤ slipOf f ∧ slipOf f ≤ 8192 := by
  unfold isFault at h
  simp only [Bool.and_eq_true] at h
  have h3 := h.2.2.1
  unfold slipOf
  unfold hasLen at h3
  split at h3
  · have := inR_iff.1 h3
    split
    · omega
    · split <;> omega
  · simp at h3
    rw [h3]
    split
    · omega
    · split <;> omega
theorem sum_bd {fs : List Flt} (h : allF fs = true) : -8192 * (fs.length : Int) ≤ sumTo fs ∧ sumTo fs ≤ 8192 * (fs.length : Int) := by
  induction fs with
  | nil => simp [sumTo]
  | cons f fs ih =>
    simp only [allF, List.all_cons, Bool.and_eq_true] at h
    have h1 := slip_bd h.1
    have h2 := ih h.2
    have e : sumTo (f :: fs) = slipOf f + sumTo fs := by simp [sumTo]
    rw [e, List.length_cons]
    omega
namespace CountSlips
def val (fs : List Flt) : Int := if isScript fs then sumTo fs else 0
def cod (fs : List Flt) : Int := if isScript fs then 0 else 2

end CountSlips
end Go.Proofs.YtojmikalnalfbaaGreatDoor
