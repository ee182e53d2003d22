/- Walks, laws and small notions for the claims of this seat, several texts as one (FaultS, Script). Conditions: as each theorem states them. -/
import Derived.Test.YtojmikalnalfbaaDoorB2
import Derived.Test.YtojmikalnalfbaaDoorB1
import Derived.Deep.RegionHeld3
namespace Go.Proofs.YtojmikalnalfbaaDoor
open Go.RowKit

theorem infoFault : (Tryd.prog.info? 25).map (fun i => (i.zero, i.size, i.bytes)) = some (some (.agg #[.int .i64 0, .int .i64 0, .int .i64 0, .int .i64 0]), 4, 32) := by kernel_rfl

/-- what szFaultS answers -/
def szF (n : Nat) (left : Int) : Int := if left - (n : Int) < 0 then -1 else left - (n : Int)
theorem szF_neg {n : Nat} (h : ¬ n ≤ 1048576) : szF n 1048576 = -1 := by unfold szF; rw [if_pos (by omega)]
theorem szF_pos {n : Nat} (h : n ≤ 1048576) : szF n 1048576 = 1048576 - (n : Int) := by unfold szF; rw [if_neg (by omega)]

set_option maxHeartbeats 1000000 in
theorem szFaultS_any (A : Option Addr) (n c : Nat) (left : Int) (w : World) (hn : n ≤ maxLen) (h1 : 0 ≤ left) (h2 : left ≤ 1099511627776) :
    Calls Tryd.prog 10 #[.slice A n c, .int .i64 left] w fun e w' => e = .returned (.int .i64 (szF n left)) ∧ w = w' := by
  unfold maxLen at hn
  by_cases h : left - (n : Int) < 0
  all_goals
    go_enter Tryd.func10, Tryd.ntmps10
    go_wp2
    go_ret
    exact ⟨ret_int (by unfold szF; first | rw [if_pos h] | rw [if_neg (by omega)]), rfl⟩

set_option maxHeartbeats 1000000 in
theorem toFaultS_any (A : Option Addr) (n c : Nat) (fs : List Flt) (w : World) (h : RE encF 4 w w.heap.size A n fs) (hn : n ≤ 1099511627776) :
    Calls Tryd.prog 12 #[.slice A n c] w (RetE encF 4 25 w n fs) := by
  have L := Lib.hid h.len
  go_enter Tryd.func12, Tryd.ntmps12
  go_wp2_with (at_make; refine wpl_makeE encF 4 _ default Tryd.underlying31 infoFault rfl rfl (by omega) (by omega) rfl _ _ rfl n rfl rfl hn ?_; intro w1 hown1 hg1)
  have hb1 : Below w.heap.size w w1 := (Below.refl _ _).grown hg1 (Nat.le_refl _) (fun _ e => by cases e)
  have hz1 : w.heap.size < w1.heap.size := (hown1.row w.heap.size rfl).2
  clear hg1
  have O1 := Lib.hid hown1
  clear hown1
  go_loopw [4] (fun i wr => ∃ k : Nat, k ≤ n ∧ i = .int .i64 k ∧ OwnE encF 4 25 wr w.heap.size (some ⟨w.heap.size, 0, none⟩) n n (fillToE default fs n k) ∧ Below w.heap.size w wr) (fun i _ => n - (intOf i).toNat)
  case atStart => exact ⟨0, Nat.zero_le _, rfl, by rw [fillToE_zero]; exact O1.out, hb1⟩
  case round =>
    obtain ⟨k, hk, rfl, hown, hb⟩ := hrel
    by_cases hlt : k < n
    · obtain ⟨b, o, rfl, hbl, hc⟩ := (h.below hb (Nat.le_refl _)).get (by omega)
      have hc0 := hc k hlt 0 _ rfl
      have hc1 := hc k hlt 1 _ rfl
      have hc2 := hc k hlt 2 _ rfl
      have hc3 := hc k hlt 3 _ rfl
      rw [Nat.add_zero] at hc0
      clear hc
      go_wp2_with fail
      refine (toFault_any _ _ _ _ _).mono ?_
      rintro e w2 ⟨rfl, hb2⟩
      have hown2 := hown.below hb2
      have hfr := hown2.frozen
      have ho0 := hown2.cell encF_len hlt (j := 0) (by omega)
      have ho1 := hown2.cell encF_len hlt (j := 1) (by omega)
      have ho2 := hown2.cell encF_len hlt (j := 2) (by omega)
      have ho3 := hown2.cell encF_len hlt (j := 3) (by omega)
      simp only [encF, Nat.add_zero, List.getElem?_cons_zero, List.getElem?_cons_succ] at ho0 ho1 ho2 ho3
      go_wp2
      go_roundw
      case rel =>
        have hx := fillToE_ge (x0 := default) h.len hlt
        have s1 := hown2.stored encF_len k 0 (.int .i64 (ge fs k).kd) ⟨(ge fs k).kd, 0, 0, 0⟩ hlt (by omega) (by rw [hx]; rfl)
        have s2 := s1.1.stored encF_len k 1 (.int .i64 (ge fs k).pos) ⟨(ge fs k).kd, (ge fs k).pos, 0, 0⟩ hlt (by omega) (by rw [ge_set_self (by rw [hown2.len]; exact hlt)]; rfl)
        have s3 := s2.1.stored encF_len k 2 (.int .i64 (ge fs k).len) ⟨(ge fs k).kd, (ge fs k).pos, (ge fs k).len, 0⟩ hlt (by omega) (by rw [ge_set_self (by rw [s1.1.len]; exact hlt)]; rfl)
        have s4 := s3.1.stored encF_len k 3 (.int .i64 (ge fs k).val) (ge fs k) hlt (by omega) (by rw [ge_set_self (by rw [s2.1.len]; exact hlt)]; rfl)
        have s5 := s4.1
        rw [List.set_set, List.set_set, List.set_set, fillToE_set h.len hlt, Nat.add_zero] at s5
        exact ⟨k + 1, by omega, by go_num, s5, ((((below_next hb2 hb (Nat.le_refl _)).setCell (Nat.le_refl _) _).setCell (Nat.le_refl _) _).setCell (Nat.le_refl _) _).setCell (Nat.le_refl _) _⟩
      case measure => simp [intOf]; omega
    · have hkn : k = n := by omega
      have HK := Lib.hid hkn
      clear hkn
      go_wp2
      go_ret
      have := HK.out
      subst this
      rw [fillToE_all L.out] at hown
      exact ⟨_, _, rfl, hown, hb⟩

set_option maxHeartbeats 1000000 in
theorem eqFault_self (k p l v : Int) (w : World) :
    Calls Tryd.prog 17 #[.agg #[.int .i64 k, .int .i64 p, .int .i64 l, .int .i64 v], .agg #[.int .i64 k, .int .i64 p, .int .i64 l, .int .i64 v]] w (RetV w (.bool true)) := by
  go_enter Tryd.func17, Tryd.ntmps17
  go_wp2
  go_ret
  exact ⟨rfl, by go_grown⟩

set_option maxHeartbeats 1000000 in
theorem eqFaultS_self (A A' : Option Addr) (n n' c c' : Nat) (fs : List Flt) (w : World) (hx : RE encF 4 w w.heap.size A n fs) (hy : RE encF 4 w w.heap.size A' n' fs) (hn : n ≤ 1099511627776) :
    Calls Tryd.prog 14 #[.slice A n c, .slice A' n' c'] w (RetV w (.bool true)) := by
  obtain rfl : n' = n := by rw [← hx.len, ← hy.len]
  have L := Lib.hid hx.len
  go_enter Tryd.func14, Tryd.ntmps14
  go_wp2
  go_loopw [5] (fun i wr => ∃ k : Nat, k ≤ n' ∧ i = .int .i64 k ∧ Below w.heap.size w wr) (fun i _ => n' - (intOf i).toNat)
  case atStart => exact ⟨0, Nat.zero_le _, rfl, Below.refl _ _⟩
  case round =>
    obtain ⟨k, hk, rfl, hb⟩ := hrel
    by_cases hlt : k < n'
    · obtain ⟨b, o, rfl, _, hc⟩ := (hx.below hb (Nat.le_refl _)).get (by omega)
      have hc0 := hc k hlt 0 _ rfl
      have hc1 := hc k hlt 1 _ rfl
      have hc2 := hc k hlt 2 _ rfl
      have hc3 := hc k hlt 3 _ rfl
      rw [Nat.add_zero] at hc0
      clear hc
      obtain ⟨b', o', rfl, _, hc⟩ := (hy.below hb (Nat.le_refl _)).get (by omega)
      have hd0 := hc k hlt 0 _ rfl
      have hd1 := hc k hlt 1 _ rfl
      have hd2 := hc k hlt 2 _ rfl
      have hd3 := hc k hlt 3 _ rfl
      rw [Nat.add_zero] at hd0
      clear hc
      go_wp2_with fail
      go_region_with (go_at_call 17; refine (eqFault_self _ _ _ _ _).mono ?_; rintro e w1 ⟨rfl, hb1⟩)
      all_goals
        go_wp2
        go_roundw
        case rel => exact ⟨k + 1, by omega, by go_num, (by first | exact below_next hb1 hb (Nat.le_refl _) | exact below_next_drew hb1 hb (Nat.le_refl _))⟩
        case measure => simp [intOf]; omega
    · have hkn : k = n' := by omega
      have HK := Lib.hid hkn
      clear hkn
      go_wp2
      go_ret
      exact ⟨rfl, hb⟩

set_option maxHeartbeats 4000000 in
theorem markFaultS_any (A : Option Addr) (n c base : Nat) (fs : List Flt) (q : Int) (w : World) (h : OwnE encF 4 25 w base A n c fs) (hn : n ≤ 1099511627776) (hq : 0 ≤ q) (hq2 : q ≤ 1099511627776) :
    Calls Tryd.prog 20 #[.slice A n c, .int .i64 q] w fun e w' => e = .returned (.int .i64 (q + 4 * n)) ∧ OwnE encF 4 25 w' base A n c (marksF q n) ∧ w.grownBy w' (Value.slice A n c).ownBlock := by
  have L := Lib.hid h.len
  go_enter Tryd.func20, Tryd.ntmps20
  go_wp2
  go_loopw [1, 5] (fun j i wr => ∃ k : Nat, k ≤ n ∧ i = .int .i64 k ∧ j = .int .i64 (q + 4 * k) ∧ OwnE encF 4 25 wr base A n c (markToF fs q k) ∧ w.grownBy wr (Value.slice A n c).ownBlock) (fun _ i _ => n - (intOf i).toNat)
  case atStart => exact ⟨0, Nat.zero_le _, rfl, by go_num, by rw [markToF_zero]; exact h, World.grownBy.refl _ _⟩
  case round =>
    obtain ⟨k, hk, rfl, rfl, hown, hg⟩ := hrel
    by_cases hlt : k < n
    · obtain ⟨g, rfl, _, _⟩ := hown.form (by omega)
      have hfr := hown.frozen
      have ho0 := hown.cell encF_len hlt (j := 0) (by omega)
      have ho1 := hown.cell encF_len hlt (j := 1) (by omega)
      have ho2 := hown.cell encF_len hlt (j := 2) (by omega)
      have ho3 := hown.cell encF_len hlt (j := 3) (by omega)
      simp only [encF, Nat.add_zero, List.getElem?_cons_zero, List.getElem?_cons_succ] at ho0 ho1 ho2 ho3
      go_wp2
      go_roundw
      case rel =>
        have s1 := hown.stored encF_len k 0 (.int .i64 (q + 4 * k)) ⟨q + 4 * k, (ge (markToF fs q k) k).pos, (ge (markToF fs q k) k).len, (ge (markToF fs q k) k).val⟩ hlt (by omega) rfl
        have s2 := s1.1.stored encF_len k 1 (.int .i64 (q + 4 * k + 1)) ⟨q + 4 * k, q + 4 * k + 1, (ge (markToF fs q k) k).len, (ge (markToF fs q k) k).val⟩ hlt (by omega) (by rw [ge_set_self (by rw [hown.len]; exact hlt)]; rfl)
        have s3 := s2.1.stored encF_len k 2 (.int .i64 (q + 4 * k + 1 + 1)) ⟨q + 4 * k, q + 4 * k + 1, q + 4 * k + 1 + 1, (ge (markToF fs q k) k).val⟩ hlt (by omega) (by rw [ge_set_self (by rw [s1.1.len]; exact hlt)]; rfl)
        have s4 := s3.1.stored encF_len k 3 (.int .i64 (q + 4 * k + 1 + 1 + 1)) (mkF (q + 4 * k)) hlt (by omega) (by rw [ge_set_self (by rw [s2.1.len]; exact hlt)]; rfl)
        have s5 := s4.1
        have t5 := grown_tr (grown_tr (grown_tr (grown_tr hg s1.2) s2.2) s3.2) s4.2
        rw [List.set_set, List.set_set, List.set_set, markToF_set L.out hlt, Nat.add_zero] at s5
        rw [Nat.add_zero] at t5
        exact ⟨k + 1, by omega, by go_num, by congr 1; omega, s5, t5⟩
      case measure => simp [intOf]; omega
    · have hkn : k = n := by omega
      have HK := Lib.hid hkn
      clear hkn
      go_wp2
      go_ret
      have := HK.out
      subst this
      rw [markToF_all L.out] at hown
      exact ⟨rfl, hown, hg⟩

set_option maxHeartbeats 4000000 in
theorem heldFaultS_any (A : Option Addr) (n c : Nat) (q : Int) (w : World) (h : RE encF 4 w w.heap.size A n (marksF q n)) (hn : n ≤ 1099511627776) (hq : 0 ≤ q) (hq2 : q ≤ 1099511627776) :
    Calls Tryd.prog 21 #[.slice A n c, .int .i64 q] w (RetV w (.int .i64 (q + 4 * n))) := by
  go_enter Tryd.func21, Tryd.ntmps21
  go_wp2
  go_loopw [1, 5] (fun j i wr => ∃ k : Nat, k ≤ n ∧ i = .int .i64 k ∧ j = .int .i64 (q + 4 * k) ∧ Below w.heap.size w wr) (fun _ i _ => n - (intOf i).toNat)
  case atStart => exact ⟨0, Nat.zero_le _, rfl, by go_num, Below.refl _ _⟩
  case round =>
    obtain ⟨k, hk, rfl, rfl, hb⟩ := hrel
    by_cases hlt : k < n
    · obtain ⟨b, o, rfl, _, hc⟩ := (h.below hb (Nat.le_refl _)).get (by omega)
      have hc0 := hc k hlt 0 _ rfl
      have hc1 := hc k hlt 1 _ rfl
      have hc2 := hc k hlt 2 _ rfl
      have hc3 := hc k hlt 3 _ rfl
      rw [Nat.add_zero] at hc0
      rw [marksF_ge hlt] at hc0 hc1 hc2 hc3
      dsimp only [mkF] at hc0 hc1 hc2 hc3
      clear hc
      go_wp2
      go_roundw
      case rel => exact ⟨k + 1, by omega, by go_num, by congr 1; omega, hb⟩
      case measure => simp [intOf]; omega
    · have hkn : k = n := by omega
      have HK := Lib.hid hkn
      clear hkn
      go_wp2
      go_ret
      exact ⟨ret_int (by have := HK.out; omega), hb⟩
end Go.Proofs.YtojmikalnalfbaaDoor

namespace Go.Proofs.YtojmikalnalfbaaDoor
open Go.RowKit

def allF (fs : List Flt) : Bool := fs.all isFault
def isScript (fs : List Flt) : Bool := decide (fs.length ≤ 30) && allF fs
theorem allF_take {fs : List Flt} {k : Nat} (hk : k < fs.length) : allF (fs.take (k + 1)) = (allF (fs.take k) && isFault (ge fs k)) := by
  rw [take_ge hk]; simp [allF]
theorem allF_no {fs : List Flt} {k : Nat} (hk : k < fs.length) (h : isFault (ge fs k) = false) : allF fs = false := by
  refine Bool.eq_false_iff.2 fun ht => ?_
  have := List.all_eq_true.1 ht (ge fs k) (mem_ge hk)
  rw [h] at this; cases this
theorem allF_ge {fs : List Flt} (h : allF fs = true) {k : Nat} (hk : k < fs.length) : isFault (ge fs k) = true := List.all_eq_true.1 h (ge fs k) (mem_ge hk)

set_option maxHeartbeats 1000000 in
theorem sIsScript_any (A : Option Addr) (n c : Nat) (fs : List Flt) (w : World) (h : RE encF 4 w w.heap.size A n fs) (hn : n ≤ 1099511627776) :
    Calls Tryd.prog 30 #[.slice A n c] w (RetV w (.bool (isScript fs))) := by
  have L := Lib.hid h.len
  go_enter Tryd.func30, Tryd.ntmps30
  go_wp2
  go_loopw [3] (fun i wr => ∃ k : Nat, k ≤ n ∧ i = .int .i64 k ∧ allF (fs.take k) = true ∧ Below w.heap.size w wr) (fun i _ => n - (intOf i).toNat)
  case atStart => exact ⟨0, Nat.zero_le _, rfl, rfl, Below.refl _ _⟩
  case round =>
    obtain ⟨k, hk, rfl, hall, hb⟩ := hrel
    have Hall := Lib.hid hall
    clear hall
    by_cases hlt : k < n
    · obtain ⟨b, o, rfl, hbl, hc⟩ := (h.below hb (Nat.le_refl _)).get (by omega)
      have hc0 := hc k hlt 0 _ rfl
      have hc1 := hc k hlt 1 _ rfl
      have hc2 := hc k hlt 2 _ rfl
      have hc3 := hc k hlt 3 _ rfl
      clear hc
      rw [Nat.add_zero] at hc0
      rcases bool_cases (isFault (ge fs k)) with hf | hf
      all_goals
        have HF := Lib.hid hf
        go_wp2_with fail
        refine (sIsFault_any _ _ _ _ _).mono ?_
        rw [show isFault ⟨(ge fs k).kd, (ge fs k).pos, (ge fs k).len, (ge fs k).val⟩ = _ from hf]
        clear hf
        rintro e w1 ⟨rfl, hb1⟩
        have hb1' := below_next hb1 hb (Nat.le_refl _)
      · go_wp2
        go_roundw
        case rel => exact ⟨k + 1, by omega, by go_num, by rw [allF_take (by rw [L.out]; exact hlt), Hall.out, HF.out]; rfl, hb1'⟩
        case measure => simp [intOf]; omega
      · go_wp2
        go_ret
        exact ⟨ret_bool (by unfold isScript; rw [allF_no (by rw [L.out]; exact hlt) HF.out]; simp), hb1'⟩
    · have hkn : k = n := by omega
      have hz : allF fs = true := by have := Hall.out; rwa [List.take_of_length_le (by rw [h.len]; omega)] at this
      have Hz := Lib.hid hz
      clear hz hkn
      by_cases hl : n ≤ 30
      all_goals
        go_wp2
        go_ret
        exact ⟨ret_bool (by unfold isScript; rw [Hz.out, L.out]; simp; omega), hb⟩

set_option maxHeartbeats 1000000 in
theorem notFault_any (k p l v : Int) (w : World) :
    Calls Tryd.prog 42 #[.agg #[.int .i64 k, .int .i64 p, .int .i64 l, .int .i64 v]] w (RetV w (.bool (!isFault ⟨k, p, l, v⟩))) := by
  go_enter Tryd.func42, Tryd.ntmps42
  go_wp2_with fail
  refine (iIsFault_any _ _ _ _ _).mono ?_
  rintro e w1 ⟨rfl, hb1⟩
  go_wp2
  go_ret
  exact ⟨rfl, below_next hb1 (below_alloc (Below.refl _ _) (Nat.le_refl _) _) (Nat.le_refl _)⟩

set_option maxHeartbeats 1000000 in
theorem indexNot_any (A : Option Addr) (n c : Nat) (fs : List Flt) (w : World) (h : RE encF 4 w w.heap.size A n fs) (hn : n ≤ 1099511627776) :
    Calls Tryd.prog 51 #[.slice A n c, .func (.func 42) #[] #[]] w fun e w' => ∃ z : Int, e = .returned (.int .i64 z) ∧ decide (0 ≤ z) = (!allF fs) ∧ Below w.heap.size w w' := by
  have L := Lib.hid h.len
  go_enter Tryd.func51, Tryd.ntmps51
  go_wp2
  go_loopw [5, 8] (fun _ i wr => ∃ k : Nat, k ≤ n ∧ i = .int .i64 k ∧ allF (fs.take k) = true ∧ Below w.heap.size w wr) (fun _ i _ => n - (intOf i).toNat)
  case atStart => exact ⟨0, Nat.zero_le _, rfl, rfl, Below.refl _ _⟩
  case round =>
    obtain ⟨k, hk, rfl, hall, hb⟩ := hrel
    have Hall := Lib.hid hall
    clear hall
    by_cases hlt : k < n
    · obtain ⟨b, o, rfl, hbl, hc⟩ := (h.below hb (Nat.le_refl _)).get (by omega)
      have hc0 := hc k hlt 0 _ rfl
      have hc1 := hc k hlt 1 _ rfl
      have hc2 := hc k hlt 2 _ rfl
      have hc3 := hc k hlt 3 _ rfl
      clear hc
      rw [Nat.add_zero] at hc0
      rcases bool_cases (isFault (ge fs k)) with hf | hf
      all_goals
        have HF := Lib.hid hf
        go_wp2_with fail
        refine (notFault_any _ _ _ _ _).mono ?_
        rw [show isFault ⟨(ge fs k).kd, (ge fs k).pos, (ge fs k).len, (ge fs k).val⟩ = _ from hf]
        clear hf
        rintro e w1 ⟨rfl, hb1⟩
        have hb1' := below_next hb1 hb (Nat.le_refl _)
      · go_wp2
        go_roundw
        case rel => exact ⟨k + 1, by omega, by go_num, by rw [allF_take (by rw [L.out]; exact hlt), Hall.out, HF.out]; rfl, hb1'⟩
        case measure => simp [intOf]; omega
      · go_wp2
        go_ret
        exact ⟨(k : Int), rfl, by rw [allF_no (by rw [L.out]; exact hlt) HF.out]; simp, hb1'⟩
    · have hkn : k = n := by omega
      have hz : allF fs = true := by have := Hall.out; rwa [List.take_of_length_le (by rw [h.len]; omega)] at this
      have Hz := Lib.hid hz
      clear hz hkn
      go_wp2
      go_ret
      exact ⟨-1, rfl, by rw [Hz.out]; rfl, hb⟩

set_option maxHeartbeats 1000000 in
theorem containsNot_any (A : Option Addr) (n c : Nat) (fs : List Flt) (w : World) (h : RE encF 4 w w.heap.size A n fs) (hn : n ≤ 1099511627776) :
    Calls Tryd.prog 41 #[.slice A n c, .func (.func 42) #[] #[]] w (RetV w (.bool (!allF fs))) := by
  go_enter Tryd.func41, Tryd.ntmps41
  go_wp2_with fail
  refine (indexNot_any A n c fs w h hn).mono ?_
  rintro e w1 ⟨z, rfl, hz, hb1⟩
  have HZ := Lib.hid hz
  clear hz
  go_wp2
  go_ret
  exact ⟨ret_bool HZ.out, hb1⟩

set_option maxHeartbeats 1000000 in
theorem iIsScript_any (A : Option Addr) (n c : Nat) (fs : List Flt) (w : World) (h : RE encF 4 w w.heap.size A n fs) (hn : n ≤ 1099511627776) :
    Calls Tryd.prog 31 #[.slice A n c] w (RetV w (.bool (isScript fs))) := by
  have L := Lib.hid h.len
  by_cases hl : n ≤ 30
  · go_enter Tryd.func31, Tryd.ntmps31
    go_wp2_with fail
    refine (containsNot_any A n c fs w h hn).mono ?_
    rintro e w1 ⟨rfl, hb1⟩
    go_wp2
    go_ret
    exact ⟨ret_bool (by unfold isScript; rw [L.out]; simp [hl]), hb1⟩
  · have hd : decide ((n : Int) ≤ 30) = false := by simp; omega
    go_enter Tryd.func31, Tryd.ntmps31
    go_wp2
    go_ret
    exact ⟨ret_bool (by unfold isScript; rw [L.out]; simp [hl]), Below.refl _ _⟩

/-- what CountSlips answers -/
def slipOf (f : Flt) : Int := if f.kd = 4 then f.len else if f.kd = 3 then - f.len else 0
def sumTo (fs : List Flt) : Int := (fs.map slipOf).sum
theorem sum_take {fs : List Flt} {k : Nat} (hk : k < fs.length) : sumTo (fs.take (k + 1)) = sumTo (fs.take k) + slipOf (ge fs k) := by
  rw [take_ge hk]; simp [sumTo]
theorem slip_bd {f : Flt} (h : isFault f = true) : -8192 ≤ slipOf f ∧ slipOf f ≤ 8192 := by
  unfold isFault at h
  simp only [Bool.and_eq_true] at h
  have h3 := h.2.2.1
  unfold slipOf
  unfold hasLen at h3
  split at h3
  · have := inR_iff.1 h3
    split
    · omega
    · split <;> omega
  · simp at h3
    rw [h3]
    split
    · omega
    · split <;> omega
theorem sum_bd {fs : List Flt} (h : allF fs = true) : -8192 * (fs.length : Int) ≤ sumTo fs ∧ sumTo fs ≤ 8192 * (fs.length : Int) := by
  induction fs with
  | nil => simp [sumTo]
  | cons f fs ih =>
    simp only [allF, List.all_cons, Bool.and_eq_true] at h
    have h1 := slip_bd h.1
    have h2 := ih h.2
    have e : sumTo (f :: fs) = slipOf f + sumTo fs := by simp [sumTo]
    rw [e, List.length_cons]
    omega
namespace CountSlips
def val (fs : List Flt) : Int := if isScript fs then sumTo fs else 0
def cod (fs : List Flt) : Int := if isScript fs then 0 else 2

end CountSlips
end Go.Proofs.YtojmikalnalfbaaDoor
