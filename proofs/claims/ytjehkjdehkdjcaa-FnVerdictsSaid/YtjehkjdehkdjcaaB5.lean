/- Walks, laws and small notions for the claims of this seat, several texts as one (Rise, FaultS, Script, Sil, Chg, Rep, FlipS, Inv, Within, Slip). Conditions: as each theorem states them. -/
import Derived.Test.YtjehkjdehkdjcaaB2
import Derived.Test.YtjehkjdehkdjcaaB1
import Derived.Deep.RegionHeld3
import Derived.Test.YtjehkjdehkdjcaaB3
import Derived.Lib.SliceRun
namespace Go.Proofs.Ytjehkjdehkdjcaa
open Go.RowKit

/-- does the i-th number lie below n and above the one before it -/
def okAt (zs : List Int) (n : Int) (i : Nat) : Bool := inR (gi zs i) 0 (n - 1) && (decide (i = 0) || decide (gi zs (i - 1) < gi zs i))
def risesTo (zs : List Int) (n : Int) (k : Nat) : Bool := (List.range k).all fun i => okAt zs n i
def rises (zs : List Int) (n : Int) : Bool := risesTo zs n zs.length
theorem risesTo_succ (zs : List Int) (n : Int) (k : Nat) : risesTo zs n (k + 1) = (risesTo zs n k && okAt zs n k) := by simp [risesTo, List.range_succ]
theorem rises_no {zs : List Int} {n : Int} {k : Nat} (hk : k < zs.length) (h : okAt zs n k = false) : rises zs n = false := by
  refine Bool.eq_false_iff.2 fun ht => ?_
  have := List.all_eq_true.1 ht k (by simpa using hk)
  rw [h] at this; cases this
theorem rises_gi {zs : List Int} {n : Int} (h : rises zs n = true) {k : Nat} (hk : k < zs.length) : 0 ≤ gi zs k ∧ gi zs k ≤ n - 1 := by
  have := List.all_eq_true.1 h k (by simpa using hk)
  unfold okAt at this
  simp only [Bool.and_eq_true] at this
  exact inR_iff.1 this.1

theorem l01In_yes {n lo hi : Int} (h : inR n lo hi = true) (w : World) : Calls Try.prog 116 #[.int .i64 n, .int .i64 lo, .int .i64 hi] w fun e w' => e = .returned (.bool true) ∧ w = w' := by
  have := l01In_any n lo hi w; rw [h] at this; exact this
theorem l01In_no {n lo hi : Int} (h : inR n lo hi = false) (w : World) : Calls Try.prog 116 #[.int .i64 n, .int .i64 lo, .int .i64 hi] w fun e w' => e = .returned (.bool false) ∧ w = w' := by
  have := l01In_any n lo hi w; rw [h] at this; exact this

set_option maxHeartbeats 1000000 in
theorem l01Rises_any (A : Option Addr) (n c : Nat) (zs : List Int) (m : Int) (w : World) (h : RI w w.heap.size A n zs) (hn : n ≤ 1099511627776) (hm : 0 ≤ m) (hm2 : m ≤ 1099511627776) :
    Calls Try.prog 147 #[.slice A n c, .int .i64 m] w (RetV w (.bool (rises zs m))) := by
  have L := Lib.hid h.len
  go_enter Try.func147, Try.ntmps147
  go_wp2
  go_loopw [5] (fun i wr => ∃ k : Nat, k ≤ n ∧ i = .int .i64 k ∧ risesTo zs m k = true ∧ Below w.heap.size w wr) (fun i _ => n - (intOf i).toNat)
  case atStart => exact ⟨0, Nat.zero_le _, rfl, rfl, Below.refl _ _⟩
  case round =>
    obtain ⟨k, hk, rfl, hall, hb⟩ := hrel
    have Hall := Lib.hid hall
    clear hall
    by_cases hlt : k < n
    · obtain ⟨b, o, rfl, _, hc⟩ := (h.below hb (Nat.le_refl _)).get (by omega)
      have hcell := hc k hlt
      have HC := Lib.hid hc
      clear hc
      rcases bool_cases (inR (gi zs k) 0 (m - 1)) with hr | hr
      case inr =>
        have HR := Lib.hid hr
        go_wp2_with fail; go_quiet (first | (go_at_call 116; exact quiet_same (l01In_no hr _))); go_wp2
        go_ret
        exact ⟨ret_bool (rises_no (by rw [L.out]; exact hlt) (by unfold okAt; rw [HR.out]; rfl)).symm, (by first | exact hb | exact below_drewN hb _)⟩
      have HR := Lib.hid hr
      by_cases hk0 : k = 0
      · subst hk0
        rw [Nat.add_zero] at hcell
        go_wp2_with fail; go_quiet (first | (go_at_call 116; exact quiet_same (l01In_yes hr _))); go_wp2
        go_roundw
        case rel => exact ⟨1, by omega, by go_num, by rw [risesTo_succ, Hall.out]; unfold okAt; rw [HR.out]; rfl, below_drewN hb _⟩
        case measure => simp [intOf]; omega
      · have hcell2 := HC.out (k - 1) (by omega)
        have hk1 : 0 < k := by omega
        by_cases hg : gi zs (k - 1) < gi zs k
        · have HG := Lib.hid hg
          go_wp2_with fail; go_quiet (first | (go_at_call 116; exact quiet_same (l01In_yes hr _)))
          clear hk1 hcell hcell2
          go_wp2
          go_roundw
          case rel => exact ⟨k + 1, by omega, by go_num, by rw [risesTo_succ, Hall.out]; unfold okAt; rw [HR.out]; simp [HG.out], below_drewN hb _⟩
          case measure => simp [intOf]; omega
        · have HG := Lib.hid hg
          go_wp2_with fail; go_quiet (first | (go_at_call 116; exact quiet_same (l01In_yes hr _)))
          clear hk1 hcell hcell2
          go_wp2
          go_ret
          exact ⟨ret_bool (rises_no (by rw [L.out]; exact hlt) (by unfold okAt; simp [HG.out, hk0])).symm, (by first | exact hb | exact below_drewN hb _)⟩
    · have hkn : k = n := by omega
      have hz : rises zs m = true := by unfold rises; rw [L.out, ← hkn]; exact Hall.out
      have Hz := Lib.hid hz
      clear hz hkn
      go_wp2
      go_ret
      exact ⟨ret_bool Hz.out.symm, (by first | exact hb | exact below_drewN hb _)⟩

set_option maxHeartbeats 1000000 in
theorem isRising_any (A : Option Addr) (n c : Nat) (zs : List Int) (m : Int) (w : World) (h : RI w w.heap.size A n zs) (hn : n ≤ 1099511627776) (_ : 0 ≤ m) (_ : m ≤ 1099511627776) :
    Calls Try.prog 146 #[.slice A n c, .int .i64 m] w (RetV w (.bool (rises zs m))) := by
  have L := Lib.hid h.len
  go_enter Try.func146, Try.ntmps146
  go_wp2
  go_loopw [5, 6, 9] (fun _ _ i wr => ∃ k : Nat, k ≤ n ∧ i = .int .i64 k ∧ risesTo zs m k = true ∧ Below w.heap.size w wr) (fun _ _ i _ => n - (intOf i).toNat)
  case atStart => exact ⟨0, Nat.zero_le _, rfl, rfl, Below.refl _ _⟩
  case round =>
    obtain ⟨k, hk, rfl, hall, hb⟩ := hrel
    have Hall := Lib.hid hall
    clear hall
    by_cases hlt : k < n
    · obtain ⟨b, o, rfl, _, hc⟩ := (h.below hb (Nat.le_refl _)).get (by omega)
      have hcell := hc k hlt
      have HC := Lib.hid hc
      clear hc
      by_cases h1 : gi zs k < 0
      · have HR := Lib.hid (show inR (gi zs k) 0 (m - 1) = false from inR_no.2 (.inl h1))
        go_wp2
        go_ret
        exact ⟨ret_bool (rises_no (by rw [L.out]; exact hlt) (by unfold okAt; rw [HR.out]; rfl)).symm, (by first | exact hb | exact below_drewN hb _)⟩
      by_cases h2 : gi zs k < m
      case neg =>
        have HR := Lib.hid (show inR (gi zs k) 0 (m - 1) = false from inR_no.2 (.inr (by omega)))
        go_wp2
        go_ret
        exact ⟨ret_bool (rises_no (by rw [L.out]; exact hlt) (by unfold okAt; rw [HR.out]; rfl)).symm, (by first | exact hb | exact below_drewN hb _)⟩
      have HR := Lib.hid (show inR (gi zs k) 0 (m - 1) = true from inR_iff.2 ⟨by omega, by omega⟩)
      by_cases hk0 : k = 0
      · subst hk0
        rw [Nat.add_zero] at hcell
        go_wp2
        go_roundw
        case rel => exact ⟨1, by omega, by go_num, by rw [risesTo_succ, Hall.out]; unfold okAt; rw [HR.out]; rfl, hb⟩
        case measure => simp [intOf]; omega
      · have hcell2 := HC.out (k - 1) (by omega)
        by_cases hg : gi zs (k - 1) < gi zs k
        · have HG := Lib.hid hg
          go_wp2
          go_roundw
          case rel => exact ⟨k + 1, by omega, by go_num, by rw [risesTo_succ, Hall.out]; unfold okAt; rw [HR.out]; simp [HG.out], hb⟩
          case measure => simp [intOf]; omega
        · have HG := Lib.hid hg
          go_wp2
          go_ret
          exact ⟨ret_bool (rises_no (by rw [L.out]; exact hlt) (by unfold okAt; simp [HG.out, hk0])).symm, (by first | exact hb | exact below_drewN hb _)⟩
    · have hkn : k = n := by omega
      have hz : rises zs m = true := by unfold rises; rw [L.out, ← hkn]; exact Hall.out
      have Hz := Lib.hid hz
      clear hz hkn
      go_wp2
      go_ret
      exact ⟨ret_bool Hz.out.symm, (by first | exact hb | exact below_drewN hb _)⟩
end Go.Proofs.Ytjehkjdehkdjcaa

namespace Go.Proofs.Ytjehkjdehkdjcaa
open Go.RowKit

theorem infoFault : (Try.prog.info? 82).map (fun i => (i.zero, i.size, i.bytes)) = some (some (.agg #[.int .i64 0, .int .i64 0, .int .i64 0, .int .i64 0]), 4, 32) := by kernel_rfl

/-- what szFaultS answers -/
def szF (n : Nat) (left : Int) : Int := if left - (n : Int) < 0 then -1 else left - (n : Int)
theorem szF_neg {n : Nat} (h : ¬ n ≤ 1048576) : szF n 1048576 = -1 := by unfold szF; rw [if_pos (by omega)]
theorem szF_pos {n : Nat} (h : n ≤ 1048576) : szF n 1048576 = 1048576 - (n : Int) := by unfold szF; rw [if_neg (by omega)]

end Go.Proofs.Ytjehkjdehkdjcaa

namespace Go.Proofs.Ytjehkjdehkdjcaa
open Go.RowKit

def allF (fs : List Flt) : Bool := fs.all isFault
def isScript (fs : List Flt) : Bool := decide (fs.length ≤ 30) && allF fs
theorem allF_take {fs : List Flt} {k : Nat} (hk : k < fs.length) : allF (fs.take (k + 1)) = (allF (fs.take k) && isFault (ge fs k)) := by
  rw [take_ge hk]; simp [allF]
theorem allF_no {fs : List Flt} {k : Nat} (hk : k < fs.length) (h : isFault (ge fs k) = false) : allF fs = false := by
  refine Bool.eq_false_iff.2 fun ht => ?_
  have := List.all_eq_true.1 ht (ge fs k) (mem_ge hk)
  rw [h] at this; cases this
theorem allF_ge {fs : List Flt} (h : allF fs = true) {k : Nat} (hk : k < fs.length) : isFault (ge fs k) = true := List.all_eq_true.1 h (ge fs k) (mem_ge hk)

set_option maxHeartbeats 1000000 in
theorem sIsScript_any (A : Option Addr) (n c : Nat) (fs : List Flt) (w : World) (h : RE encF 4 w w.heap.size A n fs) (hn : n ≤ 1099511627776) :
    Calls Try.prog 63 #[.slice A n c] w (RetV w (.bool (isScript fs))) := by
  have L := Lib.hid h.len
  go_enter Try.func63, Try.ntmps63
  go_wp2
  go_loopw [3] (fun i wr => ∃ k : Nat, k ≤ n ∧ i = .int .i64 k ∧ allF (fs.take k) = true ∧ Below w.heap.size w wr) (fun i _ => n - (intOf i).toNat)
  case atStart => exact ⟨0, Nat.zero_le _, rfl, rfl, Below.refl _ _⟩
  case round =>
    obtain ⟨k, hk, rfl, hall, hb⟩ := hrel
    have Hall := Lib.hid hall
    clear hall
    by_cases hlt : k < n
    · obtain ⟨b, o, rfl, hbl, hc⟩ := (h.below hb (Nat.le_refl _)).get (by omega)
      have hc0 := hc k hlt 0 _ rfl
      have hc1 := hc k hlt 1 _ rfl
      have hc2 := hc k hlt 2 _ rfl
      have hc3 := hc k hlt 3 _ rfl
      clear hc
      rw [Nat.add_zero] at hc0
      rcases bool_cases (isFault (ge fs k)) with hf | hf
      all_goals
        have HF := Lib.hid hf
        go_wp2_with fail
        refine (sIsFault_any _ _ _ _ _).mono ?_
        rw [show isFault ⟨(ge fs k).kd, (ge fs k).pos, (ge fs k).len, (ge fs k).val⟩ = _ from hf]
        clear hf
        rintro e w1 ⟨rfl, hb1⟩
        have hb1' := below_next hb1 hb (Nat.le_refl _)
      · go_wp2
        go_roundw
        case rel => exact ⟨k + 1, by omega, by go_num, by rw [allF_take (by rw [L.out]; exact hlt), Hall.out, HF.out]; rfl, hb1'⟩
        case measure => simp [intOf]; omega
      · go_wp2
        go_ret
        exact ⟨ret_bool (by unfold isScript; rw [allF_no (by rw [L.out]; exact hlt) HF.out]; simp), hb1'⟩
    · have hkn : k = n := by omega
      have hz : allF fs = true := by have := Hall.out; rwa [List.take_of_length_le (by rw [h.len]; omega)] at this
      have Hz := Lib.hid hz
      clear hz hkn
      by_cases hl : n ≤ 30
      all_goals
        go_wp2
        go_ret
        exact ⟨ret_bool (by unfold isScript; rw [Hz.out, L.out]; simp; omega), hb⟩

set_option maxHeartbeats 1000000 in
theorem notFault_any (k p l v : Int) (w : World) :
    Calls Try.prog 154 #[.agg #[.int .i64 k, .int .i64 p, .int .i64 l, .int .i64 v]] w (RetV w (.bool (!isFault ⟨k, p, l, v⟩))) := by
  go_enter Try.func154, Try.ntmps154
  go_wp2_with fail
  refine (iIsFault_any _ _ _ _ _).mono ?_
  rintro e w1 ⟨rfl, hb1⟩
  go_wp2
  go_ret
  exact ⟨rfl, below_next hb1 (below_alloc (Below.refl _ _) (Nat.le_refl _) _) (Nat.le_refl _)⟩

set_option maxHeartbeats 1000000 in
theorem indexNot_any (A : Option Addr) (n c : Nat) (fs : List Flt) (w : World) (h : RE encF 4 w w.heap.size A n fs) (hn : n ≤ 1099511627776) :
    Calls Try.prog 210 #[.slice A n c, .func (.func 154) #[] #[]] w fun e w' => ∃ z : Int, e = .returned (.int .i64 z) ∧ decide (0 ≤ z) = (!allF fs) ∧ Below w.heap.size w w' := by
  have L := Lib.hid h.len
  go_enter Try.func210, Try.ntmps210
  go_wp2
  go_loopw [5, 8] (fun _ i wr => ∃ k : Nat, k ≤ n ∧ i = .int .i64 k ∧ allF (fs.take k) = true ∧ Below w.heap.size w wr) (fun _ i _ => n - (intOf i).toNat)
  case atStart => exact ⟨0, Nat.zero_le _, rfl, rfl, Below.refl _ _⟩
  case round =>
    obtain ⟨k, hk, rfl, hall, hb⟩ := hrel
    have Hall := Lib.hid hall
    clear hall
    by_cases hlt : k < n
    · obtain ⟨b, o, rfl, hbl, hc⟩ := (h.below hb (Nat.le_refl _)).get (by omega)
      have hc0 := hc k hlt 0 _ rfl
      have hc1 := hc k hlt 1 _ rfl
      have hc2 := hc k hlt 2 _ rfl
      have hc3 := hc k hlt 3 _ rfl
      clear hc
      rw [Nat.add_zero] at hc0
      rcases bool_cases (isFault (ge fs k)) with hf | hf
      all_goals
        have HF := Lib.hid hf
        go_wp2_with fail
        refine (notFault_any _ _ _ _ _).mono ?_
        rw [show isFault ⟨(ge fs k).kd, (ge fs k).pos, (ge fs k).len, (ge fs k).val⟩ = _ from hf]
        clear hf
        rintro e w1 ⟨rfl, hb1⟩
        have hb1' := below_next hb1 hb (Nat.le_refl _)
      · go_wp2
        go_roundw
        case rel => exact ⟨k + 1, by omega, by go_num, by rw [allF_take (by rw [L.out]; exact hlt), Hall.out, HF.out]; rfl, hb1'⟩
        case measure => simp [intOf]; omega
      · go_wp2
        go_ret
        exact ⟨(k : Int), rfl, by rw [allF_no (by rw [L.out]; exact hlt) HF.out]; simp, hb1'⟩
    · have hkn : k = n := by omega
      have hz : allF fs = true := by have := Hall.out; rwa [List.take_of_length_le (by rw [h.len]; omega)] at this
      have Hz := Lib.hid hz
      clear hz hkn
      go_wp2
      go_ret
      exact ⟨-1, rfl, by rw [Hz.out]; rfl, hb⟩

set_option maxHeartbeats 1000000 in
theorem containsNot_any (A : Option Addr) (n c : Nat) (fs : List Flt) (w : World) (h : RE encF 4 w w.heap.size A n fs) (hn : n ≤ 1099511627776) :
    Calls Try.prog 153 #[.slice A n c, .func (.func 154) #[] #[]] w (RetV w (.bool (!allF fs))) := by
  go_enter Try.func153, Try.ntmps153
  go_wp2_with fail
  refine (indexNot_any A n c fs w h hn).mono ?_
  rintro e w1 ⟨z, rfl, hz, hb1⟩
  have HZ := Lib.hid hz
  clear hz
  go_wp2
  go_ret
  exact ⟨ret_bool HZ.out, hb1⟩

set_option maxHeartbeats 1000000 in
theorem iIsScript_any (A : Option Addr) (n c : Nat) (fs : List Flt) (w : World) (h : RE encF 4 w w.heap.size A n fs) (hn : n ≤ 1099511627776) :
    Calls Try.prog 62 #[.slice A n c] w (RetV w (.bool (isScript fs))) := by
  have L := Lib.hid h.len
  by_cases hl : n ≤ 30
  · go_enter Try.func62, Try.ntmps62
    go_wp2_with fail
    refine (containsNot_any A n c fs w h hn).mono ?_
    rintro e w1 ⟨rfl, hb1⟩
    go_wp2
    go_ret
    exact ⟨ret_bool (by unfold isScript; rw [L.out]; simp [hl]), hb1⟩
  · have hd : decide ((n : Int) ≤ 30) = false := by simp; omega
    go_enter Try.func62, Try.ntmps62
    go_wp2
    go_ret
    exact ⟨ret_bool (by unfold isScript; rw [L.out]; simp [hl]), Below.refl _ _⟩

/-- what CountSlips answers -/
def slipOf (f : Flt) : Int := if f.kd = 4 then f.len else if f.kd = 3 then - f.len else 0
def sumTo (fs : List Flt) : Int := (fs.map slipOf).sum
theorem sum_take {fs : List Flt} {k : Nat} (hk : k < fs.length) : sumTo (fs.take (k + 1)) = sumTo (fs.take k) + slipOf (ge fs k) := by
  rw [take_ge hk]; simp [sumTo]
theorem slip_bd {f : Flt} (h : isFault f = true) : -8192 ≤ slipOf f ∧ slipOf f ≤ 8192 := by
  unfold isFault at h
  simp only [Bool.and_eq_true] at h
  have h3 := h.2.2.1
  unfold slipOf
  unfold hasLen at h3
  split at h3
  · have := inR_iff.1 h3
    split
    · omega
    · split <;> omega
  · simp at h3
    rw [h3]
    split
    · omega
    · split <;> omega
theorem sum_bd {fs : List Flt} (h : allF fs = true) : -8192 * (fs.length : Int) ≤ sumTo fs ∧ sumTo fs ≤ 8192 * (fs.length : Int) := by
  induction fs with
  | nil => simp [sumTo]
  | cons f fs ih =>
    simp only [allF, List.all_cons, Bool.and_eq_true] at h
    have h1 := slip_bd h.1
    have h2 := ih h.2
    have e : sumTo (f :: fs) = slipOf f + sumTo fs := by simp [sumTo]
    rw [e, List.length_cons]
    omega
namespace CountSlips
def val (fs : List Flt) : Int := if isScript fs then sumTo fs else 0
def cod (fs : List Flt) : Int := if isScript fs then 0 else 2

set_option maxHeartbeats 2000000 in
theorem spec_any (A : Option Addr) (n c : Nat) (fs : List Flt) (w : World) (h : RE encF 4 w w.heap.size A n fs) (hn : n ≤ 1099511627776) :
    Calls Try.prog 90 #[.slice A n c] w (RetV w (.tuple #[.int .i64 (val fs), .int .i64 (cod fs)])) := by
  have L := Lib.hid h.len
  rcases bool_cases (isScript fs) with hz | hz
  case inr =>
    have E1 := Lib.hid (show val fs = 0 from by simp [val, hz])
    have E2 := Lib.hid (show cod fs = 2 from by simp [cod, hz])
    go_enter Try.func90, Try.ntmps90
    go_wp2_with fail
    refine (sIsScript_any A n c fs w h hn).mono ?_
    rw [hz]
    rintro e w1 ⟨rfl, hb1⟩
    go_wp2
    go_ret2
    rw [E1.out, E2.out]
    exact ⟨rfl, hb1⟩
  have E1 := Lib.hid (show val fs = sumTo fs from by simp [val, hz])
  have E2 := Lib.hid (show cod fs = 0 from by simp [cod, hz])
  have hz2 := hz
  unfold isScript at hz2
  simp only [Bool.and_eq_true, decide_eq_true_eq] at hz2
  obtain ⟨hn30, hall⟩ := hz2
  rw [h.len] at hn30
  have HA := Lib.hid hall
  clear hall
  go_enter Try.func90, Try.ntmps90
  go_wp2_with fail
  refine (sIsScript_any A n c fs w h hn).mono ?_
  rw [hz]
  clear hz
  rintro e w1 ⟨rfl, hb1⟩
  go_wp2
  go_loopw [4, 5] (fun x i wr => ∃ k : Nat, k ≤ n ∧ i = .int .i64 k ∧ x = .int .i64 (sumTo (fs.take k)) ∧ Below w.heap.size w wr) (fun _ i _ => n - (intOf i).toNat)
  case atStart => exact ⟨0, Nat.zero_le _, rfl, rfl, hb1⟩
  case round =>
    obtain ⟨k, hk, rfl, rfl, hb⟩ := hrel
    by_cases hlt : k < n
    · obtain ⟨b, o, rfl, hbl, hc⟩ := (h.below hb (Nat.le_refl _)).get (by omega)
      have hc0 := hc k hlt 0 _ rfl
      have hc2 := hc k hlt 2 _ rfl
      clear hc
      rw [Nat.add_zero] at hc0
      have hsl := slip_bd (allF_ge HA.out (k := k) (by rw [L.out]; exact hlt))
      have hsu : -8192 * (k : Int) ≤ sumTo (fs.take k) ∧ sumTo (fs.take k) ≤ 8192 * (k : Int) := by
        have := sum_bd (fs := fs.take k) (List.all_eq_true.2 fun x hx => List.all_eq_true.1 HA.out x (List.mem_of_mem_take hx))
        rw [List.length_take, L.out, Nat.min_eq_left (by omega)] at this
        exact this
      have ST := Lib.hid (sum_take (fs := fs) (k := k) (by rw [L.out]; exact hlt))
      obtain ⟨s, hs⟩ : ∃ s, sumTo (fs.take k) = s := ⟨_, rfl⟩
      rw [hs] at hsu
      obtain ⟨hu1, hu2⟩ := hsu
      have HS := Lib.hid hs
      unfold slipOf at hsl
      obtain ⟨kd, hkd⟩ : ∃ x, (ge fs k).kd = x := ⟨_, rfl⟩
      obtain ⟨ln, hln⟩ : ∃ x, (ge fs k).len = x := ⟨_, rfl⟩
      rw [hkd] at hc0 hsl
      rw [hln] at hc2 hsl
      have HKD := Lib.hid hkd
      have HLN := Lib.hid hln
      rw [hs]
      clear hs hkd hln
      by_cases h4 : kd = 4
      · subst h4
        rw [if_pos rfl] at hsl
        obtain ⟨h5, h6⟩ := hsl
        go_wp2
        go_roundw
        case rel => exact ⟨k + 1, by omega, by go_num, by rw [ST.out, HS.out]; unfold slipOf; rw [HKD.out, if_pos rfl, HLN.out], hb⟩
        case measure => simp [intOf]; omega
      · by_cases h3 : kd = 3
        · subst h3
          rw [if_neg (by decide), if_pos rfl] at hsl
          obtain ⟨h5, h6⟩ := hsl
          go_wp2
          go_roundw
          case rel => exact ⟨k + 1, by omega, by go_num, by rw [ST.out, HS.out]; unfold slipOf; rw [HKD.out, if_neg (by decide), if_pos rfl, HLN.out]; rfl, hb⟩
          case measure => simp [intOf]; omega
        · have hb3 : (kd == 3) = false := by simp [h3]
          have hb4 : (kd == 4) = false := by simp [h4]
          clear hsl
          have H3 := Lib.hid h3
          have H4 := Lib.hid h4
          clear h3 h4
          go_wp2
          go_roundw
          case rel => exact ⟨k + 1, by omega, by go_num, by rw [ST.out, HS.out]; unfold slipOf; rw [HKD.out, if_neg H4.out, if_neg H3.out, Int.add_zero], hb⟩
          case measure => simp [intOf]; omega
    · have hkn : k = n := by omega
      have HK := Lib.hid hkn
      clear hkn
      go_wp2
      go_ret2
      rw [E1.out, E2.out]
      exact ⟨by rw [HK.out, List.take_of_length_le (by rw [L.out]; exact Nat.le_refl _)]; rfl, hb⟩

set_option maxHeartbeats 2000000 in
theorem impl_any (A : Option Addr) (n c : Nat) (fs : List Flt) (w : World) (h : RE encF 4 w w.heap.size A n fs) (hn : n ≤ 1099511627776) :
    Calls Try.prog 89 #[.slice A n c] w (RetV w (.tuple #[.int .i64 (val fs), .int .i64 (cod fs)])) := by
  have L := Lib.hid h.len
  rcases bool_cases (isScript fs) with hz | hz
  case inr =>
    have E1 := Lib.hid (show val fs = 0 from by simp [val, hz])
    have E2 := Lib.hid (show cod fs = 2 from by simp [cod, hz])
    go_enter Try.func89, Try.ntmps89
    go_wp2_with fail
    refine (iIsScript_any A n c fs w h hn).mono ?_
    rw [hz]
    rintro e w1 ⟨rfl, hb1⟩
    go_wp2
    go_ret2
    rw [E1.out, E2.out]
    exact ⟨rfl, hb1⟩
  have E1 := Lib.hid (show val fs = sumTo fs from by simp [val, hz])
  have E2 := Lib.hid (show cod fs = 0 from by simp [cod, hz])
  have hz2 := hz
  unfold isScript at hz2
  simp only [Bool.and_eq_true, decide_eq_true_eq] at hz2
  obtain ⟨hn30, hall⟩ := hz2
  rw [h.len] at hn30
  have HA := Lib.hid hall
  clear hall
  go_enter Try.func89, Try.ntmps89
  go_wp2_with fail
  refine (iIsScript_any A n c fs w h hn).mono ?_
  rw [hz]
  clear hz
  rintro e w1 ⟨rfl, hb1⟩
  go_wp2
  go_loopw [4, 6, 12] (fun x _ i wr => ∃ k : Nat, k ≤ n ∧ i = .int .i64 k ∧ x = .int .i64 (sumTo (fs.take k)) ∧ Below w.heap.size w wr) (fun _ _ i _ => n - (intOf i).toNat)
  case atStart => exact ⟨0, Nat.zero_le _, rfl, rfl, hb1⟩
  case round =>
    obtain ⟨k, hk, rfl, rfl, hb⟩ := hrel
    by_cases hlt : k < n
    · obtain ⟨b, o, rfl, hbl, hc⟩ := (h.below hb (Nat.le_refl _)).get (by omega)
      have hc0 := hc k hlt 0 _ rfl
      have hc1 := hc k hlt 1 _ rfl
      have hc2 := hc k hlt 2 _ rfl
      have hc3 := hc k hlt 3 _ rfl
      clear hc
      rw [Nat.add_zero] at hc0
      have hsl := slip_bd (allF_ge HA.out (k := k) (by rw [L.out]; exact hlt))
      have hsu : -8192 * (k : Int) ≤ sumTo (fs.take k) ∧ sumTo (fs.take k) ≤ 8192 * (k : Int) := by
        have := sum_bd (fs := fs.take k) (List.all_eq_true.2 fun x hx => List.all_eq_true.1 HA.out x (List.mem_of_mem_take hx))
        rw [List.length_take, L.out, Nat.min_eq_left (by omega)] at this
        exact this
      have ST := Lib.hid (sum_take (fs := fs) (k := k) (by rw [L.out]; exact hlt))
      obtain ⟨s, hs⟩ : ∃ s, sumTo (fs.take k) = s := ⟨_, rfl⟩
      rw [hs] at hsu
      obtain ⟨hu1, hu2⟩ := hsu
      have HS := Lib.hid hs
      unfold slipOf at hsl
      obtain ⟨kd, hkd⟩ : ∃ x, (ge fs k).kd = x := ⟨_, rfl⟩
      obtain ⟨ln, hln⟩ : ∃ x, (ge fs k).len = x := ⟨_, rfl⟩
      rw [hkd] at hc0 hsl
      rw [hln] at hc2 hsl
      have HKD := Lib.hid hkd
      have HLN := Lib.hid hln
      rw [hs]
      clear hs hkd hln
      by_cases h4 : kd = 4
      · subst h4
        rw [if_pos rfl] at hsl
        obtain ⟨h5, h6⟩ := hsl
        go_wp2
        go_roundw
        case rel => exact ⟨k + 1, by omega, by go_num, by rw [ST.out, HS.out]; unfold slipOf; rw [HKD.out, if_pos rfl, HLN.out], by first | exact hb | exact hb.alloc hb.size _⟩
        case measure => simp [intOf]; omega
      · by_cases h3 : kd = 3
        · subst h3
          rw [if_neg (by decide), if_pos rfl] at hsl
          obtain ⟨h5, h6⟩ := hsl
          go_wp2
          go_roundw
          case rel => exact ⟨k + 1, by omega, by go_num, by rw [ST.out, HS.out]; unfold slipOf; rw [HKD.out, if_neg (by decide), if_pos rfl, HLN.out]; rfl, by first | exact hb | exact hb.alloc hb.size _⟩
          case measure => simp [intOf]; omega
        · have hb3 : (kd == 3) = false := by simp [h3]
          have hb4 : (kd == 4) = false := by simp [h4]
          clear hsl
          have H3 := Lib.hid h3
          have H4 := Lib.hid h4
          clear h3 h4
          go_wp2
          go_roundw
          case rel => exact ⟨k + 1, by omega, by go_num, by rw [ST.out, HS.out]; unfold slipOf; rw [HKD.out, if_neg H4.out, if_neg H3.out, Int.add_zero], by first | exact hb | exact hb.alloc hb.size _⟩
          case measure => simp [intOf]; omega
    · have hkn : k = n := by omega
      have HK := Lib.hid hkn
      clear hkn
      go_wp2
      go_ret2
      rw [E1.out, E2.out]
      exact ⟨by rw [HK.out, List.take_of_length_le (by rw [L.out]; exact Nat.le_refl _)]; rfl, hb⟩
end CountSlips
end Go.Proofs.Ytjehkjdehkdjcaa

namespace Go.Proofs.Ytjehkjdehkdjcaa
open Go.RowKit

/-- a list whose numbers from p on, below k, are 1 -/
def silF (zs : List Int) (p k : Nat) : List Int := (List.range zs.length).map fun i => if p ≤ i ∧ i < k then 1 else gi zs i
theorem silF_len (zs : List Int) (p k : Nat) : (silF zs p k).length = zs.length := by simp [silF]
theorem silF_gi {zs : List Int} {p k i : Nat} (h : i < zs.length) : gi (silF zs p k) i = if p ≤ i ∧ i < k then 1 else gi zs i := by simp [gi, silF, h]
theorem silF_none {zs : List Int} {p k : Nat} (h : k ≤ p) : silF zs p k = zs := by
  refine ext_gi (silF_len _ _ _) fun i hi => ?_
  rw [silF_len] at hi
  rw [silF_gi hi, if_neg (by omega)]
theorem silF_set {zs : List Int} {p k : Nat} (hk : p ≤ k) (hn : k < zs.length) : (silF zs p k).set k 1 = silF zs p (k + 1) := by
  refine ext_gi (by rw [List.length_set, silF_len, silF_len]) fun i hi => ?_
  rw [List.length_set, silF_len] at hi
  rw [silF_gi hi]
  have : gi ((silF zs p k).set k 1) i = if k = i then 1 else gi (silF zs p k) i := by
    unfold gi
    rw [List.getD_eq_getElem?_getD, List.getElem?_set, List.getD_eq_getElem?_getD]
    by_cases hik : k = i
    · rw [if_pos hik, if_pos hik, if_pos (by rw [silF_len]; omega)]; rfl
    · rw [if_neg hik, if_neg hik]
  rw [this, silF_gi hi]
  by_cases hik : k = i
  · rw [if_pos hik, if_pos (by omega)]
  · rw [if_neg hik]
    by_cases h2 : p ≤ i ∧ i < k
    · rw [if_pos h2, if_pos (by omega)]
    · rw [if_neg h2, if_neg (by omega)]
theorem silF_more {zs : List Int} {p k : Nat} (h : zs.length ≤ k) : silF zs p k = silF zs p zs.length := by
  refine ext_gi (by rw [silF_len, silF_len]) fun i hi => ?_
  rw [silF_len] at hi
  rw [silF_gi hi, silF_gi hi]
  by_cases h2 : p ≤ i
  · rw [if_pos (by omega), if_pos (by omega)]
  · rw [if_neg (by omega), if_neg (by omega)]

namespace SilenceFrom
theorem min_eq (a b : Int) : min a b = if a ≤ b then a else b := rfl

set_option maxRecDepth 20000 in
set_option maxHeartbeats 8000000 in
theorem l24Apply_sil (A : Option Addr) (n c : Nat) (zs : List Int) (q : Nat) (w : World) (hri : RI w w.heap.size A n zs) (hn : n ≤ 8192) (hq : q ≤ 8192) (hA : A = none → c = 0) :
    Calls Try.prog 208 #[.slice A n c, .agg #[.int .i64 5, .int .i64 q, .int .i64 0, .int .i64 0]] w (RetI 2 w n (silF zs q n)) := by
  have L := Lib.hid hri.len
  have hb0 : Below w.heap.size w (w.alloc (.cells #[.int .i64 5, .int .i64 q, .int .i64 0, .int .i64 0] 82)) := (Below.refl _ _).alloc (Nat.le_refl _) _
  have hr0 := hri.up hb0
  have hbx := Blk4.new w 82 (.int .i64 5) (.int .i64 q) (.int .i64 0) (.int .i64 0)
  obtain ⟨w0, hw0⟩ : ∃ x, w.alloc (.cells #[.int .i64 5, .int .i64 q, .int .i64 0, .int .i64 0] 82) = x := ⟨_, rfl⟩
  rw [hw0] at hb0 hr0 hbx
  have hk0 := hbx.c0
  have hk1 := hbx.c1
  have hk2 := hbx.c2
  have hgl := hbx.lt
  have HB := Lib.hid hb0
  clear hb0
  by_cases hlt : q < n
  case pos =>
    go_enter Try.func208, Try.ntmps208
    go_wp2_with fail
    go_region
    all_goals
      go_wp2_with fail
      refine (l01Own_any A n c zs w0.drew hr0 (by omega) hA).mono ?_
      rintro e w1 ⟨A1, c1, rfl, hown1, hb1⟩
      have hown1' : OwnI 2 w1 w0.heap.size A1 n c1 zs := hown1
      have hb1' : Below w0.heap.size w0 w1 := below_next_drew hb1 (Below.refl _ _) (Nat.le_refl _)
      clear hown1 hb1
      have hb1k := hbx.next hb1'
      have hl0 := hb1k.c0
      go_wp2_with fail
      clear hl0
      go_loopw [10] (fun i wr => ∃ k : Nat, q ≤ k ∧ k ≤ n ∧ i = .int .i64 k ∧ OwnI 2 wr w0.heap.size A1 n c1 (silF zs q k) ∧ Below w0.heap.size w0 wr) (fun i _ => n - (intOf i).toNat)
      case atStart => exact ⟨q, Nat.le_refl _, by omega, rfl, by rw [silF_none (by omega)]; exact hown1', hb1'⟩
      case round =>
        obtain ⟨k, hk0', hk, rfl, hown, hb⟩ := hrel
        have hbk := hbx.next hb
        have hl0 := hbk.c0
        by_cases hlt2 : k < n
        · obtain ⟨g, rfl, hg1, hg2⟩ := hown.form (by omega)
          have hold := hown.cell hlt2
          have hfr := hown.frozen k
          go_wp2
          go_roundw
          case rel =>
            have := hown.stored k 1
            rw [silF_set (by omega) (by rw [L.out]; exact hlt2)] at this
            exact ⟨k + 1, by omega, by omega, by go_num, this.1, hb.setCell (by simpa using hg1) _⟩
          case measure => simp [intOf]; omega
        · have hkn : k = n := by omega
          have HK := Lib.hid hkn
          clear hkn
          go_wp2
          go_ret
          rw [HK.out] at hown
          exact ⟨A1, c1, rfl, hown.weaken HB.out.size, below_next hb HB.out (Nat.le_refl _)⟩
  case neg =>
    go_enter Try.func208, Try.ntmps208
    go_wp2_with fail
    go_region
    all_goals
      go_wp2_with fail
      refine (l01Own_any A n c zs w0.drew hr0 (by omega) hA).mono ?_
      rintro e w1 ⟨A1, c1, rfl, hown1, hb1⟩
      have hown1' : OwnI 2 w1 w0.heap.size A1 n c1 zs := hown1
      have hb1' : Below w0.heap.size w0 w1 := below_next_drew hb1 (Below.refl _ _) (Nat.le_refl _)
      clear hown1 hb1
      have hb1k := hbx.next hb1'
      have hl0 := hb1k.c0
      go_wp2_with fail
      clear hl0
      go_loopw [10] (fun i wr => ∃ k : Nat, n ≤ k ∧ k ≤ n ∧ i = .int .i64 k ∧ OwnI 2 wr w0.heap.size A1 n c1 (silF zs q k) ∧ Below w0.heap.size w0 wr) (fun i _ => n - (intOf i).toNat)
      case atStart => exact ⟨n, Nat.le_refl _, by omega, rfl, by rw [silF_none (by omega)]; exact hown1', hb1'⟩
      case round =>
        obtain ⟨k, hk0', hk, rfl, hown, hb⟩ := hrel
        have hbk := hbx.next hb
        have hl0 := hbk.c0
        by_cases hlt2 : k < n
        · exfalso; omega
        · have hkn : k = n := by omega
          have HK := Lib.hid hkn
          clear hkn
          go_wp2
          go_ret
          rw [HK.out] at hown
          exact ⟨A1, c1, rfl, hown.weaken HB.out.size, below_next hb HB.out (Nat.le_refl _)⟩

set_option maxRecDepth 20000 in
set_option maxHeartbeats 2000000 in
theorem clone_any (A : Option Addr) (n c : Nat) (zs : List Int) (w : World) (h : RI w w.heap.size A n zs) (hn : n ≤ 1099511627776) (hA : A = none → c = 0) :
    Calls Try.prog 207 #[.slice A n c] w (RetI 2 w n zs) := by
  have hb0 : Below w.heap.size w (w.alloc (.cells #[] 2)) := (Below.refl _ _).alloc (Nat.le_refl _) _
  have hown0 : OwnI 2 (w.alloc (.cells #[] 2)) w.heap.size (some ⟨w.heap.size, 0, none⟩) 0 0 [] := OwnI.empty w (Nat.le_refl _)
  have hr0 := h.up hb0
  have q22 : ∀ (w : World) (a : Option Addr) (n c n' c' : Nat), (binOp .eql 24 (.slice a n c) (.slice none n' c')).run Try.prog w = .ok (.bool a.isNone) w := fun w a n c n' c' => Lib.run_eql_slice_nil w _ _ a n c n' c' Try.underlying24
  rcases A with _ | ad
  · obtain rfl := hA rfl
    have h0 : n = 0 := by
      rcases Nat.eq_zero_or_pos n with hh | hh
      · exact hh
      · obtain ⟨b, o', e, _⟩ := h.get hh; cases e
    subst h0
    obtain rfl : zs = [] := List.length_eq_zero_iff.1 h.len
    go_enter Try.func207, Try.ntmps207
    go_wp2
    go_ret
    exact ⟨none, 0, rfl, OwnI.nil _ _ _, Below.refl _ _⟩
  · go_enter Try.func207, Try.ntmps207
    go_wp2_with (at_builtin; refine wpl_appR _ Try.underlying24 infoInt rfl _ _ rfl w.heap.size _ 0 _ _ rfl hown0 (some ad) n c _ zs rfl hr0 (fun e => by cases e) (by omega) hb0.size ?_; intro A2 c2 w2 hown2 hB2 hg2)
    rw [Nat.zero_add] at hown2
    go_wp2
    go_ret
    exact ⟨A2, c2, by simp, hown2, hb0.trans (hB2 _ (Nat.le_refl _))⟩

theorem one_any (z : Int) (w : World) :
    Calls Try.prog 231 #[.int .i64 z] w fun e w' => e = .returned (.int .i64 1) ∧ w = w' := by
  go_enter Try.func231, Try.ntmps231
  go_wp2
  go_ret
  exact ⟨rfl, rfl⟩

set_option maxHeartbeats 4000000 in
theorem change_any (A1 : Option Addr) (n c1 base q : Nat) (zs : List Int) (w : World) (hown : OwnI 2 w base A1 n c1 zs) (hn : n ≤ 8192) (_ : q ≤ 8192) :
    Calls Try.prog 230 #[.slice A1 n c1, .int .i64 q, .int .i64 n, .func (.func 231) #[] #[]] w fun e w' => e = .returned (.tuple #[]) ∧ OwnI 2 w' base A1 n c1 (silF zs q n) ∧ w.grownBy w' (Value.slice A1 n c1).ownBlock := by
  have L := Lib.hid hown.len
  go_enter Try.func230, Try.ntmps230
  go_wp2
  go_loopw [8] (fun i wr => ∃ k : Nat, q ≤ k ∧ k ≤ max q n ∧ i = .int .i64 k ∧ OwnI 2 wr base A1 n c1 (silF zs q k) ∧ w.grownBy wr (Value.slice A1 n c1).ownBlock) (fun i _ => n - (intOf i).toNat)
  case atStart => exact ⟨q, Nat.le_refl _, by omega, rfl, by rw [silF_none (by omega)]; exact hown, World.grownBy.refl _ _⟩
  case round =>
    obtain ⟨k, hk0', hk, rfl, hown', hg⟩ := hrel
    have HK' := Lib.hid hk
    clear hk
    by_cases hlt2 : k < n
    · obtain ⟨g, rfl, hg1, hg2⟩ := hown'.form (by omega)
      have hold := hown'.cell hlt2
      have hfr := hown'.frozen k
      go_wp2_with fail
      refine (one_any _ _).mono ?_
      rintro e w' ⟨rfl, rfl⟩
      go_wp2
      go_roundw
      case rel =>
        have := hown'.stored k 1
        rw [silF_set (by omega) (by rw [L.out]; exact hlt2)] at this
        exact ⟨k + 1, by omega, by omega, by go_num, this.1, grown_tr hg this.2⟩
      case measure => simp [intOf]; omega
    · have HK := Lib.hid (show k = max q n from by have := HK'.out; omega)
      go_wp2
      go_end0
      refine ⟨rfl, ?_, hg⟩
      rw [HK.out] at hown'
      by_cases hqn : q ≤ n
      · rwa [Nat.max_eq_right hqn] at hown'
      · rw [Nat.max_eq_left (by omega), silF_more (by rw [L.out]; omega), L.out] at hown'
        exact hown'

set_option maxRecDepth 20000 in
set_option maxHeartbeats 4000000 in
theorem applyFault_sil (A : Option Addr) (n c : Nat) (zs : List Int) (q : Nat) (w : World) (hri : RI w w.heap.size A n zs) (hn : n ≤ 8192) (hq : q ≤ 8192) (hA : A = none → c = 0) :
    Calls Try.prog 169 #[.slice A n c, .agg #[.int .i64 5, .int .i64 q, .int .i64 0, .int .i64 0]] w (RetI 2 w n (silF zs q n)) := by
  have hb0 : Below w.heap.size w (w.alloc (.cells #[.int .i64 5, .int .i64 q, .int .i64 0, .int .i64 0] 82)) := (Below.refl _ _).alloc (Nat.le_refl _) _
  have hr0 := hri.up hb0
  have hbx := Blk4.new w 82 (.int .i64 5) (.int .i64 q) (.int .i64 0) (.int .i64 0)
  obtain ⟨w0, hw0⟩ : ∃ x, w.alloc (.cells #[.int .i64 5, .int .i64 q, .int .i64 0, .int .i64 0] 82) = x := ⟨_, rfl⟩
  rw [hw0] at hb0 hr0 hbx
  have HB := Lib.hid hb0
  clear hb0
  go_enter Try.func169, Try.ntmps169
  go_wp2_with fail
  refine (clone_any A n c zs w0 hr0 (by omega) hA).mono ?_
  rintro e w1 ⟨A1, c1, rfl, hown1, hb1⟩
  have hbk := hbx.next hb1
  have e0 := hbk.c0
  have e1 := hbk.c1
  go_wp2_with fail
  refine (change_any A1 n c1 w0.heap.size q zs w1 hown1 hn hq).mono ?_
  rintro e w2 ⟨rfl, hown2, hg2⟩
  go_wp2
  go_ret
  exact ⟨A1, c1, rfl, hown2.weaken HB.out.size, (below_next hb1 HB.out (Nat.le_refl _)).grown hg2 (Nat.le_trans HB.out.size hb1.size) (fun g e => Nat.le_trans HB.out.size (own_row hown1 g e).1)⟩

def res (zs : List Int) (a : Int) : List Int := if isBits zs = true ∧ inR a 0 8192 = true then silF zs a.toNat zs.length else []
def cod (zs : List Int) (a : Int) : Int := if isBits zs then (if inR a 0 8192 then 0 else 2) else 1
theorem res_len (zs : List Int) (a : Int) : (res zs a).length ≤ zs.length := by
  unfold res; split
  · rw [silF_len]; exact Nat.le_refl _
  · simp
theorem isFault5 (a : Int) : isFault ⟨5, a, 0, 0⟩ = inR a 0 8192 := by
  unfold isFault
  simp [hasLen, hasVal, inR]

set_option maxRecDepth 20000 in
set_option maxHeartbeats 4000000 in
theorem sApplyFault_any (A : Option Addr) (n c : Nat) (zs : List Int) (at' : Int) (w : World) (h : RI w w.heap.size A n zs) (hn' : n ≤ 1099511627776) (hA : A = none → c = 0) :
    Calls Try.prog 144 #[.slice A n c, .agg #[.int .i64 5, .int .i64 at', .int .i64 0, .int .i64 0]] w (RetIC 2 w (res zs at') (cod zs at')) := by
  have L := Lib.hid h.len
  have hb0 : Below w.heap.size w (w.alloc (.cells #[.int .i64 5, .int .i64 at', .int .i64 0, .int .i64 0] 82)) := (Below.refl _ _).alloc (Nat.le_refl _) _
  have hbx := Blk4.new w 82 (.int .i64 5) (.int .i64 at') (.int .i64 0) (.int .i64 0)
  have hr0 := h.up hb0
  obtain ⟨w0, hw0⟩ : ∃ x, w.alloc (.cells #[.int .i64 5, .int .i64 at', .int .i64 0, .int .i64 0] 82) = x := ⟨_, rfl⟩
  rw [hw0] at hb0 hr0 hbx
  have HB := Lib.hid hb0
  clear hb0
  have f0 := hbx.c0
  have f1 := hbx.c1
  have f2 := hbx.c2
  have f3 := hbx.c3
  rcases bool_cases (isBits zs) with hz | hz
  case inr =>
    have E1 := Lib.hid (show res zs at' = [] from by simp [res, hz])
    have E2 := Lib.hid (show cod zs at' = 1 from by simp [cod, hz])
    go_enter Try.func144, Try.ntmps144
    go_wp2_with fail
    refine (sIsBits_any _ _ _ _ _ hr0 hn').mono ?_
    rw [hz]
    rintro e w' ⟨rfl, rfl⟩
    go_wp2
    go_ret2
    rw [E1.out, E2.out]
    exact ⟨none, 0, 0, rfl, OwnI.nil _ _ _, HB.out⟩
  have hn : n ≤ 8192 := by
    have := hz
    unfold isBits at this
    simp only [Bool.and_eq_true, decide_eq_true_eq] at this
    rw [L.out] at this
    exact this.1
  rcases bool_cases (inR at' 0 8192) with hr | hr
  case inr =>
    have E1 := Lib.hid (show res zs at' = [] from by simp [res, hr])
    have E2 := Lib.hid (show cod zs at' = 2 from by simp [cod, hz, hr])
    have HF := Lib.hid (isFault5 at')
    go_enter Try.func144, Try.ntmps144
    go_wp2_with fail
    refine (sIsBits_any _ _ _ _ _ hr0 hn').mono ?_
    rw [hz]
    rintro e w' ⟨rfl, rfl⟩
    go_wp2_with fail
    refine (sIsFault_any _ _ _ _ _).mono ?_
    rw [HF.out, hr]
    rintro e w1 ⟨rfl, hb1⟩
    go_wp2
    go_ret2
    rw [E1.out, E2.out]
    exact ⟨none, 0, 0, rfl, OwnI.nil _ _ _, below_next hb1 HB.out (Nat.le_refl _)⟩
  have hr' := inR_iff.1 hr
  obtain ⟨q, rfl⟩ : ∃ q : Nat, at' = (q : Int) := ⟨at'.toNat, by omega⟩
  have hq : q ≤ 8192 := by omega
  have E1 := Lib.hid (show res zs (q : Int) = silF zs q n from by simp [res, hz, hr, L.out])
  have E2 := Lib.hid (show cod zs (q : Int) = 0 from by simp [cod, hz, hr])
  have HF := Lib.hid (isFault5 (q : Int))
  clear hr'
  go_enter Try.func144, Try.ntmps144
  go_wp2_with fail
  refine (sIsBits_any _ _ _ _ _ hr0 hn').mono ?_
  rw [hz]
  rintro e w' ⟨rfl, rfl⟩
  go_wp2_with fail
  refine (sIsFault_any _ _ _ _ _).mono ?_
  rw [HF.out, hr]
  rintro e w1 ⟨rfl, hb1⟩
  have hbk := hbx.next hb1
  have e0 := hbk.c0
  have e1 := hbk.c1
  have e2 := hbk.c2
  have e3 := hbk.c3
  clear f0 f1 f2 f3
  go_wp2_with fail
  refine (l24Apply_sil A n c zs q _ (hr0.up hb1) hn hq hA).mono ?_
  rintro e w2 ⟨A2, c2, rfl, hown2, hb2⟩
  go_wp2
  go_ret2
  rw [E1.out, E2.out]
  exact ⟨_, _, _, rfl, hown2.weaken (Nat.le_trans HB.out.size hb1.size), below_next hb2 (below_next hb1 HB.out (Nat.le_refl _)) (Nat.le_refl _)⟩

set_option maxHeartbeats 1000000 in
theorem spec_any (A : Option Addr) (n c : Nat) (zs : List Int) (at' : Int) (w : World) (h : RI w w.heap.size A n zs) (hn' : n ≤ 1099511627776) (hA : A = none → c = 0) :
    Calls Try.prog 50 #[.slice A n c, .int .i64 at'] w (RetIC 2 w (res zs at') (cod zs at')) := by
  go_enter Try.func50, Try.ntmps50
  go_wp2_with fail
  refine (sApplyFault_any A n c zs at' w h hn' hA).mono ?_
  rintro e w1 ⟨A1, n1, c1, rfl, hown1, hb1⟩
  go_wp2
  go_ret2
  exact ⟨_, _, _, rfl, hown1, hb1⟩

set_option maxRecDepth 20000 in
set_option maxHeartbeats 4000000 in
theorem iApplyFault_any (A : Option Addr) (n c : Nat) (zs : List Int) (at' : Int) (w : World) (h : RI w w.heap.size A n zs) (hn' : n ≤ 1099511627776) (hA : A = none → c = 0) :
    Calls Try.prog 91 #[.slice A n c, .agg #[.int .i64 5, .int .i64 at', .int .i64 0, .int .i64 0]] w (RetIC 2 w (res zs at') (cod zs at')) := by
  have L := Lib.hid h.len
  have hb0 : Below w.heap.size w (w.alloc (.cells #[.int .i64 5, .int .i64 at', .int .i64 0, .int .i64 0] 82)) := (Below.refl _ _).alloc (Nat.le_refl _) _
  have hbx := Blk4.new w 82 (.int .i64 5) (.int .i64 at') (.int .i64 0) (.int .i64 0)
  have hr0 := h.up hb0
  obtain ⟨w0, hw0⟩ : ∃ x, w.alloc (.cells #[.int .i64 5, .int .i64 at', .int .i64 0, .int .i64 0] 82) = x := ⟨_, rfl⟩
  rw [hw0] at hb0 hr0 hbx
  have HB := Lib.hid hb0
  clear hb0
  have f0 := hbx.c0
  have f1 := hbx.c1
  have f2 := hbx.c2
  have f3 := hbx.c3
  rcases bool_cases (isBits zs) with hz | hz
  case inr =>
    have E1 := Lib.hid (show res zs at' = [] from by simp [res, hz])
    have E2 := Lib.hid (show cod zs at' = 1 from by simp [cod, hz])
    go_enter Try.func91, Try.ntmps91
    go_wp2_with fail
    refine (iIsBits_any _ _ _ _ _ hr0 hn').mono ?_
    rw [hz]
    rintro e w' ⟨rfl, rfl⟩
    go_wp2
    go_ret2
    rw [E1.out, E2.out]
    exact ⟨none, 0, 0, rfl, OwnI.nil _ _ _, HB.out⟩
  have hn : n ≤ 8192 := by
    have := hz
    unfold isBits at this
    simp only [Bool.and_eq_true, decide_eq_true_eq] at this
    rw [L.out] at this
    exact this.1
  rcases bool_cases (inR at' 0 8192) with hr | hr
  case inr =>
    have E1 := Lib.hid (show res zs at' = [] from by simp [res, hr])
    have E2 := Lib.hid (show cod zs at' = 2 from by simp [cod, hz, hr])
    have HF := Lib.hid (isFault5 at')
    go_enter Try.func91, Try.ntmps91
    go_wp2_with fail
    refine (iIsBits_any _ _ _ _ _ hr0 hn').mono ?_
    rw [hz]
    rintro e w' ⟨rfl, rfl⟩
    go_wp2_with fail
    refine (iIsFault_any _ _ _ _ _).mono ?_
    rw [HF.out, hr]
    rintro e w1 ⟨rfl, hb1⟩
    go_wp2
    go_ret2
    rw [E1.out, E2.out]
    exact ⟨none, 0, 0, rfl, OwnI.nil _ _ _, below_next hb1 HB.out (Nat.le_refl _)⟩
  have hr' := inR_iff.1 hr
  obtain ⟨q, rfl⟩ : ∃ q : Nat, at' = (q : Int) := ⟨at'.toNat, by omega⟩
  have hq : q ≤ 8192 := by omega
  have E1 := Lib.hid (show res zs (q : Int) = silF zs q n from by simp [res, hz, hr, L.out])
  have E2 := Lib.hid (show cod zs (q : Int) = 0 from by simp [cod, hz, hr])
  have HF := Lib.hid (isFault5 (q : Int))
  clear hr'
  go_enter Try.func91, Try.ntmps91
  go_wp2_with fail
  refine (iIsBits_any _ _ _ _ _ hr0 hn').mono ?_
  rw [hz]
  rintro e w' ⟨rfl, rfl⟩
  go_wp2_with fail
  refine (iIsFault_any _ _ _ _ _).mono ?_
  rw [HF.out, hr]
  rintro e w1 ⟨rfl, hb1⟩
  have hbk := hbx.next hb1
  have e0 := hbk.c0
  have e1 := hbk.c1
  have e2 := hbk.c2
  have e3 := hbk.c3
  clear f0 f1 f2 f3
  go_wp2_with fail
  refine (applyFault_sil A n c zs q _ (hr0.up hb1) hn hq hA).mono ?_
  rintro e w2 ⟨A2, c2, rfl, hown2, hb2⟩
  go_wp2
  go_ret2
  rw [E1.out, E2.out]
  exact ⟨_, _, _, rfl, hown2.weaken (Nat.le_trans HB.out.size hb1.size), below_next hb2 (below_next hb1 HB.out (Nat.le_refl _)) (Nat.le_refl _)⟩

set_option maxHeartbeats 1000000 in
theorem impl_any (A : Option Addr) (n c : Nat) (zs : List Int) (at' : Int) (w : World) (h : RI w w.heap.size A n zs) (hn' : n ≤ 1099511627776) (hA : A = none → c = 0) :
    Calls Try.prog 49 #[.slice A n c, .int .i64 at'] w (RetIC 2 w (res zs at') (cod zs at')) := by
  go_enter Try.func49, Try.ntmps49
  go_wp2_with fail
  refine (iApplyFault_any A n c zs at' w h hn' hA).mono ?_
  rintro e w1 ⟨A1, n1, c1, rfl, hown1, hb1⟩
  go_wp2
  go_ret2
  exact ⟨_, _, _, rfl, hown1, hb1⟩
end SilenceFrom
end Go.Proofs.Ytjehkjdehkdjcaa

namespace Go.Proofs.Ytjehkjdehkdjcaa
open Go.RowKit

/-- a list whose numbers from p on, below k, are changed -/
def chg (φ : Int → Int) (zs : List Int) (p k : Nat) : List Int := (List.range zs.length).map fun i => if p ≤ i ∧ i < k then φ (gi zs i) else gi zs i
section
variable {φ : Int → Int}
theorem chg_len (zs : List Int) (p k : Nat) : (chg φ zs p k).length = zs.length := by simp [chg]
theorem chg_gi {zs : List Int} {p k i : Nat} (h : i < zs.length) : gi (chg φ zs p k) i = if p ≤ i ∧ i < k then φ (gi zs i) else gi zs i := by simp [gi, chg, h]
theorem chg_none {zs : List Int} {p k : Nat} (h : k ≤ p) : chg φ zs p k = zs := by
  refine ext_gi (chg_len _ _ _) fun i hi => ?_
  rw [chg_len] at hi
  rw [chg_gi hi, if_neg (by omega)]
theorem chg_set {zs : List Int} {p k : Nat} (hk : p ≤ k) (hn : k < zs.length) : (chg φ zs p k).set k (φ (gi zs k)) = chg φ zs p (k + 1) := by
  refine ext_gi (by rw [List.length_set, chg_len, chg_len]) fun i hi => ?_
  rw [List.length_set, chg_len] at hi
  rw [chg_gi hi]
  have : gi ((chg φ zs p k).set k (φ (gi zs k))) i = if k = i then φ (gi zs k) else gi (chg φ zs p k) i := by
    unfold gi
    rw [List.getD_eq_getElem?_getD, List.getElem?_set, List.getD_eq_getElem?_getD]
    by_cases hik : k = i
    · rw [if_pos hik, if_pos hik, if_pos (by rw [chg_len]; omega)]; rfl
    · rw [if_neg hik, if_neg hik, List.getD_eq_getElem?_getD]
  rw [this, chg_gi hi]
  by_cases hik : k = i
  · subst hik
    rw [if_pos rfl, if_pos (by omega)]
  · rw [if_neg hik]
    by_cases h2 : p ≤ i ∧ i < k
    · rw [if_pos h2, if_pos (by omega)]
    · rw [if_neg h2, if_neg (by omega)]
theorem chg_more {zs : List Int} {p k : Nat} (h : zs.length ≤ k) : chg φ zs p k = chg φ zs p zs.length := by
  refine ext_gi (by rw [chg_len, chg_len]) fun i hi => ?_
  rw [chg_len] at hi
  rw [chg_gi hi, chg_gi hi]
  by_cases h2 : p ≤ i
  · rw [if_pos (by omega), if_pos (by omega)]
  · rw [if_neg (by omega), if_neg (by omega)]
end
def inv (z : Int) : Int := 1 - z

namespace ApplyFault
theorem inv_any (z : Int) (w : World) (h1 : 0 ≤ z) (h2 : z ≤ 1) :
    Calls Try.prog 229 #[.int .i64 z] w fun e w' => e = .returned (.int .i64 (inv z)) ∧ w = w' := by
  go_enter Try.func229, Try.ntmps229
  go_wp2
  go_ret
  exact ⟨rfl, rfl⟩

theorem bit_at {zs : List Int} (h : isBits zs = true) {k : Nat} (hk : k < zs.length) : 0 ≤ gi zs k ∧ gi zs k ≤ 1 := by
  unfold isBits at h
  simp only [Bool.and_eq_true] at h
  exact allR_gi h.2 hk

set_option maxHeartbeats 4000000 in
theorem change_inv (A1 : Option Addr) (n c1 base q t : Nat) (zs : List Int) (w : World) (hown : OwnI 2 w base A1 n c1 zs) (hn : n ≤ 8192) (_ : q ≤ 8192) (ht : t ≤ 16384) (hz : isBits zs = true) :
    Calls Try.prog 230 #[.slice A1 n c1, .int .i64 q, .int .i64 t, .func (.func 229) #[] #[]] w fun e w' => e = .returned (.tuple #[]) ∧ OwnI 2 w' base A1 n c1 (chg inv zs q (min t n)) ∧ w.grownBy w' (Value.slice A1 n c1).ownBlock := by
  have L := Lib.hid hown.len
  have HZ := Lib.hid hz
  clear hz
  by_cases htn : t ≤ n
  all_goals
    go_enter Try.func230, Try.ntmps230
    go_wp2
    go_loopw [8] (fun i wr => ∃ k : Nat, q ≤ k ∧ k ≤ max q (min t n) ∧ i = .int .i64 k ∧ OwnI 2 wr base A1 n c1 (chg inv zs q k) ∧ w.grownBy wr (Value.slice A1 n c1).ownBlock) (fun i _ => min t n - (intOf i).toNat)
    case atStart => exact ⟨q, Nat.le_refl _, by omega, rfl, by rw [chg_none (by omega)]; exact hown, World.grownBy.refl _ _⟩
    case round =>
      obtain ⟨k, hk0', hk, rfl, hown', hg⟩ := hrel
      have HK' := Lib.hid hk
      clear hk
      by_cases hlt2 : k < min t n
      · have hkn : k < n := by omega
        have hkt : k < t := by omega
        obtain ⟨g, rfl, hg1, hg2⟩ := hown'.form (by omega)
        have hold := hown'.cell hkn
        rw [chg_gi (by rw [L.out]; exact hkn), if_neg (by omega)] at hold
        have hfr := hown'.frozen k
        have hbit := bit_at HZ.out (k := k) (by rw [L.out]; exact hkn)
        go_wp2_with fail
        refine (inv_any _ _ hbit.1 hbit.2).mono ?_
        rintro e w' ⟨rfl, rfl⟩
        go_wp2
        go_roundw
        case rel =>
          have := hown'.stored k (inv (gi zs k))
          rw [chg_set (by omega) (by rw [L.out]; exact hkn)] at this
          exact ⟨k + 1, by omega, by omega, by go_num, this.1, grown_tr hg this.2⟩
        case measure => simp [intOf]; omega
      · have HK := Lib.hid (show k = max q (min t n) from by have := HK'.out; omega)
        have hkn : t ≤ k ∨ n ≤ k := by omega
        go_wp2
        go_end0
        refine ⟨rfl, ?_, hg⟩
        rw [HK.out] at hown'
        by_cases hqn : q ≤ min t n
        · rwa [Nat.max_eq_right hqn] at hown'
        · rw [Nat.max_eq_left (by omega), chg_none (Nat.le_refl _)] at hown'
          rw [chg_none (by omega)]
          exact hown'
end ApplyFault
end Go.Proofs.Ytjehkjdehkdjcaa

namespace Go.Proofs.Ytjehkjdehkdjcaa
open Go.RowKit
theorem rep_succ (v : Int) (k : Nat) : List.replicate (k + 1) v = List.replicate k v ++ [v] := List.replicate_succ'

set_option maxHeartbeats 1000000 in
theorem l20Equal_any (n : Nat) (v : Int) (w : World) (hn : n ≤ 1048576) :
    Calls Try.prog 218 #[.int .i64 n, .int .i64 v] w (RetI 2 w n (List.replicate n v)) := by
  go_enter Try.func218, Try.ntmps218
  go_wp2
  go_loopw [0, 5] (fun i o wr => ∃ (j k : Nat) (A' : Option Addr) (c' : Nat), j + k = n ∧ i = .int .i64 j ∧ o = .slice A' k c' ∧ OwnI 2 wr w.heap.size A' k c' (List.replicate k v) ∧ Below w.heap.size w wr) (fun i _ _ => (intOf i).toNat)
  case atStart => exact ⟨n, 0, some ⟨w.heap.size, 0, none⟩, 0, by omega, rfl, rfl, OwnI.empty _ (Nat.le_refl _), (Below.refl _ _).alloc (Nat.le_refl _) _⟩
  case round =>
    obtain ⟨j, k, A', c', hjk, rfl, rfl, hown, hb⟩ := hrel
    by_cases hlt : 0 < j
    · go_wp2_with (at_builtin; refine wpl_appI _ _ Try.underlying24 infoInt rfl _ _ rfl w.heap.size _ k _ _ rfl hown v rfl (by omega) hb.size ?_; intro A2 c2 w2 hown2 hB2 hg2)
      go_roundw
      case rel => exact ⟨j - 1, k + 1, A2, c2, by omega, by congr 1; omega, rfl, by rw [rep_succ]; exact hown2, hb.trans (hB2 _ (Nat.le_refl _))⟩
      case measure => simp [intOf]; omega
    · obtain rfl : j = 0 := by omega
      obtain rfl : k = n := by omega
      go_wp2
      go_ret
      exact ⟨A', c', rfl, hown, hb⟩

set_option maxHeartbeats 1000000 in
theorem repeat_any (n : Nat) (v : Int) (w : World) (hn : n ≤ 1048576) :
    Calls Try.prog 132 #[.slice none 0 0, .int .i64 v, .int .i64 n] w (RetI 2 w n (List.replicate n v)) := by
  go_enter Try.func132, Try.ntmps132
  go_wp2
  go_loopw [0, 8] (fun o i wr => ∃ (k m : Nat) (A' : Option Addr) (c' : Nat), k ≤ n ∧ m = k ∧ i = .int .i64 k ∧ o = .slice A' m c' ∧ OwnI 2 wr w.heap.size A' m c' (List.replicate k v) ∧ Below w.heap.size w wr) (fun _ i _ => n - (intOf i).toNat)
  case atStart => exact ⟨0, 0, none, 0, by omega, rfl, rfl, rfl, OwnI.nil _ _ _, Below.refl _ _⟩
  case round =>
    obtain ⟨k, m, A', c', hk, hmk, rfl, rfl, hown, hb⟩ := hrel
    have HM := Lib.hid hmk
    have hm9 : m ≤ 1048576 := by omega
    clear hmk
    by_cases hlt : k < n
    · go_wp2_with (at_builtin; refine wpl_appI _ _ Try.underlying24 infoInt rfl _ _ rfl w.heap.size _ m _ _ rfl hown v rfl (by omega) hb.size ?_; intro A2 c2 w2 hown2 hB2 hg2)
      go_roundw
      case rel => exact ⟨k + 1, m + 1, A2, c2, by omega, by rw [HM.out], by go_num, rfl, by rw [rep_succ]; exact hown2, hb.trans (hB2 _ (Nat.le_refl _))⟩
      case measure => simp [intOf]; omega
    · obtain rfl : k = n := by omega
      obtain rfl := HM.out
      go_wp2
      go_ret
      exact ⟨A', c', rfl, hown, hb⟩
end Go.Proofs.Ytjehkjdehkdjcaa

namespace Go.Proofs.Ytjehkjdehkdjcaa
open Go.RowKit
namespace FlipScript
def flt (z : Int) : Flt := ⟨1, z, 0, 0⟩
def res (zs : List Int) : List Flt := if rises zs 8193 = true ∧ zs.length ≤ 30 then zs.map flt else []
def cod (zs : List Int) : Int := if rises zs 8193 then (if zs.length ≤ 30 then 0 else 3) else 2
theorem res_len (zs : List Int) : (res zs).length ≤ zs.length := by unfold res; split <;> simp
theorem map_take {zs : List Int} {k : Nat} (h : k < zs.length) : (zs.take (k + 1)).map flt = (zs.take k).map flt ++ [flt (gi zs k)] := by
  rw [take_gi h, List.map_append]; rfl

set_option maxHeartbeats 2000000 in
theorem spec_any (A : Option Addr) (n c : Nat) (zs : List Int) (w : World) (h : RI w w.heap.size A n zs) (hn : n ≤ 1099511627776) :
    Calls Try.prog 70 #[.slice A n c] w (RetEC encF 4 82 w (res zs) (cod zs)) := by
  have L := Lib.hid h.len
  rcases bool_cases (rises zs 8193) with hz | hz
  case inr =>
    have E1 := Lib.hid (show res zs = [] from by simp [res, hz])
    have E2 := Lib.hid (show cod zs = 2 from by simp [cod, hz])
    go_enter Try.func70, Try.ntmps70
    go_wp2_with fail
    refine (l01Rises_any _ _ _ zs _ _ h hn (by omega) (by omega)).mono ?_
    rintro e w1 ⟨rfl, hb1⟩
    go_wp2
    go_ret2
    exact ⟨none, 0, 0, by rw [E2.out]; rfl, by rw [E1.out]; exact OwnE.nil _ _ _ _ _, hb1⟩
  by_cases hl : n ≤ 30
  case neg =>
    have E1 := Lib.hid (show res zs = [] from by simp [res, hz, L.out, hl])
    have E2 := Lib.hid (show cod zs = 3 from by simp [cod, hz, L.out, hl])
    go_enter Try.func70, Try.ntmps70
    go_wp2_with fail
    refine (l01Rises_any _ _ _ zs _ _ h hn (by omega) (by omega)).mono ?_
    rintro e w1 ⟨rfl, hb1⟩
    go_wp2
    go_ret2
    exact ⟨none, 0, 0, by rw [E2.out]; rfl, by rw [E1.out]; exact OwnE.nil _ _ _ _ _, hb1⟩
  have E1 := Lib.hid (show zs.map flt = res zs from by simp [res, hz, L.out, hl])
  have E2 := Lib.hid (show cod zs = 0 from by simp [cod, hz, L.out, hl])
  go_enter Try.func70, Try.ntmps70
  go_wp2_with fail
  refine (l01Rises_any _ _ _ zs _ _ h hn (by omega) (by omega)).mono ?_
  rintro e w1 ⟨rfl, hb1⟩
  go_wp2
  go_loopw [4, 5] (fun o i wr => ∃ (k m : Nat) (A' : Option Addr) (c' : Nat), k ≤ n ∧ m = k ∧ i = .int .i64 k ∧ o = .slice A' m c' ∧ OwnE encF 4 82 wr w.heap.size A' m c' ((zs.take k).map flt) ∧ Below w.heap.size w wr) (fun _ i _ => n - (intOf i).toNat)
  case atStart => exact ⟨0, 0, some ⟨w1.heap.size, 0, none⟩, 0, Nat.zero_le _, rfl, rfl, rfl, OwnE.empty _ hb1.size, hb1.alloc hb1.size _⟩
  case round =>
    obtain ⟨k, m, A', c', hk, hmk, rfl, rfl, hown, hb⟩ := hrel
    have HM := Lib.hid hmk
    have hm30 : m ≤ 30 := by omega
    clear hmk
    by_cases hlt : k < n
    · obtain ⟨b, o, rfl, hbl, hc⟩ := (h.below hb (Nat.le_refl _)).get (by omega)
      have hcell := hc k hlt
      clear hc
      go_wp2_with (at_builtin; refine wpl_appF _ _ Try.underlying60 infoFault rfl _ _ rfl w.heap.size _ m _ _ rfl hown (flt (gi zs k)) rfl (by omega) hb.size ?_; intro A2 c2 w2 hown2 hB2 hg2)
      go_roundw
      case rel => exact ⟨k + 1, m + 1, A2, c2, by omega, by rw [HM.out], by go_num, rfl, by rw [map_take (by rw [L.out]; exact hlt)]; exact hown2, hb.trans (hB2 _ (Nat.le_refl _))⟩
      case measure => simp [intOf]; omega
    · have hkn : k = n := by omega
      have HK := Lib.hid hkn
      clear hkn
      go_wp2
      go_ret2
      refine ⟨_, _, _, by rw [E2.out]; rfl, ?_, hb⟩
      rw [← E1.out]
      rw [HK.out, List.take_of_length_le (by rw [L.out]; exact Nat.le_refl _)] at hown
      exact hown

set_option maxHeartbeats 2000000 in
theorem impl_any (A : Option Addr) (n c : Nat) (zs : List Int) (w : World) (h : RI w w.heap.size A n zs) (hn : n ≤ 1099511627776) :
    Calls Try.prog 69 #[.slice A n c] w (RetEC encF 4 82 w (res zs) (cod zs)) := by
  have L := Lib.hid h.len
  rcases bool_cases (rises zs 8193) with hz | hz
  case inr =>
    have E1 := Lib.hid (show res zs = [] from by simp [res, hz])
    have E2 := Lib.hid (show cod zs = 2 from by simp [cod, hz])
    go_enter Try.func69, Try.ntmps69
    go_wp2_with fail
    refine (isRising_any _ _ _ zs _ _ h hn (by omega) (by omega)).mono ?_
    rintro e w1 ⟨rfl, hb1⟩
    go_wp2
    go_ret2
    exact ⟨none, 0, 0, by rw [E2.out]; rfl, by rw [E1.out]; exact OwnE.nil _ _ _ _ _, hb1⟩
  by_cases hl : n ≤ 30
  case neg =>
    have E1 := Lib.hid (show res zs = [] from by simp [res, hz, L.out, hl])
    have E2 := Lib.hid (show cod zs = 3 from by simp [cod, hz, L.out, hl])
    go_enter Try.func69, Try.ntmps69
    go_wp2_with fail
    refine (isRising_any _ _ _ zs _ _ h hn (by omega) (by omega)).mono ?_
    rintro e w1 ⟨rfl, hb1⟩
    go_wp2
    go_ret2
    exact ⟨none, 0, 0, by rw [E2.out]; rfl, by rw [E1.out]; exact OwnE.nil _ _ _ _ _, hb1⟩
  have E1 := Lib.hid (show zs.map flt = res zs from by simp [res, hz, L.out, hl])
  have E2 := Lib.hid (show cod zs = 0 from by simp [cod, hz, L.out, hl])
  go_enter Try.func69, Try.ntmps69
  go_wp2_with fail
  refine (isRising_any _ _ _ zs _ _ h hn (by omega) (by omega)).mono ?_
  rintro e w1 ⟨rfl, hb1⟩
  go_wp2
  go_loopw [4, 6, 16] (fun o _ i wr => ∃ (k m : Nat) (A' : Option Addr) (c' : Nat), k ≤ n ∧ m = k ∧ i = .int .i64 k ∧ o = .slice A' m c' ∧ OwnE encF 4 82 wr w.heap.size A' m c' ((zs.take k).map flt) ∧ Below w.heap.size w wr) (fun _ _ i _ => n - (intOf i).toNat)
  case atStart => exact ⟨0, 0, some ⟨w1.heap.size, 0, none⟩, 0, Nat.zero_le _, rfl, rfl, rfl, OwnE.empty _ hb1.size, hb1.alloc hb1.size _⟩
  case round =>
    obtain ⟨k, m, A', c', hk, hmk, rfl, rfl, hown, hb⟩ := hrel
    have HM := Lib.hid hmk
    have hm30 : m ≤ 30 := by omega
    clear hmk
    by_cases hlt : k < n
    · obtain ⟨b, o, rfl, hbl, hc⟩ := (h.below hb (Nat.le_refl _)).get (by omega)
      have hcell := hc k hlt
      clear hc
      go_wp2_with (at_builtin; refine wpl_appF _ _ Try.underlying60 infoFault rfl _ _ rfl w.heap.size _ m _ _ rfl hown (flt (gi zs k)) rfl (by omega) hb.size ?_; intro A2 c2 w2 hown2 hB2 hg2)
      go_roundw
      case rel => exact ⟨k + 1, m + 1, A2, c2, by omega, by rw [HM.out], by go_num, rfl, by rw [map_take (by rw [L.out]; exact hlt)]; exact hown2, hb.trans (hB2 _ (Nat.le_refl _))⟩
      case measure => simp [intOf]; omega
    · have hkn : k = n := by omega
      have HK := Lib.hid hkn
      clear hkn
      go_wp2
      go_ret2
      refine ⟨_, _, _, by rw [E2.out]; rfl, ?_, hb⟩
      rw [← E1.out]
      rw [HK.out, List.take_of_length_le (by rw [L.out]; exact Nat.le_refl _)] at hown
      exact hown
end FlipScript
end Go.Proofs.Ytjehkjdehkdjcaa

namespace Go.Proofs.Ytjehkjdehkdjcaa
open Go.RowKit
theorem szF_negL {n : Nat} {left : Int} (h : left < (n : Int)) : szF n left = -1 := by unfold szF; rw [if_pos (by omega)]
theorem szF_posL {n : Nat} {left : Int} (h : (n : Int) ≤ left) : szF n left = left - (n : Int) := by unfold szF; rw [if_neg (by omega)]
namespace InvertCells
def flt (z : Int) : Flt := ⟨2, 8 * z, 8, 0⟩
def res (xs zs : List Int) : List Flt := if isBits zs = true ∧ rises xs ((zs.length : Int) / 8) = true then xs.map flt else []
def cod (xs zs : List Int) : Int := if isBits zs then (if rises xs ((zs.length : Int) / 8) then 0 else 2) else 1
theorem res_len (xs zs : List Int) : (res xs zs).length ≤ xs.length := by unfold res; split <;> simp
theorem map_take {zs : List Int} {k : Nat} (h : k < zs.length) : (zs.take (k + 1)).map flt = (zs.take k).map flt ++ [flt (gi zs k)] := by
  rw [take_gi h, List.map_append]; rfl

set_option maxHeartbeats 4000000 in
theorem spec_any (B : Option Addr) (nb cb : Nat) (xs : List Int) (A : Option Addr) (n c : Nat) (zs : List Int) (w : World) (hx : RI w w.heap.size B nb xs) (hnb' : nb ≤ 1099511627776) (hnb : nb ≤ 1048576) (h : RI w w.heap.size A n zs) (hn' : n ≤ 1099511627776) (hn : n ≤ 1048576) :
    Calls Try.prog 53 #[.slice B nb cb, .slice A n c] w (RetEC encF 4 82 w (res xs zs) (cod xs zs)) := by
  have L := Lib.hid h.len
  have LX := Lib.hid hx.len
  have hdiv : (n : Int).tdiv 8 = (n : Int) / 8 := Int.tdiv_eq_ediv_of_nonneg (by omega)
  rcases bool_cases (isBits zs) with hz | hz
  case inr =>
    have E1 := Lib.hid (show res xs zs = [] from by simp [res, hz])
    have E2 := Lib.hid (show cod xs zs = 1 from by simp [cod, hz])
    go_enter Try.func53, Try.ntmps53
    go_wp2_with (go_at_call 130; refine (sIsBits_any _ _ _ _ _ h hn').mono ?_; rintro e w' ⟨rfl, rfl⟩)
    go_ret2
    exact ⟨none, 0, 0, by rw [E2.out]; rfl, by rw [E1.out]; exact OwnE.nil _ _ _ _ _, by go_grown⟩
  rcases bool_cases (rises xs ((n : Int) / 8)) with hr | hr
  case inr =>
    have E1 := Lib.hid (show res xs zs = [] from by simp [res, L.out, hr])
    have E2 := Lib.hid (show cod xs zs = 2 from by simp [cod, hz, L.out, hr])
    have HR := Lib.hid hr
    go_enter Try.func53, Try.ntmps53
    go_wp2_with (go_at_call 130; refine (sIsBits_any _ _ _ _ _ h hn').mono ?_; rintro e w' ⟨rfl, rfl⟩)
    (first | rw [hdiv] | skip)
    refine (l01Rises_any _ _ _ xs ((n : Int) / 8) _ hx hnb' (by omega) (by omega)).mono ?_
    rw [HR.out]
    rintro e w1 ⟨rfl, hb1⟩
    go_wp2
    go_ret2
    exact ⟨none, 0, 0, by rw [E2.out]; rfl, by rw [E1.out]; exact OwnE.nil _ _ _ _ _, hb1⟩
  have E1 := Lib.hid (show xs.map flt = res xs zs from by simp [res, hz, L.out, hr])
  have E2 := Lib.hid (show cod xs zs = 0 from by simp [cod, hz, L.out, hr])
  have HR := Lib.hid hr
  clear hr
  go_enter Try.func53, Try.ntmps53
  go_wp2_with (go_at_call 130; refine (sIsBits_any _ _ _ _ _ h hn').mono ?_; rintro e w' ⟨rfl, rfl⟩)
  (first | rw [hdiv] | skip)
  refine (l01Rises_any _ _ _ xs ((n : Int) / 8) _ hx hnb' (by omega) (by omega)).mono ?_
  rw [HR.out]
  rintro e w1 ⟨rfl, hb1⟩
  go_wp2
  go_loopw [6, 7] (fun o i wr => ∃ (k m : Nat) (A' : Option Addr) (c' : Nat), k ≤ nb ∧ m = k ∧ i = .int .i64 k ∧ o = .slice A' m c' ∧ OwnE encF 4 82 wr w.heap.size A' m c' ((xs.take k).map flt) ∧ Below w.heap.size w wr) (fun _ i _ => nb - (intOf i).toNat)
  case atStart => exact ⟨0, 0, some ⟨w1.heap.size, 0, none⟩, 0, Nat.zero_le _, rfl, rfl, rfl, OwnE.empty _ hb1.size, hb1.alloc hb1.size _⟩
  case round =>
    obtain ⟨k, m, A', c', hk, hmk, rfl, rfl, hown, hb⟩ := hrel
    have HM := Lib.hid hmk
    have hm30 : m ≤ 1048576 := by omega
    clear hmk
    by_cases hlt : k < nb
    · obtain ⟨b, o, rfl, hbl, hc⟩ := (hx.below hb (Nat.le_refl _)).get (by omega)
      have hcell := hc k hlt
      clear hc
      have hrg := rises_gi HR.out (k := k) (by rw [LX.out]; exact hlt)
      obtain ⟨hr1, hr2⟩ := hrg
      have hr3 : gi xs k ≤ 1048576 := by omega
      clear hr2
      go_wp2_with (at_builtin; refine wpl_appF _ _ Try.underlying60 infoFault rfl _ _ rfl w.heap.size _ m _ _ rfl hown (flt (gi xs k)) rfl (by omega) hb.size ?_; intro A2 c2 w2 hown2 hB2 hg2)
      go_roundw
      case rel => exact ⟨k + 1, m + 1, A2, c2, by omega, by rw [HM.out], by go_num, rfl, by rw [map_take (by rw [LX.out]; exact hlt)]; exact hown2, hb.trans (hB2 _ (Nat.le_refl _))⟩
      case measure => simp [intOf]; omega
    · have hkn : k = nb := by omega
      have HK := Lib.hid hkn
      clear hkn
      go_wp2
      go_ret2
      refine ⟨_, _, _, by rw [E2.out]; rfl, ?_, hb⟩
      rw [← E1.out]
      rw [HK.out, List.take_of_length_le (by rw [LX.out]; exact Nat.le_refl _)] at hown
      exact hown

set_option maxHeartbeats 4000000 in
theorem impl_any (B : Option Addr) (nb cb : Nat) (xs : List Int) (A : Option Addr) (n c : Nat) (zs : List Int) (w : World) (hx : RI w w.heap.size B nb xs) (hnb' : nb ≤ 1099511627776) (hnb : nb ≤ 1048576) (h : RI w w.heap.size A n zs) (hn' : n ≤ 1099511627776) (hn : n ≤ 1048576) :
    Calls Try.prog 52 #[.slice B nb cb, .slice A n c] w (RetEC encF 4 82 w (res xs zs) (cod xs zs)) := by
  have L := Lib.hid h.len
  have LX := Lib.hid hx.len
  have hdiv : (n : Int).tdiv 8 = (n : Int) / 8 := Int.tdiv_eq_ediv_of_nonneg (by omega)
  rcases bool_cases (isBits zs) with hz | hz
  case inr =>
    have E1 := Lib.hid (show res xs zs = [] from by simp [res, hz])
    have E2 := Lib.hid (show cod xs zs = 1 from by simp [cod, hz])
    go_enter Try.func52, Try.ntmps52
    go_wp2_with (go_at_call 131; refine (iIsBits_any _ _ _ _ _ h hn').mono ?_; rintro e w' ⟨rfl, rfl⟩)
    go_ret2
    exact ⟨none, 0, 0, by rw [E2.out]; rfl, by rw [E1.out]; exact OwnE.nil _ _ _ _ _, by go_grown⟩
  rcases bool_cases (rises xs ((n : Int) / 8)) with hr | hr
  case inr =>
    have E1 := Lib.hid (show res xs zs = [] from by simp [res, L.out, hr])
    have E2 := Lib.hid (show cod xs zs = 2 from by simp [cod, hz, L.out, hr])
    have HR := Lib.hid hr
    go_enter Try.func52, Try.ntmps52
    go_wp2_with (go_at_call 131; refine (iIsBits_any _ _ _ _ _ h hn').mono ?_; rintro e w' ⟨rfl, rfl⟩)
    (first | rw [hdiv] | skip)
    refine (isRising_any _ _ _ xs ((n : Int) / 8) _ hx hnb' (by omega) (by omega)).mono ?_
    rw [HR.out]
    rintro e w1 ⟨rfl, hb1⟩
    go_wp2
    go_ret2
    exact ⟨none, 0, 0, by rw [E2.out]; rfl, by rw [E1.out]; exact OwnE.nil _ _ _ _ _, hb1⟩
  have E1 := Lib.hid (show xs.map flt = res xs zs from by simp [res, hz, L.out, hr])
  have E2 := Lib.hid (show cod xs zs = 0 from by simp [cod, hz, L.out, hr])
  have HR := Lib.hid hr
  clear hr
  go_enter Try.func52, Try.ntmps52
  go_wp2_with (go_at_call 131; refine (iIsBits_any _ _ _ _ _ h hn').mono ?_; rintro e w' ⟨rfl, rfl⟩)
  (first | rw [hdiv] | skip)
  refine (isRising_any _ _ _ xs ((n : Int) / 8) _ hx hnb' (by omega) (by omega)).mono ?_
  rw [HR.out]
  rintro e w1 ⟨rfl, hb1⟩
  go_wp2
  go_loopw [6, 8, 21] (fun o _ i wr => ∃ (k m : Nat) (A' : Option Addr) (c' : Nat), k ≤ nb ∧ m = k ∧ i = .int .i64 k ∧ o = .slice A' m c' ∧ OwnE encF 4 82 wr w.heap.size A' m c' ((xs.take k).map flt) ∧ Below w.heap.size w wr) (fun _ _ i _ => nb - (intOf i).toNat)
  case atStart => exact ⟨0, 0, some ⟨w1.heap.size, 0, none⟩, 0, Nat.zero_le _, rfl, rfl, rfl, OwnE.empty _ hb1.size, hb1.alloc hb1.size _⟩
  case round =>
    obtain ⟨k, m, A', c', hk, hmk, rfl, rfl, hown, hb⟩ := hrel
    have HM := Lib.hid hmk
    have hm30 : m ≤ 1048576 := by omega
    clear hmk
    by_cases hlt : k < nb
    · obtain ⟨b, o, rfl, hbl, hc⟩ := (hx.below hb (Nat.le_refl _)).get (by omega)
      have hcell := hc k hlt
      clear hc
      have hrg := rises_gi HR.out (k := k) (by rw [LX.out]; exact hlt)
      obtain ⟨hr1, hr2⟩ := hrg
      have hr3 : gi xs k ≤ 1048576 := by omega
      clear hr2
      go_wp2_with (at_builtin; refine wpl_appF _ _ Try.underlying60 infoFault rfl _ _ rfl w.heap.size _ m _ _ rfl hown (⟨2, gi xs k * 8, 8, 0⟩) rfl (by omega) hb.size ?_; intro A2 c2 w2 hown2 hB2 hg2)
      go_roundw
      case rel => exact ⟨k + 1, m + 1, A2, c2, by omega, by rw [HM.out], by go_num, rfl, by rw [map_take (by rw [LX.out]; exact hlt), show flt (gi xs k) = ⟨2, gi xs k * 8, 8, 0⟩ from by unfold flt; rw [Int.mul_comm]]; exact hown2, hb.trans (hB2 _ (Nat.le_refl _))⟩
      case measure => simp [intOf]; omega
    · have hkn : k = nb := by omega
      have HK := Lib.hid hkn
      clear hkn
      go_wp2
      go_ret2
      refine ⟨_, _, _, by rw [E2.out]; rfl, ?_, hb⟩
      rw [← E1.out]
      rw [HK.out, List.take_of_length_le (by rw [LX.out]; exact Nat.le_refl _)] at hown
      exact hown
end InvertCells
end Go.Proofs.Ytjehkjdehkdjcaa

namespace Go.Proofs.Ytjehkjdehkdjcaa
open Go.RowKit

/-- do five numbers stand in a row -/
def run5 (zs : List Int) (p : Nat) (j : Nat) : Bool := decide (gi zs (p + j) = gi zs (p + 2))
def runTo (zs : List Int) (p k : Nat) : Bool := (List.range k).all fun j => run5 zs p j
def run5All (zs : List Int) (p : Nat) : Bool := runTo zs p 5
theorem runTo_succ (zs : List Int) (p k : Nat) : runTo zs p (k + 1) = (runTo zs p k && run5 zs p k) := by simp [runTo, List.range_succ]
theorem run5All_no {zs : List Int} {p k : Nat} (hk : k < 5) (h : run5 zs p k = false) : run5All zs p = false := by
  refine Bool.eq_false_iff.2 fun ht => ?_
  have := List.all_eq_true.1 ht k (by simpa using hk)
  rw [h] at this; cases this
/-- does a fault happen within a run -/
def within5 (zs : List Int) (f : Flt) : Bool :=
  (decide (f.kd = 3) || decide (f.kd = 4)) && (decide (f.len = 1) && (inR f.pos 2 ((zs.length : Int) - 3) && (run5All zs (f.pos.toNat - 2) && (decide (f.kd = 3) || decide (f.val = gi zs f.pos.toNat)))))

theorem k34_cases (k : Int) : k = 3 ∨ k = 4 ∨ ((k != 3) = true ∧ (k != 4) = true ∧ (k == 3) = false ∧ (k == 4) = false) := by
  by_cases h : k = 3
  · exact .inl h
  · by_cases h2 : k = 4
    · exact .inr (.inl h2)
    · exact .inr (.inr (by simp [h, h2]))
theorem one_cases (l : Int) : l = 1 ∨ ((l != 1) = true ∧ (l == 1) = false) := by
  by_cases h : l = 1
  · exact .inl h
  · exact .inr (by simp [h])

set_option maxHeartbeats 1000000 in
theorem l26Within_any (A : Option Addr) (n c : Nat) (zs : List Int) (k p l v : Int) (w : World) (h : RI w w.heap.size A n zs) (hn : n ≤ 1099511627776) :
    Calls Try.prog 168 #[.slice A n c, .agg #[.int .i64 k, .int .i64 p, .int .i64 l, .int .i64 v]] w (RetV w (.bool (within5 zs ⟨k, p, l, v⟩))) := by
  have L := Lib.hid h.len
  rcases k34_cases k with rfl | rfl | ⟨h1, h2, h3, h4⟩
  case inr.inr =>
    go_enter Try.func168, Try.ntmps168
    go_wp2_with (go_at_call 116; refine (l01In_any _ _ _ _).mono ?_; rintro e w' ⟨rfl, rfl⟩)
    go_ret
    refine ⟨ret_bool ?_, by go_grown⟩
    simp at h1 h2; simp [within5, h1, h2]
  case inl =>
    rcases one_cases l with rfl | ⟨h3, h4⟩
    case inr =>
      go_enter Try.func168, Try.ntmps168
      go_wp2_with (go_at_call 116; refine (l01In_any _ _ _ _).mono ?_; rintro e w' ⟨rfl, rfl⟩)
      go_ret
      refine ⟨ret_bool ?_, by go_grown⟩
      simp at h3; simp [within5, h3]
    by_cases hr : inR p 2 ((n : Int) - 3) = true
    case neg =>
      have hr' : inR p 2 ((n : Int) - 3) = false := by simpa using hr
      clear hr
      go_enter Try.func168, Try.ntmps168
      go_wp2_with (go_at_call 116; refine (l01In_any _ _ _ _).mono ?_; rintro e w' ⟨rfl, rfl⟩)
      go_ret
      refine ⟨ret_bool ?_, by go_grown⟩
      simp [within5, L.out, hr']
    obtain ⟨hp1, hp2⟩ := inR_iff.1 hr
    obtain ⟨q, rfl⟩ : ∃ q : Nat, p = (q : Int) + 2 := ⟨(p - 2).toNat, by omega⟩
    have HR := Lib.hid hr
    obtain ⟨b, o, rfl, hb, hc⟩ := h.get (by omega)
    have HC := Lib.hid hc
    have hc2 := hc (q + 2) (by omega)
    clear hc
    go_enter Try.func168, Try.ntmps168
    go_wp2_with (go_at_call 116; refine (l01In_any _ _ _ _).mono ?_; rintro e w' ⟨rfl, rfl⟩)
    clear hr
    go_loopw [5] (fun i wr => ∃ j : Nat, j ≤ 5 ∧ i = .int .i64 ((q : Int) + j) ∧ runTo zs q j = true ∧ ∃ m, wr = (w.alloc (.cells #[.int .i64 3, .int .i64 ((q : Int) + 2), .int .i64 1, .int .i64 v] 82)).drewN m) (fun i _ => (q : Int).toNat + 5 - (intOf i).toNat)
    case atStart => exact ⟨0, by omega, by go_num, rfl, 0, rfl⟩
    case round =>
      obtain ⟨j, hj, rfl, hrun, m, rfl⟩ := hrel
      have HRun := Lib.hid hrun
      clear hrun
      by_cases hlt : j < 5
      · have hcj := HC.out (q + j) (by omega)
        by_cases hg : gi zs (q + j) = gi zs (q + 2)
        · have hbn : (gi zs (q + j) != gi zs (q + 2)) = false := by simp [hg]
          have HG := Lib.hid hg
          clear hg
          go_wp2
          go_quiet (fail)
          go_wp2
          go_roundw
          case rel => exact ⟨j + 1, by omega, by go_num, by rw [runTo_succ, HRun.out]; simp [run5, HG.out], _, rfl⟩
          case measure => simp [intOf]; omega
        · have hbn : (gi zs (q + j) != gi zs (q + 2)) = true := by simp [hg]
          have HG := Lib.hid hg
          clear hg
          go_wp2
          go_quiet (fail)
          go_wp2
          go_ret
          refine ⟨ret_bool ?_, (by repeat (first | exact Below.refl _ _ | refine below_drewN ?_ _ | refine Below.alloc ?_ (by simp) _))⟩
          have := run5All_no (zs := zs) (p := q) hlt (by simp [run5, HG.out])
          have e3 : ((q : Int) + 2).toNat = q + 2 := by omega
          simp [within5, this, e3]
      · have hj5 : j = 5 := by omega
        subst hj5
        have hR : run5All zs q = true := HRun.out
        have HR5 := Lib.hid hR
        clear hR
        by_cases hv : v = gi zs (q + 2)
        all_goals
          first
          | (have hbv : (v == gi zs (q + 2)) = true := by simp [hv]
             have HV := Lib.hid hv
             clear hv)
          | (have hbv : (v == gi zs (q + 2)) = false := by simp [hv]
             have HV := Lib.hid hv
             clear hv)
          go_wp2
          go_quiet (fail)
          go_wp2
          go_ret
          refine ⟨ret_bool ?_, (by repeat (first | exact Below.refl _ _ | refine below_drewN ?_ _ | refine Below.alloc ?_ (by simp) _))⟩
          have e1 := HV.out
          have e2 := HR.out
          rw [← L.out] at e2
          have e3 : ((q : Int) + 2).toNat = q + 2 := by omega
          simp [within5, HR5.out, e2, e1, e3]
  case inr.inl =>
    rcases one_cases l with rfl | ⟨h3, h4⟩
    case inr =>
      go_enter Try.func168, Try.ntmps168
      go_wp2_with (go_at_call 116; refine (l01In_any _ _ _ _).mono ?_; rintro e w' ⟨rfl, rfl⟩)
      go_ret
      refine ⟨ret_bool ?_, by go_grown⟩
      simp at h3; simp [within5, h3]
    by_cases hr : inR p 2 ((n : Int) - 3) = true
    case neg =>
      have hr' : inR p 2 ((n : Int) - 3) = false := by simpa using hr
      clear hr
      go_enter Try.func168, Try.ntmps168
      go_wp2_with (go_at_call 116; refine (l01In_any _ _ _ _).mono ?_; rintro e w' ⟨rfl, rfl⟩)
      go_ret
      refine ⟨ret_bool ?_, by go_grown⟩
      simp [within5, L.out, hr']
    obtain ⟨hp1, hp2⟩ := inR_iff.1 hr
    obtain ⟨q, rfl⟩ : ∃ q : Nat, p = (q : Int) + 2 := ⟨(p - 2).toNat, by omega⟩
    have HR := Lib.hid hr
    obtain ⟨b, o, rfl, hb, hc⟩ := h.get (by omega)
    have HC := Lib.hid hc
    have hc2 := hc (q + 2) (by omega)
    clear hc
    go_enter Try.func168, Try.ntmps168
    go_wp2_with (go_at_call 116; refine (l01In_any _ _ _ _).mono ?_; rintro e w' ⟨rfl, rfl⟩)
    clear hr
    go_loopw [5] (fun i wr => ∃ j : Nat, j ≤ 5 ∧ i = .int .i64 ((q : Int) + j) ∧ runTo zs q j = true ∧ ∃ m, wr = (w.alloc (.cells #[.int .i64 4, .int .i64 ((q : Int) + 2), .int .i64 1, .int .i64 v] 82)).drewN m) (fun i _ => (q : Int).toNat + 5 - (intOf i).toNat)
    case atStart => exact ⟨0, by omega, by go_num, rfl, 0, rfl⟩
    case round =>
      obtain ⟨j, hj, rfl, hrun, m, rfl⟩ := hrel
      have HRun := Lib.hid hrun
      clear hrun
      by_cases hlt : j < 5
      · have hcj := HC.out (q + j) (by omega)
        by_cases hg : gi zs (q + j) = gi zs (q + 2)
        · have hbn : (gi zs (q + j) != gi zs (q + 2)) = false := by simp [hg]
          have HG := Lib.hid hg
          clear hg
          go_wp2
          go_quiet (fail)
          go_wp2
          go_roundw
          case rel => exact ⟨j + 1, by omega, by go_num, by rw [runTo_succ, HRun.out]; simp [run5, HG.out], _, rfl⟩
          case measure => simp [intOf]; omega
        · have hbn : (gi zs (q + j) != gi zs (q + 2)) = true := by simp [hg]
          have HG := Lib.hid hg
          clear hg
          go_wp2
          go_quiet (fail)
          go_wp2
          go_ret
          refine ⟨ret_bool ?_, (by repeat (first | exact Below.refl _ _ | refine below_drewN ?_ _ | refine Below.alloc ?_ (by simp) _))⟩
          have := run5All_no (zs := zs) (p := q) hlt (by simp [run5, HG.out])
          have e3 : ((q : Int) + 2).toNat = q + 2 := by omega
          simp [within5, this, e3]
      · have hj5 : j = 5 := by omega
        subst hj5
        have hR : run5All zs q = true := HRun.out
        have HR5 := Lib.hid hR
        clear hR
        by_cases hv : v = gi zs (q + 2)
        all_goals
          first
          | (have hbv : (v == gi zs (q + 2)) = true := by simp [hv]
             have HV := Lib.hid hv
             clear hv)
          | (have hbv : (v == gi zs (q + 2)) = false := by simp [hv]
             have HV := Lib.hid hv
             clear hv)
          go_wp2
          go_quiet (fail)
          go_wp2
          go_ret
          refine ⟨ret_bool ?_, (by repeat (first | exact Below.refl _ _ | refine below_drewN ?_ _ | refine Below.alloc ?_ (by simp) _))⟩
          have e1 := HV.out
          have e2 := HR.out
          rw [← L.out] at e2
          have e3 : ((q : Int) + 2).toNat = q + 2 := by omega
          simp [within5, HR5.out, e2, e1, e3]

theorem withinRun_no {zs : List Int} {k p l v : Int} (h1 : (k == 3) = false) (h2 : (k == 4) = false) : within5 zs ⟨k, p, l, v⟩ = false := by
  simp at h1 h2; simp [within5, h1, h2]

set_option maxHeartbeats 1000000 in
theorem isSlip_any (k p l v : Int) (w : World) :
    Calls Try.prog 228 #[.agg #[.int .i64 k, .int .i64 p, .int .i64 l, .int .i64 v]] w (RetV w (.bool ((decide (k = 3) || decide (k = 4)) && decide (l = 1)))) := by
  rcases k34_cases k with rfl | rfl | ⟨h1, h2, h3, h4⟩
  case inr.inr =>
    go_enter Try.func228, Try.ntmps228
    go_wp2
    go_ret
    refine ⟨ret_bool ?_, by go_grown⟩
    simp at h3 h4; simp [h3, h4]
  all_goals
    rcases one_cases l with rfl | ⟨h3, h4⟩
    all_goals
      go_enter Try.func228, Try.ntmps228
      go_wp2
      go_ret
      refine ⟨ret_bool ?_, by go_grown⟩
    all_goals first | rfl | (simp at h3; simp [h3])

set_option maxHeartbeats 2000000 in
theorem withinRun_any (A : Option Addr) (n c : Nat) (zs : List Int) (k p l v : Int) (w : World) (h : RI w w.heap.size A n zs) (hn : n ≤ 1099511627776) (hcap : n ≤ c) (hcm : c ≤ maxLen) :
    Calls Try.prog 167 #[.slice A n c, .agg #[.int .i64 k, .int .i64 p, .int .i64 l, .int .i64 v]] w (RetV w (.bool (within5 zs ⟨k, p, l, v⟩))) := by
  unfold maxLen at hcm
  have L := Lib.hid h.len
  by_cases hs : ((decide (k = 3) || decide (k = 4)) && decide (l = 1)) = true
  case neg =>
    have hs' : ((decide (k = 3) || decide (k = 4)) && decide (l = 1)) = false := by simpa using hs
    have HS := Lib.hid hs'
    clear hs hs'
    go_enter Try.func167, Try.ntmps167
    go_wp2_with fail
    refine (isSlip_any _ _ _ _ _).mono ?_
    rw [HS.out]
    rintro e w1 ⟨rfl, hb1⟩
    go_wp2
    go_ret
    refine ⟨ret_bool ?_, ((Below.refl _ _).alloc (Nat.le_refl _) _).trans (hb1.mono (by simp))⟩
    have := HS.out
    unfold within5
    rw [← Bool.and_assoc, this, Bool.false_and]
  by_cases hr : inR p 2 ((n : Int) - 3) = true
  case neg =>
    have hr' : inR p 2 ((n : Int) - 3) = false := by simpa using hr
    clear hr
    have HS := Lib.hid hs
    clear hs
    go_enter Try.func167, Try.ntmps167
    go_wp2_with fail
    refine (isSlip_any _ _ _ _ _).mono ?_
    rw [HS.out]
    rintro e w1 ⟨rfl, hb1⟩
    obtain ⟨hc1, hf1⟩ := bcell hb1
    go_wp2_with (go_at_call 120; refine (within_any _ _ _ _).mono ?_; rintro e w' ⟨rfl, rfl⟩)
    go_ret
    refine ⟨ret_bool ?_, ((Below.refl _ _).alloc (Nat.le_refl _) _).trans (hb1.mono (by simp))⟩
    simp [within5, L.out, hr']
  obtain ⟨hp1, hp2⟩ := inR_iff.1 hr
  obtain ⟨q, rfl⟩ : ∃ q : Nat, p = (q : Int) + 2 := ⟨(p - 2).toNat, by omega⟩
  have HR := Lib.hid hr
  obtain ⟨b, o, rfl, hb, hc⟩ := h.get (by omega)
  have HC := Lib.hid hc
  clear hc
  simp only [Bool.and_eq_true, Bool.or_eq_true, decide_eq_true_eq] at hs
  obtain ⟨hk, rfl⟩ := hs
  rcases hk with rfl | rfl
  case inl =>
    go_enter Try.func167, Try.ntmps167
    go_wp2_with fail
    refine (isSlip_any _ _ _ _ _).mono ?_
    rintro e w1 ⟨rfl, hb1⟩
    obtain ⟨hc1, hf1⟩ := bcell hb1
    have HC1 : Hid (∀ i, i < n → w1.cell? ⟨b, o + i, none⟩ = some (.int .i64 (gi zs i))) := fun i hi => by
      rw [hb1.cell (p := ⟨b, o + i, none⟩) (by simp; omega), World.cell?_alloc_lt _ _ _ hb]; exact HC.out i hi
    have hc2 := HC1.out (q + 2) (by omega)
    have g0 : w1.cell? ⟨w.heap.size, 0, none⟩ = some (.int .i64 3) := by rw [hb1.cell (by simp)]; simp
    have g1 : w1.cell? ⟨w.heap.size, 1, none⟩ = some (.int .i64 ((q : Int) + 2)) := by rw [hb1.cell (by simp)]; simp
    have g3 : w1.cell? ⟨w.heap.size, 3, none⟩ = some (.int .i64 v) := by rw [hb1.cell (by simp)]; simp
    clear hc1 hf1
    go_wp2_with (go_at_call 120; refine (within_any _ _ _ _).mono ?_; rintro e w' ⟨rfl, rfl⟩)
    clear hr
    go_loop [6, 28] (fun _ i => ∃ j : Nat, j ≤ 5 ∧ i = .int .i64 j ∧ runTo zs q j = true) (fun _ i => 5 - (intOf i).toNat)
    case atStart => exact ⟨0, by omega, by go_num, rfl⟩
    case round =>
      obtain ⟨j, hj, rfl, hrun⟩ := hrel
      have HRun := Lib.hid hrun
      clear hrun
      by_cases hlt : j < 5
      · have hcj := HC1.out (q + j) (by omega)
        rw [← Nat.add_assoc] at hcj
        by_cases hg : gi zs (q + j) = gi zs (q + 2)
        · have hbn : (gi zs (q + j) != gi zs (q + 2)) = false := by simp [hg]
          have HG := Lib.hid hg
          clear hg
          go_wp2
          go_round
          case rel => exact ⟨j + 1, by omega, by go_num, by rw [runTo_succ, HRun.out]; simp [run5, HG.out]⟩
          case measure => simp [intOf]; omega
        · have hbn : (gi zs (q + j) != gi zs (q + 2)) = true := by simp [hg]
          have HG := Lib.hid hg
          clear hg
          go_wp2
          go_ret
          refine ⟨ret_bool ?_, ((Below.refl _ _).alloc (Nat.le_refl _) _).trans (hb1.mono (by simp))⟩
          have := run5All_no (zs := zs) (p := q) hlt (by simp [run5, HG.out])
          have e3 : ((q : Int) + 2).toNat = q + 2 := by omega
          simp [within5, this, e3]
      · have hj5 : j = 5 := by omega
        subst hj5
        have hR : run5All zs q = true := HRun.out
        have HR5 := Lib.hid hR
        clear hR
        go_wp2
        go_ret
        refine ⟨ret_bool ?_, ((Below.refl _ _).alloc (Nat.le_refl _) _).trans (hb1.mono (by simp))⟩
        have e2 := HR.out
        rw [← L.out] at e2
        have e3 : ((q : Int) + 2).toNat = q + 2 := by omega
        simp [within5, HR5.out, e2, e3]
  case inr =>
    go_enter Try.func167, Try.ntmps167
    go_wp2_with fail
    refine (isSlip_any _ _ _ _ _).mono ?_
    rintro e w1 ⟨rfl, hb1⟩
    obtain ⟨hc1, hf1⟩ := bcell hb1
    have HC1 : Hid (∀ i, i < n → w1.cell? ⟨b, o + i, none⟩ = some (.int .i64 (gi zs i))) := fun i hi => by
      rw [hb1.cell (p := ⟨b, o + i, none⟩) (by simp; omega), World.cell?_alloc_lt _ _ _ hb]; exact HC.out i hi
    have hc2 := HC1.out (q + 2) (by omega)
    have g0 : w1.cell? ⟨w.heap.size, 0, none⟩ = some (.int .i64 4) := by rw [hb1.cell (by simp)]; simp
    have g1 : w1.cell? ⟨w.heap.size, 1, none⟩ = some (.int .i64 ((q : Int) + 2)) := by rw [hb1.cell (by simp)]; simp
    have g3 : w1.cell? ⟨w.heap.size, 3, none⟩ = some (.int .i64 v) := by rw [hb1.cell (by simp)]; simp
    clear hc1 hf1
    go_wp2_with (go_at_call 120; refine (within_any _ _ _ _).mono ?_; rintro e w' ⟨rfl, rfl⟩)
    clear hr
    by_cases hv : v = gi zs (q + 2)
    case neg =>
      have HV := Lib.hid hv
      clear hv
      go_loop [6, 28] (fun _ i => i = .int .i64 0) (fun _ i => 5 - (intOf i).toNat)
      case atStart => rfl
      case round =>
        obtain rfl := hrel
        have hcj := HC1.out (q + 0) (by omega)
        rw [Nat.add_zero] at hcj
        by_cases hg : gi zs q = gi zs (q + 2)
        · have hbn : (gi zs q != gi zs (q + 2)) = false := by simp [hg]
          have hbn2 : (gi zs q != v) = true := by rw [hg]; simp; exact fun e => HV.out e.symm
          clear hg
          go_wp2
          go_ret
          refine ⟨ret_bool ?_, ((Below.refl _ _).alloc (Nat.le_refl _) _).trans (hb1.mono (by simp))⟩
          have e3 : ((q : Int) + 2).toNat = q + 2 := by omega
          simp [within5, e3, HV.out]
        · have hbn : (gi zs q != gi zs (q + 2)) = true := by simp [hg]
          clear hg
          go_wp2
          go_ret
          refine ⟨ret_bool ?_, ((Below.refl _ _).alloc (Nat.le_refl _) _).trans (hb1.mono (by simp))⟩
          have e3 : ((q : Int) + 2).toNat = q + 2 := by omega
          simp [within5, e3, HV.out]
    have HV := Lib.hid hv
    clear hv
    go_loop [6, 28] (fun _ i => ∃ j : Nat, j ≤ 5 ∧ i = .int .i64 j ∧ runTo zs q j = true) (fun _ i => 5 - (intOf i).toNat)
    case atStart => exact ⟨0, by omega, by go_num, rfl⟩
    case round =>
      obtain ⟨j, hj, rfl, hrun⟩ := hrel
      have HRun := Lib.hid hrun
      clear hrun
      by_cases hlt : j < 5
      · have hcj := HC1.out (q + j) (by omega)
        rw [← Nat.add_assoc] at hcj
        by_cases hg : gi zs (q + j) = gi zs (q + 2)
        · have hbn : (gi zs (q + j) != gi zs (q + 2)) = false := by simp [hg]
          have hbn2 : (gi zs (q + j) != v) = false := by rw [HV.out]; simp [hg]
          have HG := Lib.hid hg
          clear hg
          go_wp2
          go_round
          case rel => exact ⟨j + 1, by omega, by go_num, by rw [runTo_succ, HRun.out]; simp [run5, HG.out]⟩
          case measure => simp [intOf]; omega
        · have hbn : (gi zs (q + j) != gi zs (q + 2)) = true := by simp [hg]
          have HG := Lib.hid hg
          clear hg
          go_wp2
          go_ret
          refine ⟨ret_bool ?_, ((Below.refl _ _).alloc (Nat.le_refl _) _).trans (hb1.mono (by simp))⟩
          have := run5All_no (zs := zs) (p := q) hlt (by simp [run5, HG.out])
          have e3 : ((q : Int) + 2).toNat = q + 2 := by omega
          simp [within5, this, e3]
      · have hj5 : j = 5 := by omega
        subst hj5
        have hR : run5All zs q = true := HRun.out
        have HR5 := Lib.hid hR
        clear hR
        go_wp2
        go_ret
        refine ⟨ret_bool ?_, ((Below.refl _ _).alloc (Nat.le_refl _) _).trans (hb1.mono (by simp))⟩
        have e2 := HR.out
        rw [← L.out] at e2
        have e3 : ((q : Int) + 2).toNat = q + 2 := by omega
        simp [within5, HR5.out, e2, e3, HV.out]
end Go.Proofs.Ytjehkjdehkdjcaa

namespace Go.Proofs.Ytjehkjdehkdjcaa
open Go.RowKit
namespace SlipPlaces
/-- the places below k at which a drop is within a run -/
def slipsTo (zs : List Int) : Nat → List Int
  | 0 => []
  | k + 1 => slipsTo zs k ++ (if within5 zs ⟨3, k, 1, 0⟩ then [(k : Int)] else [])
theorem slipsTo_yes {zs : List Int} {k : Nat} (h : within5 zs ⟨3, k, 1, 0⟩ = true) : slipsTo zs (k + 1) = slipsTo zs k ++ [(k : Int)] := by simp [slipsTo, h]
theorem slipsTo_no {zs : List Int} {k : Nat} (h : within5 zs ⟨3, k, 1, 0⟩ = false) : slipsTo zs (k + 1) = slipsTo zs k := by simp [slipsTo, h]
theorem slipsTo_len (zs : List Int) (k : Nat) : (slipsTo zs k).length ≤ k := by
  induction k with
  | zero => simp [slipsTo]
  | succ k ih => unfold slipsTo; split <;> simp <;> omega
def res (zs : List Int) : List Int := if isBits zs then slipsTo zs zs.length else []
def cod (zs : List Int) : Int := if isBits zs then 0 else 1
theorem res_len (zs : List Int) : (res zs).length ≤ zs.length := by
  unfold res; split
  · exact slipsTo_len _ _
  · simp

set_option maxHeartbeats 1000000 in
theorem spec_any (A : Option Addr) (n c : Nat) (zs : List Int) (w : World) (h : RI w w.heap.size A n zs) (hn : n ≤ 1099511627776) :
    Calls Try.prog 87 #[.slice A n c] w (RetIC 2 w (res zs) (cod zs)) := by
  have L := Lib.hid h.len
  rcases bool_cases (isBits zs) with hz | hz
  case inr =>
    have E1 := Lib.hid (show res zs = [] from by simp [res, hz])
    have E2 := Lib.hid (show cod zs = 1 from by simp [cod, hz])
    go_enter Try.func87, Try.ntmps87
    go_wp2_with (go_at_call 130; refine (sIsBits_any _ _ _ _ _ h hn).mono ?_; rintro e w' ⟨rfl, rfl⟩)
    go_ret2
    exact ⟨none, 0, 0, by rw [E2.out]; rfl, by rw [E1.out]; exact OwnI.nil _ _ _, by go_grown⟩
  have E1 := Lib.hid (show slipsTo zs zs.length = res zs from by simp [res, hz])
  have E2 := Lib.hid (show cod zs = 0 from by simp [cod, hz])
  go_enter Try.func87, Try.ntmps87
  go_wp2_with (go_at_call 130; refine (sIsBits_any _ _ _ _ _ h hn).mono ?_; rintro e w' ⟨rfl, rfl⟩)
  go_loopw [4, 5] (fun o i wr => ∃ (k m : Nat) (A' : Option Addr) (c' : Nat), k ≤ n ∧ m ≤ k ∧ i = .int .i64 k ∧ o = .slice A' m c' ∧ OwnI 2 wr w.heap.size A' m c' (slipsTo zs k) ∧ Below w.heap.size w wr) (fun _ i _ => n - (intOf i).toNat)
  case atStart => exact ⟨0, 0, some ⟨w.heap.size, 0, none⟩, 0, Nat.zero_le _, Nat.le_refl _, rfl, rfl, OwnI.empty _ (Nat.le_refl _), (Below.refl _ _).alloc (Nat.le_refl _) _⟩
  case round =>
    obtain ⟨k, m, A', c', hk, hmk, rfl, rfl, hown, hb⟩ := hrel
    by_cases hlt : k < n
    · go_wp2_with fail
      refine (l26Within_any _ _ _ zs _ _ _ _ _ (h.up hb) hn).mono ?_
      rcases bool_cases (within5 zs ⟨3, k, 1, 0⟩) with hy | hy
      · have HY := Lib.hid hy
        rw [hy]
        clear hy
        rintro e w1 ⟨rfl, hb1⟩
        have hown1 := hown.below hb1
        have hb1' := below_next hb1 hb (Nat.le_refl _)
        go_wp2_with (at_builtin; refine wpl_appI _ _ Try.underlying24 infoInt rfl _ _ rfl w.heap.size _ m _ _ rfl hown1 (k : Int) rfl (by omega) hb1'.size ?_; intro A2 c2 w2 hown2 hB2 hg2)
        go_roundw
        case rel => exact ⟨k + 1, m + 1, A2, c2, by omega, by omega, by go_num, rfl, by rw [slipsTo_yes HY.out]; exact hown2, hb1'.trans (hB2 _ (Nat.le_refl _))⟩
        case measure => simp [intOf]; omega
      · have HY := Lib.hid hy
        rw [hy]
        clear hy
        rintro e w1 ⟨rfl, hb1⟩
        have hown1 := hown.below hb1
        have hb1' := below_next hb1 hb (Nat.le_refl _)
        go_wp2
        go_roundw
        case rel => exact ⟨k + 1, m, A', c', by omega, by omega, by go_num, rfl, by rw [slipsTo_no HY.out]; exact hown1, hb1'⟩
        case measure => simp [intOf]; omega
    · have hkn : k = n := by omega
      have HK := Lib.hid hkn
      clear hkn
      go_wp2
      go_ret2
      refine ⟨_, _, _, by rw [E2.out]; rfl, ?_, hb⟩
      rw [← E1.out, L.out]
      rw [HK.out] at hown
      exact hown

set_option maxHeartbeats 1000000 in
theorem impl_any (A : Option Addr) (n c : Nat) (zs : List Int) (w : World) (h : RI w w.heap.size A n zs) (hn : n ≤ 1099511627776) (hcap : n ≤ c) (hcm : c ≤ maxLen) :
    Calls Try.prog 86 #[.slice A n c] w (RetIC 2 w (res zs) (cod zs)) := by
  have L := Lib.hid h.len
  rcases bool_cases (isBits zs) with hz | hz
  case inr =>
    have E1 := Lib.hid (show res zs = [] from by simp [res, hz])
    have E2 := Lib.hid (show cod zs = 1 from by simp [cod, hz])
    go_enter Try.func86, Try.ntmps86
    go_wp2_with (go_at_call 131; refine (iIsBits_any _ _ _ _ _ h hn).mono ?_; rintro e w' ⟨rfl, rfl⟩)
    go_ret2
    exact ⟨none, 0, 0, by rw [E2.out]; rfl, by rw [E1.out]; exact OwnI.nil _ _ _, by go_grown⟩
  have E1 := Lib.hid (show slipsTo zs zs.length = res zs from by simp [res, hz])
  have E2 := Lib.hid (show cod zs = 0 from by simp [cod, hz])
  go_enter Try.func86, Try.ntmps86
  go_wp2_with (go_at_call 131; refine (iIsBits_any _ _ _ _ _ h hn).mono ?_; rintro e w' ⟨rfl, rfl⟩)
  go_loopw [4, 5, 12] (fun o _ i wr => ∃ (k m : Nat) (A' : Option Addr) (c' : Nat), k ≤ n ∧ m ≤ k ∧ i = .int .i64 k ∧ o = .slice A' m c' ∧ OwnI 2 wr w.heap.size A' m c' (slipsTo zs k) ∧ Below w.heap.size w wr) (fun _ _ i _ => n - (intOf i).toNat)
  case atStart => exact ⟨0, 0, some ⟨w.heap.size, 0, none⟩, 0, Nat.zero_le _, Nat.le_refl _, rfl, rfl, OwnI.empty _ (Nat.le_refl _), (Below.refl _ _).alloc (Nat.le_refl _) _⟩
  case round =>
    obtain ⟨k, m, A', c', hk, hmk, rfl, rfl, hown, hb⟩ := hrel
    by_cases hlt : k < n
    · go_wp2_with fail
      refine (withinRun_any _ _ _ zs _ _ _ _ _ (h.up hb) hn hcap hcm).mono ?_
      rcases bool_cases (within5 zs ⟨3, k, 1, 0⟩) with hy | hy
      · have HY := Lib.hid hy
        rw [hy]
        clear hy
        rintro e w1 ⟨rfl, hb1⟩
        have hown1 := hown.below hb1
        have hb1' := below_next hb1 hb (Nat.le_refl _)
        go_wp2_with (at_builtin; refine wpl_appI _ _ Try.underlying24 infoInt rfl _ _ rfl w.heap.size _ m _ _ rfl hown1 (k : Int) rfl (by omega) hb1'.size ?_; intro A2 c2 w2 hown2 hB2 hg2)
        go_roundw
        case rel => exact ⟨k + 1, m + 1, A2, c2, by omega, by omega, by go_num, rfl, by rw [slipsTo_yes HY.out]; exact hown2, hb1'.trans (hB2 _ (Nat.le_refl _))⟩
        case measure => simp [intOf]; omega
      · have HY := Lib.hid hy
        rw [hy]
        clear hy
        rintro e w1 ⟨rfl, hb1⟩
        have hown1 := hown.below hb1
        have hb1' := below_next hb1 hb (Nat.le_refl _)
        go_wp2
        go_roundw
        case rel => exact ⟨k + 1, m, A', c', by omega, by omega, by go_num, rfl, by rw [slipsTo_no HY.out]; exact hown1, hb1'⟩
        case measure => simp [intOf]; omega
    · have hkn : k = n := by omega
      have HK := Lib.hid hkn
      clear hkn
      go_wp2
      go_ret2
      refine ⟨_, _, _, by rw [E2.out]; rfl, ?_, hb⟩
      rw [← E1.out, L.out]
      rw [HK.out] at hown
      exact hown
end SlipPlaces
end Go.Proofs.Ytjehkjdehkdjcaa
