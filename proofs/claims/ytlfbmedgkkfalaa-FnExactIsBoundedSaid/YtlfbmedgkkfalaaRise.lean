/- The walks of the tests for rising lists, of the program and the reference. Conditions: lists of at most 2^40 numbers. -/
import Derived.Test.YtlfbmedgkkfalaaFault
import Derived.Test.YtlfbmedgkkfalaaKit4
namespace Go.Proofs.Ytlfbmedgkkfalaa
open Go.RowKit

/-- does the i-th number lie below n and above the one before it -/
def okAt (zs : List Int) (n : Int) (i : Nat) : Bool := inR (gi zs i) 0 (n - 1) && (decide (i = 0) || decide (gi zs (i - 1) < gi zs i))
def risesTo (zs : List Int) (n : Int) (k : Nat) : Bool := (List.range k).all fun i => okAt zs n i
def rises (zs : List Int) (n : Int) : Bool := risesTo zs n zs.length
theorem risesTo_succ (zs : List Int) (n : Int) (k : Nat) : risesTo zs n (k + 1) = (risesTo zs n k && okAt zs n k) := by simp [risesTo, List.range_succ]
theorem rises_no {zs : List Int} {n : Int} {k : Nat} (hk : k < zs.length) (h : okAt zs n k = false) : rises zs n = false := by
  refine Bool.eq_false_iff.2 fun ht => ?_
  have := List.all_eq_true.1 ht k (by simpa using hk)
  rw [h] at this; cases this
theorem rises_gi {zs : List Int} {n : Int} (h : rises zs n = true) {k : Nat} (hk : k < zs.length) : 0 ≤ gi zs k ∧ gi zs k ≤ n - 1 := by
  have := List.all_eq_true.1 h k (by simpa using hk)
  unfold okAt at this
  simp only [Bool.and_eq_true] at this
  exact inR_iff.1 this.1

theorem l01In_yes {n lo hi : Int} (h : inR n lo hi = true) (w : World) : Calls Try.prog 143 #[.int .i64 n, .int .i64 lo, .int .i64 hi] w fun e w' => e = .returned (.bool true) ∧ w = w' := by
  have := l01In_any n lo hi w; rw [h] at this; exact this
theorem l01In_no {n lo hi : Int} (h : inR n lo hi = false) (w : World) : Calls Try.prog 143 #[.int .i64 n, .int .i64 lo, .int .i64 hi] w fun e w' => e = .returned (.bool false) ∧ w = w' := by
  have := l01In_any n lo hi w; rw [h] at this; exact this

set_option maxHeartbeats 1000000 in
theorem l01Rises_any (A : Option Addr) (n c : Nat) (zs : List Int) (m : Int) (w : World) (h : RI w w.heap.size A n zs) (hn : n ≤ 1099511627776) (hm : 0 ≤ m) (hm2 : m ≤ 1099511627776) :
    Calls Try.prog 179 #[.slice A n c, .int .i64 m] w (RetV w (.bool (rises zs m))) := by
  have L := Lib.hid h.len
  go_enter Try.func179, Try.ntmps179
  go_wp2
  go_loopw [5] (fun i wr => ∃ k : Nat, k ≤ n ∧ i = .int .i64 k ∧ risesTo zs m k = true ∧ Below w.heap.size w wr) (fun i _ => n - (intOf i).toNat)
  case atStart => exact ⟨0, Nat.zero_le _, rfl, rfl, Below.refl _ _⟩
  case round =>
    obtain ⟨k, hk, rfl, hall, hb⟩ := hrel
    have Hall := Lib.hid hall
    clear hall
    by_cases hlt : k < n
    · obtain ⟨b, o, rfl, _, hc⟩ := (h.below hb (Nat.le_refl _)).get (by omega)
      have hcell := hc k hlt
      have HC := Lib.hid hc
      clear hc
      rcases bool_cases (inR (gi zs k) 0 (m - 1)) with hr | hr
      case inr =>
        have HR := Lib.hid hr
        go_wp2_with fail; go_quiet (first | (go_at_call 143; exact quiet_same (l01In_no hr _))); go_wp2
        go_ret
        exact ⟨ret_bool (rises_no (by rw [L.out]; exact hlt) (by unfold okAt; rw [HR.out]; rfl)).symm, (by first | exact hb | exact below_drewN hb _)⟩
      have HR := Lib.hid hr
      by_cases hk0 : k = 0
      · subst hk0
        rw [Nat.add_zero] at hcell
        go_wp2_with fail; go_quiet (first | (go_at_call 143; exact quiet_same (l01In_yes hr _))); go_wp2
        go_roundw
        case rel => exact ⟨1, by omega, by go_num, by rw [risesTo_succ, Hall.out]; unfold okAt; rw [HR.out]; rfl, below_drewN hb _⟩
        case measure => simp [intOf]; omega
      · have hcell2 := HC.out (k - 1) (by omega)
        have hk1 : 0 < k := by omega
        by_cases hg : gi zs (k - 1) < gi zs k
        · have HG := Lib.hid hg
          go_wp2_with fail; go_quiet (first | (go_at_call 143; exact quiet_same (l01In_yes hr _)))
          clear hk1 hcell hcell2
          go_wp2
          go_roundw
          case rel => exact ⟨k + 1, by omega, by go_num, by rw [risesTo_succ, Hall.out]; unfold okAt; rw [HR.out]; simp [HG.out], below_drewN hb _⟩
          case measure => simp [intOf]; omega
        · have HG := Lib.hid hg
          go_wp2_with fail; go_quiet (first | (go_at_call 143; exact quiet_same (l01In_yes hr _)))
          clear hk1 hcell hcell2
          go_wp2
          go_ret
          exact ⟨ret_bool (rises_no (by rw [L.out]; exact hlt) (by unfold okAt; simp [HG.out, hk0])).symm, (by first | exact hb | exact below_drewN hb _)⟩
    · have hkn : k = n := by omega
      have hz : rises zs m = true := by unfold rises; rw [L.out, ← hkn]; exact Hall.out
      have Hz := Lib.hid hz
      clear hz hkn
      go_wp2
      go_ret
      exact ⟨ret_bool Hz.out.symm, (by first | exact hb | exact below_drewN hb _)⟩

set_option maxHeartbeats 1000000 in
theorem isRising_any (A : Option Addr) (n c : Nat) (zs : List Int) (m : Int) (w : World) (h : RI w w.heap.size A n zs) (hn : n ≤ 1099511627776) (_ : 0 ≤ m) (_ : m ≤ 1099511627776) :
    Calls Try.prog 178 #[.slice A n c, .int .i64 m] w (RetV w (.bool (rises zs m))) := by
  have L := Lib.hid h.len
  go_enter Try.func178, Try.ntmps178
  go_wp2
  go_loopw [5, 6, 9] (fun _ _ i wr => ∃ k : Nat, k ≤ n ∧ i = .int .i64 k ∧ risesTo zs m k = true ∧ Below w.heap.size w wr) (fun _ _ i _ => n - (intOf i).toNat)
  case atStart => exact ⟨0, Nat.zero_le _, rfl, rfl, Below.refl _ _⟩
  case round =>
    obtain ⟨k, hk, rfl, hall, hb⟩ := hrel
    have Hall := Lib.hid hall
    clear hall
    by_cases hlt : k < n
    · obtain ⟨b, o, rfl, _, hc⟩ := (h.below hb (Nat.le_refl _)).get (by omega)
      have hcell := hc k hlt
      have HC := Lib.hid hc
      clear hc
      by_cases h1 : gi zs k < 0
      · have HR := Lib.hid (show inR (gi zs k) 0 (m - 1) = false from inR_no.2 (.inl h1))
        go_wp2
        go_ret
        exact ⟨ret_bool (rises_no (by rw [L.out]; exact hlt) (by unfold okAt; rw [HR.out]; rfl)).symm, (by first | exact hb | exact below_drewN hb _)⟩
      by_cases h2 : gi zs k < m
      case neg =>
        have HR := Lib.hid (show inR (gi zs k) 0 (m - 1) = false from inR_no.2 (.inr (by omega)))
        go_wp2
        go_ret
        exact ⟨ret_bool (rises_no (by rw [L.out]; exact hlt) (by unfold okAt; rw [HR.out]; rfl)).symm, (by first | exact hb | exact below_drewN hb _)⟩
      have HR := Lib.hid (show inR (gi zs k) 0 (m - 1) = true from inR_iff.2 ⟨by omega, by omega⟩)
      by_cases hk0 : k = 0
      · subst hk0
        rw [Nat.add_zero] at hcell
        go_wp2
        go_roundw
        case rel => exact ⟨1, by omega, by go_num, by rw [risesTo_succ, Hall.out]; unfold okAt; rw [HR.out]; rfl, hb⟩
        case measure => simp [intOf]; omega
      · have hcell2 := HC.out (k - 1) (by omega)
        by_cases hg : gi zs (k - 1) < gi zs k
        · have HG := Lib.hid hg
          go_wp2
          go_roundw
          case rel => exact ⟨k + 1, by omega, by go_num, by rw [risesTo_succ, Hall.out]; unfold okAt; rw [HR.out]; simp [HG.out], hb⟩
          case measure => simp [intOf]; omega
        · have HG := Lib.hid hg
          go_wp2
          go_ret
          exact ⟨ret_bool (rises_no (by rw [L.out]; exact hlt) (by unfold okAt; simp [HG.out, hk0])).symm, (by first | exact hb | exact below_drewN hb _)⟩
    · have hkn : k = n := by omega
      have hz : rises zs m = true := by unfold rises; rw [L.out, ← hkn]; exact Hall.out
      have Hz := Lib.hid hz
      clear hz hkn
      go_wp2
      go_ret
      exact ⟨ret_bool Hz.out.symm, (by first | exact hb | exact below_drewN hb _)⟩
end Go.Proofs.Ytlfbmedgkkfalaa
