/- The walks of the functions on bounded scripts, of the program and the reference. Conditions: none. -/
import Derived.Test.YtlfbmedgkkfalaaAs
import Derived.Test.YtlfbmedgkkfalaaFlipsA
import Derived.Test.YtlfbmedgkkfalaaWithin
import Derived.Deep.QuietTactic
import Derived.BigQuiet
import Derived.IntWalk
import Derived.Deep.DeepCutAuto
namespace Go.Proofs.Ytlfbmedgkkfalaa
open Go.RowKit

/-- is the k-th fault at least so far behind the one before it -/
def spAt (fs : List Flt) (d : Int) (k : Nat) : Bool := decide (k = 0) || decide (d ≤ (ge fs k).pos - (ge fs (k - 1)).pos)
def spTo (fs : List Flt) (d : Int) (k : Nat) : Bool := (List.range k).all fun i => spAt fs d i
def spaced (fs : List Flt) (d : Int) : Bool := spTo fs d fs.length
theorem spTo_succ (fs : List Flt) (d : Int) (k : Nat) : spTo fs d (k + 1) = (spTo fs d k && spAt fs d k) := by simp [spTo, List.range_succ]
theorem spaced_no {fs : List Flt} {d : Int} {k : Nat} (hk : k < fs.length) (h : spAt fs d k = false) : spaced fs d = false := by
  refine Bool.eq_false_iff.2 fun ht => ?_
  have := List.all_eq_true.1 ht k (List.mem_range.2 hk)
  rw [h] at this; cases this
theorem spAt_zero (fs : List Flt) (d : Int) : spAt fs d 0 = true := rfl
theorem spAt_of {fs : List Flt} {d : Int} {k : Nat} (h : d ≤ (ge fs k).pos - (ge fs (k - 1)).pos) : spAt fs d k = true := by simp [spAt, h]
theorem spAt_no {fs : List Flt} {d : Int} {k : Nat} (hk : k ≠ 0) (h : ¬ d ≤ (ge fs k).pos - (ge fs (k - 1)).pos) : spAt fs d k = false := by simp [spAt, h, hk]

set_option maxHeartbeats 2000000 in
theorem isSpaced_any (A : Option Addr) (n c : Nat) (fs : List Flt) (d : Int) (w : World) (h : RE encF 4 w w.heap.size A n fs) (hn : n ≤ 1099511627776) (hall : allF fs = true) :
    Calls Try.prog 243 #[.slice A n c, .int .i64 d] w (RetV w (.bool (spaced fs d))) := by
  have L := Lib.hid h.len
  have HA := Lib.hid hall
  clear hall
  go_enter Try.func243, Try.ntmps243
  go_wp2
  go_loopw [5] (fun i wr => ∃ k : Nat, 1 ≤ k ∧ k ≤ max 1 n ∧ i = .int .i64 k ∧ spTo fs d k = true ∧ Below w.heap.size w wr) (fun i _ => n - (intOf i).toNat)
  case atStart => exact ⟨1, Nat.le_refl _, by omega, rfl, rfl, Below.refl _ _⟩
  case round =>
    obtain ⟨k, hk1', hk, rfl, hall, hb⟩ := hrel
    have Hall := Lib.hid hall
    have HKM := Lib.hid hk
    clear hall hk
    by_cases hlt : k < n
    · obtain ⟨b, o, rfl, _, hc⟩ := (h.below hb (Nat.le_refl _)).get (by omega)
      have hc1 := hc k hlt 1 _ rfl
      have hc2 := hc (k - 1) (by omega) 1 _ rfl
      clear hc
      have hp1 := isFault_pos (allF_ge HA.out (k := k) (by rw [L.out]; exact hlt))
      have hp2 := isFault_pos (allF_ge HA.out (k := k - 1) (by rw [L.out]; omega))
      obtain ⟨p, hp⟩ : ∃ p, (ge fs k).pos = p := ⟨_, rfl⟩
      obtain ⟨q, hq⟩ : ∃ q, (ge fs (k - 1)).pos = q := ⟨_, rfl⟩
      rw [hp] at hc1 hp1
      rw [hq] at hc2 hp2
      have HP := Lib.hid hp
      have HQ := Lib.hid hq
      obtain ⟨hp3, hp4⟩ := hp1
      obtain ⟨hq3, hq4⟩ := hp2
      clear hp hq
      have hk1 : 0 < k := by omega
      have hk0 := Lib.hid (show k ≠ 0 by omega)
      by_cases hd : d ≤ p - q
      · have HD := Lib.hid (show spAt fs d k = true from spAt_of (by rw [HP.out, HQ.out]; exact hd))
        have hd2 : decide (p - q < d) = false := by simp; omega
        have hw1 : IntKind.i64.wrap (p - q) = p - q := IntWalk.i64_in _ (by omega)
        clear hd
        go_wp2_with fail
        go_quiet (fail)
        clear hk1 hw1 hc1 hc2
        go_wp2
        go_roundw
        case rel => exact ⟨k + 1, by omega, by omega, by go_num, by rw [spTo_succ, Hall.out, HD.out]; rfl, below_drewN hb _⟩
        case measure => simp [intOf]; omega
      · have HD := Lib.hid (show spAt fs d k = false from spAt_no hk0.out (by rw [HP.out, HQ.out]; exact hd))
        have hd2 : decide (p - q < d) = true := by simp; omega
        have hw1 : IntKind.i64.wrap (p - q) = p - q := IntWalk.i64_in _ (by omega)
        clear hd
        go_wp2_with fail
        go_quiet (fail)
        clear hk1 hw1 hc1 hc2
        go_wp2
        go_ret
        exact ⟨ret_bool (spaced_no (by rw [L.out]; exact hlt) HD.out).symm, below_drewN hb _⟩
    · have hz := Lib.hid (show spaced fs d = true from by
        unfold spaced
        rw [L.out]
        have h1 := HKM.out
        by_cases hn0 : n = 0
        · rw [hn0]; rfl
        · rw [show n = k by omega]; exact Hall.out)
      go_wp2
      go_ret
      exact ⟨ret_bool hz.out.symm, hb⟩

theorem notFlip_any (k p l v : Int) (w : World) :
    Calls Try.prog 244 #[.agg #[.int .i64 k, .int .i64 p, .int .i64 l, .int .i64 v]] w (RetV w (.bool (!decide (k = 1)))) := by
  go_enter Try.func244, Try.ntmps244
  go_wp2
  go_ret
  exact ⟨ret_bool (by by_cases h : k = 1 <;> simp [h]), (Below.refl _ _).alloc (Nat.le_refl _) _⟩

set_option maxHeartbeats 1000000 in
theorem indexFl_any (A : Option Addr) (n c : Nat) (fs : List Flt) (w : World) (h : RE encF 4 w w.heap.size A n fs) (hn : n ≤ 1099511627776) :
    Calls Try.prog 245 #[.slice A n c, .func (.func 244) #[] #[]] w fun e w' => ∃ z : Int, e = .returned (.int .i64 z) ∧ decide (0 ≤ z) = (!allFl fs) ∧ Below w.heap.size w w' := by
  have L := Lib.hid h.len
  go_enter Try.func245, Try.ntmps245
  go_wp2
  go_loopw [5, 8] (fun _ i wr => ∃ k : Nat, k ≤ n ∧ i = .int .i64 k ∧ allFl (fs.take k) = true ∧ Below w.heap.size w wr) (fun _ i _ => n - (intOf i).toNat)
  case atStart => exact ⟨0, Nat.zero_le _, rfl, rfl, Below.refl _ _⟩
  case round =>
    obtain ⟨k, hk, rfl, hall, hb⟩ := hrel
    have Hall := Lib.hid hall
    clear hall
    by_cases hlt : k < n
    · obtain ⟨b, o, rfl, hbl, hc⟩ := (h.below hb (Nat.le_refl _)).get (by omega)
      have hc0 := hc k hlt 0 _ rfl
      have hc1 := hc k hlt 1 _ rfl
      have hc2 := hc k hlt 2 _ rfl
      have hc3 := hc k hlt 3 _ rfl
      clear hc
      rw [Nat.add_zero] at hc0
      rcases bool_cases (decide ((ge fs k).kd = 1)) with hf | hf
      all_goals
        have HF := Lib.hid hf
        go_wp2_with fail
        refine (notFlip_any _ _ _ _ _).mono ?_
        rw [hf]
        clear hf
        rintro e w1 ⟨rfl, hb1⟩
        have hb1' := below_next hb1 hb (Nat.le_refl _)
      · go_wp2
        go_roundw
        case rel => exact ⟨k + 1, by omega, by go_num, by rw [allFl_take (by rw [L.out]; exact hlt), Hall.out, HF.out]; rfl, hb1'⟩
        case measure => simp [intOf]; omega
      · go_wp2
        go_ret
        exact ⟨(k : Int), rfl, by rw [allFl_no (by rw [L.out]; exact hlt) (of_decide_eq_false HF.out)]; simp, hb1'⟩
    · have hkn : k = n := by omega
      have hz : allFl fs = true := by have := Hall.out; rwa [List.take_of_length_le (by rw [h.len]; omega)] at this
      have Hz := Lib.hid hz
      clear hz hkn
      go_wp2
      go_ret
      exact ⟨-1, rfl, by rw [Hz.out]; rfl, hb⟩

set_option maxHeartbeats 1000000 in
theorem containsFl_any (A : Option Addr) (n c : Nat) (fs : List Flt) (w : World) (h : RE encF 4 w w.heap.size A n fs) (hn : n ≤ 1099511627776) :
    Calls Try.prog 183 #[.slice A n c, .func (.func 244) #[] #[]] w (RetV w (.bool (!allFl fs))) := by
  go_enter Try.func183, Try.ntmps183
  go_wp2_with fail
  refine (indexFl_any A n c fs w h hn).mono ?_
  rintro e w1 ⟨z, rfl, hz, hb1⟩
  have HZ := Lib.hid hz
  clear hz
  go_wp2
  go_ret
  exact ⟨ret_bool HZ.out, hb1⟩


set_option maxHeartbeats 4000000 in
theorem l26Flips_any (A : Option Addr) (n c : Nat) (fs : List Flt) (w : World) (h : RE encF 4 w w.heap.size A n fs) (hn : n ≤ 1099511627776) (hall : allF fs = true) :
    Calls Try.prog 241 #[.slice A n c] w (RetV w (.bool (spaced fs 6 && allFl fs))) := by
  have L := Lib.hid h.len
  have HA := Lib.hid hall
  clear hall
  go_enter Try.func241, Try.ntmps241
  go_wp2
  go_loopw [3] (fun i wr => ∃ k : Nat, k ≤ n ∧ i = .int .i64 k ∧ spTo fs 6 k = true ∧ allFl (fs.take k) = true ∧ Below w.heap.size w wr) (fun i _ => n - (intOf i).toNat)
  case atStart => exact ⟨0, Nat.zero_le _, rfl, rfl, rfl, Below.refl _ _⟩
  case round =>
    obtain ⟨k, hk, rfl, hsp, hfl, hb⟩ := hrel
    have HSP := Lib.hid hsp
    have HFL := Lib.hid hfl
    clear hsp hfl
    by_cases hlt : k < n
    · obtain ⟨b, o, rfl, _, hc⟩ := (h.below hb (Nat.le_refl _)).get (by omega)
      have hc0 := hc k hlt 0 _ rfl
      have hc1 := hc k hlt 1 _ rfl
      have HC := Lib.hid hc
      clear hc
      rw [Nat.add_zero] at hc0
      obtain ⟨kd, hkd⟩ : ∃ x, (ge fs k).kd = x := ⟨_, rfl⟩
      rw [hkd] at hc0
      have HK := Lib.hid hkd
      clear hkd
      by_cases h1 : kd = 1
      case neg =>
        have hb1 : (kd != 1) = true := by simp [h1]
        have HN := Lib.hid h1
        clear h1
        go_wp2_with fail
        go_quiet (fail)
        clear hc0 hc1
        go_wp2
        go_ret
        exact ⟨ret_bool (by rw [allFl_no (by rw [L.out]; exact hlt) (by rw [HK.out]; exact HN.out), Bool.and_false]), below_drewN hb _⟩
      subst h1
      have hb1 : ((1 : Int) != 1) = false := rfl
      have HF1 := Lib.hid (show allFl (fs.take (k + 1)) = true from by rw [allFl_take (by rw [L.out]; exact hlt), HFL.out, HK.out]; rfl)
      by_cases hk0 : k = 0
      · subst hk0
        simp only [Nat.zero_mul, Nat.add_zero] at hc0 hc1
        go_wp2_with fail
        go_quiet (fail)
        clear hc0 hc1
        go_wp2
        go_roundw
        case rel => exact ⟨1, by omega, by go_num, by rw [spTo_succ, HSP.out]; rfl, HF1.out, below_drewN hb _⟩
        case measure => simp [intOf]; omega
      · have hc2 := HC.out (k - 1) (by omega) 1 _ rfl
        have hp1 := isFault_pos (allF_ge HA.out (k := k) (by rw [L.out]; exact hlt))
        have hp2 := isFault_pos (allF_ge HA.out (k := k - 1) (by rw [L.out]; omega))
        obtain ⟨p, hp⟩ : ∃ p, (ge fs k).pos = p := ⟨_, rfl⟩
        obtain ⟨q, hq⟩ : ∃ q, (ge fs (k - 1)).pos = q := ⟨_, rfl⟩
        rw [hp] at hc1 hp1
        rw [hq] at hc2 hp2
        have HP := Lib.hid hp
        have HQ := Lib.hid hq
        obtain ⟨hp3, hp4⟩ := hp1
        obtain ⟨hq3, hq4⟩ := hp2
        clear hp hq
        have hk1 : 0 < k := by omega
        have HK0 := Lib.hid hk0
        clear hk0
        by_cases hd : 6 ≤ p - q
        · have HD := Lib.hid (show spAt fs 6 k = true from spAt_of (by rw [HP.out, HQ.out]; exact hd))
          have hd2 : decide (p - q < 6) = false := by simp; omega
          have hw1 : IntKind.i64.wrap (p - q) = p - q := IntWalk.i64_in _ (by omega)
          clear hd
          go_wp2_with fail
          go_quiet (fail)
          clear hk1 hw1 hc0 hc1 hc2
          go_wp2
          go_roundw
          case rel => exact ⟨k + 1, by omega, by go_num, by rw [spTo_succ, HSP.out, HD.out]; rfl, HF1.out, below_drewN hb _⟩
          case measure => simp [intOf]; omega
        · have HD := Lib.hid (show spAt fs 6 k = false from spAt_no HK0.out (by rw [HP.out, HQ.out]; exact hd))
          have hd2 : decide (p - q < 6) = true := by simp; omega
          have hw1 : IntKind.i64.wrap (p - q) = p - q := IntWalk.i64_in _ (by omega)
          clear hd
          go_wp2_with fail
          go_quiet (fail)
          clear hk1 hw1 hc0 hc1 hc2
          go_wp2
          go_ret
          exact ⟨ret_bool (by rw [spaced_no (by rw [L.out]; exact hlt) HD.out, Bool.false_and]), below_drewN hb _⟩
    · have hkn : k = n := by omega
      have h1 := Lib.hid (show (spaced fs 6 && allFl fs) = true from by
        have e1 := HSP.out
        have e2 := HFL.out
        rw [List.take_of_length_le (by rw [L.out]; omega)] at e2
        unfold spaced
        rw [L.out, ← hkn, e1, e2]; rfl)
      clear hkn
      go_wp2
      go_ret
      exact ⟨ret_bool h1.out.symm, hb⟩

/-- is each fault within a run of the samples behind those before it -/
def witTo (zs : List Int) (fs : List Flt) (k : Nat) : Bool := (List.range k).all fun i => within5 (appS zs (fs.take i)) (ge fs i)
def wit (zs : List Int) (fs : List Flt) : Bool := witTo zs fs fs.length
theorem witTo_succ (zs : List Int) (fs : List Flt) (k : Nat) : witTo zs fs (k + 1) = (witTo zs fs k && within5 (appS zs (fs.take k)) (ge fs k)) := by simp [witTo, List.range_succ]
theorem wit_no {zs : List Int} {fs : List Flt} {k : Nat} (hk : k < fs.length) (h : within5 (appS zs (fs.take k)) (ge fs k) = false) : wit zs fs = false := by
  refine Bool.eq_false_iff.2 fun ht => ?_
  have := List.all_eq_true.1 ht k (List.mem_range.2 hk)
  rw [h] at this; cases this

end Go.Proofs.Ytlfbmedgkkfalaa
