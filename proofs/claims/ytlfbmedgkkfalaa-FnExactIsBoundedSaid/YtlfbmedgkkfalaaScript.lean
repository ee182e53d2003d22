/- The walks of IsScript and CountSlips, of the program and the reference. Conditions: lists of at most 2^40 faults. -/
import Derived.Test.YtlfbmedgkkfalaaFaultS
namespace Go.Proofs.Ytlfbmedgkkfalaa
open Go.RowKit

def allF (fs : List Flt) : Bool := fs.all isFault
def isScript (fs : List Flt) : Bool := decide (fs.length ≤ 30) && allF fs
theorem allF_take {fs : List Flt} {k : Nat} (hk : k < fs.length) : allF (fs.take (k + 1)) = (allF (fs.take k) && isFault (ge fs k)) := by
  rw [take_ge hk]; simp [allF]
theorem allF_no {fs : List Flt} {k : Nat} (hk : k < fs.length) (h : isFault (ge fs k) = false) : allF fs = false := by
  refine Bool.eq_false_iff.2 fun ht => ?_
  have := List.all_eq_true.1 ht (ge fs k) (mem_ge hk)
  rw [h] at this; cases this
theorem allF_ge {fs : List Flt} (h : allF fs = true) {k : Nat} (hk : k < fs.length) : isFault (ge fs k) = true := List.all_eq_true.1 h (ge fs k) (mem_ge hk)

set_option maxHeartbeats 1000000 in
theorem sIsScript_any (A : Option Addr) (n c : Nat) (fs : List Flt) (w : World) (h : RE encF 4 w w.heap.size A n fs) (hn : n ≤ 1099511627776) :
    Calls Try.prog 92 #[.slice A n c] w (RetV w (.bool (isScript fs))) := by
  have L := Lib.hid h.len
  go_enter Try.func92, Try.ntmps92
  go_wp2
  go_loopw [3] (fun i wr => ∃ k : Nat, k ≤ n ∧ i = .int .i64 k ∧ allF (fs.take k) = true ∧ Below w.heap.size w wr) (fun i _ => n - (intOf i).toNat)
  case atStart => exact ⟨0, Nat.zero_le _, rfl, rfl, Below.refl _ _⟩
  case round =>
    obtain ⟨k, hk, rfl, hall, hb⟩ := hrel
    have Hall := Lib.hid hall
    clear hall
    by_cases hlt : k < n
    · obtain ⟨b, o, rfl, hbl, hc⟩ := (h.below hb (Nat.le_refl _)).get (by omega)
      have hc0 := hc k hlt 0 _ rfl
      have hc1 := hc k hlt 1 _ rfl
      have hc2 := hc k hlt 2 _ rfl
      have hc3 := hc k hlt 3 _ rfl
      clear hc
      rw [Nat.add_zero] at hc0
      rcases bool_cases (isFault (ge fs k)) with hf | hf
      all_goals
        have HF := Lib.hid hf
        go_wp2_with fail
        refine (sIsFault_any _ _ _ _ _).mono ?_
        rw [show isFault ⟨(ge fs k).kd, (ge fs k).pos, (ge fs k).len, (ge fs k).val⟩ = _ from hf]
        clear hf
        rintro e w1 ⟨rfl, hb1⟩
        have hb1' := below_next hb1 hb (Nat.le_refl _)
      · go_wp2
        go_roundw
        case rel => exact ⟨k + 1, by omega, by go_num, by rw [allF_take (by rw [L.out]; exact hlt), Hall.out, HF.out]; rfl, hb1'⟩
        case measure => simp [intOf]; omega
      · go_wp2
        go_ret
        exact ⟨ret_bool (by unfold isScript; rw [allF_no (by rw [L.out]; exact hlt) HF.out]; simp), hb1'⟩
    · have hkn : k = n := by omega
      have hz : allF fs = true := by have := Hall.out; rwa [List.take_of_length_le (by rw [h.len]; omega)] at this
      have Hz := Lib.hid hz
      clear hz hkn
      by_cases hl : n ≤ 30
      all_goals
        go_wp2
        go_ret
        exact ⟨ret_bool (by unfold isScript; rw [Hz.out, L.out]; simp; omega), hb⟩

set_option maxHeartbeats 1000000 in
theorem notFault_any (k p l v : Int) (w : World) :
    Calls Try.prog 184 #[.agg #[.int .i64 k, .int .i64 p, .int .i64 l, .int .i64 v]] w (RetV w (.bool (!isFault ⟨k, p, l, v⟩))) := by
  go_enter Try.func184, Try.ntmps184
  go_wp2_with fail
  refine (iIsFault_any _ _ _ _ _).mono ?_
  rintro e w1 ⟨rfl, hb1⟩
  go_wp2
  go_ret
  exact ⟨rfl, below_next hb1 (below_alloc (Below.refl _ _) (Nat.le_refl _) _) (Nat.le_refl _)⟩

set_option maxHeartbeats 1000000 in
theorem indexNot_any (A : Option Addr) (n c : Nat) (fs : List Flt) (w : World) (h : RE encF 4 w w.heap.size A n fs) (hn : n ≤ 1099511627776) :
    Calls Try.prog 245 #[.slice A n c, .func (.func 184) #[] #[]] w fun e w' => ∃ z : Int, e = .returned (.int .i64 z) ∧ decide (0 ≤ z) = (!allF fs) ∧ Below w.heap.size w w' := by
  have L := Lib.hid h.len
  go_enter Try.func245, Try.ntmps245
  go_wp2
  go_loopw [5, 8] (fun _ i wr => ∃ k : Nat, k ≤ n ∧ i = .int .i64 k ∧ allF (fs.take k) = true ∧ Below w.heap.size w wr) (fun _ i _ => n - (intOf i).toNat)
  case atStart => exact ⟨0, Nat.zero_le _, rfl, rfl, Below.refl _ _⟩
  case round =>
    obtain ⟨k, hk, rfl, hall, hb⟩ := hrel
    have Hall := Lib.hid hall
    clear hall
    by_cases hlt : k < n
    · obtain ⟨b, o, rfl, hbl, hc⟩ := (h.below hb (Nat.le_refl _)).get (by omega)
      have hc0 := hc k hlt 0 _ rfl
      have hc1 := hc k hlt 1 _ rfl
      have hc2 := hc k hlt 2 _ rfl
      have hc3 := hc k hlt 3 _ rfl
      clear hc
      rw [Nat.add_zero] at hc0
      rcases bool_cases (isFault (ge fs k)) with hf | hf
      all_goals
        have HF := Lib.hid hf
        go_wp2_with fail
        refine (notFault_any _ _ _ _ _).mono ?_
        rw [show isFault ⟨(ge fs k).kd, (ge fs k).pos, (ge fs k).len, (ge fs k).val⟩ = _ from hf]
        clear hf
        rintro e w1 ⟨rfl, hb1⟩
        have hb1' := below_next hb1 hb (Nat.le_refl _)
      · go_wp2
        go_roundw
        case rel => exact ⟨k + 1, by omega, by go_num, by rw [allF_take (by rw [L.out]; exact hlt), Hall.out, HF.out]; rfl, hb1'⟩
        case measure => simp [intOf]; omega
      · go_wp2
        go_ret
        exact ⟨(k : Int), rfl, by rw [allF_no (by rw [L.out]; exact hlt) HF.out]; simp, hb1'⟩
    · have hkn : k = n := by omega
      have hz : allF fs = true := by have := Hall.out; rwa [List.take_of_length_le (by rw [h.len]; omega)] at this
      have Hz := Lib.hid hz
      clear hz hkn
      go_wp2
      go_ret
      exact ⟨-1, rfl, by rw [Hz.out]; rfl, hb⟩

set_option maxHeartbeats 1000000 in
theorem containsNot_any (A : Option Addr) (n c : Nat) (fs : List Flt) (w : World) (h : RE encF 4 w w.heap.size A n fs) (hn : n ≤ 1099511627776) :
    Calls Try.prog 183 #[.slice A n c, .func (.func 184) #[] #[]] w (RetV w (.bool (!allF fs))) := by
  go_enter Try.func183, Try.ntmps183
  go_wp2_with fail
  refine (indexNot_any A n c fs w h hn).mono ?_
  rintro e w1 ⟨z, rfl, hz, hb1⟩
  have HZ := Lib.hid hz
  clear hz
  go_wp2
  go_ret
  exact ⟨ret_bool HZ.out, hb1⟩

set_option maxHeartbeats 1000000 in
theorem iIsScript_any (A : Option Addr) (n c : Nat) (fs : List Flt) (w : World) (h : RE encF 4 w w.heap.size A n fs) (hn : n ≤ 1099511627776) :
    Calls Try.prog 91 #[.slice A n c] w (RetV w (.bool (isScript fs))) := by
  have L := Lib.hid h.len
  by_cases hl : n ≤ 30
  · go_enter Try.func91, Try.ntmps91
    go_wp2_with fail
    refine (containsNot_any A n c fs w h hn).mono ?_
    rintro e w1 ⟨rfl, hb1⟩
    go_wp2
    go_ret
    exact ⟨ret_bool (by unfold isScript; rw [L.out]; simp [hl]), hb1⟩
  · have hd : decide ((n : Int) ≤ 30) = false := by simp; omega
    go_enter Try.func91, Try.ntmps91
    go_wp2
    go_ret
    exact ⟨ret_bool (by unfold isScript; rw [L.out]; simp [hl]), Below.refl _ _⟩

/-- what CountSlips answers -/
def slipOf (f : Flt) : Int := if f.kd = 4 then f.len else if f.kd = 3 then - f.len else 0
def sumTo (fs : List Flt) : Int := (fs.map slipOf).sum
theorem sum_take {fs : List Flt} {k : Nat} (hk : k < fs.length) : sumTo (fs.take (k + 1)) = sumTo (fs.take k) + slipOf (ge fs k) := by
  rw [take_ge hk]; simp [sumTo]
theorem slip_bd {f : Flt} (h : isFault f = true) : -8192 ≤ slipOf f ∧ slipOf f ≤ 8192 := by
  unfold isFault at h
  simp only [Bool.and_eq_true] at h
  have h3 := h.2.2.1
  unfold slipOf
  unfold hasLen at h3
  split at h3
  · have := inR_iff.1 h3
    split
    · omega
    · split <;> omega
  · simp at h3
    rw [h3]
    split
    · omega
    · split <;> omega
theorem sum_bd {fs : List Flt} (h : allF fs = true) : -8192 * (fs.length : Int) ≤ sumTo fs ∧ sumTo fs ≤ 8192 * (fs.length : Int) := by
  induction fs with
  | nil => simp [sumTo]
  | cons f fs ih =>
    simp only [allF, List.all_cons, Bool.and_eq_true] at h
    have h1 := slip_bd h.1
    have h2 := ih h.2
    have e : sumTo (f :: fs) = slipOf f + sumTo fs := by simp [sumTo]
    rw [e, List.length_cons]
    omega
namespace CountSlips
def val (fs : List Flt) : Int := if isScript fs then sumTo fs else 0
def cod (fs : List Flt) : Int := if isScript fs then 0 else 2

set_option maxHeartbeats 2000000 in
theorem spec_any (A : Option Addr) (n c : Nat) (fs : List Flt) (w : World) (h : RE encF 4 w w.heap.size A n fs) (hn : n ≤ 1099511627776) :
    Calls Try.prog 116 #[.slice A n c] w (RetV w (.tuple #[.int .i64 (val fs), .int .i64 (cod fs)])) := by
  have L := Lib.hid h.len
  rcases bool_cases (isScript fs) with hz | hz
  case inr =>
    have E1 := Lib.hid (show val fs = 0 from by simp [val, hz])
    have E2 := Lib.hid (show cod fs = 2 from by simp [cod, hz])
    go_enter Try.func116, Try.ntmps116
    go_wp2_with fail
    refine (sIsScript_any A n c fs w h hn).mono ?_
    rw [hz]
    rintro e w1 ⟨rfl, hb1⟩
    go_wp2
    go_ret2
    rw [E1.out, E2.out]
    exact ⟨rfl, hb1⟩
  have E1 := Lib.hid (show val fs = sumTo fs from by simp [val, hz])
  have E2 := Lib.hid (show cod fs = 0 from by simp [cod, hz])
  have hz2 := hz
  unfold isScript at hz2
  simp only [Bool.and_eq_true, decide_eq_true_eq] at hz2
  obtain ⟨hn30, hall⟩ := hz2
  rw [h.len] at hn30
  have HA := Lib.hid hall
  clear hall
  go_enter Try.func116, Try.ntmps116
  go_wp2_with fail
  refine (sIsScript_any A n c fs w h hn).mono ?_
  rw [hz]
  clear hz
  rintro e w1 ⟨rfl, hb1⟩
  go_wp2
  go_loopw [4, 5] (fun x i wr => ∃ k : Nat, k ≤ n ∧ i = .int .i64 k ∧ x = .int .i64 (sumTo (fs.take k)) ∧ Below w.heap.size w wr) (fun _ i _ => n - (intOf i).toNat)
  case atStart => exact ⟨0, Nat.zero_le _, rfl, rfl, hb1⟩
  case round =>
    obtain ⟨k, hk, rfl, rfl, hb⟩ := hrel
    by_cases hlt : k < n
    · obtain ⟨b, o, rfl, hbl, hc⟩ := (h.below hb (Nat.le_refl _)).get (by omega)
      have hc0 := hc k hlt 0 _ rfl
      have hc2 := hc k hlt 2 _ rfl
      clear hc
      rw [Nat.add_zero] at hc0
      have hsl := slip_bd (allF_ge HA.out (k := k) (by rw [L.out]; exact hlt))
      have hsu : -8192 * (k : Int) ≤ sumTo (fs.take k) ∧ sumTo (fs.take k) ≤ 8192 * (k : Int) := by
        have := sum_bd (fs := fs.take k) (List.all_eq_true.2 fun x hx => List.all_eq_true.1 HA.out x (List.mem_of_mem_take hx))
        rw [List.length_take, L.out, Nat.min_eq_left (by omega)] at this
        exact this
      have ST := Lib.hid (sum_take (fs := fs) (k := k) (by rw [L.out]; exact hlt))
      obtain ⟨s, hs⟩ : ∃ s, sumTo (fs.take k) = s := ⟨_, rfl⟩
      rw [hs] at hsu
      obtain ⟨hu1, hu2⟩ := hsu
      have HS := Lib.hid hs
      unfold slipOf at hsl
      obtain ⟨kd, hkd⟩ : ∃ x, (ge fs k).kd = x := ⟨_, rfl⟩
      obtain ⟨ln, hln⟩ : ∃ x, (ge fs k).len = x := ⟨_, rfl⟩
      rw [hkd] at hc0 hsl
      rw [hln] at hc2 hsl
      have HKD := Lib.hid hkd
      have HLN := Lib.hid hln
      rw [hs]
      clear hs hkd hln
      by_cases h4 : kd = 4
      · subst h4
        rw [if_pos rfl] at hsl
        obtain ⟨h5, h6⟩ := hsl
        go_wp2
        go_roundw
        case rel => exact ⟨k + 1, by omega, by go_num, by rw [ST.out, HS.out]; unfold slipOf; rw [HKD.out, if_pos rfl, HLN.out], hb⟩
        case measure => simp [intOf]; omega
      · by_cases h3 : kd = 3
        · subst h3
          rw [if_neg (by decide), if_pos rfl] at hsl
          obtain ⟨h5, h6⟩ := hsl
          go_wp2
          go_roundw
          case rel => exact ⟨k + 1, by omega, by go_num, by rw [ST.out, HS.out]; unfold slipOf; rw [HKD.out, if_neg (by decide), if_pos rfl, HLN.out]; rfl, hb⟩
          case measure => simp [intOf]; omega
        · have hb3 : (kd == 3) = false := by simp [h3]
          have hb4 : (kd == 4) = false := by simp [h4]
          clear hsl
          have H3 := Lib.hid h3
          have H4 := Lib.hid h4
          clear h3 h4
          go_wp2
          go_roundw
          case rel => exact ⟨k + 1, by omega, by go_num, by rw [ST.out, HS.out]; unfold slipOf; rw [HKD.out, if_neg H4.out, if_neg H3.out, Int.add_zero], hb⟩
          case measure => simp [intOf]; omega
    · have hkn : k = n := by omega
      have HK := Lib.hid hkn
      clear hkn
      go_wp2
      go_ret2
      rw [E1.out, E2.out]
      exact ⟨by rw [HK.out, List.take_of_length_le (by rw [L.out]; exact Nat.le_refl _)]; rfl, hb⟩

set_option maxHeartbeats 2000000 in
theorem impl_any (A : Option Addr) (n c : Nat) (fs : List Flt) (w : World) (h : RE encF 4 w w.heap.size A n fs) (hn : n ≤ 1099511627776) :
    Calls Try.prog 115 #[.slice A n c] w (RetV w (.tuple #[.int .i64 (val fs), .int .i64 (cod fs)])) := by
  have L := Lib.hid h.len
  rcases bool_cases (isScript fs) with hz | hz
  case inr =>
    have E1 := Lib.hid (show val fs = 0 from by simp [val, hz])
    have E2 := Lib.hid (show cod fs = 2 from by simp [cod, hz])
    go_enter Try.func115, Try.ntmps115
    go_wp2_with fail
    refine (iIsScript_any A n c fs w h hn).mono ?_
    rw [hz]
    rintro e w1 ⟨rfl, hb1⟩
    go_wp2
    go_ret2
    rw [E1.out, E2.out]
    exact ⟨rfl, hb1⟩
  have E1 := Lib.hid (show val fs = sumTo fs from by simp [val, hz])
  have E2 := Lib.hid (show cod fs = 0 from by simp [cod, hz])
  have hz2 := hz
  unfold isScript at hz2
  simp only [Bool.and_eq_true, decide_eq_true_eq] at hz2
  obtain ⟨hn30, hall⟩ := hz2
  rw [h.len] at hn30
  have HA := Lib.hid hall
  clear hall
  go_enter Try.func115, Try.ntmps115
  go_wp2_with fail
  refine (iIsScript_any A n c fs w h hn).mono ?_
  rw [hz]
  clear hz
  rintro e w1 ⟨rfl, hb1⟩
  go_wp2
  go_loopw [4, 6, 12] (fun x _ i wr => ∃ k : Nat, k ≤ n ∧ i = .int .i64 k ∧ x = .int .i64 (sumTo (fs.take k)) ∧ Below w.heap.size w wr) (fun _ _ i _ => n - (intOf i).toNat)
  case atStart => exact ⟨0, Nat.zero_le _, rfl, rfl, hb1⟩
  case round =>
    obtain ⟨k, hk, rfl, rfl, hb⟩ := hrel
    by_cases hlt : k < n
    · obtain ⟨b, o, rfl, hbl, hc⟩ := (h.below hb (Nat.le_refl _)).get (by omega)
      have hc0 := hc k hlt 0 _ rfl
      have hc1 := hc k hlt 1 _ rfl
      have hc2 := hc k hlt 2 _ rfl
      have hc3 := hc k hlt 3 _ rfl
      clear hc
      rw [Nat.add_zero] at hc0
      have hsl := slip_bd (allF_ge HA.out (k := k) (by rw [L.out]; exact hlt))
      have hsu : -8192 * (k : Int) ≤ sumTo (fs.take k) ∧ sumTo (fs.take k) ≤ 8192 * (k : Int) := by
        have := sum_bd (fs := fs.take k) (List.all_eq_true.2 fun x hx => List.all_eq_true.1 HA.out x (List.mem_of_mem_take hx))
        rw [List.length_take, L.out, Nat.min_eq_left (by omega)] at this
        exact this
      have ST := Lib.hid (sum_take (fs := fs) (k := k) (by rw [L.out]; exact hlt))
      obtain ⟨s, hs⟩ : ∃ s, sumTo (fs.take k) = s := ⟨_, rfl⟩
      rw [hs] at hsu
      obtain ⟨hu1, hu2⟩ := hsu
      have HS := Lib.hid hs
      unfold slipOf at hsl
      obtain ⟨kd, hkd⟩ : ∃ x, (ge fs k).kd = x := ⟨_, rfl⟩
      obtain ⟨ln, hln⟩ : ∃ x, (ge fs k).len = x := ⟨_, rfl⟩
      rw [hkd] at hc0 hsl
      rw [hln] at hc2 hsl
      have HKD := Lib.hid hkd
      have HLN := Lib.hid hln
      rw [hs]
      clear hs hkd hln
      by_cases h4 : kd = 4
      · subst h4
        rw [if_pos rfl] at hsl
        obtain ⟨h5, h6⟩ := hsl
        go_wp2
        go_roundw
        case rel => exact ⟨k + 1, by omega, by go_num, by rw [ST.out, HS.out]; unfold slipOf; rw [HKD.out, if_pos rfl, HLN.out], by first | exact hb | exact hb.alloc hb.size _⟩
        case measure => simp [intOf]; omega
      · by_cases h3 : kd = 3
        · subst h3
          rw [if_neg (by decide), if_pos rfl] at hsl
          obtain ⟨h5, h6⟩ := hsl
          go_wp2
          go_roundw
          case rel => exact ⟨k + 1, by omega, by go_num, by rw [ST.out, HS.out]; unfold slipOf; rw [HKD.out, if_neg (by decide), if_pos rfl, HLN.out]; rfl, by first | exact hb | exact hb.alloc hb.size _⟩
          case measure => simp [intOf]; omega
        · have hb3 : (kd == 3) = false := by simp [h3]
          have hb4 : (kd == 4) = false := by simp [h4]
          clear hsl
          have H3 := Lib.hid h3
          have H4 := Lib.hid h4
          clear h3 h4
          go_wp2
          go_roundw
          case rel => exact ⟨k + 1, by omega, by go_num, by rw [ST.out, HS.out]; unfold slipOf; rw [HKD.out, if_neg H4.out, if_neg H3.out, Int.add_zero], by first | exact hb | exact hb.alloc hb.size _⟩
          case measure => simp [intOf]; omega
    · have hkn : k = n := by omega
      have HK := Lib.hid hkn
      clear hkn
      go_wp2
      go_ret2
      rw [E1.out, E2.out]
      exact ⟨by rw [HK.out, List.take_of_length_le (by rw [L.out]; exact Nat.le_refl _)]; rfl, hb⟩
end CountSlips
end Go.Proofs.Ytlfbmedgkkfalaa
