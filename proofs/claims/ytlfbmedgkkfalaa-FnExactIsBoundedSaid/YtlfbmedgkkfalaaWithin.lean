/- The walks of the functions on faults within runs. Conditions: lists of at most 2^40 numbers. -/
import Derived.Test.YtlfbmedgkkfalaaFault
namespace Go.Proofs.Ytlfbmedgkkfalaa
open Go.RowKit

/-- do five numbers stand in a row -/
def run5 (zs : List Int) (p : Nat) (j : Nat) : Bool := decide (gi zs (p + j) = gi zs (p + 2))
def runTo (zs : List Int) (p k : Nat) : Bool := (List.range k).all fun j => run5 zs p j
def run5All (zs : List Int) (p : Nat) : Bool := runTo zs p 5
theorem runTo_succ (zs : List Int) (p k : Nat) : runTo zs p (k + 1) = (runTo zs p k && run5 zs p k) := by simp [runTo, List.range_succ]
theorem run5All_no {zs : List Int} {p k : Nat} (hk : k < 5) (h : run5 zs p k = false) : run5All zs p = false := by
  refine Bool.eq_false_iff.2 fun ht => ?_
  have := List.all_eq_true.1 ht k (by simpa using hk)
  rw [h] at this; cases this
/-- does a fault happen within a run -/
def within5 (zs : List Int) (f : Flt) : Bool :=
  (decide (f.kd = 3) || decide (f.kd = 4)) && (decide (f.len = 1) && (inR f.pos 2 ((zs.length : Int) - 3) && (run5All zs (f.pos.toNat - 2) && (decide (f.kd = 3) || decide (f.val = gi zs f.pos.toNat)))))

theorem k34_cases (k : Int) : k = 3 ∨ k = 4 ∨ ((k != 3) = true ∧ (k != 4) = true ∧ (k == 3) = false ∧ (k == 4) = false) := by
  by_cases h : k = 3
  · exact .inl h
  · by_cases h2 : k = 4
    · exact .inr (.inl h2)
    · exact .inr (.inr (by simp [h, h2]))
theorem one_cases (l : Int) : l = 1 ∨ ((l != 1) = true ∧ (l == 1) = false) := by
  by_cases h : l = 1
  · exact .inl h
  · exact .inr (by simp [h])

set_option maxHeartbeats 1000000 in
theorem l26Within_any (A : Option Addr) (n c : Nat) (zs : List Int) (k p l v : Int) (w : World) (h : RI w w.heap.size A n zs) (hn : n ≤ 1099511627776) :
    Calls Try.prog 193 #[.slice A n c, .agg #[.int .i64 k, .int .i64 p, .int .i64 l, .int .i64 v]] w (RetV w (.bool (within5 zs ⟨k, p, l, v⟩))) := by
  have L := Lib.hid h.len
  rcases k34_cases k with rfl | rfl | ⟨h1, h2, h3, h4⟩
  case inr.inr =>
    go_enter Try.func193, Try.ntmps193
    go_wp2_with (go_at_call 143; refine (l01In_any _ _ _ _).mono ?_; rintro e w' ⟨rfl, rfl⟩)
    go_ret
    refine ⟨ret_bool ?_, by go_grown⟩
    simp at h1 h2; simp [within5, h1, h2]
  case inl =>
    rcases one_cases l with rfl | ⟨h3, h4⟩
    case inr =>
      go_enter Try.func193, Try.ntmps193
      go_wp2_with (go_at_call 143; refine (l01In_any _ _ _ _).mono ?_; rintro e w' ⟨rfl, rfl⟩)
      go_ret
      refine ⟨ret_bool ?_, by go_grown⟩
      simp at h3; simp [within5, h3]
    by_cases hr : inR p 2 ((n : Int) - 3) = true
    case neg =>
      have hr' : inR p 2 ((n : Int) - 3) = false := by simpa using hr
      clear hr
      go_enter Try.func193, Try.ntmps193
      go_wp2_with (go_at_call 143; refine (l01In_any _ _ _ _).mono ?_; rintro e w' ⟨rfl, rfl⟩)
      go_ret
      refine ⟨ret_bool ?_, by go_grown⟩
      simp [within5, L.out, hr']
    obtain ⟨hp1, hp2⟩ := inR_iff.1 hr
    obtain ⟨q, rfl⟩ : ∃ q : Nat, p = (q : Int) + 2 := ⟨(p - 2).toNat, by omega⟩
    have HR := Lib.hid hr
    obtain ⟨b, o, rfl, hb, hc⟩ := h.get (by omega)
    have HC := Lib.hid hc
    have hc2 := hc (q + 2) (by omega)
    clear hc
    go_enter Try.func193, Try.ntmps193
    go_wp2_with (go_at_call 143; refine (l01In_any _ _ _ _).mono ?_; rintro e w' ⟨rfl, rfl⟩)
    clear hr
    go_loopw [5] (fun i wr => ∃ j : Nat, j ≤ 5 ∧ i = .int .i64 ((q : Int) + j) ∧ runTo zs q j = true ∧ ∃ m, wr = (w.alloc (.cells #[.int .i64 3, .int .i64 ((q : Int) + 2), .int .i64 1, .int .i64 v] 76)).drewN m) (fun i _ => (q : Int).toNat + 5 - (intOf i).toNat)
    case atStart => exact ⟨0, by omega, by go_num, rfl, 0, rfl⟩
    case round =>
      obtain ⟨j, hj, rfl, hrun, m, rfl⟩ := hrel
      have HRun := Lib.hid hrun
      clear hrun
      by_cases hlt : j < 5
      · have hcj := HC.out (q + j) (by omega)
        by_cases hg : gi zs (q + j) = gi zs (q + 2)
        · have hbn : (gi zs (q + j) != gi zs (q + 2)) = false := by simp [hg]
          have HG := Lib.hid hg
          clear hg
          go_wp2
          go_quiet (fail)
          go_wp2
          go_roundw
          case rel => exact ⟨j + 1, by omega, by go_num, by rw [runTo_succ, HRun.out]; simp [run5, HG.out], _, rfl⟩
          case measure => simp [intOf]; omega
        · have hbn : (gi zs (q + j) != gi zs (q + 2)) = true := by simp [hg]
          have HG := Lib.hid hg
          clear hg
          go_wp2
          go_quiet (fail)
          go_wp2
          go_ret
          refine ⟨ret_bool ?_, (by repeat (first | exact Below.refl _ _ | refine below_drewN ?_ _ | refine Below.alloc ?_ (by simp) _))⟩
          have := run5All_no (zs := zs) (p := q) hlt (by simp [run5, HG.out])
          have e3 : ((q : Int) + 2).toNat = q + 2 := by omega
          simp [within5, this, e3]
      · have hj5 : j = 5 := by omega
        subst hj5
        have hR : run5All zs q = true := HRun.out
        have HR5 := Lib.hid hR
        clear hR
        by_cases hv : v = gi zs (q + 2)
        all_goals
          first
          | (have hbv : (v == gi zs (q + 2)) = true := by simp [hv]
             have HV := Lib.hid hv
             clear hv)
          | (have hbv : (v == gi zs (q + 2)) = false := by simp [hv]
             have HV := Lib.hid hv
             clear hv)
          go_wp2
          go_quiet (fail)
          go_wp2
          go_ret
          refine ⟨ret_bool ?_, (by repeat (first | exact Below.refl _ _ | refine below_drewN ?_ _ | refine Below.alloc ?_ (by simp) _))⟩
          have e1 := HV.out
          have e2 := HR.out
          rw [← L.out] at e2
          have e3 : ((q : Int) + 2).toNat = q + 2 := by omega
          simp [within5, HR5.out, e2, e1, e3]
  case inr.inl =>
    rcases one_cases l with rfl | ⟨h3, h4⟩
    case inr =>
      go_enter Try.func193, Try.ntmps193
      go_wp2_with (go_at_call 143; refine (l01In_any _ _ _ _).mono ?_; rintro e w' ⟨rfl, rfl⟩)
      go_ret
      refine ⟨ret_bool ?_, by go_grown⟩
      simp at h3; simp [within5, h3]
    by_cases hr : inR p 2 ((n : Int) - 3) = true
    case neg =>
      have hr' : inR p 2 ((n : Int) - 3) = false := by simpa using hr
      clear hr
      go_enter Try.func193, Try.ntmps193
      go_wp2_with (go_at_call 143; refine (l01In_any _ _ _ _).mono ?_; rintro e w' ⟨rfl, rfl⟩)
      go_ret
      refine ⟨ret_bool ?_, by go_grown⟩
      simp [within5, L.out, hr']
    obtain ⟨hp1, hp2⟩ := inR_iff.1 hr
    obtain ⟨q, rfl⟩ : ∃ q : Nat, p = (q : Int) + 2 := ⟨(p - 2).toNat, by omega⟩
    have HR := Lib.hid hr
    obtain ⟨b, o, rfl, hb, hc⟩ := h.get (by omega)
    have HC := Lib.hid hc
    have hc2 := hc (q + 2) (by omega)
    clear hc
    go_enter Try.func193, Try.ntmps193
    go_wp2_with (go_at_call 143; refine (l01In_any _ _ _ _).mono ?_; rintro e w' ⟨rfl, rfl⟩)
    clear hr
    go_loopw [5] (fun i wr => ∃ j : Nat, j ≤ 5 ∧ i = .int .i64 ((q : Int) + j) ∧ runTo zs q j = true ∧ ∃ m, wr = (w.alloc (.cells #[.int .i64 4, .int .i64 ((q : Int) + 2), .int .i64 1, .int .i64 v] 76)).drewN m) (fun i _ => (q : Int).toNat + 5 - (intOf i).toNat)
    case atStart => exact ⟨0, by omega, by go_num, rfl, 0, rfl⟩
    case round =>
      obtain ⟨j, hj, rfl, hrun, m, rfl⟩ := hrel
      have HRun := Lib.hid hrun
      clear hrun
      by_cases hlt : j < 5
      · have hcj := HC.out (q + j) (by omega)
        by_cases hg : gi zs (q + j) = gi zs (q + 2)
        · have hbn : (gi zs (q + j) != gi zs (q + 2)) = false := by simp [hg]
          have HG := Lib.hid hg
          clear hg
          go_wp2
          go_quiet (fail)
          go_wp2
          go_roundw
          case rel => exact ⟨j + 1, by omega, by go_num, by rw [runTo_succ, HRun.out]; simp [run5, HG.out], _, rfl⟩
          case measure => simp [intOf]; omega
        · have hbn : (gi zs (q + j) != gi zs (q + 2)) = true := by simp [hg]
          have HG := Lib.hid hg
          clear hg
          go_wp2
          go_quiet (fail)
          go_wp2
          go_ret
          refine ⟨ret_bool ?_, (by repeat (first | exact Below.refl _ _ | refine below_drewN ?_ _ | refine Below.alloc ?_ (by simp) _))⟩
          have := run5All_no (zs := zs) (p := q) hlt (by simp [run5, HG.out])
          have e3 : ((q : Int) + 2).toNat = q + 2 := by omega
          simp [within5, this, e3]
      · have hj5 : j = 5 := by omega
        subst hj5
        have hR : run5All zs q = true := HRun.out
        have HR5 := Lib.hid hR
        clear hR
        by_cases hv : v = gi zs (q + 2)
        all_goals
          first
          | (have hbv : (v == gi zs (q + 2)) = true := by simp [hv]
             have HV := Lib.hid hv
             clear hv)
          | (have hbv : (v == gi zs (q + 2)) = false := by simp [hv]
             have HV := Lib.hid hv
             clear hv)
          go_wp2
          go_quiet (fail)
          go_wp2
          go_ret
          refine ⟨ret_bool ?_, (by repeat (first | exact Below.refl _ _ | refine below_drewN ?_ _ | refine Below.alloc ?_ (by simp) _))⟩
          have e1 := HV.out
          have e2 := HR.out
          rw [← L.out] at e2
          have e3 : ((q : Int) + 2).toNat = q + 2 := by omega
          simp [within5, HR5.out, e2, e1, e3]

theorem withinRun_no {zs : List Int} {k p l v : Int} (h1 : (k == 3) = false) (h2 : (k == 4) = false) : within5 zs ⟨k, p, l, v⟩ = false := by
  simp at h1 h2; simp [within5, h1, h2]

set_option maxHeartbeats 1000000 in
theorem isSlip_any (k p l v : Int) (w : World) :
    Calls Try.prog 255 #[.agg #[.int .i64 k, .int .i64 p, .int .i64 l, .int .i64 v]] w (RetV w (.bool ((decide (k = 3) || decide (k = 4)) && decide (l = 1)))) := by
  rcases k34_cases k with rfl | rfl | ⟨h1, h2, h3, h4⟩
  case inr.inr =>
    go_enter Try.func255, Try.ntmps255
    go_wp2
    go_ret
    refine ⟨ret_bool ?_, by go_grown⟩
    simp at h3 h4; simp [h3, h4]
  all_goals
    rcases one_cases l with rfl | ⟨h3, h4⟩
    all_goals
      go_enter Try.func255, Try.ntmps255
      go_wp2
      go_ret
      refine ⟨ret_bool ?_, by go_grown⟩
    all_goals first | rfl | (simp at h3; simp [h3])

set_option maxHeartbeats 2000000 in
theorem withinRun_any (A : Option Addr) (n c : Nat) (zs : List Int) (k p l v : Int) (w : World) (h : RI w w.heap.size A n zs) (hn : n ≤ 1099511627776) (hcap : n ≤ c) (hcm : c ≤ maxLen) :
    Calls Try.prog 192 #[.slice A n c, .agg #[.int .i64 k, .int .i64 p, .int .i64 l, .int .i64 v]] w (RetV w (.bool (within5 zs ⟨k, p, l, v⟩))) := by
  unfold maxLen at hcm
  have L := Lib.hid h.len
  by_cases hs : ((decide (k = 3) || decide (k = 4)) && decide (l = 1)) = true
  case neg =>
    have hs' : ((decide (k = 3) || decide (k = 4)) && decide (l = 1)) = false := by simpa using hs
    have HS := Lib.hid hs'
    clear hs hs'
    go_enter Try.func192, Try.ntmps192
    go_wp2_with fail
    refine (isSlip_any _ _ _ _ _).mono ?_
    rw [HS.out]
    rintro e w1 ⟨rfl, hb1⟩
    go_wp2
    go_ret
    refine ⟨ret_bool ?_, ((Below.refl _ _).alloc (Nat.le_refl _) _).trans (hb1.mono (by simp))⟩
    have := HS.out
    unfold within5
    rw [← Bool.and_assoc, this, Bool.false_and]
  by_cases hr : inR p 2 ((n : Int) - 3) = true
  case neg =>
    have hr' : inR p 2 ((n : Int) - 3) = false := by simpa using hr
    clear hr
    have HS := Lib.hid hs
    clear hs
    go_enter Try.func192, Try.ntmps192
    go_wp2_with fail
    refine (isSlip_any _ _ _ _ _).mono ?_
    rw [HS.out]
    rintro e w1 ⟨rfl, hb1⟩
    obtain ⟨hc1, hf1⟩ := bcell hb1
    go_wp2_with (go_at_call 145; refine (within_any _ _ _ _).mono ?_; rintro e w' ⟨rfl, rfl⟩)
    go_ret
    refine ⟨ret_bool ?_, ((Below.refl _ _).alloc (Nat.le_refl _) _).trans (hb1.mono (by simp))⟩
    simp [within5, L.out, hr']
  obtain ⟨hp1, hp2⟩ := inR_iff.1 hr
  obtain ⟨q, rfl⟩ : ∃ q : Nat, p = (q : Int) + 2 := ⟨(p - 2).toNat, by omega⟩
  have HR := Lib.hid hr
  obtain ⟨b, o, rfl, hb, hc⟩ := h.get (by omega)
  have HC := Lib.hid hc
  clear hc
  simp only [Bool.and_eq_true, Bool.or_eq_true, decide_eq_true_eq] at hs
  obtain ⟨hk, rfl⟩ := hs
  rcases hk with rfl | rfl
  case inl =>
    go_enter Try.func192, Try.ntmps192
    go_wp2_with fail
    refine (isSlip_any _ _ _ _ _).mono ?_
    rintro e w1 ⟨rfl, hb1⟩
    obtain ⟨hc1, hf1⟩ := bcell hb1
    have HC1 : Hid (∀ i, i < n → w1.cell? ⟨b, o + i, none⟩ = some (.int .i64 (gi zs i))) := fun i hi => by
      rw [hb1.cell (p := ⟨b, o + i, none⟩) (by simp; omega), World.cell?_alloc_lt _ _ _ hb]; exact HC.out i hi
    have hc2 := HC1.out (q + 2) (by omega)
    have g0 : w1.cell? ⟨w.heap.size, 0, none⟩ = some (.int .i64 3) := by rw [hb1.cell (by simp)]; simp
    have g1 : w1.cell? ⟨w.heap.size, 1, none⟩ = some (.int .i64 ((q : Int) + 2)) := by rw [hb1.cell (by simp)]; simp
    have g3 : w1.cell? ⟨w.heap.size, 3, none⟩ = some (.int .i64 v) := by rw [hb1.cell (by simp)]; simp
    clear hc1 hf1
    go_wp2_with (go_at_call 145; refine (within_any _ _ _ _).mono ?_; rintro e w' ⟨rfl, rfl⟩)
    clear hr
    go_loop [6, 28] (fun _ i => ∃ j : Nat, j ≤ 5 ∧ i = .int .i64 j ∧ runTo zs q j = true) (fun _ i => 5 - (intOf i).toNat)
    case atStart => exact ⟨0, by omega, by go_num, rfl⟩
    case round =>
      obtain ⟨j, hj, rfl, hrun⟩ := hrel
      have HRun := Lib.hid hrun
      clear hrun
      by_cases hlt : j < 5
      · have hcj := HC1.out (q + j) (by omega)
        rw [← Nat.add_assoc] at hcj
        by_cases hg : gi zs (q + j) = gi zs (q + 2)
        · have hbn : (gi zs (q + j) != gi zs (q + 2)) = false := by simp [hg]
          have HG := Lib.hid hg
          clear hg
          go_wp2
          go_round
          case rel => exact ⟨j + 1, by omega, by go_num, by rw [runTo_succ, HRun.out]; simp [run5, HG.out]⟩
          case measure => simp [intOf]; omega
        · have hbn : (gi zs (q + j) != gi zs (q + 2)) = true := by simp [hg]
          have HG := Lib.hid hg
          clear hg
          go_wp2
          go_ret
          refine ⟨ret_bool ?_, ((Below.refl _ _).alloc (Nat.le_refl _) _).trans (hb1.mono (by simp))⟩
          have := run5All_no (zs := zs) (p := q) hlt (by simp [run5, HG.out])
          have e3 : ((q : Int) + 2).toNat = q + 2 := by omega
          simp [within5, this, e3]
      · have hj5 : j = 5 := by omega
        subst hj5
        have hR : run5All zs q = true := HRun.out
        have HR5 := Lib.hid hR
        clear hR
        go_wp2
        go_ret
        refine ⟨ret_bool ?_, ((Below.refl _ _).alloc (Nat.le_refl _) _).trans (hb1.mono (by simp))⟩
        have e2 := HR.out
        rw [← L.out] at e2
        have e3 : ((q : Int) + 2).toNat = q + 2 := by omega
        simp [within5, HR5.out, e2, e3]
  case inr =>
    go_enter Try.func192, Try.ntmps192
    go_wp2_with fail
    refine (isSlip_any _ _ _ _ _).mono ?_
    rintro e w1 ⟨rfl, hb1⟩
    obtain ⟨hc1, hf1⟩ := bcell hb1
    have HC1 : Hid (∀ i, i < n → w1.cell? ⟨b, o + i, none⟩ = some (.int .i64 (gi zs i))) := fun i hi => by
      rw [hb1.cell (p := ⟨b, o + i, none⟩) (by simp; omega), World.cell?_alloc_lt _ _ _ hb]; exact HC.out i hi
    have hc2 := HC1.out (q + 2) (by omega)
    have g0 : w1.cell? ⟨w.heap.size, 0, none⟩ = some (.int .i64 4) := by rw [hb1.cell (by simp)]; simp
    have g1 : w1.cell? ⟨w.heap.size, 1, none⟩ = some (.int .i64 ((q : Int) + 2)) := by rw [hb1.cell (by simp)]; simp
    have g3 : w1.cell? ⟨w.heap.size, 3, none⟩ = some (.int .i64 v) := by rw [hb1.cell (by simp)]; simp
    clear hc1 hf1
    go_wp2_with (go_at_call 145; refine (within_any _ _ _ _).mono ?_; rintro e w' ⟨rfl, rfl⟩)
    clear hr
    by_cases hv : v = gi zs (q + 2)
    case neg =>
      have HV := Lib.hid hv
      clear hv
      go_loop [6, 28] (fun _ i => i = .int .i64 0) (fun _ i => 5 - (intOf i).toNat)
      case atStart => rfl
      case round =>
        obtain rfl := hrel
        have hcj := HC1.out (q + 0) (by omega)
        rw [Nat.add_zero] at hcj
        by_cases hg : gi zs q = gi zs (q + 2)
        · have hbn : (gi zs q != gi zs (q + 2)) = false := by simp [hg]
          have hbn2 : (gi zs q != v) = true := by rw [hg]; simp; exact fun e => HV.out e.symm
          clear hg
          go_wp2
          go_ret
          refine ⟨ret_bool ?_, ((Below.refl _ _).alloc (Nat.le_refl _) _).trans (hb1.mono (by simp))⟩
          have e3 : ((q : Int) + 2).toNat = q + 2 := by omega
          simp [within5, e3, HV.out]
        · have hbn : (gi zs q != gi zs (q + 2)) = true := by simp [hg]
          clear hg
          go_wp2
          go_ret
          refine ⟨ret_bool ?_, ((Below.refl _ _).alloc (Nat.le_refl _) _).trans (hb1.mono (by simp))⟩
          have e3 : ((q : Int) + 2).toNat = q + 2 := by omega
          simp [within5, e3, HV.out]
    have HV := Lib.hid hv
    clear hv
    go_loop [6, 28] (fun _ i => ∃ j : Nat, j ≤ 5 ∧ i = .int .i64 j ∧ runTo zs q j = true) (fun _ i => 5 - (intOf i).toNat)
    case atStart => exact ⟨0, by omega, by go_num, rfl⟩
    case round =>
      obtain ⟨j, hj, rfl, hrun⟩ := hrel
      have HRun := Lib.hid hrun
      clear hrun
      by_cases hlt : j < 5
      · have hcj := HC1.out (q + j) (by omega)
        rw [← Nat.add_assoc] at hcj
        by_cases hg : gi zs (q + j) = gi zs (q + 2)
        · have hbn : (gi zs (q + j) != gi zs (q + 2)) = false := by simp [hg]
          have hbn2 : (gi zs (q + j) != v) = false := by rw [HV.out]; simp [hg]
          have HG := Lib.hid hg
          clear hg
          go_wp2
          go_round
          case rel => exact ⟨j + 1, by omega, by go_num, by rw [runTo_succ, HRun.out]; simp [run5, HG.out]⟩
          case measure => simp [intOf]; omega
        · have hbn : (gi zs (q + j) != gi zs (q + 2)) = true := by simp [hg]
          have HG := Lib.hid hg
          clear hg
          go_wp2
          go_ret
          refine ⟨ret_bool ?_, ((Below.refl _ _).alloc (Nat.le_refl _) _).trans (hb1.mono (by simp))⟩
          have := run5All_no (zs := zs) (p := q) hlt (by simp [run5, HG.out])
          have e3 : ((q : Int) + 2).toNat = q + 2 := by omega
          simp [within5, this, e3]
      · have hj5 : j = 5 := by omega
        subst hj5
        have hR : run5All zs q = true := HRun.out
        have HR5 := Lib.hid hR
        clear hR
        go_wp2
        go_ret
        refine ⟨ret_bool ?_, ((Below.refl _ _).alloc (Nat.le_refl _) _).trans (hb1.mono (by simp))⟩
        have e2 := HR.out
        rw [← L.out] at e2
        have e3 : ((q : Int) + 2).toNat = q + 2 := by omega
        simp [within5, HR5.out, e2, e3, HV.out]
end Go.Proofs.Ytlfbmedgkkfalaa
