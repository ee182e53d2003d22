/- Walks, laws and small notions for the claims of this seat, several texts as one (Rise, Ver, Frm, Mem, FrB). Conditions: as each theorem states them. -/
import Derived.Test.YtbaojbheopcjhaaGreatDoorB2
import Derived.Test.YtbaojbheopcjhaaGreatDoorB1
import Derived.Deep.RegionHeld3
import Derived.Laws.StructEq
namespace Go.Proofs.YtbaojbheopcjhaaGreatDoor
open Go.RowKit

/-- does the i-th number lie below n and above the one before it -/
def okAt (zs : List Int) (n : Int) (i : Nat) : Bool := inR (gi zs i) 0 (n - 1) && (decide (i = 0) || decide (gi zs (i - 1) < gi zs i))
def risesTo (zs : List Int) (n : Int) (k : Nat) : Bool := (List.range k).all fun i => okAt zs n i
def rises (zs : List Int) (n : Int) : Bool := risesTo zs n zs.length
theorem risesTo_succ (zs : List Int) (n : Int) (k : Nat) : risesTo zs n (k + 1) = (risesTo zs n k && okAt zs n k) := by simp [risesTo, List.range_succ]
theorem rises_no {zs : List Int} {n : Int} {k : Nat} (hk : k < zs.length) (h : okAt zs n k = false) : rises zs n = false := by
  refine Bool.eq_false_iff.2 fun ht => ?_
  have := List.all_eq_true.1 ht k (by simpa using hk)
  rw [h] at this; cases this
theorem rises_gi {zs : List Int} {n : Int} (h : rises zs n = true) {k : Nat} (hk : k < zs.length) : 0 ≤ gi zs k ∧ gi zs k ≤ n - 1 := by
  have := List.all_eq_true.1 h k (by simpa using hk)
  unfold okAt at this
  simp only [Bool.and_eq_true] at this
  exact inR_iff.1 this.1

theorem l01In_yes {n lo hi : Int} (h : inR n lo hi = true) (w : World) : Calls Tryz.prog 39 #[.int .i64 n, .int .i64 lo, .int .i64 hi] w fun e w' => e = .returned (.bool true) ∧ w = w' := by
  have := l01In_any n lo hi w; rw [h] at this; exact this
theorem l01In_no {n lo hi : Int} (h : inR n lo hi = false) (w : World) : Calls Tryz.prog 39 #[.int .i64 n, .int .i64 lo, .int .i64 hi] w fun e w' => e = .returned (.bool false) ∧ w = w' := by
  have := l01In_any n lo hi w; rw [h] at this; exact this

set_option maxHeartbeats 1000000 in
theorem l01Rises_any (A : Option Addr) (n c : Nat) (zs : List Int) (m : Int) (w : World) (h : RI w w.heap.size A n zs) (hn : n ≤ 1099511627776) (hm : 0 ≤ m) (hm2 : m ≤ 1099511627776) :
    Calls Tryz.prog 205 #[.slice A n c, .int .i64 m] w (RetV w (.bool (rises zs m))) := by
  have L := Lib.hid h.len
  go_enter Tryz.func205, Tryz.ntmps205
  go_wp2
  go_loopw [5] (fun i wr => ∃ k : Nat, k ≤ n ∧ i = .int .i64 k ∧ risesTo zs m k = true ∧ Below w.heap.size w wr) (fun i _ => n - (intOf i).toNat)
  case atStart => exact ⟨0, Nat.zero_le _, rfl, rfl, Below.refl _ _⟩
  case round =>
    obtain ⟨k, hk, rfl, hall, hb⟩ := hrel
    have Hall := Lib.hid hall
    clear hall
    by_cases hlt : k < n
    · obtain ⟨b, o, rfl, _, hc⟩ := (h.below hb (Nat.le_refl _)).get (by omega)
      have hcell := hc k hlt
      have HC := Lib.hid hc
      clear hc
      rcases bool_cases (inR (gi zs k) 0 (m - 1)) with hr | hr
      case inr =>
        have HR := Lib.hid hr
        go_wp2_with fail; go_quiet (first | (go_at_call 39; exact quiet_same (l01In_no hr _))); go_wp2
        go_ret
        exact ⟨ret_bool (rises_no (by rw [L.out]; exact hlt) (by unfold okAt; rw [HR.out]; rfl)).symm, (by first | exact hb | exact below_drewN hb _)⟩
      have HR := Lib.hid hr
      by_cases hk0 : k = 0
      · subst hk0
        rw [Nat.add_zero] at hcell
        go_wp2_with fail; go_quiet (first | (go_at_call 39; exact quiet_same (l01In_yes hr _))); go_wp2
        go_roundw
        case rel => exact ⟨1, by omega, by go_num, by rw [risesTo_succ, Hall.out]; unfold okAt; rw [HR.out]; rfl, below_drewN hb _⟩
        case measure => simp [intOf]; omega
      · have hcell2 := HC.out (k - 1) (by omega)
        have hk1 : 0 < k := by omega
        by_cases hg : gi zs (k - 1) < gi zs k
        · have HG := Lib.hid hg
          go_wp2_with fail; go_quiet (first | (go_at_call 39; exact quiet_same (l01In_yes hr _)))
          clear hk1 hcell hcell2
          go_wp2
          go_roundw
          case rel => exact ⟨k + 1, by omega, by go_num, by rw [risesTo_succ, Hall.out]; unfold okAt; rw [HR.out]; simp [HG.out], below_drewN hb _⟩
          case measure => simp [intOf]; omega
        · have HG := Lib.hid hg
          go_wp2_with fail; go_quiet (first | (go_at_call 39; exact quiet_same (l01In_yes hr _)))
          clear hk1 hcell hcell2
          go_wp2
          go_ret
          exact ⟨ret_bool (rises_no (by rw [L.out]; exact hlt) (by unfold okAt; simp [HG.out, hk0])).symm, (by first | exact hb | exact below_drewN hb _)⟩
    · have hkn : k = n := by omega
      have hz : rises zs m = true := by unfold rises; rw [L.out, ← hkn]; exact Hall.out
      have Hz := Lib.hid hz
      clear hz hkn
      go_wp2
      go_ret
      exact ⟨ret_bool Hz.out.symm, (by first | exact hb | exact below_drewN hb _)⟩

set_option maxHeartbeats 1000000 in
theorem isRising_any (A : Option Addr) (n c : Nat) (zs : List Int) (m : Int) (w : World) (h : RI w w.heap.size A n zs) (hn : n ≤ 1099511627776) (_ : 0 ≤ m) (_ : m ≤ 1099511627776) :
    Calls Tryz.prog 197 #[.slice A n c, .int .i64 m] w (RetV w (.bool (rises zs m))) := by
  have L := Lib.hid h.len
  go_enter Tryz.func197, Tryz.ntmps197
  go_wp2
  go_loopw [5, 6, 9] (fun _ _ i wr => ∃ k : Nat, k ≤ n ∧ i = .int .i64 k ∧ risesTo zs m k = true ∧ Below w.heap.size w wr) (fun _ _ i _ => n - (intOf i).toNat)
  case atStart => exact ⟨0, Nat.zero_le _, rfl, rfl, Below.refl _ _⟩
  case round =>
    obtain ⟨k, hk, rfl, hall, hb⟩ := hrel
    have Hall := Lib.hid hall
    clear hall
    by_cases hlt : k < n
    · obtain ⟨b, o, rfl, _, hc⟩ := (h.below hb (Nat.le_refl _)).get (by omega)
      have hcell := hc k hlt
      have HC := Lib.hid hc
      clear hc
      by_cases h1 : gi zs k < 0
      · have HR := Lib.hid (show inR (gi zs k) 0 (m - 1) = false from inR_no.2 (.inl h1))
        go_wp2
        go_ret
        exact ⟨ret_bool (rises_no (by rw [L.out]; exact hlt) (by unfold okAt; rw [HR.out]; rfl)).symm, (by first | exact hb | exact below_drewN hb _)⟩
      by_cases h2 : gi zs k < m
      case neg =>
        have HR := Lib.hid (show inR (gi zs k) 0 (m - 1) = false from inR_no.2 (.inr (by omega)))
        go_wp2
        go_ret
        exact ⟨ret_bool (rises_no (by rw [L.out]; exact hlt) (by unfold okAt; rw [HR.out]; rfl)).symm, (by first | exact hb | exact below_drewN hb _)⟩
      have HR := Lib.hid (show inR (gi zs k) 0 (m - 1) = true from inR_iff.2 ⟨by omega, by omega⟩)
      by_cases hk0 : k = 0
      · subst hk0
        rw [Nat.add_zero] at hcell
        go_wp2
        go_roundw
        case rel => exact ⟨1, by omega, by go_num, by rw [risesTo_succ, Hall.out]; unfold okAt; rw [HR.out]; rfl, hb⟩
        case measure => simp [intOf]; omega
      · have hcell2 := HC.out (k - 1) (by omega)
        by_cases hg : gi zs (k - 1) < gi zs k
        · have HG := Lib.hid hg
          go_wp2
          go_roundw
          case rel => exact ⟨k + 1, by omega, by go_num, by rw [risesTo_succ, Hall.out]; unfold okAt; rw [HR.out]; simp [HG.out], hb⟩
          case measure => simp [intOf]; omega
        · have HG := Lib.hid hg
          go_wp2
          go_ret
          exact ⟨ret_bool (rises_no (by rw [L.out]; exact hlt) (by unfold okAt; simp [HG.out, hk0])).symm, (by first | exact hb | exact below_drewN hb _)⟩
    · have hkn : k = n := by omega
      have hz : rises zs m = true := by unfold rises; rw [L.out, ← hkn]; exact Hall.out
      have Hz := Lib.hid hz
      clear hz hkn
      go_wp2
      go_ret
      exact ⟨ret_bool Hz.out.symm, (by first | exact hb | exact below_drewN hb _)⟩
end Go.Proofs.YtbaojbheopcjhaaGreatDoor

namespace Go.Proofs.YtbaojbheopcjhaaGreatDoor
open Go.RowKit

set_option maxHeartbeats 400000 in
theorem slicesEqual_any (A A' : Option Addr) (n n' c c' : Nat) (xs ys : List Int) (w : World) (hx : RI w w.heap.size A n xs) (hy : RI w w.heap.size A' n' ys) (hn : n ≤ 1099511627776) (hn' : n' ≤ 1099511627776) :
    Calls Tryz.prog 180 #[.slice A n c, .slice A' n' c'] w (RetV w (.bool (eqI xs ys))) := by
  by_cases hnn : n = n'
  · subst hnn
    go_enter Tryz.func180, Tryz.ntmps180
    go_wp2
    go_loopw [5, 13] (fun _ i wr => ∃ k : Nat, k ≤ n ∧ i = .int .i64 k ∧ xs.take k = ys.take k ∧ Below w.heap.size w wr) (fun _ i _ => n - (intOf i).toNat)
    case atStart => exact ⟨0, Nat.zero_le _, rfl, rfl, Below.refl _ _⟩
    case round =>
      obtain ⟨k, hk, rfl, heq, hb⟩ := hrel
      have Heq := Lib.hid heq
      clear heq
      by_cases hlt : k < n
      · obtain ⟨b, o, rfl, _, hc⟩ := (hx.below hb (Nat.le_refl _)).get (by omega)
        have hcell := hc k hlt
        clear hc
        obtain ⟨b', o', rfl, _, hc⟩ := (hy.below hb (Nat.le_refl _)).get (by omega)
        have hcell' := hc k hlt
        clear hc
        by_cases hr : gi xs k = gi ys k
        · have HR := Lib.hid hr
          have hbn : (gi xs k != gi ys k) = false := by simp [hr]
          clear hr
          go_wp2
          go_quiet (fail)
          go_wp2
          go_roundw
          case rel => exact ⟨k + 1, by omega, by go_num, by rw [take_gi (by rw [hx.len]; exact hlt), take_gi (by rw [hy.len]; exact hlt), Heq.out, HR.out], below_drewN hb _⟩
          case measure => simp [intOf]; omega
        · have hbn : (gi xs k != gi ys k) = true := by simp [hr]
          have HR := Lib.hid hr
          clear hr
          go_wp2
          go_quiet (fail)
          go_wp2
          go_ret
          exact ⟨ret_bool (eqI_no HR.out).symm, below_drewN hb _⟩
      · have hkn : k = n := by omega
        have HK := Lib.hid hkn
        clear hkn
        go_wp2
        go_ret
        refine ⟨ret_bool (eqI_take hx.len hy.len ?_).symm, hb⟩
        have := Heq.out
        rwa [HK.out] at this
  · have hbn : ((n : Int) != (n' : Int)) = true := by simp; omega
    go_enter Tryz.func180, Tryz.ntmps180
    go_wp2
    go_ret
    exact ⟨ret_bool (eqI_len (by rw [hx.len, hy.len]; exact hnn)).symm, Below.refl _ _⟩

def sF (k1 r1 t1 m1 d1 s1 b1 k2 r2 t2 m2 d2 s2 b2 : Int) (xs ys : List Int) : Bool :=
  decide (k1 = k2) && (decide (r1 = r2) && (decide (t1 = t2 ∧ m1 = m2 ∧ d1 = d2 ∧ s1 = s2 ∧ b1 = b2) && eqI xs ys))

def aggV (x : Vdt) (A : Option Addr) (n c : Nat) : Value := .agg #[.int .i64 x.st, .int .i64 x.kd, .int .i64 x.rq, .int .i64 x.tm, .int .i64 x.md, .int .i64 x.rd, .int .i64 x.sl, .int .i64 x.mb, .slice A n c]
def sV (x y : Vdt) (xs ys : List Int) : Bool := decide (x.st = y.st) && sF x.kd x.rq x.tm x.md x.rd x.sl x.mb y.kd y.rq y.tm y.md y.rd y.sl y.mb xs ys

def szL (n : Nat) (left : Int) : Int := if left - (n : Int) < 0 then -1 else left - (n : Int)
theorem szL_neg {n : Nat} {left : Int} (h : left < (n : Int)) : szL n left = -1 := by unfold szL; rw [if_pos (by omega)]
theorem szL_pos {n : Nat} {left : Int} (h : (n : Int) ≤ left) : szL n left = left - (n : Int) := by unfold szL; rw [if_neg (by omega)]

end Go.Proofs.YtbaojbheopcjhaaGreatDoor

namespace Go.Proofs.YtbaojbheopcjhaaGreatDoor
open Go.RowKit

def isState (t m d s b : Int) : Bool := inR t 0 65535 && (inR m 0 15 && (inR d 0 15 && (inR s 0 255 && inR b 0 4294967295)))

set_option maxHeartbeats 4000000 in
theorem sIsState_any (t m d s b : Int) (w : World) :
    Calls Tryz.prog 117 #[.agg #[.int .i64 t, .int .i64 m, .int .i64 d, .int .i64 s, .int .i64 b]] w (RetV w (.bool (isState t m d s b))) := by
  rcases bool_cases (inR t 0 65535) with h1 | h1 <;> rcases bool_cases (inR m 0 15) with h2 | h2 <;> rcases bool_cases (inR d 0 15) with h3 | h3 <;> rcases bool_cases (inR s 0 255) with h4 | h4 <;> rcases bool_cases (inR b 0 4294967295) with h5 | h5
  all_goals
    go_enter Tryz.func117, Tryz.ntmps117
    go_wp2_with (first | (go_at_call 39; refine (l01In_any _ _ _ _).mono ?_; rintro e w' ⟨rfl, rfl⟩) | go_in)
    go_ret
    exact ⟨ret_bool (by unfold isState; simp only [h1, h2, h3, h4, h5]; rfl), by go_grown⟩

set_option maxHeartbeats 4000000 in
theorem isVector_any (b : Int) (w : World) :
    Calls Tryz.prog 153 #[.int .i64 b] w fun e w' => e = .returned (.bool (inR b 0 4294967295)) ∧ w = w' := by
  go_enter Tryz.func153, Tryz.ntmps153
  go_wp2_with (go_at_call 32; refine (within_any _ _ _ _).mono ?_; rintro e w' ⟨rfl, rfl⟩)
  go_ret
  exact ⟨rfl, rfl⟩

set_option maxHeartbeats 4000000 in
theorem iIsState_any (t m d s b : Int) (w : World) :
    Calls Tryz.prog 109 #[.agg #[.int .i64 t, .int .i64 m, .int .i64 d, .int .i64 s, .int .i64 b]] w (RetV w (.bool (isState t m d s b))) := by
  rcases bool_cases (inR t 0 65535) with h1 | h1 <;> rcases bool_cases (inR m 0 15) with h2 | h2 <;> rcases bool_cases (inR d 0 15) with h3 | h3 <;> rcases bool_cases (inR s 0 255) with h4 | h4 <;> rcases bool_cases (inR b 0 4294967295) with h5 | h5
  all_goals
    go_enter Tryz.func109, Tryz.ntmps109
    go_wp2_with (first | (go_at_call 32; refine (within_any _ _ _ _).mono ?_; rintro e w' ⟨rfl, rfl⟩) | (go_at_call 153; refine (isVector_any _ _).mono ?_; rintro e w' ⟨rfl, rfl⟩) | go_in)
    go_ret
    exact ⟨ret_bool (by unfold isState; simp only [h1, h2, h3, h4, h5]; rfl), by go_grown⟩

def frSize (k n : Int) : Bool := if k = 0 then inR n 0 32 else if k = 2 then inR n 1 32 else decide (n = 0)

set_option maxHeartbeats 4000000 in
theorem l06Kind_any (k : Int) (w : World) :
    Calls Tryz.prog 168 #[.int .i64 k] w fun e w' => e = .returned (.bool (inR k 0 3)) ∧ w = w' := by
  go_enter Tryz.func168, Tryz.ntmps168
  go_wp2_with (go_at_call 39; refine (l01In_any _ _ _ _).mono ?_; rintro e w' ⟨rfl, rfl⟩)
  go_ret
  exact ⟨rfl, rfl⟩

set_option maxHeartbeats 4000000 in
theorem isKind_any (k : Int) (w : World) :
    Calls Tryz.prog 155 #[.int .i64 k] w fun e w' => e = .returned (.bool (inR k 0 3)) ∧ w = w' := by
  go_enter Tryz.func155, Tryz.ntmps155
  go_wp2_with (go_at_call 32; refine (within_any _ _ _ _).mono ?_; rintro e w' ⟨rfl, rfl⟩)
  go_ret
  exact ⟨rfl, rfl⟩

theorem num_cases (k a : Int) : ((k == a) = true ∧ k = a) ∨ ((k == a) = false ∧ k ≠ a) := by
  by_cases h : k = a <;> simp [h]

set_option maxHeartbeats 4000000 in
theorem l06Size_any (k n : Int) (w : World) :
    Calls Tryz.prog 169 #[.int .i64 k, .int .i64 n] w fun e w' => e = .returned (.bool (frSize k n)) ∧ w = w' := by
  rcases num_cases k 0 with ⟨h1, rfl⟩ | ⟨h1, h1'⟩
  · clear h1
    go_enter Tryz.func169, Tryz.ntmps169
    go_wp2_with (go_at_call 39; refine (l01In_any _ _ _ _).mono ?_; rintro e w' ⟨rfl, rfl⟩)
    go_ret
    exact ⟨rfl, rfl⟩
  · rcases num_cases k 2 with ⟨h2, rfl⟩ | ⟨h2, h2'⟩
    · clear h1 h2 h1'
      go_enter Tryz.func169, Tryz.ntmps169
      go_wp2_with (go_at_call 39; refine (l01In_any _ _ _ _).mono ?_; rintro e w' ⟨rfl, rfl⟩)
      go_ret
      exact ⟨rfl, rfl⟩
    · have E := Lib.hid (show frSize k n = decide (n = 0) by unfold frSize; rw [if_neg h1', if_neg h2'])
      clear h1' h2'
      go_enter Tryz.func169, Tryz.ntmps169
      go_wp2_with fail
      go_ret
      exact ⟨ret_bool (by rw [E.out]; by_cases h : n = 0 <;> simp [h]), rfl⟩

set_option maxHeartbeats 4000000 in
theorem isDataSize_any (k n : Int) (w : World) :
    Calls Tryz.prog 156 #[.int .i64 k, .int .i64 n] w fun e w' => e = .returned (.bool (frSize k n)) ∧ w = w' := by
  rcases num_cases k 0 with ⟨h1, rfl⟩ | ⟨h1, h1'⟩
  · clear h1
    go_enter Tryz.func156, Tryz.ntmps156
    go_wp2_with (go_at_call 32; refine (within_any _ _ _ _).mono ?_; rintro e w' ⟨rfl, rfl⟩)
    go_ret
    exact ⟨rfl, rfl⟩
  · rcases num_cases k 2 with ⟨h2, rfl⟩ | ⟨h2, h2'⟩
    · clear h1 h2 h1'
      go_enter Tryz.func156, Tryz.ntmps156
      go_wp2_with (go_at_call 32; refine (within_any _ _ _ _).mono ?_; rintro e w' ⟨rfl, rfl⟩)
      go_ret
      exact ⟨rfl, rfl⟩
    · have E := Lib.hid (show frSize k n = decide (n = 0) by unfold frSize; rw [if_neg h1', if_neg h2'])
      clear h1' h2'
      go_enter Tryz.func156, Tryz.ntmps156
      go_wp2_with fail
      go_ret
      exact ⟨ret_bool (by rw [E.out]; by_cases h : n = 0 <;> simp [h]), rfl⟩

set_option maxHeartbeats 400000 in
theorem sIsBytes_any (A : Option Addr) (n c : Nat) (zs : List Int) (w : World) (h : RI w w.heap.size A n zs) (hn : n ≤ 1099511627776) :
    Calls Tryz.prog 171 #[.slice A n c] w fun e w' => e = .returned (.bool (isBytes zs)) ∧ w = w' := by
  have E : Hid (allM n zs 1024 255 = isBytes zs) := by
    unfold Hid allM isBytes; rw [h.len]
    congr 1
    rw [decide_eq_decide]; omega
  go_enter Tryz.func171, Tryz.ntmps171
  go_wp2_with (go_at_call 210; refine (l01All_any _ _ _ _ _ _ _ h hn).mono ?_; rintro e w' ⟨rfl, rfl⟩)
  go_ret
  exact ⟨ret_bool E.out, rfl⟩

set_option maxHeartbeats 400000 in
theorem iIsBytes_any (A : Option Addr) (n c : Nat) (zs : List Int) (w : World) (h : RI w w.heap.size A n zs) (hn : n ≤ 1099511627776) :
    Calls Tryz.prog 158 #[.slice A n c] w fun e w' => e = .returned (.bool (isBytes zs)) ∧ w = w' := by
  have L := Lib.hid h.len
  by_cases hm : n ≤ 1024
  all_goals
    go_enter Tryz.func158, Tryz.ntmps158
    go_wp2_with (go_at_call 81; refine (allWithin_any _ _ _ _ _ _ _ h hn).mono ?_; rintro e w' ⟨rfl, rfl⟩)
    go_ret
    exact ⟨ret_bool (by unfold isBytes; rw [L.out]; simp [hm]), rfl⟩

end Go.Proofs.YtbaojbheopcjhaaGreatDoor

namespace Go.Proofs.YtbaojbheopcjhaaGreatDoor
open Go.RowKit

/-- how many of the low n bits of B are set -/
def bitCnt (B : Nat) : Nat → Nat
  | 0 => 0
  | n + 1 => bitCnt B n + (if B / 2 ^ n % 2 = 1 then 1 else 0)
theorem bitCnt_half (B n : Nat) : bitCnt B (n + 1) = B % 2 + bitCnt (B / 2) n := by
  induction n with
  | zero => rcases Nat.mod_two_eq_zero_or_one B with h | h <;> simp [bitCnt, h]
  | succ n ih =>
    rw [bitCnt, ih, bitCnt, Nat.div_div_eq_div_mul, show 2 ^ (n + 1) = 2 * 2 ^ n by rw [Nat.pow_succ]; omega]
    omega
theorem bitCnt_zero (n : Nat) : ∀ B, B < 2 ^ n → (bitCnt B n = 0 ↔ B = 0) := by
  induction n with
  | zero => intro B h; simp [bitCnt]; simpa using h
  | succ n ih =>
    intro B h
    rw [bitCnt_half]
    have := ih (B / 2) (by rw [Nat.pow_succ] at h; omega)
    omega
theorem and_pred (B : Nat) : (B &&& (B - 1) = 0) ↔ (if B % 2 = 1 then B / 2 = 0 else (B / 2 &&& (B / 2 - 1)) = 0) := by
  have h1 : (B &&& (B - 1)) / 2 = B / 2 &&& (B - 1) / 2 := Nat.and_div_two
  have h2 : (B &&& (B - 1)) % 2 = 0 := by
    have : (B &&& (B - 1)) % 2 = (B % 2) &&& ((B - 1) % 2) := by
      have := @Nat.and_mod_two_pow B (B - 1) 1
      simpa using this
    rw [this]
    rcases Nat.mod_two_eq_zero_or_one B with h | h
    · rw [h]; simp
    · rw [h, show (B - 1) % 2 = 0 by omega]; simp
  split
  · rename_i h
    rw [show (B - 1) / 2 = B / 2 by omega, Nat.and_self] at h1
    omega
  · rename_i h
    rw [show (B - 1) / 2 = B / 2 - 1 by omega] at h1
    omega
theorem bitCnt_one (n : Nat) : ∀ B, B < 2 ^ n → (bitCnt B n = 1 ↔ B ≠ 0 ∧ B &&& (B - 1) = 0) := by
  induction n with
  | zero => intro B h; simp [bitCnt]; intro h2; simp at h; omega
  | succ n ih =>
    intro B h
    rw [bitCnt_half, and_pred]
    have hh : B / 2 < 2 ^ n := by rw [Nat.pow_succ] at h; omega
    have i1 := ih (B / 2) hh
    have i0 := bitCnt_zero n (B / 2) hh
    split
    · omega
    · rw [show B % 2 = 0 by omega, Nat.zero_add, i1]
      constructor
      · rintro ⟨a, b⟩; exact ⟨by omega, b⟩
      · rintro ⟨a, b⟩; exact ⟨by omega, b⟩

theorem bits_and_i64_nat (a b : Nat) (ha : a < 9223372036854775808) (hb : b < 9223372036854775808) :
    bits .and .i64 (a : Int) (b : Int) = ((a &&& b : Nat) : Int) := by
  have hx : a &&& b < 2 ^ 63 := Nat.and_lt_two_pow _ (by omega)
  have h1 : (BitVec.ofInt 64 (a : Int)).toNat = a := by
    rw [BitVec.ofInt_natCast, BitVec.toNat_ofNat]; exact Nat.mod_eq_of_lt (by omega)
  have h2 : (BitVec.ofInt 64 (b : Int)).toNat = b := by
    rw [BitVec.ofInt_natCast, BitVec.toNat_ofNat]; exact Nat.mod_eq_of_lt (by omega)
  show IntKind.i64.wrap ((BitVec.ofInt 64 (a : Int) &&& BitVec.ofInt 64 (b : Int)).toNat : Int) = _
  rw [BitVec.toNat_and, h1, h2, IntKind.wrap_i64]
  omega

set_option maxHeartbeats 4000000 in
theorem l05Has_any (B : Nat) (k : Nat) (hk : k < 32) (hB : B < 4294967296) (w : World) :
    Calls Tryz.prog 186 #[.int .i64 B, .int .i64 k] w fun e w' => e = .returned (.bool (decide (B / 2 ^ k % 2 = 1))) ∧ w = w' := by
  have E : bits .and .i64 ((B : Int) / 2 ^ k) 1 = ((B / 2 ^ k % 2 : Nat) : Int) := by
    rw [show ((B : Int) / 2 ^ k) = ((B / 2 ^ k : Nat) : Int) by simp, show (1 : Int) = ((1 : Nat) : Int) from rfl, bits_and_i64_nat _ _ (by have := Nat.div_le_self B (2 ^ k); omega) (by omega), Nat.and_one_is_mod]
  have E' := Lib.hid E
  clear E
  go_enter Tryz.func186, Tryz.ntmps186
  go_wp2_with fail
  go_ret
  refine ⟨ret_bool ?_, rfl⟩
  rw [E'.out]
  rcases Nat.mod_two_eq_zero_or_one (B / 2 ^ k) with h | h <;> rw [h] <;> rfl

set_option maxHeartbeats 4000000 in
theorem l05Vector_any (A : Option Addr) (n c : Nat) (zs : List Int) (w : World) (h : RI w w.heap.size A n zs) (hn : n ≤ 1099511627776) :
    Calls Tryz.prog 211 #[.slice A n c] w fun e w' => e = .returned (.bool (allR zs 0 4294967295)) ∧ w = w' := by
  go_enter Tryz.func211, Tryz.ntmps211
  go_wp2
  go_loop [3] (fun i => ∃ k : Nat, k ≤ n ∧ i = .int .i64 k ∧ allR (zs.take k) 0 4294967295 = true) (fun i => n - (intOf i).toNat)
  case atStart => exact ⟨0, Nat.zero_le _, rfl, rfl⟩
  case round =>
    obtain ⟨k, hk, rfl, hall⟩ := hrel
    have Hall := Lib.hid hall
    clear hall
    by_cases hlt : k < n
    · obtain ⟨b, o, rfl, _, hc⟩ := h.get (by omega)
      have hcell := hc k hlt
      clear hc
      by_cases hr : inR (gi zs k) 0 4294967295 = true
      · go_wp2_with (go_at_call 39; refine (l01In_any _ _ _ _).mono ?_; rintro e w' ⟨rfl, rfl⟩)
        go_round
        case rel => exact ⟨k + 1, by omega, by go_num, by rw [allR_take (by rw [h.len]; exact hlt), Hall.out, hr]; rfl⟩
        case measure => simp [intOf]; omega
      · have hr' : inR (gi zs k) 0 4294967295 = false := by simpa using hr
        clear hr
        go_wp2_with (go_at_call 39; refine (l01In_any _ _ _ _).mono ?_; rintro e w' ⟨rfl, rfl⟩)
        go_ret
        exact ⟨ret_bool (by simp [allR_no (by rw [h.len]; exact hlt) hr']), rfl⟩
    · have hkn : k = n := by omega
      have hz : allR zs 0 4294967295 = true := by have := Hall.out; rwa [List.take_of_length_le (by rw [h.len]; omega)] at this
      have Hz := Lib.hid hz
      clear hz hkn
      go_wp2
      go_ret
      exact ⟨ret_bool (by simp [Hz.out]), rfl⟩

def memL (B : Nat) : Nat → List Int
  | 0 => []
  | n + 1 => memL B n ++ (if B / 2 ^ n % 2 = 1 then [(n : Int)] else [])
theorem memL_len (B n : Nat) : (memL B n).length = bitCnt B n := by
  induction n with
  | zero => rfl
  | succ n ih => rw [memL, List.length_append, ih, bitCnt]; split <;> rfl
theorem bitCnt_le (B n : Nat) : bitCnt B n ≤ n := by
  induction n with
  | zero => exact Nat.le_refl _
  | succ n ih => rw [bitCnt]; split <;> omega

theorem RI.one (w : World) (b : Int) (T : TypeId) : RI (w.alloc (.cells #[.int .i64 b] T)) (w.alloc (.cells #[.int .i64 b] T)).heap.size (some ⟨w.heap.size, 0, none⟩) 1 [b] := by
  refine ⟨rfl, fun _ => ⟨w.heap.size, 0, rfl, by simp, fun k hk => ?_⟩⟩
  obtain rfl : k = 0 := by omega
  have hx' : (w.alloc (.cells #[.int .i64 b] T)).heap[w.heap.size]? = some (.cells #[.int .i64 b] T) := by
    show (w.heap.push _)[w.heap.size]? = _
    simp
  unfold World.cell?
  rw [hx']
  rfl

set_option maxHeartbeats 4000000 in
theorem sMembersOf_no (b : Int) (w : World) (h : inR b 0 4294967295 = false) :
    Calls Tryz.prog 172 #[.int .i64 b] w (fun e w' => e = .returned (.tuple #[.slice none 0 0, .int .i64 2]) ∧ Below w.heap.size w w') := by
  have hr : RI (w.alloc (.cells #[.int .i64 b] 2)) (w.alloc (.cells #[.int .i64 b] 2)).heap.size (some ⟨w.heap.size, 0, none⟩) 1 [b] := RI.one _ _ _
  have HH := Lib.hid (show allR [b] 0 4294967295 = false by simp [allR, h])
  clear h
  go_enter Tryz.func172, Tryz.ntmps172
  go_wp2_with (go_at_call 211; refine (l05Vector_any _ _ _ [b] _ hr (by omega)).mono ?_; rw [HH.out]; rintro e w' ⟨rfl, rfl⟩)
  go_ret2
  exact ⟨rfl, below_alloc (Below.refl _ _) (Nat.le_refl _) _⟩

set_option maxHeartbeats 4000000 in
theorem sMembersOf_yes (B : Nat) (hB : B < 4294967296) (w : World) :
    Calls Tryz.prog 172 #[.int .i64 B] w (fun e w' => ∃ A c, e = .returned (.tuple #[.slice A (bitCnt B 32) c, .int .i64 0]) ∧ Below w.heap.size w w') := by
  have hr : RI (w.alloc (.cells #[.int .i64 B] 2)) (w.alloc (.cells #[.int .i64 B] 2)).heap.size (some ⟨w.heap.size, 0, none⟩) 1 [(B : Int)] := RI.one _ _ _
  have HH := Lib.hid (show allR [(B : Int)] 0 4294967295 = true by simp [allR, inR]; omega)
  go_enter Tryz.func172, Tryz.ntmps172
  go_wp2_with (go_at_call 211; refine (l05Vector_any _ _ _ [(B : Int)] _ hr (by omega)).mono ?_; rw [HH.out]; rintro e w' ⟨rfl, rfl⟩)
  go_loopw [4, 5] (fun o i wr => ∃ (k m : Nat) (A' : Option Addr) (c' : Nat), k ≤ 32 ∧ m = bitCnt B k ∧ i = .int .i64 k ∧ o = .slice A' m c' ∧ OwnI 2 wr w.heap.size A' m c' (memL B k) ∧ Below w.heap.size w wr) (fun _ i _ => 32 - (intOf i).toNat)
  case atStart =>
    have e0 := OwnI.empty (T := 2) (w.alloc (.cells #[.int .i64 B] 2)) (base := w.heap.size) (below_alloc (Below.refl _ _) (Nat.le_refl _) _).size
    refine ⟨0, 0, _, _, Nat.zero_le _, rfl, rfl, rfl, ?_, ?_⟩
    · simpa [memL] using e0
    · exact below_alloc (below_alloc (Below.refl w.heap.size w) (Nat.le_refl _) _) (by first | exact Nat.le_refl _ | simp) _
  case round =>
    obtain ⟨k, m, A', c', hk, hmk, rfl, rfl, hown, hb⟩ := hrel
    have hm30 : m ≤ 32 := by have := bitCnt_le B k; omega
    have HM := Lib.hid hmk
    clear hmk
    by_cases hlt : k < 32
    · rcases bool_cases (decide (B / 2 ^ k % 2 = 1)) with hd | hd
      · have HD := Lib.hid hd
        go_wp2_with (first | (go_at_call 186; refine (l05Has_any B k hlt hB _).mono ?_; rw [HD.out]; rintro e w' ⟨rfl, rfl⟩) | (at_builtin; refine wpl_appI _ _ Tryz.underlying31 infoInt rfl _ _ rfl w.heap.size _ m _ _ rfl hown (k : Int) rfl (by omega) hb.size ?_; intro A2 c2 w2 hown2 hB2 hg2))
        go_roundw
        case rel => exact ⟨k + 1, m + 1, A2, c2, by omega, by rw [HM.out, bitCnt, if_pos (by simpa using HD.out)], by go_num, rfl, by rw [memL, if_pos (by simpa using HD.out)]; exact hown2, hb.trans (hB2 _ (Nat.le_refl _))⟩
        case measure => simp [intOf]; omega
      · have HD := Lib.hid hd
        go_wp2_with (first | (go_at_call 186; refine (l05Has_any B k hlt hB _).mono ?_; rw [HD.out]; rintro e w' ⟨rfl, rfl⟩))
        go_roundw
        case rel => exact ⟨k + 1, m, A', c', by omega, by rw [HM.out, bitCnt, if_neg (by simpa using HD.out)]; rfl, by go_num, rfl, by rw [memL, if_neg (by simpa using HD.out), List.append_nil]; exact hown, hb⟩
        case measure => simp [intOf]; omega
    · obtain rfl : k = 32 := by omega
      go_wp2
      go_ret2
      exact ⟨_, _, by rw [← HM.out]; rfl, hb⟩

end Go.Proofs.YtbaojbheopcjhaaGreatDoor

namespace Go.Proofs.YtbaojbheopcjhaaGreatDoor
open Go.RowKit

def oneMem (b : Int) : Bool := decide (bitCnt b.toNat 32 = 1)
/-- what IsFrame answers -/
def isFrame (k r t m d s b : Int) (zs : List Int) : Bool :=
  inR k 0 3 && (inR r 0 7 && (frSize k zs.length && (isBytes zs &&
    (if k = 0 then decide (t = 0 ∧ m = 0 ∧ d = 0 ∧ s = 0 ∧ b = 0) else if k = 3 then isState t m d s b && (decide (m = 0) && (oneMem b && decide (r = 0))) else isState t m d s b))))
theorem isFrame_cold {r t m d s : Int} {B : Nat} {zs : List Int} (E : isFrame 3 r t m d s B zs = (isState t m d s B && (decide (m = 0) && (oneMem B && decide (r = 0))))) (h : m ≠ 0 ∨ oneMem B = false ∨ r ≠ 0) : isFrame 3 r t m d s B zs = false := by
  rw [E]
  rcases h with h | h | h <;> simp [h]
theorem oneMem_iff {B : Nat} (hB : B < 4294967296) : oneMem (B : Int) = true ↔ B ≠ 0 ∧ B &&& (B - 1) = 0 := by
  unfold oneMem
  rw [decide_eq_true_iff, Int.toNat_natCast]
  exact bitCnt_one 32 B hB

set_option maxHeartbeats 8000000 in
theorem sIsFrame_any (k r t m d s b : Int) (A : Option Addr) (n c : Nat) (zs : List Int) (w : World) (h : RI w w.heap.size A n zs) (hn : n ≤ 1099511627776) :
    Calls Tryz.prog 120 #[.agg #[.int .i64 k, .int .i64 r, .int .i64 t, .int .i64 m, .int .i64 d, .int .i64 s, .int .i64 b, .slice A n c]] w (RetV w (.bool (isFrame k r t m d s b zs))) := by
  have L := Lib.hid h.len
  rcases bool_cases (inR k 0 3) with h1 | h1
  case inr =>
    have E := Lib.hid (show isFrame k r t m d s b zs = false by simp [isFrame, h1])
    go_enter Tryz.func120, Tryz.ntmps120
    go_wp2_with (go_at_call 168; refine (l06Kind_any _ _).mono ?_; rw [h1]; rintro e w' ⟨rfl, rfl⟩)
    go_ret
    exact ⟨ret_bool E.out.symm, by go_grown⟩
  rcases bool_cases (inR r 0 7) with h2 | h2
  case inr =>
    have E := Lib.hid (show isFrame k r t m d s b zs = false by simp [isFrame, h2])
    go_enter Tryz.func120, Tryz.ntmps120
    go_wp2_with (first | (go_at_call 168; refine (l06Kind_any _ _).mono ?_; rw [h1]; rintro e w' ⟨rfl, rfl⟩) | (go_at_call 39; refine (l01In_any _ _ _ _).mono ?_; rw [h2]; rintro e w' ⟨rfl, rfl⟩))
    go_ret
    exact ⟨ret_bool E.out.symm, by go_grown⟩
  rcases bool_cases (frSize k n) with h3 | h3
  case inr =>
    have E := Lib.hid (show isFrame k r t m d s b zs = false by simp [isFrame, h3, L.out])
    go_enter Tryz.func120, Tryz.ntmps120
    go_wp2_with (first | (go_at_call 168; refine (l06Kind_any _ _).mono ?_; rw [h1]; rintro e w' ⟨rfl, rfl⟩) | (go_at_call 39; refine (l01In_any _ _ _ _).mono ?_; rw [h2]; rintro e w' ⟨rfl, rfl⟩) | (go_at_call 169; refine (l06Size_any _ _ _).mono ?_; rw [h3]; rintro e w' ⟨rfl, rfl⟩))
    go_ret
    exact ⟨ret_bool E.out.symm, by go_grown⟩
  rcases bool_cases (isBytes zs) with h4 | h4
  case inr =>
    have E := Lib.hid (show isFrame k r t m d s b zs = false by simp [isFrame, h4])
    go_enter Tryz.func120, Tryz.ntmps120
    go_wp2_with (first | (go_at_call 168; refine (l06Kind_any _ _).mono ?_; rw [h1]; rintro e w' ⟨rfl, rfl⟩) | (go_at_call 39; refine (l01In_any _ _ _ _).mono ?_; rw [h2]; rintro e w' ⟨rfl, rfl⟩) | (go_at_call 169; refine (l06Size_any _ _ _).mono ?_; rw [h3]; rintro e w' ⟨rfl, rfl⟩) | (go_at_call 171; refine (sIsBytes_any _ _ _ zs _ (RI.alloc' h _) hn).mono ?_; rw [h4]; rintro e w' ⟨rfl, rfl⟩))
    go_ret
    exact ⟨ret_bool E.out.symm, by go_grown⟩
  have E0 := Lib.hid (show isFrame k r t m d s b zs = (if k = 0 then decide (t = 0 ∧ m = 0 ∧ d = 0 ∧ s = 0 ∧ b = 0) else if k = 3 then isState t m d s b && (decide (m = 0) && (oneMem b && decide (r = 0))) else isState t m d s b) by simp [isFrame, L.out, h1, h2, h3, h4])
  rcases num_cases k 0 with ⟨h5, rfl⟩ | ⟨h5, h5'⟩
  · clear h5
    go_enter Tryz.func120, Tryz.ntmps120
    go_wp2_with (first | (go_at_call 168; refine (l06Kind_any _ _).mono ?_; rw [h1]; rintro e w' ⟨rfl, rfl⟩) | (go_at_call 39; refine (l01In_any _ _ _ _).mono ?_; rw [h2]; rintro e w' ⟨rfl, rfl⟩) | (go_at_call 169; refine (l06Size_any _ _ _).mono ?_; rw [h3]; rintro e w' ⟨rfl, rfl⟩) | (go_at_call 171; refine (sIsBytes_any _ _ _ zs _ (RI.alloc' h _) hn).mono ?_; rw [h4]; rintro e w' ⟨rfl, rfl⟩))
    all_goals
      go_ret
      exact ⟨ret_bool (by rw [E0.out]; simp [*]), by go_grown⟩
  rcases num_cases k 3 with ⟨h6, rfl⟩ | ⟨h6, h6'⟩
  case inr =>
    have E := Lib.hid (show isFrame k r t m d s b zs = isState t m d s b by rw [E0.out, if_neg h5', if_neg h6'])
    clear h5' h6'
    go_enter Tryz.func120, Tryz.ntmps120
    go_wp2_with (first | (go_at_call 168; refine (l06Kind_any _ _).mono ?_; rw [h1]; rintro e w' ⟨rfl, rfl⟩) | (go_at_call 39; refine (l01In_any _ _ _ _).mono ?_; rw [h2]; rintro e w' ⟨rfl, rfl⟩) | (go_at_call 169; refine (l06Size_any _ _ _).mono ?_; rw [h3]; rintro e w' ⟨rfl, rfl⟩) | (go_at_call 171; refine (sIsBytes_any _ _ _ zs _ (RI.alloc' h _) hn).mono ?_; rw [h4]; rintro e w' ⟨rfl, rfl⟩))
    refine (sIsState_any _ _ _ _ _ _).mono ?_
    rintro e w1 ⟨rfl, hb1⟩
    go_wp2
    go_ret
    exact ⟨ret_bool E.out.symm, below_next hb1 (below_alloc (Below.refl _ _) (Nat.le_refl _) _) (Nat.le_refl _)⟩
  have E1 := Lib.hid (show isFrame 3 r t m d s b zs = (isState t m d s b && (decide (m = 0) && (oneMem b && decide (r = 0)))) by rw [E0.out, if_neg h5', if_pos rfl])
  clear h5 h5' h6 E0
  obtain ⟨w0, hw0⟩ : ∃ x, w.alloc (.cells #[.int .i64 3, .int .i64 r, .int .i64 t, .int .i64 m, .int .i64 d, .int .i64 s, .int .i64 b, .slice A n c] 33) = x := ⟨_, rfl⟩
  have KX := Lib.hid (show BlkL w0 w.heap.size 33 [.int .i64 3, .int .i64 r, .int .i64 t, .int .i64 m, .int .i64 d, .int .i64 s, .int .i64 b, .slice A n c] from hw0 ▸ BlkL.new w _ _ rfl)
  have hB : Below w.heap.size w w0 := by rw [← hw0]; exact below_alloc (Below.refl _ _) (Nat.le_refl _) _
  have HB := Lib.hid hB
  have H0 := Lib.hid (h.up hB)
  have HW0 := Lib.hid hw0
  clear hw0 hB
  rcases bool_cases (inR b 0 4294967295) with hv | hv
  case inr =>
    have S0 := Lib.hid (show isState t m d s b = false by simp [isState, hv])
    have E := Lib.hid (show isFrame 3 r t m d s b zs = false by rw [E1.out]; simp [S0.out])
    have x0 := KX.out.c 0 rfl
    have x1 := KX.out.c 1 rfl
    have x2 := KX.out.c 2 rfl
    have x3 := KX.out.c 3 rfl
    have x4 := KX.out.c 4 rfl
    have x5 := KX.out.c 5 rfl
    have x6 := KX.out.c 6 rfl
    have x7 := KX.out.c 7 rfl
    go_enter Tryz.func120, Tryz.ntmps120
    go_wp2_with (first | rw [HW0.out] | (go_at_call 168; refine (l06Kind_any _ _).mono ?_; rw [h1]; rintro e w' ⟨rfl, rfl⟩) | (go_at_call 39; refine (l01In_any _ _ _ _).mono ?_; rw [h2]; rintro e w' ⟨rfl, rfl⟩) | (go_at_call 169; refine (l06Size_any _ _ _).mono ?_; rw [h3]; rintro e w' ⟨rfl, rfl⟩) | (go_at_call 171; refine (sIsBytes_any _ _ _ zs _ H0.out hn).mono ?_; rw [h4]; rintro e w' ⟨rfl, rfl⟩))
    refine (sMembersOf_no b _ hv).mono ?_
    rintro e w1 ⟨rfl, hb1⟩
    clear x0 x1 x2 x3 x4 x5 x6 x7
    have K1 := Lib.hid (KX.out.next hb1)
    have y0 := K1.out.c 0 rfl
    have y1 := K1.out.c 1 rfl
    have y2 := K1.out.c 2 rfl
    have y3 := K1.out.c 3 rfl
    have y4 := K1.out.c 4 rfl
    have y5 := K1.out.c 5 rfl
    have y6 := K1.out.c 6 rfl
    have y7 := K1.out.c 7 rfl
    have HB1 := Lib.hid (below_next hb1 HB.out (Nat.le_refl _))
    clear hb1
    go_wp2_with fail
    refine (sIsState_any _ _ _ _ _ _).mono ?_
    rw [S0.out]
    rintro e w2 ⟨rfl, hb2⟩
    clear y0 y1 y2 y3 y4 y5 y6 y7
    have K2 := Lib.hid (K1.out.next hb2)
    have z0 := K2.out.c 0 rfl
    have z1 := K2.out.c 1 rfl
    have z2 := K2.out.c 2 rfl
    have z3 := K2.out.c 3 rfl
    have z4 := K2.out.c 4 rfl
    have z5 := K2.out.c 5 rfl
    have z6 := K2.out.c 6 rfl
    have z7 := K2.out.c 7 rfl
    have HB2 := Lib.hid (below_next hb2 HB1.out (Nat.le_refl _))
    clear hb2
    go_wp2_with fail
    go_ret
    exact ⟨ret_bool E.out.symm, HB2.out⟩
  obtain ⟨B, rfl⟩ : ∃ B : Nat, b = (B : Int) := ⟨b.toNat, by rw [inR_iff] at hv; omega⟩
  have hB : B < 4294967296 := by rw [inR_iff] at hv; omega
  clear hv
  have hL : bitCnt B 32 ≤ 32 := bitCnt_le B 32
  obtain ⟨l, hl⟩ : ∃ l, bitCnt B 32 = l := ⟨_, rfl⟩
  have HL := Lib.hid hl
  rw [hl] at hL
  clear hl
  have ON := Lib.hid (show oneMem (B : Int) = decide (l = 1) by unfold oneMem; rw [Int.toNat_natCast, HL.out])
  have OI := Lib.hid (oneMem_iff hB)
  rcases bool_cases (isState t m d s B) with h7 | h7
  case inr =>
    have S0 := Lib.hid h7
    clear h7
    have E := Lib.hid (show isFrame 3 r t m d s B zs = false by rw [E1.out]; simp [S0.out])
    have x0 := KX.out.c 0 rfl
    have x1 := KX.out.c 1 rfl
    have x2 := KX.out.c 2 rfl
    have x3 := KX.out.c 3 rfl
    have x4 := KX.out.c 4 rfl
    have x5 := KX.out.c 5 rfl
    have x6 := KX.out.c 6 rfl
    have x7 := KX.out.c 7 rfl
    go_enter Tryz.func120, Tryz.ntmps120
    go_wp2_with (first | rw [HW0.out] | (go_at_call 168; refine (l06Kind_any _ _).mono ?_; rw [h1]; rintro e w' ⟨rfl, rfl⟩) | (go_at_call 39; refine (l01In_any _ _ _ _).mono ?_; rw [h2]; rintro e w' ⟨rfl, rfl⟩) | (go_at_call 169; refine (l06Size_any _ _ _).mono ?_; rw [h3]; rintro e w' ⟨rfl, rfl⟩) | (go_at_call 171; refine (sIsBytes_any _ _ _ zs _ H0.out hn).mono ?_; rw [h4]; rintro e w' ⟨rfl, rfl⟩))
    refine (sMembersOf_yes B hB _).mono ?_
    rw [HL.out]
    rintro e w1 ⟨A1, c1, rfl, hb1⟩
    clear x0 x1 x2 x3 x4 x5 x6 x7
    have K1 := Lib.hid (KX.out.next hb1)
    have y0 := K1.out.c 0 rfl
    have y1 := K1.out.c 1 rfl
    have y2 := K1.out.c 2 rfl
    have y3 := K1.out.c 3 rfl
    have y4 := K1.out.c 4 rfl
    have y5 := K1.out.c 5 rfl
    have y6 := K1.out.c 6 rfl
    have y7 := K1.out.c 7 rfl
    have HB1 := Lib.hid (below_next hb1 HB.out (Nat.le_refl _))
    clear hb1
    go_wp2_with fail
    refine (sIsState_any _ _ _ _ _ _).mono ?_
    rw [S0.out]
    rintro e w2 ⟨rfl, hb2⟩
    clear y0 y1 y2 y3 y4 y5 y6 y7
    have K2 := Lib.hid (K1.out.next hb2)
    have z0 := K2.out.c 0 rfl
    have z1 := K2.out.c 1 rfl
    have z2 := K2.out.c 2 rfl
    have z3 := K2.out.c 3 rfl
    have z4 := K2.out.c 4 rfl
    have z5 := K2.out.c 5 rfl
    have z6 := K2.out.c 6 rfl
    have z7 := K2.out.c 7 rfl
    have HB2 := Lib.hid (below_next hb2 HB1.out (Nat.le_refl _))
    clear hb2
    go_wp2_with fail
    go_ret
    exact ⟨ret_bool E.out.symm, HB2.out⟩
  have S0 := Lib.hid h7
  clear h7
  rcases num_cases m 0 with ⟨h8, h8'⟩ | ⟨h8, h8'⟩
  case inr =>
    have E := Lib.hid (isFrame_cold E1.out (.inl h8'))
    clear h8'
    have x0 := KX.out.c 0 rfl
    have x1 := KX.out.c 1 rfl
    have x2 := KX.out.c 2 rfl
    have x3 := KX.out.c 3 rfl
    have x4 := KX.out.c 4 rfl
    have x5 := KX.out.c 5 rfl
    have x6 := KX.out.c 6 rfl
    have x7 := KX.out.c 7 rfl
    go_enter Tryz.func120, Tryz.ntmps120
    go_wp2_with (first | rw [HW0.out] | (go_at_call 168; refine (l06Kind_any _ _).mono ?_; rw [h1]; rintro e w' ⟨rfl, rfl⟩) | (go_at_call 39; refine (l01In_any _ _ _ _).mono ?_; rw [h2]; rintro e w' ⟨rfl, rfl⟩) | (go_at_call 169; refine (l06Size_any _ _ _).mono ?_; rw [h3]; rintro e w' ⟨rfl, rfl⟩) | (go_at_call 171; refine (sIsBytes_any _ _ _ zs _ H0.out hn).mono ?_; rw [h4]; rintro e w' ⟨rfl, rfl⟩))
    refine (sMembersOf_yes B hB _).mono ?_
    rw [HL.out]
    rintro e w1 ⟨A1, c1, rfl, hb1⟩
    clear x0 x1 x2 x3 x4 x5 x6 x7
    have K1 := Lib.hid (KX.out.next hb1)
    have y0 := K1.out.c 0 rfl
    have y1 := K1.out.c 1 rfl
    have y2 := K1.out.c 2 rfl
    have y3 := K1.out.c 3 rfl
    have y4 := K1.out.c 4 rfl
    have y5 := K1.out.c 5 rfl
    have y6 := K1.out.c 6 rfl
    have y7 := K1.out.c 7 rfl
    have HB1 := Lib.hid (below_next hb1 HB.out (Nat.le_refl _))
    clear hb1
    go_wp2_with fail
    refine (sIsState_any _ _ _ _ _ _).mono ?_
    rw [S0.out]
    rintro e w2 ⟨rfl, hb2⟩
    clear y0 y1 y2 y3 y4 y5 y6 y7
    have K2 := Lib.hid (K1.out.next hb2)
    have z0 := K2.out.c 0 rfl
    have z1 := K2.out.c 1 rfl
    have z2 := K2.out.c 2 rfl
    have z3 := K2.out.c 3 rfl
    have z4 := K2.out.c 4 rfl
    have z5 := K2.out.c 5 rfl
    have z6 := K2.out.c 6 rfl
    have z7 := K2.out.c 7 rfl
    have HB2 := Lib.hid (below_next hb2 HB1.out (Nat.le_refl _))
    clear hb2
    go_wp2_with fail
    go_ret
    exact ⟨ret_bool E.out.symm, HB2.out⟩
  subst h8'
  clear h8
  by_cases h9 : l = 1
  case neg =>
    have f9 : ((l : Int) == 1) = false := by simp; omega
    have E := Lib.hid (isFrame_cold E1.out (.inr (.inl (by rw [ON.out]; simp [h9]))))
    clear h9
    have x0 := KX.out.c 0 rfl
    have x1 := KX.out.c 1 rfl
    have x2 := KX.out.c 2 rfl
    have x3 := KX.out.c 3 rfl
    have x4 := KX.out.c 4 rfl
    have x5 := KX.out.c 5 rfl
    have x6 := KX.out.c 6 rfl
    have x7 := KX.out.c 7 rfl
    go_enter Tryz.func120, Tryz.ntmps120
    go_wp2_with (first | rw [HW0.out] | (go_at_call 168; refine (l06Kind_any _ _).mono ?_; rw [h1]; rintro e w' ⟨rfl, rfl⟩) | (go_at_call 39; refine (l01In_any _ _ _ _).mono ?_; rw [h2]; rintro e w' ⟨rfl, rfl⟩) | (go_at_call 169; refine (l06Size_any _ _ _).mono ?_; rw [h3]; rintro e w' ⟨rfl, rfl⟩) | (go_at_call 171; refine (sIsBytes_any _ _ _ zs _ H0.out hn).mono ?_; rw [h4]; rintro e w' ⟨rfl, rfl⟩))
    refine (sMembersOf_yes B hB _).mono ?_
    rw [HL.out]
    rintro e w1 ⟨A1, c1, rfl, hb1⟩
    clear x0 x1 x2 x3 x4 x5 x6 x7
    have K1 := Lib.hid (KX.out.next hb1)
    have y0 := K1.out.c 0 rfl
    have y1 := K1.out.c 1 rfl
    have y2 := K1.out.c 2 rfl
    have y3 := K1.out.c 3 rfl
    have y4 := K1.out.c 4 rfl
    have y5 := K1.out.c 5 rfl
    have y6 := K1.out.c 6 rfl
    have y7 := K1.out.c 7 rfl
    have HB1 := Lib.hid (below_next hb1 HB.out (Nat.le_refl _))
    clear hb1
    go_wp2_with fail
    refine (sIsState_any _ _ _ _ _ _).mono ?_
    rw [S0.out]
    rintro e w2 ⟨rfl, hb2⟩
    clear y0 y1 y2 y3 y4 y5 y6 y7
    have K2 := Lib.hid (K1.out.next hb2)
    have z0 := K2.out.c 0 rfl
    have z1 := K2.out.c 1 rfl
    have z2 := K2.out.c 2 rfl
    have z3 := K2.out.c 3 rfl
    have z4 := K2.out.c 4 rfl
    have z5 := K2.out.c 5 rfl
    have z6 := K2.out.c 6 rfl
    have z7 := K2.out.c 7 rfl
    have HB2 := Lib.hid (below_next hb2 HB1.out (Nat.le_refl _))
    clear hb2
    go_wp2_with fail
    go_ret
    exact ⟨ret_bool E.out.symm, HB2.out⟩
  subst h9
  have OT := Lib.hid (show oneMem (B : Int) = true by rw [ON.out]; rfl)
  rcases num_cases r 0 with ⟨h11, h11'⟩ | ⟨h11, h11'⟩
  case inr =>
    have E := Lib.hid (isFrame_cold E1.out (.inr (.inr h11')))
    clear h11'
    have x0 := KX.out.c 0 rfl
    have x1 := KX.out.c 1 rfl
    have x2 := KX.out.c 2 rfl
    have x3 := KX.out.c 3 rfl
    have x4 := KX.out.c 4 rfl
    have x5 := KX.out.c 5 rfl
    have x6 := KX.out.c 6 rfl
    have x7 := KX.out.c 7 rfl
    go_enter Tryz.func120, Tryz.ntmps120
    go_wp2_with (first | rw [HW0.out] | (go_at_call 168; refine (l06Kind_any _ _).mono ?_; rw [h1]; rintro e w' ⟨rfl, rfl⟩) | (go_at_call 39; refine (l01In_any _ _ _ _).mono ?_; rw [h2]; rintro e w' ⟨rfl, rfl⟩) | (go_at_call 169; refine (l06Size_any _ _ _).mono ?_; rw [h3]; rintro e w' ⟨rfl, rfl⟩) | (go_at_call 171; refine (sIsBytes_any _ _ _ zs _ H0.out hn).mono ?_; rw [h4]; rintro e w' ⟨rfl, rfl⟩))
    refine (sMembersOf_yes B hB _).mono ?_
    rw [HL.out]
    rintro e w1 ⟨A1, c1, rfl, hb1⟩
    clear x0 x1 x2 x3 x4 x5 x6 x7
    have K1 := Lib.hid (KX.out.next hb1)
    have y0 := K1.out.c 0 rfl
    have y1 := K1.out.c 1 rfl
    have y2 := K1.out.c 2 rfl
    have y3 := K1.out.c 3 rfl
    have y4 := K1.out.c 4 rfl
    have y5 := K1.out.c 5 rfl
    have y6 := K1.out.c 6 rfl
    have y7 := K1.out.c 7 rfl
    have HB1 := Lib.hid (below_next hb1 HB.out (Nat.le_refl _))
    clear hb1
    go_wp2_with fail
    refine (sIsState_any _ _ _ _ _ _).mono ?_
    rw [S0.out]
    rintro e w2 ⟨rfl, hb2⟩
    clear y0 y1 y2 y3 y4 y5 y6 y7
    have K2 := Lib.hid (K1.out.next hb2)
    have z0 := K2.out.c 0 rfl
    have z1 := K2.out.c 1 rfl
    have z2 := K2.out.c 2 rfl
    have z3 := K2.out.c 3 rfl
    have z4 := K2.out.c 4 rfl
    have z5 := K2.out.c 5 rfl
    have z6 := K2.out.c 6 rfl
    have z7 := K2.out.c 7 rfl
    have HB2 := Lib.hid (below_next hb2 HB1.out (Nat.le_refl _))
    clear hb2
    go_wp2_with fail
    go_ret
    exact ⟨ret_bool E.out.symm, HB2.out⟩
  subst h11'
  clear h11
  have E := Lib.hid (show isFrame 3 0 t 0 d s B zs = true by rw [E1.out, S0.out, OT.out]; rfl)
  have x0 := KX.out.c 0 rfl
  have x1 := KX.out.c 1 rfl
  have x2 := KX.out.c 2 rfl
  have x3 := KX.out.c 3 rfl
  have x4 := KX.out.c 4 rfl
  have x5 := KX.out.c 5 rfl
  have x6 := KX.out.c 6 rfl
  have x7 := KX.out.c 7 rfl
  go_enter Tryz.func120, Tryz.ntmps120
  go_wp2_with (first | rw [HW0.out] | (go_at_call 168; refine (l06Kind_any _ _).mono ?_; rw [h1]; rintro e w' ⟨rfl, rfl⟩) | (go_at_call 39; refine (l01In_any _ _ _ _).mono ?_; rw [h2]; rintro e w' ⟨rfl, rfl⟩) | (go_at_call 169; refine (l06Size_any _ _ _).mono ?_; rw [h3]; rintro e w' ⟨rfl, rfl⟩) | (go_at_call 171; refine (sIsBytes_any _ _ _ zs _ H0.out hn).mono ?_; rw [h4]; rintro e w' ⟨rfl, rfl⟩))
  refine (sMembersOf_yes B hB _).mono ?_
  rw [HL.out]
  rintro e w1 ⟨A1, c1, rfl, hb1⟩
  clear x0 x1 x2 x3 x4 x5 x6 x7
  have K1 := Lib.hid (KX.out.next hb1)
  have y0 := K1.out.c 0 rfl
  have y1 := K1.out.c 1 rfl
  have y2 := K1.out.c 2 rfl
  have y3 := K1.out.c 3 rfl
  have y4 := K1.out.c 4 rfl
  have y5 := K1.out.c 5 rfl
  have y6 := K1.out.c 6 rfl
  have y7 := K1.out.c 7 rfl
  have HB1 := Lib.hid (below_next hb1 HB.out (Nat.le_refl _))
  clear hb1
  go_wp2_with fail
  refine (sIsState_any _ _ _ _ _ _).mono ?_
  rw [S0.out]
  rintro e w2 ⟨rfl, hb2⟩
  clear y0 y1 y2 y3 y4 y5 y6 y7
  have K2 := Lib.hid (K1.out.next hb2)
  have z0 := K2.out.c 0 rfl
  have z1 := K2.out.c 1 rfl
  have z2 := K2.out.c 2 rfl
  have z3 := K2.out.c 3 rfl
  have z4 := K2.out.c 4 rfl
  have z5 := K2.out.c 5 rfl
  have z6 := K2.out.c 6 rfl
  have z7 := K2.out.c 7 rfl
  have HB2 := Lib.hid (below_next hb2 HB1.out (Nat.le_refl _))
  clear hb2
  go_wp2_with fail
  go_ret
  exact ⟨ret_bool E.out.symm, HB2.out⟩

set_option maxHeartbeats 8000000 in
theorem iIsFrame_any (k r t m d s b : Int) (A : Option Addr) (n c : Nat) (zs : List Int) (w : World) (h : RI w w.heap.size A n zs) (hn : n ≤ 1099511627776) :
    Calls Tryz.prog 114 #[.agg #[.int .i64 k, .int .i64 r, .int .i64 t, .int .i64 m, .int .i64 d, .int .i64 s, .int .i64 b, .slice A n c]] w (RetV w (.bool (isFrame k r t m d s b zs))) := by
  have L := Lib.hid h.len
  rcases bool_cases (inR k 0 3) with h1 | h1
  case inr =>
    have E := Lib.hid (show isFrame k r t m d s b zs = false by simp [isFrame, h1])
    go_enter Tryz.func114, Tryz.ntmps114
    go_wp2_with (go_at_call 155; refine (isKind_any _ _).mono ?_; rw [h1]; rintro e w' ⟨rfl, rfl⟩)
    go_ret
    exact ⟨ret_bool E.out.symm, by go_grown⟩
  rcases bool_cases (inR r 0 7) with h2 | h2
  case inr =>
    have E := Lib.hid (show isFrame k r t m d s b zs = false by simp [isFrame, h2])
    go_enter Tryz.func114, Tryz.ntmps114
    go_wp2_with (first | (go_at_call 155; refine (isKind_any _ _).mono ?_; rw [h1]; rintro e w' ⟨rfl, rfl⟩) | (go_at_call 32; refine (within_any _ _ _ _).mono ?_; rw [h2]; rintro e w' ⟨rfl, rfl⟩))
    go_ret
    exact ⟨ret_bool E.out.symm, by go_grown⟩
  rcases bool_cases (frSize k n) with h3 | h3
  case inr =>
    have E := Lib.hid (show isFrame k r t m d s b zs = false by simp [isFrame, h3, L.out])
    go_enter Tryz.func114, Tryz.ntmps114
    go_wp2_with (first | (go_at_call 155; refine (isKind_any _ _).mono ?_; rw [h1]; rintro e w' ⟨rfl, rfl⟩) | (go_at_call 32; refine (within_any _ _ _ _).mono ?_; rw [h2]; rintro e w' ⟨rfl, rfl⟩) | (go_at_call 156; refine (isDataSize_any _ _ _).mono ?_; rw [h3]; rintro e w' ⟨rfl, rfl⟩))
    go_ret
    exact ⟨ret_bool E.out.symm, by go_grown⟩
  rcases bool_cases (isBytes zs) with h4 | h4
  case inr =>
    have E := Lib.hid (show isFrame k r t m d s b zs = false by simp [isFrame, h4])
    go_enter Tryz.func114, Tryz.ntmps114
    go_wp2_with (first | (go_at_call 155; refine (isKind_any _ _).mono ?_; rw [h1]; rintro e w' ⟨rfl, rfl⟩) | (go_at_call 32; refine (within_any _ _ _ _).mono ?_; rw [h2]; rintro e w' ⟨rfl, rfl⟩) | (go_at_call 156; refine (isDataSize_any _ _ _).mono ?_; rw [h3]; rintro e w' ⟨rfl, rfl⟩) | (go_at_call 158; refine (iIsBytes_any _ _ _ zs _ (RI.alloc' h _) hn).mono ?_; rw [h4]; rintro e w' ⟨rfl, rfl⟩))
    go_ret
    exact ⟨ret_bool E.out.symm, by go_grown⟩
  have E0 := Lib.hid (show isFrame k r t m d s b zs = (if k = 0 then decide (t = 0 ∧ m = 0 ∧ d = 0 ∧ s = 0 ∧ b = 0) else if k = 3 then isState t m d s b && (decide (m = 0) && (oneMem b && decide (r = 0))) else isState t m d s b) by simp [isFrame, L.out, h1, h2, h3, h4])
  rcases num_cases k 0 with ⟨h5, rfl⟩ | ⟨h5, h5'⟩
  · clear h5
    go_enter Tryz.func114, Tryz.ntmps114
    go_wp2_with (first | (go_at_call 155; refine (isKind_any _ _).mono ?_; rw [h1]; rintro e w' ⟨rfl, rfl⟩) | (go_at_call 32; refine (within_any _ _ _ _).mono ?_; rw [h2]; rintro e w' ⟨rfl, rfl⟩) | (go_at_call 156; refine (isDataSize_any _ _ _).mono ?_; rw [h3]; rintro e w' ⟨rfl, rfl⟩) | (go_at_call 158; refine (iIsBytes_any _ _ _ zs _ (RI.alloc' h _) hn).mono ?_; rw [h4]; rintro e w' ⟨rfl, rfl⟩))
    all_goals
      go_ret
      exact ⟨ret_bool (by rw [E0.out]; simp [*]), by go_grown⟩
  rcases num_cases k 3 with ⟨h6, rfl⟩ | ⟨h6, h6'⟩
  case inr =>
    have E := Lib.hid (show isFrame k r t m d s b zs = isState t m d s b by rw [E0.out, if_neg h5', if_neg h6'])
    clear h5' h6'
    go_enter Tryz.func114, Tryz.ntmps114
    go_wp2_with (first | (go_at_call 155; refine (isKind_any _ _).mono ?_; rw [h1]; rintro e w' ⟨rfl, rfl⟩) | (go_at_call 32; refine (within_any _ _ _ _).mono ?_; rw [h2]; rintro e w' ⟨rfl, rfl⟩) | (go_at_call 156; refine (isDataSize_any _ _ _).mono ?_; rw [h3]; rintro e w' ⟨rfl, rfl⟩) | (go_at_call 158; refine (iIsBytes_any _ _ _ zs _ (RI.alloc' h _) hn).mono ?_; rw [h4]; rintro e w' ⟨rfl, rfl⟩))
    refine (iIsState_any _ _ _ _ _ _).mono ?_
    rintro e w1 ⟨rfl, hb1⟩
    go_wp2
    go_ret
    exact ⟨ret_bool E.out.symm, below_next hb1 (below_alloc (Below.refl _ _) (Nat.le_refl _) _) (Nat.le_refl _)⟩
  have E1 := Lib.hid (show isFrame 3 r t m d s b zs = (isState t m d s b && (decide (m = 0) && (oneMem b && decide (r = 0)))) by rw [E0.out, if_neg h5', if_pos rfl])
  clear h5 h5' h6 E0
  obtain ⟨w0, hw0⟩ : ∃ x, w.alloc (.cells #[.int .i64 3, .int .i64 r, .int .i64 t, .int .i64 m, .int .i64 d, .int .i64 s, .int .i64 b, .slice A n c] 33) = x := ⟨_, rfl⟩
  have KX := Lib.hid (show BlkL w0 w.heap.size 33 [.int .i64 3, .int .i64 r, .int .i64 t, .int .i64 m, .int .i64 d, .int .i64 s, .int .i64 b, .slice A n c] from hw0 ▸ BlkL.new w _ _ rfl)
  have hB : Below w.heap.size w w0 := by rw [← hw0]; exact below_alloc (Below.refl _ _) (Nat.le_refl _) _
  have HB := Lib.hid hB
  have H0 := Lib.hid (h.up hB)
  have HW0 := Lib.hid hw0
  clear hw0 hB
  rcases bool_cases (inR b 0 4294967295) with hv | hv
  case inr =>
    have S0 := Lib.hid (show isState t m d s b = false by simp [isState, hv])
    have E := Lib.hid (show isFrame 3 r t m d s b zs = false by rw [E1.out]; simp [S0.out])
    have x0 := KX.out.c 0 rfl
    have x1 := KX.out.c 1 rfl
    have x2 := KX.out.c 2 rfl
    have x3 := KX.out.c 3 rfl
    have x4 := KX.out.c 4 rfl
    have x5 := KX.out.c 5 rfl
    have x6 := KX.out.c 6 rfl
    have x7 := KX.out.c 7 rfl
    go_enter Tryz.func114, Tryz.ntmps114
    go_wp2_with (first | rw [HW0.out] | (go_at_call 155; refine (isKind_any _ _).mono ?_; rw [h1]; rintro e w' ⟨rfl, rfl⟩) | (go_at_call 32; refine (within_any _ _ _ _).mono ?_; rw [h2]; rintro e w' ⟨rfl, rfl⟩) | (go_at_call 156; refine (isDataSize_any _ _ _).mono ?_; rw [h3]; rintro e w' ⟨rfl, rfl⟩) | (go_at_call 158; refine (iIsBytes_any _ _ _ zs _ H0.out hn).mono ?_; rw [h4]; rintro e w' ⟨rfl, rfl⟩))
    clear x0 x1 x2 x3 x4 x5 x6 x7
    have K1 := Lib.hid KX.out
    have y0 := K1.out.c 0 rfl
    have y1 := K1.out.c 1 rfl
    have y2 := K1.out.c 2 rfl
    have y3 := K1.out.c 3 rfl
    have y4 := K1.out.c 4 rfl
    have y5 := K1.out.c 5 rfl
    have y6 := K1.out.c 6 rfl
    have y7 := K1.out.c 7 rfl
    have HB1 := Lib.hid HB.out
    refine (iIsState_any _ _ _ _ _ _).mono ?_
    rw [S0.out]
    rintro e w2 ⟨rfl, hb2⟩
    clear y0 y1 y2 y3 y4 y5 y6 y7
    have K2 := Lib.hid (K1.out.next hb2)
    have z0 := K2.out.c 0 rfl
    have z1 := K2.out.c 1 rfl
    have z2 := K2.out.c 2 rfl
    have z3 := K2.out.c 3 rfl
    have z4 := K2.out.c 4 rfl
    have z5 := K2.out.c 5 rfl
    have z6 := K2.out.c 6 rfl
    have z7 := K2.out.c 7 rfl
    have HB2 := Lib.hid (below_next hb2 HB1.out (Nat.le_refl _))
    clear hb2
    go_wp2_with fail
    go_ret
    exact ⟨ret_bool E.out.symm, HB2.out⟩
  obtain ⟨B, rfl⟩ : ∃ B : Nat, b = (B : Int) := ⟨b.toNat, by rw [inR_iff] at hv; omega⟩
  have hB : B < 4294967296 := by rw [inR_iff] at hv; omega
  clear hv
  have hL : bitCnt B 32 ≤ 32 := bitCnt_le B 32
  obtain ⟨l, hl⟩ : ∃ l, bitCnt B 32 = l := ⟨_, rfl⟩
  have HL := Lib.hid hl
  rw [hl] at hL
  clear hl
  have ON := Lib.hid (show oneMem (B : Int) = decide (l = 1) by unfold oneMem; rw [Int.toNat_natCast, HL.out])
  have OI := Lib.hid (oneMem_iff hB)
  rcases bool_cases (isState t m d s B) with h7 | h7
  case inr =>
    have S0 := Lib.hid h7
    clear h7
    have E := Lib.hid (show isFrame 3 r t m d s B zs = false by rw [E1.out]; simp [S0.out])
    have x0 := KX.out.c 0 rfl
    have x1 := KX.out.c 1 rfl
    have x2 := KX.out.c 2 rfl
    have x3 := KX.out.c 3 rfl
    have x4 := KX.out.c 4 rfl
    have x5 := KX.out.c 5 rfl
    have x6 := KX.out.c 6 rfl
    have x7 := KX.out.c 7 rfl
    go_enter Tryz.func114, Tryz.ntmps114
    go_wp2_with (first | rw [HW0.out] | (go_at_call 155; refine (isKind_any _ _).mono ?_; rw [h1]; rintro e w' ⟨rfl, rfl⟩) | (go_at_call 32; refine (within_any _ _ _ _).mono ?_; rw [h2]; rintro e w' ⟨rfl, rfl⟩) | (go_at_call 156; refine (isDataSize_any _ _ _).mono ?_; rw [h3]; rintro e w' ⟨rfl, rfl⟩) | (go_at_call 158; refine (iIsBytes_any _ _ _ zs _ H0.out hn).mono ?_; rw [h4]; rintro e w' ⟨rfl, rfl⟩))
    clear x0 x1 x2 x3 x4 x5 x6 x7
    have K1 := Lib.hid KX.out
    have y0 := K1.out.c 0 rfl
    have y1 := K1.out.c 1 rfl
    have y2 := K1.out.c 2 rfl
    have y3 := K1.out.c 3 rfl
    have y4 := K1.out.c 4 rfl
    have y5 := K1.out.c 5 rfl
    have y6 := K1.out.c 6 rfl
    have y7 := K1.out.c 7 rfl
    have HB1 := Lib.hid HB.out
    refine (iIsState_any _ _ _ _ _ _).mono ?_
    rw [S0.out]
    rintro e w2 ⟨rfl, hb2⟩
    clear y0 y1 y2 y3 y4 y5 y6 y7
    have K2 := Lib.hid (K1.out.next hb2)
    have z0 := K2.out.c 0 rfl
    have z1 := K2.out.c 1 rfl
    have z2 := K2.out.c 2 rfl
    have z3 := K2.out.c 3 rfl
    have z4 := K2.out.c 4 rfl
    have z5 := K2.out.c 5 rfl
    have z6 := K2.out.c 6 rfl
    have z7 := K2.out.c 7 rfl
    have HB2 := Lib.hid (below_next hb2 HB1.out (Nat.le_refl _))
    clear hb2
    go_wp2_with fail
    go_ret
    exact ⟨ret_bool E.out.symm, HB2.out⟩
  have S0 := Lib.hid h7
  clear h7
  rcases num_cases m 0 with ⟨h8, h8'⟩ | ⟨h8, h8'⟩
  case inr =>
    have E := Lib.hid (isFrame_cold E1.out (.inl h8'))
    clear h8'
    have x0 := KX.out.c 0 rfl
    have x1 := KX.out.c 1 rfl
    have x2 := KX.out.c 2 rfl
    have x3 := KX.out.c 3 rfl
    have x4 := KX.out.c 4 rfl
    have x5 := KX.out.c 5 rfl
    have x6 := KX.out.c 6 rfl
    have x7 := KX.out.c 7 rfl
    go_enter Tryz.func114, Tryz.ntmps114
    go_wp2_with (first | rw [HW0.out] | (go_at_call 155; refine (isKind_any _ _).mono ?_; rw [h1]; rintro e w' ⟨rfl, rfl⟩) | (go_at_call 32; refine (within_any _ _ _ _).mono ?_; rw [h2]; rintro e w' ⟨rfl, rfl⟩) | (go_at_call 156; refine (isDataSize_any _ _ _).mono ?_; rw [h3]; rintro e w' ⟨rfl, rfl⟩) | (go_at_call 158; refine (iIsBytes_any _ _ _ zs _ H0.out hn).mono ?_; rw [h4]; rintro e w' ⟨rfl, rfl⟩))
    clear x0 x1 x2 x3 x4 x5 x6 x7
    have K1 := Lib.hid KX.out
    have y0 := K1.out.c 0 rfl
    have y1 := K1.out.c 1 rfl
    have y2 := K1.out.c 2 rfl
    have y3 := K1.out.c 3 rfl
    have y4 := K1.out.c 4 rfl
    have y5 := K1.out.c 5 rfl
    have y6 := K1.out.c 6 rfl
    have y7 := K1.out.c 7 rfl
    have HB1 := Lib.hid HB.out
    refine (iIsState_any _ _ _ _ _ _).mono ?_
    rw [S0.out]
    rintro e w2 ⟨rfl, hb2⟩
    clear y0 y1 y2 y3 y4 y5 y6 y7
    have K2 := Lib.hid (K1.out.next hb2)
    have z0 := K2.out.c 0 rfl
    have z1 := K2.out.c 1 rfl
    have z2 := K2.out.c 2 rfl
    have z3 := K2.out.c 3 rfl
    have z4 := K2.out.c 4 rfl
    have z5 := K2.out.c 5 rfl
    have z6 := K2.out.c 6 rfl
    have z7 := K2.out.c 7 rfl
    have HB2 := Lib.hid (below_next hb2 HB1.out (Nat.le_refl _))
    clear hb2
    go_wp2_with fail
    go_ret
    exact ⟨ret_bool E.out.symm, HB2.out⟩
  subst h8'
  clear h8
  by_cases h9 : B = 0
  case pos =>
    have f9 : ((B : Int) != 0) = false := by simp; omega
    have E := Lib.hid (isFrame_cold E1.out (.inr (.inl (Bool.eq_false_iff.2 fun h => (OI.out.1 h).1 h9))))
    clear h9
    have x0 := KX.out.c 0 rfl
    have x1 := KX.out.c 1 rfl
    have x2 := KX.out.c 2 rfl
    have x3 := KX.out.c 3 rfl
    have x4 := KX.out.c 4 rfl
    have x5 := KX.out.c 5 rfl
    have x6 := KX.out.c 6 rfl
    have x7 := KX.out.c 7 rfl
    go_enter Tryz.func114, Tryz.ntmps114
    go_wp2_with (first | rw [HW0.out] | (go_at_call 155; refine (isKind_any _ _).mono ?_; rw [h1]; rintro e w' ⟨rfl, rfl⟩) | (go_at_call 32; refine (within_any _ _ _ _).mono ?_; rw [h2]; rintro e w' ⟨rfl, rfl⟩) | (go_at_call 156; refine (isDataSize_any _ _ _).mono ?_; rw [h3]; rintro e w' ⟨rfl, rfl⟩) | (go_at_call 158; refine (iIsBytes_any _ _ _ zs _ H0.out hn).mono ?_; rw [h4]; rintro e w' ⟨rfl, rfl⟩))
    clear x0 x1 x2 x3 x4 x5 x6 x7
    have K1 := Lib.hid KX.out
    have y0 := K1.out.c 0 rfl
    have y1 := K1.out.c 1 rfl
    have y2 := K1.out.c 2 rfl
    have y3 := K1.out.c 3 rfl
    have y4 := K1.out.c 4 rfl
    have y5 := K1.out.c 5 rfl
    have y6 := K1.out.c 6 rfl
    have y7 := K1.out.c 7 rfl
    have HB1 := Lib.hid HB.out
    refine (iIsState_any _ _ _ _ _ _).mono ?_
    rw [S0.out]
    rintro e w2 ⟨rfl, hb2⟩
    clear y0 y1 y2 y3 y4 y5 y6 y7
    have K2 := Lib.hid (K1.out.next hb2)
    have z0 := K2.out.c 0 rfl
    have z1 := K2.out.c 1 rfl
    have z2 := K2.out.c 2 rfl
    have z3 := K2.out.c 3 rfl
    have z4 := K2.out.c 4 rfl
    have z5 := K2.out.c 5 rfl
    have z6 := K2.out.c 6 rfl
    have z7 := K2.out.c 7 rfl
    have HB2 := Lib.hid (below_next hb2 HB1.out (Nat.le_refl _))
    clear hb2
    go_wp2_with fail
    go_ret
    exact ⟨ret_bool E.out.symm, HB2.out⟩
  have g9 : ((B : Int) != 0) = true := by simp; omega
  obtain ⟨P, hP⟩ : ∃ P, B &&& (B - 1) = P := ⟨_, rfl⟩
  have hbit : bits .and .i64 (B : Int) ((B : Int) - 1) = (P : Int) := by rw [← hP, ← bits_and_i64_nat B (B - 1) (by omega) (by omega), show ((B - 1 : Nat) : Int) = (B : Int) - 1 by omega]
  have HP := Lib.hid hP
  clear hP
  by_cases h10 : P = 0
  case neg =>
    have f10 : ((P : Int) == 0) = false := by simp; omega
    have E := Lib.hid (isFrame_cold E1.out (.inr (.inl (Bool.eq_false_iff.2 fun h => h10 (by rw [← HP.out]; exact (OI.out.1 h).2)))))
    clear h10
    have x0 := KX.out.c 0 rfl
    have x1 := KX.out.c 1 rfl
    have x2 := KX.out.c 2 rfl
    have x3 := KX.out.c 3 rfl
    have x4 := KX.out.c 4 rfl
    have x5 := KX.out.c 5 rfl
    have x6 := KX.out.c 6 rfl
    have x7 := KX.out.c 7 rfl
    go_enter Tryz.func114, Tryz.ntmps114
    go_wp2_with (first | rw [HW0.out] | (go_at_call 155; refine (isKind_any _ _).mono ?_; rw [h1]; rintro e w' ⟨rfl, rfl⟩) | (go_at_call 32; refine (within_any _ _ _ _).mono ?_; rw [h2]; rintro e w' ⟨rfl, rfl⟩) | (go_at_call 156; refine (isDataSize_any _ _ _).mono ?_; rw [h3]; rintro e w' ⟨rfl, rfl⟩) | (go_at_call 158; refine (iIsBytes_any _ _ _ zs _ H0.out hn).mono ?_; rw [h4]; rintro e w' ⟨rfl, rfl⟩))
    clear x0 x1 x2 x3 x4 x5 x6 x7
    have K1 := Lib.hid KX.out
    have y0 := K1.out.c 0 rfl
    have y1 := K1.out.c 1 rfl
    have y2 := K1.out.c 2 rfl
    have y3 := K1.out.c 3 rfl
    have y4 := K1.out.c 4 rfl
    have y5 := K1.out.c 5 rfl
    have y6 := K1.out.c 6 rfl
    have y7 := K1.out.c 7 rfl
    have HB1 := Lib.hid HB.out
    refine (iIsState_any _ _ _ _ _ _).mono ?_
    rw [S0.out]
    rintro e w2 ⟨rfl, hb2⟩
    clear y0 y1 y2 y3 y4 y5 y6 y7
    have K2 := Lib.hid (K1.out.next hb2)
    have z0 := K2.out.c 0 rfl
    have z1 := K2.out.c 1 rfl
    have z2 := K2.out.c 2 rfl
    have z3 := K2.out.c 3 rfl
    have z4 := K2.out.c 4 rfl
    have z5 := K2.out.c 5 rfl
    have z6 := K2.out.c 6 rfl
    have z7 := K2.out.c 7 rfl
    have HB2 := Lib.hid (below_next hb2 HB1.out (Nat.le_refl _))
    clear hb2
    go_wp2_with fail
    go_ret
    exact ⟨ret_bool E.out.symm, HB2.out⟩
  subst h10
  have OT := Lib.hid (show oneMem (B : Int) = true from OI.out.2 ⟨h9, HP.out⟩)
  rcases num_cases r 0 with ⟨h11, h11'⟩ | ⟨h11, h11'⟩
  case inr =>
    have E := Lib.hid (isFrame_cold E1.out (.inr (.inr h11')))
    clear h11'
    have x0 := KX.out.c 0 rfl
    have x1 := KX.out.c 1 rfl
    have x2 := KX.out.c 2 rfl
    have x3 := KX.out.c 3 rfl
    have x4 := KX.out.c 4 rfl
    have x5 := KX.out.c 5 rfl
    have x6 := KX.out.c 6 rfl
    have x7 := KX.out.c 7 rfl
    go_enter Tryz.func114, Tryz.ntmps114
    go_wp2_with (first | rw [HW0.out] | (go_at_call 155; refine (isKind_any _ _).mono ?_; rw [h1]; rintro e w' ⟨rfl, rfl⟩) | (go_at_call 32; refine (within_any _ _ _ _).mono ?_; rw [h2]; rintro e w' ⟨rfl, rfl⟩) | (go_at_call 156; refine (isDataSize_any _ _ _).mono ?_; rw [h3]; rintro e w' ⟨rfl, rfl⟩) | (go_at_call 158; refine (iIsBytes_any _ _ _ zs _ H0.out hn).mono ?_; rw [h4]; rintro e w' ⟨rfl, rfl⟩))
    clear x0 x1 x2 x3 x4 x5 x6 x7
    have K1 := Lib.hid KX.out
    have y0 := K1.out.c 0 rfl
    have y1 := K1.out.c 1 rfl
    have y2 := K1.out.c 2 rfl
    have y3 := K1.out.c 3 rfl
    have y4 := K1.out.c 4 rfl
    have y5 := K1.out.c 5 rfl
    have y6 := K1.out.c 6 rfl
    have y7 := K1.out.c 7 rfl
    have HB1 := Lib.hid HB.out
    refine (iIsState_any _ _ _ _ _ _).mono ?_
    rw [S0.out]
    rintro e w2 ⟨rfl, hb2⟩
    clear y0 y1 y2 y3 y4 y5 y6 y7
    have K2 := Lib.hid (K1.out.next hb2)
    have z0 := K2.out.c 0 rfl
    have z1 := K2.out.c 1 rfl
    have z2 := K2.out.c 2 rfl
    have z3 := K2.out.c 3 rfl
    have z4 := K2.out.c 4 rfl
    have z5 := K2.out.c 5 rfl
    have z6 := K2.out.c 6 rfl
    have z7 := K2.out.c 7 rfl
    have HB2 := Lib.hid (below_next hb2 HB1.out (Nat.le_refl _))
    clear hb2
    go_wp2_with fail
    go_ret
    exact ⟨ret_bool E.out.symm, HB2.out⟩
  subst h11'
  clear h11
  have E := Lib.hid (show isFrame 3 0 t 0 d s B zs = true by rw [E1.out, S0.out, OT.out]; rfl)
  have x0 := KX.out.c 0 rfl
  have x1 := KX.out.c 1 rfl
  have x2 := KX.out.c 2 rfl
  have x3 := KX.out.c 3 rfl
  have x4 := KX.out.c 4 rfl
  have x5 := KX.out.c 5 rfl
  have x6 := KX.out.c 6 rfl
  have x7 := KX.out.c 7 rfl
  go_enter Tryz.func114, Tryz.ntmps114
  go_wp2_with (first | rw [HW0.out] | (go_at_call 155; refine (isKind_any _ _).mono ?_; rw [h1]; rintro e w' ⟨rfl, rfl⟩) | (go_at_call 32; refine (within_any _ _ _ _).mono ?_; rw [h2]; rintro e w' ⟨rfl, rfl⟩) | (go_at_call 156; refine (isDataSize_any _ _ _).mono ?_; rw [h3]; rintro e w' ⟨rfl, rfl⟩) | (go_at_call 158; refine (iIsBytes_any _ _ _ zs _ H0.out hn).mono ?_; rw [h4]; rintro e w' ⟨rfl, rfl⟩))
  clear x0 x1 x2 x3 x4 x5 x6 x7
  have K1 := Lib.hid KX.out
  have y0 := K1.out.c 0 rfl
  have y1 := K1.out.c 1 rfl
  have y2 := K1.out.c 2 rfl
  have y3 := K1.out.c 3 rfl
  have y4 := K1.out.c 4 rfl
  have y5 := K1.out.c 5 rfl
  have y6 := K1.out.c 6 rfl
  have y7 := K1.out.c 7 rfl
  have HB1 := Lib.hid HB.out
  refine (iIsState_any _ _ _ _ _ _).mono ?_
  rw [S0.out]
  rintro e w2 ⟨rfl, hb2⟩
  clear y0 y1 y2 y3 y4 y5 y6 y7
  have K2 := Lib.hid (K1.out.next hb2)
  have z0 := K2.out.c 0 rfl
  have z1 := K2.out.c 1 rfl
  have z2 := K2.out.c 2 rfl
  have z3 := K2.out.c 3 rfl
  have z4 := K2.out.c 4 rfl
  have z5 := K2.out.c 5 rfl
  have z6 := K2.out.c 6 rfl
  have z7 := K2.out.c 7 rfl
  have HB2 := Lib.hid (below_next hb2 HB1.out (Nat.le_refl _))
  clear hb2
  go_wp2_with fail
  go_ret
  exact ⟨ret_bool E.out.symm, HB2.out⟩

end Go.Proofs.YtbaojbheopcjhaaGreatDoor
