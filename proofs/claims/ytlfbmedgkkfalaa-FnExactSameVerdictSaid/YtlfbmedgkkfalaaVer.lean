/- The walks of the functions on frames and verdicts. Conditions: lists of at most 2^20 numbers. -/
import Derived.Test.YtlfbmedgkkfalaaFault
import Derived.Test.YtlfbmedgkkfalaaKit8
import Derived.Test.YtlfbmedgkkfalaaRow2
import Derived.Deep.RegionHeld3
import Derived.Laws.StructEq
namespace Go.Proofs.Ytlfbmedgkkfalaa
open Go.RowKit

set_option maxHeartbeats 1000000 in
theorem toState_any (t m d s b : Int) (w : World) :
    Calls Try.prog 209 #[.agg #[.int .i64 t, .int .i64 m, .int .i64 d, .int .i64 s, .int .i64 b]] w (RetV w (.agg #[.int .i64 t, .int .i64 m, .int .i64 d, .int .i64 s, .int .i64 b])) := by
  go_enter Try.func209, Try.ntmps209
  go_wp2
  exact bodyPost_ret (v := .agg #[.int .i64 t, .int .i64 m, .int .i64 d, .int .i64 s, .int .i64 b]) (by simp [results, Try.results209, go_sem]) rfl ⟨rfl, by go_grown⟩

set_option maxHeartbeats 1000000 in
theorem eqState_self (t m d s b : Int) (w : World) :
    Calls Try.prog 211 #[.agg #[.int .i64 t, .int .i64 m, .int .i64 d, .int .i64 s, .int .i64 b], .agg #[.int .i64 t, .int .i64 m, .int .i64 d, .int .i64 s, .int .i64 b]] w (RetV w (.bool true)) := by
  go_enter Try.func211, Try.ntmps211
  go_wp2
  go_ret
  exact ⟨rfl, by go_grown⟩

set_option maxHeartbeats 400000 in
theorem l01Same_any (A A' : Option Addr) (n n' c c' : Nat) (xs ys : List Int) (w : World) (hx : RI w w.heap.size A n xs) (hy : RI w w.heap.size A' n' ys) (hn : n ≤ 1099511627776) (hn' : n' ≤ 1099511627776) :
    Calls Try.prog 208 #[.slice A n c, .slice A' n' c'] w (RetV w (.bool (eqI xs ys))) := by
  by_cases hnn : n = n'
  · subst hnn
    go_enter Try.func208, Try.ntmps208
    go_wp2
    go_loopw [5] (fun i wr => ∃ k : Nat, k ≤ n ∧ i = .int .i64 k ∧ xs.take k = ys.take k ∧ Below w.heap.size w wr) (fun i _ => n - (intOf i).toNat)
    case atStart => exact ⟨0, Nat.zero_le _, rfl, rfl, Below.refl _ _⟩
    case round =>
      obtain ⟨k, hk, rfl, heq, hb⟩ := hrel
      have Heq := Lib.hid heq
      clear heq
      by_cases hlt : k < n
      · obtain ⟨b, o, rfl, _, hc⟩ := (hx.below hb (Nat.le_refl _)).get (by omega)
        have hcell := hc k hlt
        clear hc
        obtain ⟨b', o', rfl, _, hc⟩ := (hy.below hb (Nat.le_refl _)).get (by omega)
        have hcell' := hc k hlt
        clear hc
        by_cases hr : gi xs k = gi ys k
        · have HR := Lib.hid hr
          have hbn : (gi xs k != gi ys k) = false := by simp [hr]
          clear hr
          go_wp2
          go_quiet (fail)
          go_wp2
          go_roundw
          case rel => exact ⟨k + 1, by omega, by go_num, by rw [take_gi (by rw [hx.len]; exact hlt), take_gi (by rw [hy.len]; exact hlt), Heq.out, HR.out], below_drewN hb _⟩
          case measure => simp [intOf]; omega
        · have hbn : (gi xs k != gi ys k) = true := by simp [hr]
          have HR := Lib.hid hr
          clear hr
          go_wp2
          go_quiet (fail)
          go_wp2
          go_ret
          exact ⟨ret_bool (eqI_no HR.out).symm, below_drewN hb _⟩
      · have hkn : k = n := by omega
        have HK := Lib.hid hkn
        clear hkn
        go_wp2
        go_ret
        refine ⟨ret_bool (eqI_take hx.len hy.len ?_).symm, hb⟩
        have := Heq.out
        rwa [HK.out] at this
  · have hbn : ((n : Int) != (n' : Int)) = true := by simp; omega
    go_enter Try.func208, Try.ntmps208
    go_wp2
    go_ret
    exact ⟨ret_bool (eqI_len (by rw [hx.len, hy.len]; exact hnn)).symm, Below.refl _ _⟩

set_option maxHeartbeats 400000 in
theorem slicesEqual_any (A A' : Option Addr) (n n' c c' : Nat) (xs ys : List Int) (w : World) (hx : RI w w.heap.size A n xs) (hy : RI w w.heap.size A' n' ys) (hn : n ≤ 1099511627776) (hn' : n' ≤ 1099511627776) :
    Calls Try.prog 210 #[.slice A n c, .slice A' n' c'] w (RetV w (.bool (eqI xs ys))) := by
  by_cases hnn : n = n'
  · subst hnn
    go_enter Try.func210, Try.ntmps210
    go_wp2
    go_loopw [5, 13] (fun _ i wr => ∃ k : Nat, k ≤ n ∧ i = .int .i64 k ∧ xs.take k = ys.take k ∧ Below w.heap.size w wr) (fun _ i _ => n - (intOf i).toNat)
    case atStart => exact ⟨0, Nat.zero_le _, rfl, rfl, Below.refl _ _⟩
    case round =>
      obtain ⟨k, hk, rfl, heq, hb⟩ := hrel
      have Heq := Lib.hid heq
      clear heq
      by_cases hlt : k < n
      · obtain ⟨b, o, rfl, _, hc⟩ := (hx.below hb (Nat.le_refl _)).get (by omega)
        have hcell := hc k hlt
        clear hc
        obtain ⟨b', o', rfl, _, hc⟩ := (hy.below hb (Nat.le_refl _)).get (by omega)
        have hcell' := hc k hlt
        clear hc
        by_cases hr : gi xs k = gi ys k
        · have HR := Lib.hid hr
          have hbn : (gi xs k != gi ys k) = false := by simp [hr]
          clear hr
          go_wp2
          go_quiet (fail)
          go_wp2
          go_roundw
          case rel => exact ⟨k + 1, by omega, by go_num, by rw [take_gi (by rw [hx.len]; exact hlt), take_gi (by rw [hy.len]; exact hlt), Heq.out, HR.out], below_drewN hb _⟩
          case measure => simp [intOf]; omega
        · have hbn : (gi xs k != gi ys k) = true := by simp [hr]
          have HR := Lib.hid hr
          clear hr
          go_wp2
          go_quiet (fail)
          go_wp2
          go_ret
          exact ⟨ret_bool (eqI_no HR.out).symm, below_drewN hb _⟩
      · have hkn : k = n := by omega
        have HK := Lib.hid hkn
        clear hkn
        go_wp2
        go_ret
        refine ⟨ret_bool (eqI_take hx.len hy.len ?_).symm, hb⟩
        have := Heq.out
        rwa [HK.out] at this
  · have hbn : ((n : Int) != (n' : Int)) = true := by simp; omega
    go_enter Try.func210, Try.ntmps210
    go_wp2
    go_ret
    exact ⟨ret_bool (eqI_len (by rw [hx.len, hy.len]; exact hnn)).symm, Below.refl _ _⟩

def sF (k1 r1 t1 m1 d1 s1 b1 k2 r2 t2 m2 d2 s2 b2 : Int) (xs ys : List Int) : Bool :=
  decide (k1 = k2) && (decide (r1 = r2) && (decide (t1 = t2 ∧ m1 = m2 ∧ d1 = d2 ∧ s1 = s2 ∧ b1 = b2) && eqI xs ys))

set_option maxHeartbeats 8000000 in
theorem l28Same_any (k1 r1 t1 m1 d1 s1 b1 k2 r2 t2 m2 d2 s2 b2 : Int) (A A' : Option Addr) (n n' c c' : Nat) (xs ys : List Int) (w : World) (hx : RI w w.heap.size A n xs) (hy : RI w w.heap.size A' n' ys) (hn : n ≤ 1099511627776) (hn' : n' ≤ 1099511627776) :
    Calls Try.prog 136 #[.agg #[.int .i64 k1, .int .i64 r1, .int .i64 t1, .int .i64 m1, .int .i64 d1, .int .i64 s1, .int .i64 b1, .slice A n c], .agg #[.int .i64 k2, .int .i64 r2, .int .i64 t2, .int .i64 m2, .int .i64 d2, .int .i64 s2, .int .i64 b2, .slice A' n' c']] w (RetV w (.bool (sF k1 r1 t1 m1 d1 s1 b1 k2 r2 t2 m2 d2 s2 b2 xs ys))) := by
  go_enter Try.func136, Try.ntmps136
  go_wp2_with (go_at_call 208; refine (l01Same_any _ _ _ _ _ _ xs ys _ (RI.alloc' (RI.alloc' hx _) _) (RI.alloc' (RI.alloc' hy _) _) hn hn').mono ?_; rintro e w1 ⟨rfl, hb1⟩)
  all_goals
    go_ret
    refine ⟨ret_bool (by simp [sF, *]), ?_⟩
    first
    | exact below_next hb1 (below_alloc (below_alloc (Below.refl _ _) (Nat.le_refl _) _) (Nat.le_refl _) _) (Nat.le_refl _)
    | go_grown

set_option maxHeartbeats 8000000 in
theorem sameFrame_any (k1 r1 t1 m1 d1 s1 b1 k2 r2 t2 m2 d2 s2 b2 : Int) (A A' : Option Addr) (n n' c c' : Nat) (xs ys : List Int) (w : World) (hx : RI w w.heap.size A n xs) (hy : RI w w.heap.size A' n' ys) (hn : n ≤ 1099511627776) (hn' : n' ≤ 1099511627776) :
    Calls Try.prog 138 #[.agg #[.int .i64 k1, .int .i64 r1, .int .i64 t1, .int .i64 m1, .int .i64 d1, .int .i64 s1, .int .i64 b1, .slice A n c], .agg #[.int .i64 k2, .int .i64 r2, .int .i64 t2, .int .i64 m2, .int .i64 d2, .int .i64 s2, .int .i64 b2, .slice A' n' c']] w (RetV w (.bool (sF k1 r1 t1 m1 d1 s1 b1 k2 r2 t2 m2 d2 s2 b2 xs ys))) := by
  go_enter Try.func138, Try.ntmps138
  go_wp2_with (go_at_call 210; refine (slicesEqual_any _ _ _ _ _ _ xs ys _ (RI.alloc' (RI.alloc' hx _) _) (RI.alloc' (RI.alloc' hy _) _) hn hn').mono ?_; rintro e w1 ⟨rfl, hb1⟩)
  all_goals
    go_ret
    refine ⟨ret_bool (by simp [sF, *]), ?_⟩
    first
    | exact below_next hb1 (below_alloc (below_alloc (Below.refl _ _) (Nat.le_refl _) _) (Nat.le_refl _) _) (Nat.le_refl _)
    | go_grown

def aggV (x : Vdt) (A : Option Addr) (n c : Nat) : Value := .agg #[.int .i64 x.st, .int .i64 x.kd, .int .i64 x.rq, .int .i64 x.tm, .int .i64 x.md, .int .i64 x.rd, .int .i64 x.sl, .int .i64 x.mb, .slice A n c]
def sV (x y : Vdt) (xs ys : List Int) : Bool := decide (x.st = y.st) && sF x.kd x.rq x.tm x.md x.rd x.sl x.mb y.kd y.rq y.tm y.md y.rd y.sl y.mb xs ys

set_option maxHeartbeats 8000000 in
theorem sSame_any (x y : Vdt) (A A' : Option Addr) (n n' c c' : Nat) (xs ys : List Int) (w : World) (hx : RI w w.heap.size A n xs) (hy : RI w w.heap.size A' n' ys) (hn : n ≤ 1099511627776) (hn' : n' ≤ 1099511627776) :
    Calls Try.prog 25 #[aggV x A n c, aggV y A' n' c'] w (RetV w (.bool (sV x y xs ys))) := by
  unfold aggV
  go_enter Try.func25, Try.ntmps25
  go_wp2_with (go_at_call 136; refine (l28Same_any _ _ _ _ _ _ _ _ _ _ _ _ _ _ _ _ _ _ _ _ xs ys _ (RI.alloc' (RI.alloc' hx _) _) (RI.alloc' (RI.alloc' hy _) _) hn hn').mono ?_; rintro e w1 ⟨rfl, hb1⟩)
  all_goals
    go_ret
    refine ⟨ret_bool (by simp [sV, *]), ?_⟩
    first
    | exact below_next hb1 (below_alloc (below_alloc (Below.refl _ _) (Nat.le_refl _) _) (Nat.le_refl _) _) (Nat.le_refl _)
    | go_grown

set_option maxHeartbeats 8000000 in
theorem iSame_any (x y : Vdt) (A A' : Option Addr) (n n' c c' : Nat) (xs ys : List Int) (w : World) (hx : RI w w.heap.size A n xs) (hy : RI w w.heap.size A' n' ys) (hn : n ≤ 1099511627776) (hn' : n' ≤ 1099511627776) :
    Calls Try.prog 27 #[aggV x A n c, aggV y A' n' c'] w (RetV w (.bool (sV x y xs ys))) := by
  unfold aggV
  go_enter Try.func27, Try.ntmps27
  go_wp2_with (go_at_call 138; refine (sameFrame_any _ _ _ _ _ _ _ _ _ _ _ _ _ _ _ _ _ _ _ _ xs ys _ (RI.alloc' (RI.alloc' hx _) _) (RI.alloc' (RI.alloc' hy _) _) hn hn').mono ?_; rintro e w1 ⟨rfl, hb1⟩)
  all_goals
    go_ret
    refine ⟨ret_bool (by simp [sV, *]), ?_⟩
    first
    | exact below_next hb1 (below_alloc (below_alloc (Below.refl _ _) (Nat.le_refl _) _) (Nat.le_refl _) _) (Nat.le_refl _)
    | go_grown

/-- what szInt64S and its like answer -/
def szL (n : Nat) (left : Int) : Int := if left - (n : Int) < 0 then -1 else left - (n : Int)
theorem szL_neg {n : Nat} {left : Int} (h : left < (n : Int)) : szL n left = -1 := by unfold szL; rw [if_pos (by omega)]
theorem szL_pos {n : Nat} {left : Int} (h : (n : Int) ≤ left) : szL n left = left - (n : Int) := by unfold szL; rw [if_neg (by omega)]

set_option maxHeartbeats 1000000 in
theorem szInt64S_any (A : Option Addr) (n c : Nat) (left : Int) (w : World) (hn : n ≤ maxLen) (h1 : 0 ≤ left) (h2 : left ≤ 1099511627776) :
    Calls Try.prog 207 #[.slice A n c, .int .i64 left] w fun e w' => e = .returned (.int .i64 (szL n left)) ∧ w = w' := by
  unfold maxLen at hn
  by_cases h : left - (n : Int) < 0
  all_goals
    go_enter Try.func207, Try.ntmps207
    go_wp2
    go_ret
    exact ⟨ret_int (by unfold szL; first | rw [if_pos h] | rw [if_neg (by omega)]), rfl⟩

set_option maxHeartbeats 2000000 in
theorem szFrame_any (k r t m d s b : Int) (A : Option Addr) (n c : Nat) (left : Int) (w : World) (hn : n ≤ maxLen) (h1 : 0 ≤ left) (h2 : left ≤ 1099511627776) :
    Calls Try.prog 135 #[.agg #[.int .i64 k, .int .i64 r, .int .i64 t, .int .i64 m, .int .i64 d, .int .i64 s, .int .i64 b, .slice A n c], .int .i64 left] w (RetV w (.int .i64 (szL n left))) := by
  have hm := hn
  unfold maxLen at hm
  by_cases h : left < (n : Int)
  · have E := Lib.hid (szL_neg h)
    go_enter Try.func135, Try.ntmps135
    go_wp2_with fail
    refine (szInt64S_any A n c left _ hn h1 h2).mono ?_
    rw [E.out]
    rintro e w' ⟨rfl, rfl⟩
    go_wp2
    go_ret
    exact ⟨ret_int E.out.symm, by go_grown⟩
  · have E := Lib.hid (szL_pos (n := n) (left := left) (by omega))
    go_enter Try.func135, Try.ntmps135
    go_wp2_with fail
    refine (szInt64S_any A n c left _ hn h1 h2).mono ?_
    rw [E.out]
    rintro e w' ⟨rfl, rfl⟩
    go_wp2
    go_ret
    exact ⟨ret_int E.out.symm, by go_grown⟩

set_option maxHeartbeats 2000000 in
theorem szVerdict_any (x : Vdt) (A : Option Addr) (n c : Nat) (left : Int) (w : World) (hn : n ≤ maxLen) (h1 : 0 ≤ left) (h2 : left ≤ 1099511627776) :
    Calls Try.prog 24 #[aggV x A n c, .int .i64 left] w (RetV w (.int .i64 (szL n left))) := by
  have hm := hn
  unfold maxLen at hm
  unfold aggV
  by_cases h : left < (n : Int)
  · have E := Lib.hid (szL_neg h)
    go_enter Try.func24, Try.ntmps24
    go_wp2_with fail
    refine (szFrame_any _ _ _ _ _ _ _ A n c left _ hn h1 h2).mono ?_
    rw [E.out]
    rintro e w1 ⟨rfl, hb1⟩
    go_wp2
    go_ret
    exact ⟨ret_int E.out.symm, below_next hb1 (below_alloc (Below.refl _ _) (Nat.le_refl _) _) (Nat.le_refl _)⟩
  · have E := Lib.hid (szL_pos (n := n) (left := left) (by omega))
    go_enter Try.func24, Try.ntmps24
    go_wp2_with fail
    refine (szFrame_any _ _ _ _ _ _ _ A n c left _ hn h1 h2).mono ?_
    rw [E.out]
    rintro e w1 ⟨rfl, hb1⟩
    go_wp2
    go_ret
    exact ⟨ret_int E.out.symm, below_next hb1 (below_alloc (Below.refl _ _) (Nat.le_refl _) _) (Nat.le_refl _)⟩

end Go.Proofs.Ytlfbmedgkkfalaa
