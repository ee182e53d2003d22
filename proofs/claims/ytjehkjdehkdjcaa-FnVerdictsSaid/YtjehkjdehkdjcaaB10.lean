/- Walks, laws and small notions for the claims of this seat, several texts as one (Ver, Frm, Mem). Conditions: as each theorem states them. -/
import Derived.Test.YtjehkjdehkdjcaaB2
import Derived.Test.YtjehkjdehkdjcaaB1
import Derived.Deep.RegionHeld3
import Derived.Laws.StructEq
namespace Go.Proofs.Ytjehkjdehkdjcaa
open Go.RowKit

set_option maxHeartbeats 1000000 in
theorem toState_any (t m d s b : Int) (w : World) :
    Calls Try.prog 191 #[.agg #[.int .i64 t, .int .i64 m, .int .i64 d, .int .i64 s, .int .i64 b]] w (RetV w (.agg #[.int .i64 t, .int .i64 m, .int .i64 d, .int .i64 s, .int .i64 b])) := by
  go_enter Try.func191, Try.ntmps191
  go_wp2
  exact bodyPost_ret (v := .agg #[.int .i64 t, .int .i64 m, .int .i64 d, .int .i64 s, .int .i64 b]) (by simp [results, Try.results191, go_sem]) rfl ⟨rfl, by go_grown⟩

set_option maxHeartbeats 1000000 in
theorem eqState_self (t m d s b : Int) (w : World) :
    Calls Try.prog 198 #[.agg #[.int .i64 t, .int .i64 m, .int .i64 d, .int .i64 s, .int .i64 b], .agg #[.int .i64 t, .int .i64 m, .int .i64 d, .int .i64 s, .int .i64 b]] w (RetV w (.bool true)) := by
  go_enter Try.func198, Try.ntmps198
  go_wp2
  go_ret
  exact ⟨rfl, by go_grown⟩

set_option maxHeartbeats 400000 in
theorem l01Same_any (A A' : Option Addr) (n n' c c' : Nat) (xs ys : List Int) (w : World) (hx : RI w w.heap.size A n xs) (hy : RI w w.heap.size A' n' ys) (hn : n ≤ 1099511627776) (hn' : n' ≤ 1099511627776) :
    Calls Try.prog 190 #[.slice A n c, .slice A' n' c'] w (RetV w (.bool (eqI xs ys))) := by
  by_cases hnn : n = n'
  · subst hnn
    go_enter Try.func190, Try.ntmps190
    go_wp2
    go_loopw [5] (fun i wr => ∃ k : Nat, k ≤ n ∧ i = .int .i64 k ∧ xs.take k = ys.take k ∧ Below w.heap.size w wr) (fun i _ => n - (intOf i).toNat)
    case atStart => exact ⟨0, Nat.zero_le _, rfl, rfl, Below.refl _ _⟩
    case round =>
      obtain ⟨k, hk, rfl, heq, hb⟩ := hrel
      have Heq := Lib.hid heq
      clear heq
      by_cases hlt : k < n
      · obtain ⟨b, o, rfl, _, hc⟩ := (hx.below hb (Nat.le_refl _)).get (by omega)
        have hcell := hc k hlt
        clear hc
        obtain ⟨b', o', rfl, _, hc⟩ := (hy.below hb (Nat.le_refl _)).get (by omega)
        have hcell' := hc k hlt
        clear hc
        by_cases hr : gi xs k = gi ys k
        · have HR := Lib.hid hr
          have hbn : (gi xs k != gi ys k) = false := by simp [hr]
          clear hr
          go_wp2
          go_quiet (fail)
          go_wp2
          go_roundw
          case rel => exact ⟨k + 1, by omega, by go_num, by rw [take_gi (by rw [hx.len]; exact hlt), take_gi (by rw [hy.len]; exact hlt), Heq.out, HR.out], below_drewN hb _⟩
          case measure => simp [intOf]; omega
        · have hbn : (gi xs k != gi ys k) = true := by simp [hr]
          have HR := Lib.hid hr
          clear hr
          go_wp2
          go_quiet (fail)
          go_wp2
          go_ret
          exact ⟨ret_bool (eqI_no HR.out).symm, below_drewN hb _⟩
      · have hkn : k = n := by omega
        have HK := Lib.hid hkn
        clear hkn
        go_wp2
        go_ret
        refine ⟨ret_bool (eqI_take hx.len hy.len ?_).symm, hb⟩
        have := Heq.out
        rwa [HK.out] at this
  · have hbn : ((n : Int) != (n' : Int)) = true := by simp; omega
    go_enter Try.func190, Try.ntmps190
    go_wp2
    go_ret
    exact ⟨ret_bool (eqI_len (by rw [hx.len, hy.len]; exact hnn)).symm, Below.refl _ _⟩

set_option maxHeartbeats 400000 in
theorem slicesEqual_any (A A' : Option Addr) (n n' c c' : Nat) (xs ys : List Int) (w : World) (hx : RI w w.heap.size A n xs) (hy : RI w w.heap.size A' n' ys) (hn : n ≤ 1099511627776) (hn' : n' ≤ 1099511627776) :
    Calls Try.prog 197 #[.slice A n c, .slice A' n' c'] w (RetV w (.bool (eqI xs ys))) := by
  by_cases hnn : n = n'
  · subst hnn
    go_enter Try.func197, Try.ntmps197
    go_wp2
    go_loopw [5, 13] (fun _ i wr => ∃ k : Nat, k ≤ n ∧ i = .int .i64 k ∧ xs.take k = ys.take k ∧ Below w.heap.size w wr) (fun _ i _ => n - (intOf i).toNat)
    case atStart => exact ⟨0, Nat.zero_le _, rfl, rfl, Below.refl _ _⟩
    case round =>
      obtain ⟨k, hk, rfl, heq, hb⟩ := hrel
      have Heq := Lib.hid heq
      clear heq
      by_cases hlt : k < n
      · obtain ⟨b, o, rfl, _, hc⟩ := (hx.below hb (Nat.le_refl _)).get (by omega)
        have hcell := hc k hlt
        clear hc
        obtain ⟨b', o', rfl, _, hc⟩ := (hy.below hb (Nat.le_refl _)).get (by omega)
        have hcell' := hc k hlt
        clear hc
        by_cases hr : gi xs k = gi ys k
        · have HR := Lib.hid hr
          have hbn : (gi xs k != gi ys k) = false := by simp [hr]
          clear hr
          go_wp2
          go_quiet (fail)
          go_wp2
          go_roundw
          case rel => exact ⟨k + 1, by omega, by go_num, by rw [take_gi (by rw [hx.len]; exact hlt), take_gi (by rw [hy.len]; exact hlt), Heq.out, HR.out], below_drewN hb _⟩
          case measure => simp [intOf]; omega
        · have hbn : (gi xs k != gi ys k) = true := by simp [hr]
          have HR := Lib.hid hr
          clear hr
          go_wp2
          go_quiet (fail)
          go_wp2
          go_ret
          exact ⟨ret_bool (eqI_no HR.out).symm, below_drewN hb _⟩
      · have hkn : k = n := by omega
        have HK := Lib.hid hkn
        clear hkn
        go_wp2
        go_ret
        refine ⟨ret_bool (eqI_take hx.len hy.len ?_).symm, hb⟩
        have := Heq.out
        rwa [HK.out] at this
  · have hbn : ((n : Int) != (n' : Int)) = true := by simp; omega
    go_enter Try.func197, Try.ntmps197
    go_wp2
    go_ret
    exact ⟨ret_bool (eqI_len (by rw [hx.len, hy.len]; exact hnn)).symm, Below.refl _ _⟩

def sF (k1 r1 t1 m1 d1 s1 b1 k2 r2 t2 m2 d2 s2 b2 : Int) (xs ys : List Int) : Bool :=
  decide (k1 = k2) && (decide (r1 = r2) && (decide (t1 = t2 ∧ m1 = m2 ∧ d1 = d2 ∧ s1 = s2 ∧ b1 = b2) && eqI xs ys))

set_option maxHeartbeats 8000000 in
theorem l28Same_any (k1 r1 t1 m1 d1 s1 b1 k2 r2 t2 m2 d2 s2 b2 : Int) (A A' : Option Addr) (n n' c c' : Nat) (xs ys : List Int) (w : World) (hx : RI w w.heap.size A n xs) (hy : RI w w.heap.size A' n' ys) (hn : n ≤ 1099511627776) (hn' : n' ≤ 1099511627776) :
    Calls Try.prog 117 #[.agg #[.int .i64 k1, .int .i64 r1, .int .i64 t1, .int .i64 m1, .int .i64 d1, .int .i64 s1, .int .i64 b1, .slice A n c], .agg #[.int .i64 k2, .int .i64 r2, .int .i64 t2, .int .i64 m2, .int .i64 d2, .int .i64 s2, .int .i64 b2, .slice A' n' c']] w (RetV w (.bool (sF k1 r1 t1 m1 d1 s1 b1 k2 r2 t2 m2 d2 s2 b2 xs ys))) := by
  go_enter Try.func117, Try.ntmps117
  go_wp2_with (go_at_call 190; refine (l01Same_any _ _ _ _ _ _ xs ys _ (RI.alloc' (RI.alloc' hx _) _) (RI.alloc' (RI.alloc' hy _) _) hn hn').mono ?_; rintro e w1 ⟨rfl, hb1⟩)
  all_goals
    go_ret
    refine ⟨ret_bool (by simp [sF, *]), ?_⟩
    first
    | exact below_next hb1 (below_alloc (below_alloc (Below.refl _ _) (Nat.le_refl _) _) (Nat.le_refl _) _) (Nat.le_refl _)
    | go_grown

set_option maxHeartbeats 8000000 in
theorem sameFrame_any (k1 r1 t1 m1 d1 s1 b1 k2 r2 t2 m2 d2 s2 b2 : Int) (A A' : Option Addr) (n n' c c' : Nat) (xs ys : List Int) (w : World) (hx : RI w w.heap.size A n xs) (hy : RI w w.heap.size A' n' ys) (hn : n ≤ 1099511627776) (hn' : n' ≤ 1099511627776) :
    Calls Try.prog 121 #[.agg #[.int .i64 k1, .int .i64 r1, .int .i64 t1, .int .i64 m1, .int .i64 d1, .int .i64 s1, .int .i64 b1, .slice A n c], .agg #[.int .i64 k2, .int .i64 r2, .int .i64 t2, .int .i64 m2, .int .i64 d2, .int .i64 s2, .int .i64 b2, .slice A' n' c']] w (RetV w (.bool (sF k1 r1 t1 m1 d1 s1 b1 k2 r2 t2 m2 d2 s2 b2 xs ys))) := by
  go_enter Try.func121, Try.ntmps121
  go_wp2_with (go_at_call 197; refine (slicesEqual_any _ _ _ _ _ _ xs ys _ (RI.alloc' (RI.alloc' hx _) _) (RI.alloc' (RI.alloc' hy _) _) hn hn').mono ?_; rintro e w1 ⟨rfl, hb1⟩)
  all_goals
    go_ret
    refine ⟨ret_bool (by simp [sF, *]), ?_⟩
    first
    | exact below_next hb1 (below_alloc (below_alloc (Below.refl _ _) (Nat.le_refl _) _) (Nat.le_refl _) _) (Nat.le_refl _)
    | go_grown

def aggV (x : Vdt) (A : Option Addr) (n c : Nat) : Value := .agg #[.int .i64 x.st, .int .i64 x.kd, .int .i64 x.rq, .int .i64 x.tm, .int .i64 x.md, .int .i64 x.rd, .int .i64 x.sl, .int .i64 x.mb, .slice A n c]
def sV (x y : Vdt) (xs ys : List Int) : Bool := decide (x.st = y.st) && sF x.kd x.rq x.tm x.md x.rd x.sl x.mb y.kd y.rq y.tm y.md y.rd y.sl y.mb xs ys

set_option maxHeartbeats 8000000 in
theorem iSame_any (x y : Vdt) (A A' : Option Addr) (n n' c c' : Nat) (xs ys : List Int) (w : World) (hx : RI w w.heap.size A n xs) (hy : RI w w.heap.size A' n' ys) (hn : n ≤ 1099511627776) (hn' : n' ≤ 1099511627776) :
    Calls Try.prog 40 #[aggV x A n c, aggV y A' n' c'] w (RetV w (.bool (sV x y xs ys))) := by
  unfold aggV
  go_enter Try.func40, Try.ntmps40
  go_wp2_with (go_at_call 121; refine (sameFrame_any _ _ _ _ _ _ _ _ _ _ _ _ _ _ _ _ _ _ _ _ xs ys _ (RI.alloc' (RI.alloc' hx _) _) (RI.alloc' (RI.alloc' hy _) _) hn hn').mono ?_; rintro e w1 ⟨rfl, hb1⟩)
  all_goals
    go_ret
    refine ⟨ret_bool (by simp [sV, *]), ?_⟩
    first
    | exact below_next hb1 (below_alloc (below_alloc (Below.refl _ _) (Nat.le_refl _) _) (Nat.le_refl _) _) (Nat.le_refl _)
    | go_grown

/-- what szInt64S and its like answer -/
def szL (n : Nat) (left : Int) : Int := if left - (n : Int) < 0 then -1 else left - (n : Int)
theorem szL_neg {n : Nat} {left : Int} (h : left < (n : Int)) : szL n left = -1 := by unfold szL; rw [if_pos (by omega)]
theorem szL_pos {n : Nat} {left : Int} (h : (n : Int) ≤ left) : szL n left = left - (n : Int) := by unfold szL; rw [if_neg (by omega)]

set_option maxHeartbeats 1000000 in
theorem szInt64S_any (A : Option Addr) (n c : Nat) (left : Int) (w : World) (hn : n ≤ maxLen) (h1 : 0 ≤ left) (h2 : left ≤ 1099511627776) :
    Calls Try.prog 185 #[.slice A n c, .int .i64 left] w fun e w' => e = .returned (.int .i64 (szL n left)) ∧ w = w' := by
  unfold maxLen at hn
  by_cases h : left - (n : Int) < 0
  all_goals
    go_enter Try.func185, Try.ntmps185
    go_wp2
    go_ret
    exact ⟨ret_int (by unfold szL; first | rw [if_pos h] | rw [if_neg (by omega)]), rfl⟩

set_option maxHeartbeats 2000000 in
theorem szFrame_any (k r t m d s b : Int) (A : Option Addr) (n c : Nat) (left : Int) (w : World) (hn : n ≤ maxLen) (h1 : 0 ≤ left) (h2 : left ≤ 1099511627776) :
    Calls Try.prog 114 #[.agg #[.int .i64 k, .int .i64 r, .int .i64 t, .int .i64 m, .int .i64 d, .int .i64 s, .int .i64 b, .slice A n c], .int .i64 left] w (RetV w (.int .i64 (szL n left))) := by
  have hm := hn
  unfold maxLen at hm
  by_cases h : left < (n : Int)
  · have E := Lib.hid (szL_neg h)
    go_enter Try.func114, Try.ntmps114
    go_wp2_with fail
    refine (szInt64S_any A n c left _ hn h1 h2).mono ?_
    rw [E.out]
    rintro e w' ⟨rfl, rfl⟩
    go_wp2
    go_ret
    exact ⟨ret_int E.out.symm, by go_grown⟩
  · have E := Lib.hid (szL_pos (n := n) (left := left) (by omega))
    go_enter Try.func114, Try.ntmps114
    go_wp2_with fail
    refine (szInt64S_any A n c left _ hn h1 h2).mono ?_
    rw [E.out]
    rintro e w' ⟨rfl, rfl⟩
    go_wp2
    go_ret
    exact ⟨ret_int E.out.symm, by go_grown⟩

set_option maxHeartbeats 2000000 in
theorem szVerdict_any (x : Vdt) (A : Option Addr) (n c : Nat) (left : Int) (w : World) (hn : n ≤ maxLen) (h1 : 0 ≤ left) (h2 : left ≤ 1099511627776) :
    Calls Try.prog 16 #[aggV x A n c, .int .i64 left] w (RetV w (.int .i64 (szL n left))) := by
  have hm := hn
  unfold maxLen at hm
  unfold aggV
  by_cases h : left < (n : Int)
  · have E := Lib.hid (szL_neg h)
    go_enter Try.func16, Try.ntmps16
    go_wp2_with fail
    refine (szFrame_any _ _ _ _ _ _ _ A n c left _ hn h1 h2).mono ?_
    rw [E.out]
    rintro e w1 ⟨rfl, hb1⟩
    go_wp2
    go_ret
    exact ⟨ret_int E.out.symm, below_next hb1 (below_alloc (Below.refl _ _) (Nat.le_refl _) _) (Nat.le_refl _)⟩
  · have E := Lib.hid (szL_pos (n := n) (left := left) (by omega))
    go_enter Try.func16, Try.ntmps16
    go_wp2_with fail
    refine (szFrame_any _ _ _ _ _ _ _ A n c left _ hn h1 h2).mono ?_
    rw [E.out]
    rintro e w1 ⟨rfl, hb1⟩
    go_wp2
    go_ret
    exact ⟨ret_int E.out.symm, below_next hb1 (below_alloc (Below.refl _ _) (Nat.le_refl _) _) (Nat.le_refl _)⟩

end Go.Proofs.Ytjehkjdehkdjcaa

namespace Go.Proofs.Ytjehkjdehkdjcaa
open Go.RowKit

def isState (t m d s b : Int) : Bool := inR t 0 65535 && (inR m 0 15 && (inR d 0 15 && (inR s 0 255 && inR b 0 4294967295)))

set_option maxHeartbeats 4000000 in
theorem sIsState_any (t m d s b : Int) (w : World) :
    Calls Try.prog 189 #[.agg #[.int .i64 t, .int .i64 m, .int .i64 d, .int .i64 s, .int .i64 b]] w (RetV w (.bool (isState t m d s b))) := by
  rcases bool_cases (inR t 0 65535) with h1 | h1 <;> rcases bool_cases (inR m 0 15) with h2 | h2 <;> rcases bool_cases (inR d 0 15) with h3 | h3 <;> rcases bool_cases (inR s 0 255) with h4 | h4 <;> rcases bool_cases (inR b 0 4294967295) with h5 | h5
  all_goals
    go_enter Try.func189, Try.ntmps189
    go_wp2_with (first | (go_at_call 116; refine (l01In_any _ _ _ _).mono ?_; rintro e w' ⟨rfl, rfl⟩) | go_in)
    go_ret
    exact ⟨ret_bool (by unfold isState; simp only [h1, h2, h3, h4, h5]; rfl), by go_grown⟩

set_option maxHeartbeats 4000000 in
theorem isVector_any (b : Int) (w : World) :
    Calls Try.prog 242 #[.int .i64 b] w fun e w' => e = .returned (.bool (inR b 0 4294967295)) ∧ w = w' := by
  go_enter Try.func242, Try.ntmps242
  go_wp2_with (go_at_call 120; refine (within_any _ _ _ _).mono ?_; rintro e w' ⟨rfl, rfl⟩)
  go_ret
  exact ⟨rfl, rfl⟩

set_option maxHeartbeats 4000000 in
theorem iIsState_any (t m d s b : Int) (w : World) :
    Calls Try.prog 196 #[.agg #[.int .i64 t, .int .i64 m, .int .i64 d, .int .i64 s, .int .i64 b]] w (RetV w (.bool (isState t m d s b))) := by
  rcases bool_cases (inR t 0 65535) with h1 | h1 <;> rcases bool_cases (inR m 0 15) with h2 | h2 <;> rcases bool_cases (inR d 0 15) with h3 | h3 <;> rcases bool_cases (inR s 0 255) with h4 | h4 <;> rcases bool_cases (inR b 0 4294967295) with h5 | h5
  all_goals
    go_enter Try.func196, Try.ntmps196
    go_wp2_with (first | (go_at_call 120; refine (within_any _ _ _ _).mono ?_; rintro e w' ⟨rfl, rfl⟩) | (go_at_call 242; refine (isVector_any _ _).mono ?_; rintro e w' ⟨rfl, rfl⟩) | go_in)
    go_ret
    exact ⟨ret_bool (by unfold isState; simp only [h1, h2, h3, h4, h5]; rfl), by go_grown⟩

def frSize (k n : Int) : Bool := if k = 0 then inR n 0 32 else if k = 2 then inR n 1 32 else decide (n = 0)

set_option maxHeartbeats 4000000 in
theorem l06Kind_any (k : Int) (w : World) :
    Calls Try.prog 186 #[.int .i64 k] w fun e w' => e = .returned (.bool (inR k 0 3)) ∧ w = w' := by
  go_enter Try.func186, Try.ntmps186
  go_wp2_with (go_at_call 116; refine (l01In_any _ _ _ _).mono ?_; rintro e w' ⟨rfl, rfl⟩)
  go_ret
  exact ⟨rfl, rfl⟩

set_option maxHeartbeats 4000000 in
theorem isKind_any (k : Int) (w : World) :
    Calls Try.prog 193 #[.int .i64 k] w fun e w' => e = .returned (.bool (inR k 0 3)) ∧ w = w' := by
  go_enter Try.func193, Try.ntmps193
  go_wp2_with (go_at_call 120; refine (within_any _ _ _ _).mono ?_; rintro e w' ⟨rfl, rfl⟩)
  go_ret
  exact ⟨rfl, rfl⟩

theorem num_cases (k a : Int) : ((k == a) = true ∧ k = a) ∨ ((k == a) = false ∧ k ≠ a) := by
  by_cases h : k = a <;> simp [h]

set_option maxHeartbeats 4000000 in
theorem l06Size_any (k n : Int) (w : World) :
    Calls Try.prog 187 #[.int .i64 k, .int .i64 n] w fun e w' => e = .returned (.bool (frSize k n)) ∧ w = w' := by
  rcases num_cases k 0 with ⟨h1, rfl⟩ | ⟨h1, h1'⟩
  · clear h1
    go_enter Try.func187, Try.ntmps187
    go_wp2_with (go_at_call 116; refine (l01In_any _ _ _ _).mono ?_; rintro e w' ⟨rfl, rfl⟩)
    go_ret
    exact ⟨rfl, rfl⟩
  · rcases num_cases k 2 with ⟨h2, rfl⟩ | ⟨h2, h2'⟩
    · clear h1 h2 h1'
      go_enter Try.func187, Try.ntmps187
      go_wp2_with (go_at_call 116; refine (l01In_any _ _ _ _).mono ?_; rintro e w' ⟨rfl, rfl⟩)
      go_ret
      exact ⟨rfl, rfl⟩
    · have E := Lib.hid (show frSize k n = decide (n = 0) by unfold frSize; rw [if_neg h1', if_neg h2'])
      clear h1' h2'
      go_enter Try.func187, Try.ntmps187
      go_wp2_with fail
      go_ret
      exact ⟨ret_bool (by rw [E.out]; by_cases h : n = 0 <;> simp [h]), rfl⟩

set_option maxHeartbeats 4000000 in
theorem isDataSize_any (k n : Int) (w : World) :
    Calls Try.prog 194 #[.int .i64 k, .int .i64 n] w fun e w' => e = .returned (.bool (frSize k n)) ∧ w = w' := by
  rcases num_cases k 0 with ⟨h1, rfl⟩ | ⟨h1, h1'⟩
  · clear h1
    go_enter Try.func194, Try.ntmps194
    go_wp2_with (go_at_call 120; refine (within_any _ _ _ _).mono ?_; rintro e w' ⟨rfl, rfl⟩)
    go_ret
    exact ⟨rfl, rfl⟩
  · rcases num_cases k 2 with ⟨h2, rfl⟩ | ⟨h2, h2'⟩
    · clear h1 h2 h1'
      go_enter Try.func194, Try.ntmps194
      go_wp2_with (go_at_call 120; refine (within_any _ _ _ _).mono ?_; rintro e w' ⟨rfl, rfl⟩)
      go_ret
      exact ⟨rfl, rfl⟩
    · have E := Lib.hid (show frSize k n = decide (n = 0) by unfold frSize; rw [if_neg h1', if_neg h2'])
      clear h1' h2'
      go_enter Try.func194, Try.ntmps194
      go_wp2_with fail
      go_ret
      exact ⟨ret_bool (by rw [E.out]; by_cases h : n = 0 <;> simp [h]), rfl⟩

set_option maxHeartbeats 400000 in
theorem sIsBytes_any (A : Option Addr) (n c : Nat) (zs : List Int) (w : World) (h : RI w w.heap.size A n zs) (hn : n ≤ 1099511627776) :
    Calls Try.prog 127 #[.slice A n c] w fun e w' => e = .returned (.bool (isBytes zs)) ∧ w = w' := by
  have E : Hid (allM n zs 1024 255 = isBytes zs) := by
    unfold Hid allM isBytes; rw [h.len]
    congr 1
    rw [decide_eq_decide]; omega
  go_enter Try.func127, Try.ntmps127
  go_wp2_with (go_at_call 200; refine (l01All_any _ _ _ _ _ _ _ h hn).mono ?_; rintro e w' ⟨rfl, rfl⟩)
  go_ret
  exact ⟨ret_bool E.out, rfl⟩

set_option maxHeartbeats 400000 in
theorem iIsBytes_any (A : Option Addr) (n c : Nat) (zs : List Int) (w : World) (h : RI w w.heap.size A n zs) (hn : n ≤ 1099511627776) :
    Calls Try.prog 195 #[.slice A n c] w fun e w' => e = .returned (.bool (isBytes zs)) ∧ w = w' := by
  have L := Lib.hid h.len
  by_cases hm : n ≤ 1024
  all_goals
    go_enter Try.func195, Try.ntmps195
    go_wp2_with (go_at_call 202; refine (allWithin_any _ _ _ _ _ _ _ h hn).mono ?_; rintro e w' ⟨rfl, rfl⟩)
    go_ret
    exact ⟨ret_bool (by unfold isBytes; rw [L.out]; simp [hm]), rfl⟩

end Go.Proofs.Ytjehkjdehkdjcaa

namespace Go.Proofs.Ytjehkjdehkdjcaa
open Go.RowKit

/-- how many of the low n bits of B are set -/
def bitCnt (B : Nat) : Nat → Nat
  | 0 => 0
  | n + 1 => bitCnt B n + (if B / 2 ^ n % 2 = 1 then 1 else 0)
theorem bitCnt_half (B n : Nat) : bitCnt B (n + 1) = B % 2 + bitCnt (B / 2) n := by
  induction n with
  | zero => rcases Nat.mod_two_eq_zero_or_one B with h | h <;> simp [bitCnt, h]
  | succ n ih =>
    rw [bitCnt, ih, bitCnt, Nat.div_div_eq_div_mul, show 2 ^ (n + 1) = 2 * 2 ^ n by rw [Nat.pow_succ]; omega]
    omega
theorem bitCnt_zero (n : Nat) : ∀ B, B < 2 ^ n → (bitCnt B n = 0 ↔ B = 0) := by
  induction n with
  | zero => intro B h; simp [bitCnt]; simpa using h
  | succ n ih =>
    intro B h
    rw [bitCnt_half]
    have := ih (B / 2) (by rw [Nat.pow_succ] at h; omega)
    omega
theorem and_pred (B : Nat) : (B &&& (B - 1) = 0) ↔ (if B % 2 = 1 then B / 2 = 0 else (B / 2 &&& (B / 2 - 1)) = 0) := by
  have h1 : (B &&& (B - 1)) / 2 = B / 2 &&& (B - 1) / 2 := Nat.and_div_two
  have h2 : (B &&& (B - 1)) % 2 = 0 := by
    have : (B &&& (B - 1)) % 2 = (B % 2) &&& ((B - 1) % 2) := by
      have := @Nat.and_mod_two_pow B (B - 1) 1
      simpa using this
    rw [this]
    rcases Nat.mod_two_eq_zero_or_one B with h | h
    · rw [h]; simp
    · rw [h, show (B - 1) % 2 = 0 by omega]; simp
  split
  · rename_i h
    rw [show (B - 1) / 2 = B / 2 by omega, Nat.and_self] at h1
    omega
  · rename_i h
    rw [show (B - 1) / 2 = B / 2 - 1 by omega] at h1
    omega
theorem bitCnt_one (n : Nat) : ∀ B, B < 2 ^ n → (bitCnt B n = 1 ↔ B ≠ 0 ∧ B &&& (B - 1) = 0) := by
  induction n with
  | zero => intro B h; simp [bitCnt]; intro h2; simp at h; omega
  | succ n ih =>
    intro B h
    rw [bitCnt_half, and_pred]
    have hh : B / 2 < 2 ^ n := by rw [Nat.pow_succ] at h; omega
    have i1 := ih (B / 2) hh
    have i0 := bitCnt_zero n (B / 2) hh
    split
    · omega
    · rw [show B % 2 = 0 by omega, Nat.zero_add, i1]
      constructor
      · rintro ⟨a, b⟩; exact ⟨by omega, b⟩
      · rintro ⟨a, b⟩; exact ⟨by omega, b⟩

theorem bits_and_i64_nat (a b : Nat) (ha : a < 9223372036854775808) (hb : b < 9223372036854775808) :
    bits .and .i64 (a : Int) (b : Int) = ((a &&& b : Nat) : Int) := by
  have hx : a &&& b < 2 ^ 63 := Nat.and_lt_two_pow _ (by omega)
  have h1 : (BitVec.ofInt 64 (a : Int)).toNat = a := by
    rw [BitVec.ofInt_natCast, BitVec.toNat_ofNat]; exact Nat.mod_eq_of_lt (by omega)
  have h2 : (BitVec.ofInt 64 (b : Int)).toNat = b := by
    rw [BitVec.ofInt_natCast, BitVec.toNat_ofNat]; exact Nat.mod_eq_of_lt (by omega)
  show IntKind.i64.wrap ((BitVec.ofInt 64 (a : Int) &&& BitVec.ofInt 64 (b : Int)).toNat : Int) = _
  rw [BitVec.toNat_and, h1, h2, IntKind.wrap_i64]
  omega

set_option maxHeartbeats 4000000 in
theorem l05Has_any (B : Nat) (k : Nat) (hk : k < 32) (hB : B < 4294967296) (w : World) :
    Calls Try.prog 241 #[.int .i64 B, .int .i64 k] w fun e w' => e = .returned (.bool (decide (B / 2 ^ k % 2 = 1))) ∧ w = w' := by
  have E : bits .and .i64 ((B : Int) / 2 ^ k) 1 = ((B / 2 ^ k % 2 : Nat) : Int) := by
    rw [show ((B : Int) / 2 ^ k) = ((B / 2 ^ k : Nat) : Int) by simp, show (1 : Int) = ((1 : Nat) : Int) from rfl, bits_and_i64_nat _ _ (by have := Nat.div_le_self B (2 ^ k); omega) (by omega), Nat.and_one_is_mod]
  have E' := Lib.hid E
  clear E
  go_enter Try.func241, Try.ntmps241
  go_wp2_with fail
  go_ret
  refine ⟨ret_bool ?_, rfl⟩
  rw [E'.out]
  rcases Nat.mod_two_eq_zero_or_one (B / 2 ^ k) with h | h <;> rw [h] <;> rfl

set_option maxHeartbeats 4000000 in
theorem l05Vector_any (A : Option Addr) (n c : Nat) (zs : List Int) (w : World) (h : RI w w.heap.size A n zs) (hn : n ≤ 1099511627776) :
    Calls Try.prog 240 #[.slice A n c] w fun e w' => e = .returned (.bool (allR zs 0 4294967295)) ∧ w = w' := by
  go_enter Try.func240, Try.ntmps240
  go_wp2
  go_loop [3] (fun i => ∃ k : Nat, k ≤ n ∧ i = .int .i64 k ∧ allR (zs.take k) 0 4294967295 = true) (fun i => n - (intOf i).toNat)
  case atStart => exact ⟨0, Nat.zero_le _, rfl, rfl⟩
  case round =>
    obtain ⟨k, hk, rfl, hall⟩ := hrel
    have Hall := Lib.hid hall
    clear hall
    by_cases hlt : k < n
    · obtain ⟨b, o, rfl, _, hc⟩ := h.get (by omega)
      have hcell := hc k hlt
      clear hc
      by_cases hr : inR (gi zs k) 0 4294967295 = true
      · go_wp2_with (go_at_call 116; refine (l01In_any _ _ _ _).mono ?_; rintro e w' ⟨rfl, rfl⟩)
        go_round
        case rel => exact ⟨k + 1, by omega, by go_num, by rw [allR_take (by rw [h.len]; exact hlt), Hall.out, hr]; rfl⟩
        case measure => simp [intOf]; omega
      · have hr' : inR (gi zs k) 0 4294967295 = false := by simpa using hr
        clear hr
        go_wp2_with (go_at_call 116; refine (l01In_any _ _ _ _).mono ?_; rintro e w' ⟨rfl, rfl⟩)
        go_ret
        exact ⟨ret_bool (by simp [allR_no (by rw [h.len]; exact hlt) hr']), rfl⟩
    · have hkn : k = n := by omega
      have hz : allR zs 0 4294967295 = true := by have := Hall.out; rwa [List.take_of_length_le (by rw [h.len]; omega)] at this
      have Hz := Lib.hid hz
      clear hz hkn
      go_wp2
      go_ret
      exact ⟨ret_bool (by simp [Hz.out]), rfl⟩

def memL (B : Nat) : Nat → List Int
  | 0 => []
  | n + 1 => memL B n ++ (if B / 2 ^ n % 2 = 1 then [(n : Int)] else [])
theorem memL_len (B n : Nat) : (memL B n).length = bitCnt B n := by
  induction n with
  | zero => rfl
  | succ n ih => rw [memL, List.length_append, ih, bitCnt]; split <;> rfl
theorem bitCnt_le (B n : Nat) : bitCnt B n ≤ n := by
  induction n with
  | zero => exact Nat.le_refl _
  | succ n ih => rw [bitCnt]; split <;> omega

theorem RI.one (w : World) (b : Int) (T : TypeId) : RI (w.alloc (.cells #[.int .i64 b] T)) (w.alloc (.cells #[.int .i64 b] T)).heap.size (some ⟨w.heap.size, 0, none⟩) 1 [b] := by
  refine ⟨rfl, fun _ => ⟨w.heap.size, 0, rfl, by simp, fun k hk => ?_⟩⟩
  obtain rfl : k = 0 := by omega
  have hx' : (w.alloc (.cells #[.int .i64 b] T)).heap[w.heap.size]? = some (.cells #[.int .i64 b] T) := by
    show (w.heap.push _)[w.heap.size]? = _
    simp
  unfold World.cell?
  rw [hx']
  rfl

set_option maxHeartbeats 4000000 in
theorem sMembersOf_no (b : Int) (w : World) (h : inR b 0 4294967295 = false) :
    Calls Try.prog 188 #[.int .i64 b] w (fun e w' => e = .returned (.tuple #[.slice none 0 0, .int .i64 2]) ∧ Below w.heap.size w w') := by
  have hr : RI (w.alloc (.cells #[.int .i64 b] 2)) (w.alloc (.cells #[.int .i64 b] 2)).heap.size (some ⟨w.heap.size, 0, none⟩) 1 [b] := RI.one _ _ _
  have HH := Lib.hid (show allR [b] 0 4294967295 = false by simp [allR, h])
  clear h
  go_enter Try.func188, Try.ntmps188
  go_wp2_with (go_at_call 240; refine (l05Vector_any _ _ _ [b] _ hr (by omega)).mono ?_; rw [HH.out]; rintro e w' ⟨rfl, rfl⟩)
  go_ret2
  exact ⟨rfl, below_alloc (Below.refl _ _) (Nat.le_refl _) _⟩

set_option maxHeartbeats 4000000 in
theorem sMembersOf_yes (B : Nat) (hB : B < 4294967296) (w : World) :
    Calls Try.prog 188 #[.int .i64 B] w (fun e w' => ∃ A c, e = .returned (.tuple #[.slice A (bitCnt B 32) c, .int .i64 0]) ∧ Below w.heap.size w w') := by
  have hr : RI (w.alloc (.cells #[.int .i64 B] 2)) (w.alloc (.cells #[.int .i64 B] 2)).heap.size (some ⟨w.heap.size, 0, none⟩) 1 [(B : Int)] := RI.one _ _ _
  have HH := Lib.hid (show allR [(B : Int)] 0 4294967295 = true by simp [allR, inR]; omega)
  go_enter Try.func188, Try.ntmps188
  go_wp2_with (go_at_call 240; refine (l05Vector_any _ _ _ [(B : Int)] _ hr (by omega)).mono ?_; rw [HH.out]; rintro e w' ⟨rfl, rfl⟩)
  go_loopw [4, 5] (fun o i wr => ∃ (k m : Nat) (A' : Option Addr) (c' : Nat), k ≤ 32 ∧ m = bitCnt B k ∧ i = .int .i64 k ∧ o = .slice A' m c' ∧ OwnI 2 wr w.heap.size A' m c' (memL B k) ∧ Below w.heap.size w wr) (fun _ i _ => 32 - (intOf i).toNat)
  case atStart =>
    have e0 := OwnI.empty (T := 2) (w.alloc (.cells #[.int .i64 B] 2)) (base := w.heap.size) (below_alloc (Below.refl _ _) (Nat.le_refl _) _).size
    refine ⟨0, 0, _, _, Nat.zero_le _, rfl, rfl, rfl, ?_, ?_⟩
    · simpa [memL] using e0
    · exact below_alloc (below_alloc (Below.refl w.heap.size w) (Nat.le_refl _) _) (by first | exact Nat.le_refl _ | simp) _
  case round =>
    obtain ⟨k, m, A', c', hk, hmk, rfl, rfl, hown, hb⟩ := hrel
    have hm30 : m ≤ 32 := by have := bitCnt_le B k; omega
    have HM := Lib.hid hmk
    clear hmk
    by_cases hlt : k < 32
    · rcases bool_cases (decide (B / 2 ^ k % 2 = 1)) with hd | hd
      · have HD := Lib.hid hd
        go_wp2_with (first | (go_at_call 241; refine (l05Has_any B k hlt hB _).mono ?_; rw [HD.out]; rintro e w' ⟨rfl, rfl⟩) | (at_builtin; refine wpl_appI _ _ Try.underlying24 infoInt rfl _ _ rfl w.heap.size _ m _ _ rfl hown (k : Int) rfl (by omega) hb.size ?_; intro A2 c2 w2 hown2 hB2 hg2))
        go_roundw
        case rel => exact ⟨k + 1, m + 1, A2, c2, by omega, by rw [HM.out, bitCnt, if_pos (by simpa using HD.out)], by go_num, rfl, by rw [memL, if_pos (by simpa using HD.out)]; exact hown2, hb.trans (hB2 _ (Nat.le_refl _))⟩
        case measure => simp [intOf]; omega
      · have HD := Lib.hid hd
        go_wp2_with (first | (go_at_call 241; refine (l05Has_any B k hlt hB _).mono ?_; rw [HD.out]; rintro e w' ⟨rfl, rfl⟩))
        go_roundw
        case rel => exact ⟨k + 1, m, A', c', by omega, by rw [HM.out, bitCnt, if_neg (by simpa using HD.out)]; rfl, by go_num, rfl, by rw [memL, if_neg (by simpa using HD.out), List.append_nil]; exact hown, hb⟩
        case measure => simp [intOf]; omega
    · obtain rfl : k = 32 := by omega
      go_wp2
      go_ret2
      exact ⟨_, _, by rw [← HM.out]; rfl, hb⟩

end Go.Proofs.Ytjehkjdehkdjcaa
