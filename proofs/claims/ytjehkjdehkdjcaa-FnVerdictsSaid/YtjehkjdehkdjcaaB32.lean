/- Walks, laws and small notions for the claims of this seat, several texts as one (Vds, Named, VdS). Conditions: as each theorem states them. -/
import Derived.Test.YtjehkjdehkdjcaaB10
import Derived.Test.YtjehkjdehkdjcaaB12
import Derived.Test.YtjehkjdehkdjcaaB2
import Derived.Test.YtjehkjdehkdjcaaB1
import Derived.Test.YtjehkjdehkdjcaaB25
namespace Go.Proofs.Ytjehkjdehkdjcaa
open Go.RowKit
/-- the name of a status -/
def sName (k : Int) : ByteArray := if k = 0 then ⟨#[110, 117, 108, 108]⟩ else if k = 1 then ⟨#[105, 110, 118, 97, 108, 105, 100]⟩ else if k = 2 then ⟨#[105, 110, 99, 111, 114, 114, 101, 99, 116]⟩ else if k = 3 then ⟨#[99, 111, 114, 114, 101, 99, 116]⟩ else if k = 4 then ⟨#[100, 105, 115, 97, 103, 114, 101, 101]⟩ else ⟨#[]⟩
set_option maxHeartbeats 1000000 in
theorem iStatusName_any (a : Int) (w : World) : Calls Try.prog 36 #[.int .i64 a] w (RetV w (.string (sName a))) := by
  by_cases hr : inR a 0 4 = true
  · have hc : a = 0 ∨ a = 1 ∨ a = 2 ∨ a = 3 ∨ a = 4 := by rw [inR_iff] at hr; omega
    clear hr
    rcases hc with rfl | rfl | rfl | rfl | rfl
    all_goals
      go_enter Try.func36, Try.ntmps36
      go_wp2
      go_ret
      exact ⟨rfl, by go_grown⟩
  · have hr' : inR a 0 4 = false := by simpa using hr
    have E := Lib.hid (show sName a = ⟨#[]⟩ by rw [inR_iff] at hr; unfold sName; rw [if_neg (by omega), if_neg (by omega), if_neg (by omega), if_neg (by omega), if_neg (by omega)])
    clear hr
    go_enter Try.func36, Try.ntmps36
    go_wp2_with (first | (go_at_call 120; refine (within_any _ _ _ _).mono ?_; rw [hr']; rintro e w' ⟨rfl, rfl⟩) | go_in)
    go_ret
    rw [E.out]
    exact ⟨rfl, by go_grown⟩
set_option maxHeartbeats 1000000 in
theorem sStatusName_any (a : Int) (w : World) : Calls Try.prog 42 #[.int .i64 a] w (RetV w (.string (sName a))) := by
  by_cases hr : inR a 0 4 = true
  · have hc : a = 0 ∨ a = 1 ∨ a = 2 ∨ a = 3 ∨ a = 4 := by rw [inR_iff] at hr; omega
    clear hr
    rcases hc with rfl | rfl | rfl | rfl | rfl
    all_goals
      go_enter Try.func42, Try.ntmps42
      go_wp2
      go_ret
      exact ⟨rfl, by go_grown⟩
  · have hr' : inR a 0 4 = false := by simpa using hr
    have E := Lib.hid (show sName a = ⟨#[]⟩ by rw [inR_iff] at hr; unfold sName; rw [if_neg (by omega), if_neg (by omega), if_neg (by omega), if_neg (by omega), if_neg (by omega)])
    clear hr
    go_enter Try.func42, Try.ntmps42
    go_wp2_with (first | (go_at_call 116; refine (l01In_any _ _ _ _).mono ?_; rw [hr']; rintro e w' ⟨rfl, rfl⟩) | go_in)
    go_ret
    rw [E.out]
    exact ⟨rfl, by go_grown⟩

set_option maxHeartbeats 8000000 in
theorem likeFrames_any (k1 r1 t1 m1 d1 s1 b1 k2 r2 t2 m2 d2 s2 b2 : Int) (A A' : Option Addr) (n n' c c' : Nat) (xs ys : List Int) (w : World) (hx : RI w w.heap.size A n xs) (hy : RI w w.heap.size A' n' ys) (hn : n ≤ 1099511627776) (hn' : n' ≤ 1099511627776) :
    Calls Try.prog 138 #[.agg #[.int .i64 k1, .int .i64 r1, .int .i64 t1, .int .i64 m1, .int .i64 d1, .int .i64 s1, .int .i64 b1, .slice A n c], .agg #[.int .i64 k2, .int .i64 r2, .int .i64 t2, .int .i64 m2, .int .i64 d2, .int .i64 s2, .int .i64 b2, .slice A' n' c']] w (RetV w (.bool (sF k1 r1 t1 m1 d1 s1 b1 k2 r2 t2 m2 d2 s2 b2 xs ys))) := by
  go_enter Try.func138, Try.ntmps138
  go_wp2_with (go_at_call 32; refine (likeIntsV _ _ _ _ _ _ xs ys _ (RI.alloc' (RI.alloc' hx _) _) (RI.alloc' (RI.alloc' hy _) _) hn hn').mono ?_; rintro e w1 ⟨rfl, hb1⟩)
  all_goals
    go_ret
    refine ⟨ret_bool (by simp [sF, *]), ?_⟩
    first
    | exact below_next hb1 (below_alloc (below_alloc (Below.refl _ _) (Nat.le_refl _) _) (Nat.le_refl _) _) (Nat.le_refl _)
    | go_grown
set_option maxHeartbeats 8000000 in
theorem likeVerdicts_any (x y : Vdt) (A A' : Option Addr) (n n' c c' : Nat) (xs ys : List Int) (w : World) (hx : RI w w.heap.size A n xs) (hy : RI w w.heap.size A' n' ys) (hn : n ≤ 1099511627776) (hn' : n' ≤ 1099511627776) :
    Calls Try.prog 41 #[aggV x A n c, aggV y A' n' c'] w (RetV w (.bool (sV x y xs ys))) := by
  unfold aggV
  go_enter Try.func41, Try.ntmps41
  go_wp2_with (go_at_call 138; refine (likeFrames_any _ _ _ _ _ _ _ _ _ _ _ _ _ _ _ _ _ _ _ _ xs ys _ (RI.alloc' (RI.alloc' hx _) _) (RI.alloc' (RI.alloc' hy _) _) hn hn').mono ?_; rintro e w1 ⟨rfl, hb1⟩)
  all_goals
    go_ret
    refine ⟨ret_bool (by simp [sV, *]), ?_⟩
    first
    | exact below_next hb1 (below_alloc (below_alloc (Below.refl _ _) (Nat.le_refl _) _) (Nat.le_refl _) _) (Nat.le_refl _)
    | go_grown
end Go.Proofs.Ytjehkjdehkdjcaa

namespace Go.Proofs.Ytjehkjdehkdjcaa
open Go.RowKit
namespace StatusNamed
def nm (k : Nat) : List UInt8 := match k with
  | 0 => [110, 117, 108, 108]
  | 1 => [105, 110, 118, 97, 108, 105, 100]
  | 2 => [105, 110, 99, 111, 114, 114, 101, 99, 116]
  | 3 => [99, 111, 114, 114, 101, 99, 116]
  | _ => [100, 105, 115, 97, 103, 114, 101, 101]
def val (s : ByteArray) : Int := if nm 0 = s.toList then 0 else if nm 1 = s.toList then 1 else if nm 2 = s.toList then 2 else if nm 3 = s.toList then 3 else if nm 4 = s.toList then 4 else 0
def cod (s : ByteArray) : Int := if nm 0 = s.toList ∨ nm 1 = s.toList ∨ nm 2 = s.toList ∨ nm 3 = s.toList ∨ nm 4 = s.toList then 0 else 4

set_option maxHeartbeats 1000000 in
theorem spec_any (s : ByteArray) (w : World) :
    Calls Try.prog 39 #[.string s] w (RetV w (.tuple #[.int .i64 (val s), .int .i64 (cod s)])) := by
  go_enter Try.func39, Try.ntmps39
  go_wp2
  go_loopw [4] (fun i wr => ∃ k : Nat, k ≤ 5 ∧ i = .int .i64 k ∧ (∀ j, j < k → nm j ≠ s.toList) ∧ Below w.heap.size w wr) (fun i _ => 5 - (intOf i).toNat)
  case atStart => exact ⟨0, by omega, rfl, fun j hj => by omega, Below.refl _ _⟩
  case round =>
    obtain ⟨k, hk, rfl, hno, hb⟩ := hrel
    have HNO := Lib.hid hno
    clear hno
    have hcs : k = 0 ∨ k = 1 ∨ k = 2 ∨ k = 3 ∨ k = 4 ∨ k = 5 := by omega
    rcases hcs with rfl | rfl | rfl | rfl | rfl | rfl
    case inr.inr.inr.inr.inr =>
      have h0 := HNO.out 0 (by omega)
      have h1 := HNO.out 1 (by omega)
      have h2 := HNO.out 2 (by omega)
      have h3 := HNO.out 3 (by omega)
      have h4 := HNO.out 4 (by omega)
      have E1 := Lib.hid (show val s = 0 from by unfold val; rw [if_neg h0, if_neg h1, if_neg h2, if_neg h3, if_neg h4])
      have E2 := Lib.hid (show cod s = 4 from by unfold cod; rw [if_neg (by simp [h0, h1, h2, h3, h4])])
      clear h0 h1 h2 h3 h4
      go_wp2
      go_ret2
      rw [E1.out, E2.out]
      exact ⟨rfl, hb⟩
    case inl =>
      by_cases hy : nm 0 = s.toList
      · have hbe : (([110, 117, 108, 108] : List UInt8) == s.toList) = true := by rw [← hy]; exact beq_self_eq_true _
        have E1 := Lib.hid (show val s = 0 from by unfold val; rw [if_pos hy])
        have E2 := Lib.hid (show cod s = 0 from by unfold cod; rw [if_pos (by simp [hy])])
        clear hy
        go_wp2
        go_ret2
        rw [E1.out, E2.out]
        exact ⟨rfl, by first | exact hb | exact hb.alloc hb.size _⟩
      · have hbe : (([110, 117, 108, 108] : List UInt8) == s.toList) = false := by
          rw [beq_eq_false_iff_ne]; exact hy
        have HY := Lib.hid hy
        clear hy
        go_wp2
        go_roundw
        case rel => exact ⟨1, by omega, rfl, fun j hj => (by
          rcases (by omega : j < 0 ∨ j = 0) with h | rfl
          · exact HNO.out j h
          · exact HY.out), by first | exact hb | exact hb.alloc hb.size _⟩
        case measure => simp [intOf]
    case inr.inl =>
      by_cases hy : nm 1 = s.toList
      · have hbe : (([105, 110, 118, 97, 108, 105, 100] : List UInt8) == s.toList) = true := by rw [← hy]; exact beq_self_eq_true _
        have h0 := HNO.out 0 (by omega)
        have E1 := Lib.hid (show val s = 1 from by unfold val; rw [if_neg h0, if_pos hy])
        have E2 := Lib.hid (show cod s = 0 from by unfold cod; rw [if_pos (by simp [hy])])
        clear hy h0
        go_wp2
        go_ret2
        rw [E1.out, E2.out]
        exact ⟨rfl, by first | exact hb | exact hb.alloc hb.size _⟩
      · have hbe : (([105, 110, 118, 97, 108, 105, 100] : List UInt8) == s.toList) = false := by
          rw [beq_eq_false_iff_ne]; exact hy
        have HY := Lib.hid hy
        clear hy
        go_wp2
        go_roundw
        case rel => exact ⟨2, by omega, rfl, fun j hj => (by
          rcases (by omega : j < 1 ∨ j = 1) with h | rfl
          · exact HNO.out j h
          · exact HY.out), by first | exact hb | exact hb.alloc hb.size _⟩
        case measure => simp [intOf]
    case inr.inr.inl =>
      by_cases hy : nm 2 = s.toList
      · have hbe : (([105, 110, 99, 111, 114, 114, 101, 99, 116] : List UInt8) == s.toList) = true := by rw [← hy]; exact beq_self_eq_true _
        have h0 := HNO.out 0 (by omega)
        have h1 := HNO.out 1 (by omega)
        have E1 := Lib.hid (show val s = 2 from by unfold val; rw [if_neg h0, if_neg h1, if_pos hy])
        have E2 := Lib.hid (show cod s = 0 from by unfold cod; rw [if_pos (by simp [hy])])
        clear hy h0 h1
        go_wp2
        go_ret2
        rw [E1.out, E2.out]
        exact ⟨rfl, by first | exact hb | exact hb.alloc hb.size _⟩
      · have hbe : (([105, 110, 99, 111, 114, 114, 101, 99, 116] : List UInt8) == s.toList) = false := by
          rw [beq_eq_false_iff_ne]; exact hy
        have HY := Lib.hid hy
        clear hy
        go_wp2
        go_roundw
        case rel => exact ⟨3, by omega, rfl, fun j hj => (by
          rcases (by omega : j < 2 ∨ j = 2) with h | rfl
          · exact HNO.out j h
          · exact HY.out), by first | exact hb | exact hb.alloc hb.size _⟩
        case measure => simp [intOf]
    case inr.inr.inr.inl =>
      by_cases hy : nm 3 = s.toList
      · have hbe : (([99, 111, 114, 114, 101, 99, 116] : List UInt8) == s.toList) = true := by rw [← hy]; exact beq_self_eq_true _
        have h0 := HNO.out 0 (by omega)
        have h1 := HNO.out 1 (by omega)
        have h2 := HNO.out 2 (by omega)
        have E1 := Lib.hid (show val s = 3 from by unfold val; rw [if_neg h0, if_neg h1, if_neg h2, if_pos hy])
        have E2 := Lib.hid (show cod s = 0 from by unfold cod; rw [if_pos (by simp [hy])])
        clear hy h0 h1 h2
        go_wp2
        go_ret2
        rw [E1.out, E2.out]
        exact ⟨rfl, by first | exact hb | exact hb.alloc hb.size _⟩
      · have hbe : (([99, 111, 114, 114, 101, 99, 116] : List UInt8) == s.toList) = false := by
          rw [beq_eq_false_iff_ne]; exact hy
        have HY := Lib.hid hy
        clear hy
        go_wp2
        go_roundw
        case rel => exact ⟨4, by omega, rfl, fun j hj => (by
          rcases (by omega : j < 3 ∨ j = 3) with h | rfl
          · exact HNO.out j h
          · exact HY.out), by first | exact hb | exact hb.alloc hb.size _⟩
        case measure => simp [intOf]
    case inr.inr.inr.inr.inl =>
      by_cases hy : nm 4 = s.toList
      · have hbe : (([100, 105, 115, 97, 103, 114, 101, 101] : List UInt8) == s.toList) = true := by rw [← hy]; exact beq_self_eq_true _
        have h0 := HNO.out 0 (by omega)
        have h1 := HNO.out 1 (by omega)
        have h2 := HNO.out 2 (by omega)
        have h3 := HNO.out 3 (by omega)
        have E1 := Lib.hid (show val s = 4 from by unfold val; rw [if_neg h0, if_neg h1, if_neg h2, if_neg h3, if_pos hy])
        have E2 := Lib.hid (show cod s = 0 from by unfold cod; rw [if_pos (by simp [hy])])
        clear hy h0 h1 h2 h3
        go_wp2
        go_ret2
        rw [E1.out, E2.out]
        exact ⟨rfl, by first | exact hb | exact hb.alloc hb.size _⟩
      · have hbe : (([100, 105, 115, 97, 103, 114, 101, 101] : List UInt8) == s.toList) = false := by
          rw [beq_eq_false_iff_ne]; exact hy
        have HY := Lib.hid hy
        clear hy
        go_wp2
        go_roundw
        case rel => exact ⟨5, by omega, rfl, fun j hj => (by
          rcases (by omega : j < 4 ∨ j = 4) with h | rfl
          · exact HNO.out j h
          · exact HY.out), by first | exact hb | exact hb.alloc hb.size _⟩
        case measure => simp [intOf]

set_option maxHeartbeats 1000000 in
theorem impl_any (s : ByteArray) (w : World) :
    Calls Try.prog 37 #[.string s] w (RetV w (.tuple #[.int .i64 (val s), .int .i64 (cod s)])) := by
  go_enter Try.func37, Try.ntmps37
  go_wp2
  go_loopw [4] (fun i wr => ∃ k : Nat, k ≤ 5 ∧ i = .int .i64 k ∧ (∀ j, j < k → nm j ≠ s.toList) ∧ Below w.heap.size w wr) (fun i _ => 5 - (intOf i).toNat)
  case atStart => exact ⟨0, by omega, rfl, fun j hj => by omega, Below.refl _ _⟩
  case round =>
    obtain ⟨k, hk, rfl, hno, hb⟩ := hrel
    have HNO := Lib.hid hno
    clear hno
    have hcs : k = 0 ∨ k = 1 ∨ k = 2 ∨ k = 3 ∨ k = 4 ∨ k = 5 := by omega
    rcases hcs with rfl | rfl | rfl | rfl | rfl | rfl
    case inr.inr.inr.inr.inr =>
      have h0 := HNO.out 0 (by omega)
      have h1 := HNO.out 1 (by omega)
      have h2 := HNO.out 2 (by omega)
      have h3 := HNO.out 3 (by omega)
      have h4 := HNO.out 4 (by omega)
      have E1 := Lib.hid (show val s = 0 from by unfold val; rw [if_neg h0, if_neg h1, if_neg h2, if_neg h3, if_neg h4])
      have E2 := Lib.hid (show cod s = 4 from by unfold cod; rw [if_neg (by simp [h0, h1, h2, h3, h4])])
      clear h0 h1 h2 h3 h4
      go_wp2
      go_ret2
      rw [E1.out, E2.out]
      exact ⟨rfl, hb⟩
    case inl =>
      by_cases hy : nm 0 = s.toList
      · have hbe : (([110, 117, 108, 108] : List UInt8) == s.toList) = true := by rw [← hy]; exact beq_self_eq_true _
        have E1 := Lib.hid (show val s = 0 from by unfold val; rw [if_pos hy])
        have E2 := Lib.hid (show cod s = 0 from by unfold cod; rw [if_pos (by simp [hy])])
        clear hy
        go_wp2_with (first | (go_at_call 120; refine (within_any _ _ _ _).mono ?_; rintro e w' ⟨rfl, rfl⟩) | go_in)
        go_ret2
        rw [E1.out, E2.out]
        exact ⟨rfl, by first | exact hb | exact hb.alloc hb.size _⟩
      · have hbe : (([110, 117, 108, 108] : List UInt8) == s.toList) = false := by
          rw [beq_eq_false_iff_ne]; exact hy
        have HY := Lib.hid hy
        clear hy
        go_wp2_with (first | (go_at_call 120; refine (within_any _ _ _ _).mono ?_; rintro e w' ⟨rfl, rfl⟩) | go_in)
        go_roundw
        case rel => exact ⟨1, by omega, rfl, fun j hj => (by
          rcases (by omega : j < 0 ∨ j = 0) with h | rfl
          · exact HNO.out j h
          · exact HY.out), by first | exact hb | exact hb.alloc hb.size _⟩
        case measure => simp [intOf]
    case inr.inl =>
      by_cases hy : nm 1 = s.toList
      · have hbe : (([105, 110, 118, 97, 108, 105, 100] : List UInt8) == s.toList) = true := by rw [← hy]; exact beq_self_eq_true _
        have h0 := HNO.out 0 (by omega)
        have E1 := Lib.hid (show val s = 1 from by unfold val; rw [if_neg h0, if_pos hy])
        have E2 := Lib.hid (show cod s = 0 from by unfold cod; rw [if_pos (by simp [hy])])
        clear hy h0
        go_wp2_with (first | (go_at_call 120; refine (within_any _ _ _ _).mono ?_; rintro e w' ⟨rfl, rfl⟩) | go_in)
        go_ret2
        rw [E1.out, E2.out]
        exact ⟨rfl, by first | exact hb | exact hb.alloc hb.size _⟩
      · have hbe : (([105, 110, 118, 97, 108, 105, 100] : List UInt8) == s.toList) = false := by
          rw [beq_eq_false_iff_ne]; exact hy
        have HY := Lib.hid hy
        clear hy
        go_wp2_with (first | (go_at_call 120; refine (within_any _ _ _ _).mono ?_; rintro e w' ⟨rfl, rfl⟩) | go_in)
        go_roundw
        case rel => exact ⟨2, by omega, rfl, fun j hj => (by
          rcases (by omega : j < 1 ∨ j = 1) with h | rfl
          · exact HNO.out j h
          · exact HY.out), by first | exact hb | exact hb.alloc hb.size _⟩
        case measure => simp [intOf]
    case inr.inr.inl =>
      by_cases hy : nm 2 = s.toList
      · have hbe : (([105, 110, 99, 111, 114, 114, 101, 99, 116] : List UInt8) == s.toList) = true := by rw [← hy]; exact beq_self_eq_true _
        have h0 := HNO.out 0 (by omega)
        have h1 := HNO.out 1 (by omega)
        have E1 := Lib.hid (show val s = 2 from by unfold val; rw [if_neg h0, if_neg h1, if_pos hy])
        have E2 := Lib.hid (show cod s = 0 from by unfold cod; rw [if_pos (by simp [hy])])
        clear hy h0 h1
        go_wp2_with (first | (go_at_call 120; refine (within_any _ _ _ _).mono ?_; rintro e w' ⟨rfl, rfl⟩) | go_in)
        go_ret2
        rw [E1.out, E2.out]
        exact ⟨rfl, by first | exact hb | exact hb.alloc hb.size _⟩
      · have hbe : (([105, 110, 99, 111, 114, 114, 101, 99, 116] : List UInt8) == s.toList) = false := by
          rw [beq_eq_false_iff_ne]; exact hy
        have HY := Lib.hid hy
        clear hy
        go_wp2_with (first | (go_at_call 120; refine (within_any _ _ _ _).mono ?_; rintro e w' ⟨rfl, rfl⟩) | go_in)
        go_roundw
        case rel => exact ⟨3, by omega, rfl, fun j hj => (by
          rcases (by omega : j < 2 ∨ j = 2) with h | rfl
          · exact HNO.out j h
          · exact HY.out), by first | exact hb | exact hb.alloc hb.size _⟩
        case measure => simp [intOf]
    case inr.inr.inr.inl =>
      by_cases hy : nm 3 = s.toList
      · have hbe : (([99, 111, 114, 114, 101, 99, 116] : List UInt8) == s.toList) = true := by rw [← hy]; exact beq_self_eq_true _
        have h0 := HNO.out 0 (by omega)
        have h1 := HNO.out 1 (by omega)
        have h2 := HNO.out 2 (by omega)
        have E1 := Lib.hid (show val s = 3 from by unfold val; rw [if_neg h0, if_neg h1, if_neg h2, if_pos hy])
        have E2 := Lib.hid (show cod s = 0 from by unfold cod; rw [if_pos (by simp [hy])])
        clear hy h0 h1 h2
        go_wp2_with (first | (go_at_call 120; refine (within_any _ _ _ _).mono ?_; rintro e w' ⟨rfl, rfl⟩) | go_in)
        go_ret2
        rw [E1.out, E2.out]
        exact ⟨rfl, by first | exact hb | exact hb.alloc hb.size _⟩
      · have hbe : (([99, 111, 114, 114, 101, 99, 116] : List UInt8) == s.toList) = false := by
          rw [beq_eq_false_iff_ne]; exact hy
        have HY := Lib.hid hy
        clear hy
        go_wp2_with (first | (go_at_call 120; refine (within_any _ _ _ _).mono ?_; rintro e w' ⟨rfl, rfl⟩) | go_in)
        go_roundw
        case rel => exact ⟨4, by omega, rfl, fun j hj => (by
          rcases (by omega : j < 3 ∨ j = 3) with h | rfl
          · exact HNO.out j h
          · exact HY.out), by first | exact hb | exact hb.alloc hb.size _⟩
        case measure => simp [intOf]
    case inr.inr.inr.inr.inl =>
      by_cases hy : nm 4 = s.toList
      · have hbe : (([100, 105, 115, 97, 103, 114, 101, 101] : List UInt8) == s.toList) = true := by rw [← hy]; exact beq_self_eq_true _
        have h0 := HNO.out 0 (by omega)
        have h1 := HNO.out 1 (by omega)
        have h2 := HNO.out 2 (by omega)
        have h3 := HNO.out 3 (by omega)
        have E1 := Lib.hid (show val s = 4 from by unfold val; rw [if_neg h0, if_neg h1, if_neg h2, if_neg h3, if_pos hy])
        have E2 := Lib.hid (show cod s = 0 from by unfold cod; rw [if_pos (by simp [hy])])
        clear hy h0 h1 h2 h3
        go_wp2_with (first | (go_at_call 120; refine (within_any _ _ _ _).mono ?_; rintro e w' ⟨rfl, rfl⟩) | go_in)
        go_ret2
        rw [E1.out, E2.out]
        exact ⟨rfl, by first | exact hb | exact hb.alloc hb.size _⟩
      · have hbe : (([100, 105, 115, 97, 103, 114, 101, 101] : List UInt8) == s.toList) = false := by
          rw [beq_eq_false_iff_ne]; exact hy
        have HY := Lib.hid hy
        clear hy
        go_wp2_with (first | (go_at_call 120; refine (within_any _ _ _ _).mono ?_; rintro e w' ⟨rfl, rfl⟩) | go_in)
        go_roundw
        case rel => exact ⟨5, by omega, rfl, fun j hj => (by
          rcases (by omega : j < 4 ∨ j = 4) with h | rfl
          · exact HNO.out j h
          · exact HY.out), by first | exact hb | exact hb.alloc hb.size _⟩
        case measure => simp [intOf]
end StatusNamed
end Go.Proofs.Ytjehkjdehkdjcaa

namespace Go.Proofs.Ytjehkjdehkdjcaa
open Go.RowKit
structure VS (w0 : World) (m b4 b2 b3 : Nat) (x y z : Vdt) (A1 A2 A3 : Option Addr) (n1 c1 n2 c2 n3 c3 : Nat) (z1 z2 z3 : List Int) (u : World) : Prop where
  bel : Below m w0 u
  k4 : BlkL u b4 35 [.int .i64 x.st, .int .i64 x.kd, .int .i64 x.rq, .int .i64 x.tm, .int .i64 x.md, .int .i64 x.rd, .int .i64 x.sl, .int .i64 x.mb, .slice A1 n1 c1]
  k2 : BlkL u b2 35 [.int .i64 y.st, .int .i64 y.kd, .int .i64 y.rq, .int .i64 y.tm, .int .i64 y.md, .int .i64 y.rd, .int .i64 y.sl, .int .i64 y.mb, .slice A2 n2 c2]
  k3 : BlkL u b3 35 [.int .i64 z.st, .int .i64 z.kd, .int .i64 z.rq, .int .i64 z.tm, .int .i64 z.md, .int .i64 z.rd, .int .i64 z.sl, .int .i64 z.mb, .slice A3 n3 c3]
  r4 : RI u u.heap.size A1 n1 z1
  r2 : RI u u.heap.size A2 n2 z2
  r3 : RI u u.heap.size A3 n3 z3
  hm : m ≤ w0.heap.size
theorem VS.next {w0 : World} {m b4 b2 b3 : Nat} {x y z : Vdt} {A1 A2 A3 : Option Addr} {n1 c1 n2 c2 n3 c3 : Nat} {z1 z2 z3 : List Int} {u v : World} (h : VS w0 m b4 b2 b3 x y z A1 A2 A3 n1 c1 n2 c2 n3 c3 z1 z2 z3 u) (hb : Below u.heap.size u v) : VS w0 m b4 b2 b3 x y z A1 A2 A3 n1 c1 n2 c2 n3 c3 z1 z2 z3 v :=
  ⟨below_next hb h.bel h.hm, h.k4.next hb, h.k2.next hb, h.k3.next hb, h.r4.up hb, h.r2.up hb, h.r3.up hb, h.hm⟩
theorem VS.drew {w0 : World} {m b4 b2 b3 : Nat} {x y z : Vdt} {A1 A2 A3 : Option Addr} {n1 c1 n2 c2 n3 c3 : Nat} {z1 z2 z3 : List Int} {u : World} (h : VS w0 m b4 b2 b3 x y z A1 A2 A3 n1 c1 n2 c2 n3 c3 z1 z2 z3 u) : VS w0 m b4 b2 b3 x y z A1 A2 A3 n1 c1 n2 c2 n3 c3 z1 z2 z3 u.drew := ⟨h.bel.drew, h.k4, h.k2, h.k3, h.r4, h.r2, h.r3, h.hm⟩
theorem VS.cells {w0 : World} {m b4 b2 b3 : Nat} {x y z : Vdt} {A1 A2 A3 : Option Addr} {n1 c1 n2 c2 n3 c3 : Nat} {z1 z2 z3 : List Int} {u : World} (h : VS w0 m b4 b2 b3 x y z A1 A2 A3 n1 c1 n2 c2 n3 c3 z1 z2 z3 u) : VS w0 m b4 b2 b3 x y z A1 A2 A3 n1 c1 n2 c2 n3 c3 z1 z2 z3 u ∧ u.cell? ⟨b4, 0, none⟩ = some (.int .i64 x.st) ∧ u.cell? ⟨b4, 1, none⟩ = some (.int .i64 x.kd) ∧ u.cell? ⟨b4, 2, none⟩ = some (.int .i64 x.rq) ∧ u.cell? ⟨b4, 3, none⟩ = some (.int .i64 x.tm) ∧ u.cell? ⟨b4, 4, none⟩ = some (.int .i64 x.md) ∧ u.cell? ⟨b4, 5, none⟩ = some (.int .i64 x.rd) ∧ u.cell? ⟨b4, 6, none⟩ = some (.int .i64 x.sl) ∧ u.cell? ⟨b4, 7, none⟩ = some (.int .i64 x.mb) ∧ u.cell? ⟨b4, 8, none⟩ = some (.slice A1 n1 c1) ∧ u.cell? ⟨b2, 0, none⟩ = some (.int .i64 y.st) ∧ u.cell? ⟨b2, 1, none⟩ = some (.int .i64 y.kd) ∧ u.cell? ⟨b2, 2, none⟩ = some (.int .i64 y.rq) ∧ u.cell? ⟨b2, 3, none⟩ = some (.int .i64 y.tm) ∧ u.cell? ⟨b2, 4, none⟩ = some (.int .i64 y.md) ∧ u.cell? ⟨b2, 5, none⟩ = some (.int .i64 y.rd) ∧ u.cell? ⟨b2, 6, none⟩ = some (.int .i64 y.sl) ∧ u.cell? ⟨b2, 7, none⟩ = some (.int .i64 y.mb) ∧ u.cell? ⟨b2, 8, none⟩ = some (.slice A2 n2 c2) ∧ u.cell? ⟨b3, 0, none⟩ = some (.int .i64 z.st) ∧ u.cell? ⟨b3, 1, none⟩ = some (.int .i64 z.kd) ∧ u.cell? ⟨b3, 2, none⟩ = some (.int .i64 z.rq) ∧ u.cell? ⟨b3, 3, none⟩ = some (.int .i64 z.tm) ∧ u.cell? ⟨b3, 4, none⟩ = some (.int .i64 z.md) ∧ u.cell? ⟨b3, 5, none⟩ = some (.int .i64 z.rd) ∧ u.cell? ⟨b3, 6, none⟩ = some (.int .i64 z.sl) ∧ u.cell? ⟨b3, 7, none⟩ = some (.int .i64 z.mb) ∧ u.cell? ⟨b3, 8, none⟩ = some (.slice A3 n3 c3) :=
  ⟨h, h.k4.c 0 rfl, h.k4.c 1 rfl, h.k4.c 2 rfl, h.k4.c 3 rfl, h.k4.c 4 rfl, h.k4.c 5 rfl, h.k4.c 6 rfl, h.k4.c 7 rfl, h.k4.c 8 rfl, h.k2.c 0 rfl, h.k2.c 1 rfl, h.k2.c 2 rfl, h.k2.c 3 rfl, h.k2.c 4 rfl, h.k2.c 5 rfl, h.k2.c 6 rfl, h.k2.c 7 rfl, h.k2.c 8 rfl, h.k3.c 0 rfl, h.k3.c 1 rfl, h.k3.c 2 rfl, h.k3.c 3 rfl, h.k3.c 4 rfl, h.k3.c 5 rfl, h.k3.c 6 rfl, h.k3.c 7 rfl, h.k3.c 8 rfl⟩
theorem sIsV_lit (x : Vdt) (A : Option Addr) (n c : Nat) (zs : List Int) (w : World) (h : RI w w.heap.size A n zs) (hn : n ≤ 1099511627776) : Calls Try.prog 17 #[.agg #[.int .i64 x.st, .int .i64 x.kd, .int .i64 x.rq, .int .i64 x.tm, .int .i64 x.md, .int .i64 x.rd, .int .i64 x.sl, .int .i64 x.mb, .slice A n c]] w (RetV w (.bool (isV x zs))) := sIsV_any x A n c zs w h hn
theorem iIsV_lit (x : Vdt) (A : Option Addr) (n c : Nat) (zs : List Int) (w : World) (h : RI w w.heap.size A n zs) (hn : n ≤ 1099511627776) : Calls Try.prog 19 #[.agg #[.int .i64 x.st, .int .i64 x.kd, .int .i64 x.rq, .int .i64 x.tm, .int .i64 x.md, .int .i64 x.rd, .int .i64 x.sl, .int .i64 x.mb, .slice A n c]] w (RetV w (.bool (isV x zs))) := iIsV_any x A n c zs w h hn
theorem iSame_lit (x y : Vdt) (A A' : Option Addr) (n n' c c' : Nat) (xs ys : List Int) (w : World) (hx : RI w w.heap.size A n xs) (hy : RI w w.heap.size A' n' ys) (hn : n ≤ 1099511627776) (hn' : n' ≤ 1099511627776) : Calls Try.prog 40 #[.agg #[.int .i64 x.st, .int .i64 x.kd, .int .i64 x.rq, .int .i64 x.tm, .int .i64 x.md, .int .i64 x.rd, .int .i64 x.sl, .int .i64 x.mb, .slice A n c], .agg #[.int .i64 y.st, .int .i64 y.kd, .int .i64 y.rq, .int .i64 y.tm, .int .i64 y.md, .int .i64 y.rd, .int .i64 y.sl, .int .i64 y.mb, .slice A' n' c']] w (RetV w (.bool (sV x y xs ys))) := iSame_any x y A A' n n' c c' xs ys w hx hy hn hn'
theorem likeV_lit (x y : Vdt) (A A' : Option Addr) (n n' c c' : Nat) (xs ys : List Int) (w : World) (hx : RI w w.heap.size A n xs) (hy : RI w w.heap.size A' n' ys) (hn : n ≤ 1099511627776) (hn' : n' ≤ 1099511627776) : Calls Try.prog 41 #[.agg #[.int .i64 x.st, .int .i64 x.kd, .int .i64 x.rq, .int .i64 x.tm, .int .i64 x.md, .int .i64 x.rd, .int .i64 x.sl, .int .i64 x.mb, .slice A n c], .agg #[.int .i64 y.st, .int .i64 y.kd, .int .i64 y.rq, .int .i64 y.tm, .int .i64 y.md, .int .i64 y.rd, .int .i64 y.sl, .int .i64 y.mb, .slice A' n' c']] w (RetV w (.bool (sV x y xs ys))) := likeVerdicts_any x y A A' n n' c c' xs ys w hx hy hn hn'
/-- of a status' name: read back, or empty -/
theorem sName_cases (k : Int) : (∃ t0 : UInt8, ∃ l, sName k = ⟨(t0 :: l).toArray⟩ ∧ StatusNamed.cod (sName k) = 0 ∧ StatusNamed.val (sName k) = k) ∨ (sName k = ⟨#[]⟩ ∧ StatusNamed.cod (sName k) = 4) := by
  by_cases h : k = 0 ∨ k = 1 ∨ k = 2 ∨ k = 3 ∨ k = 4
  · rcases h with rfl | rfl | rfl | rfl | rfl
    all_goals exact Or.inl ⟨_, _, rfl, by decide +kernel, by decide +kernel⟩
  · have e : sName k = ⟨#[]⟩ := by unfold sName; rw [if_neg (by omega), if_neg (by omega), if_neg (by omega), if_neg (by omega), if_neg (by omega)]
    exact Or.inr ⟨e, by rw [e]; decide +kernel⟩
end Go.Proofs.Ytjehkjdehkdjcaa
