/- The walks of StatusNamed, of the program and the reference. Conditions: none. -/
import Derived.Test.YtdbfnldjibjbkaaFault
import Derived.Test.YtdbfnldjibjbkaaKit3
namespace Go.Proofs.Ytdbfnldjibjbkaa
open Go.RowKit
namespace StatusNamed
def nm (k : Nat) : List UInt8 := match k with
  | 0 => [110, 117, 108, 108]
  | 1 => [105, 110, 118, 97, 108, 105, 100]
  | 2 => [105, 110, 99, 111, 114, 114, 101, 99, 116]
  | 3 => [99, 111, 114, 114, 101, 99, 116]
  | _ => [100, 105, 115, 97, 103, 114, 101, 101]
def val (s : ByteArray) : Int := if nm 0 = s.toList then 0 else if nm 1 = s.toList then 1 else if nm 2 = s.toList then 2 else if nm 3 = s.toList then 3 else if nm 4 = s.toList then 4 else 0
def cod (s : ByteArray) : Int := if nm 0 = s.toList ∨ nm 1 = s.toList ∨ nm 2 = s.toList ∨ nm 3 = s.toList ∨ nm 4 = s.toList then 0 else 4

set_option maxHeartbeats 1000000 in
theorem spec_any (s : ByteArray) (w : World) :
    Calls Try.prog 27 #[.string s] w (RetV w (.tuple #[.int .i64 (val s), .int .i64 (cod s)])) := by
  go_enter Try.func27, Try.ntmps27
  go_wp2
  go_loopw [4] (fun i wr => ∃ k : Nat, k ≤ 5 ∧ i = .int .i64 k ∧ (∀ j, j < k → nm j ≠ s.toList) ∧ Below w.heap.size w wr) (fun i _ => 5 - (intOf i).toNat)
  case atStart => exact ⟨0, by omega, rfl, fun j hj => by omega, Below.refl _ _⟩
  case round =>
    obtain ⟨k, hk, rfl, hno, hb⟩ := hrel
    have HNO := Lib.hid hno
    clear hno
    have hcs : k = 0 ∨ k = 1 ∨ k = 2 ∨ k = 3 ∨ k = 4 ∨ k = 5 := by omega
    rcases hcs with rfl | rfl | rfl | rfl | rfl | rfl
    case inr.inr.inr.inr.inr =>
      have h0 := HNO.out 0 (by omega)
      have h1 := HNO.out 1 (by omega)
      have h2 := HNO.out 2 (by omega)
      have h3 := HNO.out 3 (by omega)
      have h4 := HNO.out 4 (by omega)
      have E1 := Lib.hid (show val s = 0 from by unfold val; rw [if_neg h0, if_neg h1, if_neg h2, if_neg h3, if_neg h4])
      have E2 := Lib.hid (show cod s = 4 from by unfold cod; rw [if_neg (by simp [h0, h1, h2, h3, h4])])
      clear h0 h1 h2 h3 h4
      go_wp2
      go_ret2
      rw [E1.out, E2.out]
      exact ⟨rfl, hb⟩
    case inl =>
      by_cases hy : nm 0 = s.toList
      · have hbe : (([110, 117, 108, 108] : List UInt8) == s.toList) = true := by rw [← hy]; exact beq_self_eq_true _
        have E1 := Lib.hid (show val s = 0 from by unfold val; rw [if_pos hy])
        have E2 := Lib.hid (show cod s = 0 from by unfold cod; rw [if_pos (by simp [hy])])
        clear hy
        go_wp2
        go_ret2
        rw [E1.out, E2.out]
        exact ⟨rfl, by first | exact hb | exact hb.alloc hb.size _⟩
      · have hbe : (([110, 117, 108, 108] : List UInt8) == s.toList) = false := by
          rw [beq_eq_false_iff_ne]; exact hy
        have HY := Lib.hid hy
        clear hy
        go_wp2
        go_roundw
        case rel => exact ⟨1, by omega, rfl, fun j hj => (by
          rcases (by omega : j < 0 ∨ j = 0) with h | rfl
          · exact HNO.out j h
          · exact HY.out), by first | exact hb | exact hb.alloc hb.size _⟩
        case measure => simp [intOf]
    case inr.inl =>
      by_cases hy : nm 1 = s.toList
      · have hbe : (([105, 110, 118, 97, 108, 105, 100] : List UInt8) == s.toList) = true := by rw [← hy]; exact beq_self_eq_true _
        have h0 := HNO.out 0 (by omega)
        have E1 := Lib.hid (show val s = 1 from by unfold val; rw [if_neg h0, if_pos hy])
        have E2 := Lib.hid (show cod s = 0 from by unfold cod; rw [if_pos (by simp [hy])])
        clear hy h0
        go_wp2
        go_ret2
        rw [E1.out, E2.out]
        exact ⟨rfl, by first | exact hb | exact hb.alloc hb.size _⟩
      · have hbe : (([105, 110, 118, 97, 108, 105, 100] : List UInt8) == s.toList) = false := by
          rw [beq_eq_false_iff_ne]; exact hy
        have HY := Lib.hid hy
        clear hy
        go_wp2
        go_roundw
        case rel => exact ⟨2, by omega, rfl, fun j hj => (by
          rcases (by omega : j < 1 ∨ j = 1) with h | rfl
          · exact HNO.out j h
          · exact HY.out), by first | exact hb | exact hb.alloc hb.size _⟩
        case measure => simp [intOf]
    case inr.inr.inl =>
      by_cases hy : nm 2 = s.toList
      · have hbe : (([105, 110, 99, 111, 114, 114, 101, 99, 116] : List UInt8) == s.toList) = true := by rw [← hy]; exact beq_self_eq_true _
        have h0 := HNO.out 0 (by omega)
        have h1 := HNO.out 1 (by omega)
        have E1 := Lib.hid (show val s = 2 from by unfold val; rw [if_neg h0, if_neg h1, if_pos hy])
        have E2 := Lib.hid (show cod s = 0 from by unfold cod; rw [if_pos (by simp [hy])])
        clear hy h0 h1
        go_wp2
        go_ret2
        rw [E1.out, E2.out]
        exact ⟨rfl, by first | exact hb | exact hb.alloc hb.size _⟩
      · have hbe : (([105, 110, 99, 111, 114, 114, 101, 99, 116] : List UInt8) == s.toList) = false := by
          rw [beq_eq_false_iff_ne]; exact hy
        have HY := Lib.hid hy
        clear hy
        go_wp2
        go_roundw
        case rel => exact ⟨3, by omega, rfl, fun j hj => (by
          rcases (by omega : j < 2 ∨ j = 2) with h | rfl
          · exact HNO.out j h
          · exact HY.out), by first | exact hb | exact hb.alloc hb.size _⟩
        case measure => simp [intOf]
    case inr.inr.inr.inl =>
      by_cases hy : nm 3 = s.toList
      · have hbe : (([99, 111, 114, 114, 101, 99, 116] : List UInt8) == s.toList) = true := by rw [← hy]; exact beq_self_eq_true _
        have h0 := HNO.out 0 (by omega)
        have h1 := HNO.out 1 (by omega)
        have h2 := HNO.out 2 (by omega)
        have E1 := Lib.hid (show val s = 3 from by unfold val; rw [if_neg h0, if_neg h1, if_neg h2, if_pos hy])
        have E2 := Lib.hid (show cod s = 0 from by unfold cod; rw [if_pos (by simp [hy])])
        clear hy h0 h1 h2
        go_wp2
        go_ret2
        rw [E1.out, E2.out]
        exact ⟨rfl, by first | exact hb | exact hb.alloc hb.size _⟩
      · have hbe : (([99, 111, 114, 114, 101, 99, 116] : List UInt8) == s.toList) = false := by
          rw [beq_eq_false_iff_ne]; exact hy
        have HY := Lib.hid hy
        clear hy
        go_wp2
        go_roundw
        case rel => exact ⟨4, by omega, rfl, fun j hj => (by
          rcases (by omega : j < 3 ∨ j = 3) with h | rfl
          · exact HNO.out j h
          · exact HY.out), by first | exact hb | exact hb.alloc hb.size _⟩
        case measure => simp [intOf]
    case inr.inr.inr.inr.inl =>
      by_cases hy : nm 4 = s.toList
      · have hbe : (([100, 105, 115, 97, 103, 114, 101, 101] : List UInt8) == s.toList) = true := by rw [← hy]; exact beq_self_eq_true _
        have h0 := HNO.out 0 (by omega)
        have h1 := HNO.out 1 (by omega)
        have h2 := HNO.out 2 (by omega)
        have h3 := HNO.out 3 (by omega)
        have E1 := Lib.hid (show val s = 4 from by unfold val; rw [if_neg h0, if_neg h1, if_neg h2, if_neg h3, if_pos hy])
        have E2 := Lib.hid (show cod s = 0 from by unfold cod; rw [if_pos (by simp [hy])])
        clear hy h0 h1 h2 h3
        go_wp2
        go_ret2
        rw [E1.out, E2.out]
        exact ⟨rfl, by first | exact hb | exact hb.alloc hb.size _⟩
      · have hbe : (([100, 105, 115, 97, 103, 114, 101, 101] : List UInt8) == s.toList) = false := by
          rw [beq_eq_false_iff_ne]; exact hy
        have HY := Lib.hid hy
        clear hy
        go_wp2
        go_roundw
        case rel => exact ⟨5, by omega, rfl, fun j hj => (by
          rcases (by omega : j < 4 ∨ j = 4) with h | rfl
          · exact HNO.out j h
          · exact HY.out), by first | exact hb | exact hb.alloc hb.size _⟩
        case measure => simp [intOf]

set_option maxHeartbeats 1000000 in
theorem impl_any (s : ByteArray) (w : World) :
    Calls Try.prog 28 #[.string s] w (RetV w (.tuple #[.int .i64 (val s), .int .i64 (cod s)])) := by
  go_enter Try.func28, Try.ntmps28
  go_wp2
  go_loopw [4] (fun i wr => ∃ k : Nat, k ≤ 5 ∧ i = .int .i64 k ∧ (∀ j, j < k → nm j ≠ s.toList) ∧ Below w.heap.size w wr) (fun i _ => 5 - (intOf i).toNat)
  case atStart => exact ⟨0, by omega, rfl, fun j hj => by omega, Below.refl _ _⟩
  case round =>
    obtain ⟨k, hk, rfl, hno, hb⟩ := hrel
    have HNO := Lib.hid hno
    clear hno
    have hcs : k = 0 ∨ k = 1 ∨ k = 2 ∨ k = 3 ∨ k = 4 ∨ k = 5 := by omega
    rcases hcs with rfl | rfl | rfl | rfl | rfl | rfl
    case inr.inr.inr.inr.inr =>
      have h0 := HNO.out 0 (by omega)
      have h1 := HNO.out 1 (by omega)
      have h2 := HNO.out 2 (by omega)
      have h3 := HNO.out 3 (by omega)
      have h4 := HNO.out 4 (by omega)
      have E1 := Lib.hid (show val s = 0 from by unfold val; rw [if_neg h0, if_neg h1, if_neg h2, if_neg h3, if_neg h4])
      have E2 := Lib.hid (show cod s = 4 from by unfold cod; rw [if_neg (by simp [h0, h1, h2, h3, h4])])
      clear h0 h1 h2 h3 h4
      go_wp2
      go_ret2
      rw [E1.out, E2.out]
      exact ⟨rfl, hb⟩
    case inl =>
      by_cases hy : nm 0 = s.toList
      · have hbe : (([110, 117, 108, 108] : List UInt8) == s.toList) = true := by rw [← hy]; exact beq_self_eq_true _
        have E1 := Lib.hid (show val s = 0 from by unfold val; rw [if_pos hy])
        have E2 := Lib.hid (show cod s = 0 from by unfold cod; rw [if_pos (by simp [hy])])
        clear hy
        go_wp2_with (first | (go_at_call 129; refine (within_any _ _ _ _).mono ?_; rintro e w' ⟨rfl, rfl⟩) | go_in)
        go_ret2
        rw [E1.out, E2.out]
        exact ⟨rfl, by first | exact hb | exact hb.alloc hb.size _⟩
      · have hbe : (([110, 117, 108, 108] : List UInt8) == s.toList) = false := by
          rw [beq_eq_false_iff_ne]; exact hy
        have HY := Lib.hid hy
        clear hy
        go_wp2_with (first | (go_at_call 129; refine (within_any _ _ _ _).mono ?_; rintro e w' ⟨rfl, rfl⟩) | go_in)
        go_roundw
        case rel => exact ⟨1, by omega, rfl, fun j hj => (by
          rcases (by omega : j < 0 ∨ j = 0) with h | rfl
          · exact HNO.out j h
          · exact HY.out), by first | exact hb | exact hb.alloc hb.size _⟩
        case measure => simp [intOf]
    case inr.inl =>
      by_cases hy : nm 1 = s.toList
      · have hbe : (([105, 110, 118, 97, 108, 105, 100] : List UInt8) == s.toList) = true := by rw [← hy]; exact beq_self_eq_true _
        have h0 := HNO.out 0 (by omega)
        have E1 := Lib.hid (show val s = 1 from by unfold val; rw [if_neg h0, if_pos hy])
        have E2 := Lib.hid (show cod s = 0 from by unfold cod; rw [if_pos (by simp [hy])])
        clear hy h0
        go_wp2_with (first | (go_at_call 129; refine (within_any _ _ _ _).mono ?_; rintro e w' ⟨rfl, rfl⟩) | go_in)
        go_ret2
        rw [E1.out, E2.out]
        exact ⟨rfl, by first | exact hb | exact hb.alloc hb.size _⟩
      · have hbe : (([105, 110, 118, 97, 108, 105, 100] : List UInt8) == s.toList) = false := by
          rw [beq_eq_false_iff_ne]; exact hy
        have HY := Lib.hid hy
        clear hy
        go_wp2_with (first | (go_at_call 129; refine (within_any _ _ _ _).mono ?_; rintro e w' ⟨rfl, rfl⟩) | go_in)
        go_roundw
        case rel => exact ⟨2, by omega, rfl, fun j hj => (by
          rcases (by omega : j < 1 ∨ j = 1) with h | rfl
          · exact HNO.out j h
          · exact HY.out), by first | exact hb | exact hb.alloc hb.size _⟩
        case measure => simp [intOf]
    case inr.inr.inl =>
      by_cases hy : nm 2 = s.toList
      · have hbe : (([105, 110, 99, 111, 114, 114, 101, 99, 116] : List UInt8) == s.toList) = true := by rw [← hy]; exact beq_self_eq_true _
        have h0 := HNO.out 0 (by omega)
        have h1 := HNO.out 1 (by omega)
        have E1 := Lib.hid (show val s = 2 from by unfold val; rw [if_neg h0, if_neg h1, if_pos hy])
        have E2 := Lib.hid (show cod s = 0 from by unfold cod; rw [if_pos (by simp [hy])])
        clear hy h0 h1
        go_wp2_with (first | (go_at_call 129; refine (within_any _ _ _ _).mono ?_; rintro e w' ⟨rfl, rfl⟩) | go_in)
        go_ret2
        rw [E1.out, E2.out]
        exact ⟨rfl, by first | exact hb | exact hb.alloc hb.size _⟩
      · have hbe : (([105, 110, 99, 111, 114, 114, 101, 99, 116] : List UInt8) == s.toList) = false := by
          rw [beq_eq_false_iff_ne]; exact hy
        have HY := Lib.hid hy
        clear hy
        go_wp2_with (first | (go_at_call 129; refine (within_any _ _ _ _).mono ?_; rintro e w' ⟨rfl, rfl⟩) | go_in)
        go_roundw
        case rel => exact ⟨3, by omega, rfl, fun j hj => (by
          rcases (by omega : j < 2 ∨ j = 2) with h | rfl
          · exact HNO.out j h
          · exact HY.out), by first | exact hb | exact hb.alloc hb.size _⟩
        case measure => simp [intOf]
    case inr.inr.inr.inl =>
      by_cases hy : nm 3 = s.toList
      · have hbe : (([99, 111, 114, 114, 101, 99, 116] : List UInt8) == s.toList) = true := by rw [← hy]; exact beq_self_eq_true _
        have h0 := HNO.out 0 (by omega)
        have h1 := HNO.out 1 (by omega)
        have h2 := HNO.out 2 (by omega)
        have E1 := Lib.hid (show val s = 3 from by unfold val; rw [if_neg h0, if_neg h1, if_neg h2, if_pos hy])
        have E2 := Lib.hid (show cod s = 0 from by unfold cod; rw [if_pos (by simp [hy])])
        clear hy h0 h1 h2
        go_wp2_with (first | (go_at_call 129; refine (within_any _ _ _ _).mono ?_; rintro e w' ⟨rfl, rfl⟩) | go_in)
        go_ret2
        rw [E1.out, E2.out]
        exact ⟨rfl, by first | exact hb | exact hb.alloc hb.size _⟩
      · have hbe : (([99, 111, 114, 114, 101, 99, 116] : List UInt8) == s.toList) = false := by
          rw [beq_eq_false_iff_ne]; exact hy
        have HY := Lib.hid hy
        clear hy
        go_wp2_with (first | (go_at_call 129; refine (within_any _ _ _ _).mono ?_; rintro e w' ⟨rfl, rfl⟩) | go_in)
        go_roundw
        case rel => exact ⟨4, by omega, rfl, fun j hj => (by
          rcases (by omega : j < 3 ∨ j = 3) with h | rfl
          · exact HNO.out j h
          · exact HY.out), by first | exact hb | exact hb.alloc hb.size _⟩
        case measure => simp [intOf]
    case inr.inr.inr.inr.inl =>
      by_cases hy : nm 4 = s.toList
      · have hbe : (([100, 105, 115, 97, 103, 114, 101, 101] : List UInt8) == s.toList) = true := by rw [← hy]; exact beq_self_eq_true _
        have h0 := HNO.out 0 (by omega)
        have h1 := HNO.out 1 (by omega)
        have h2 := HNO.out 2 (by omega)
        have h3 := HNO.out 3 (by omega)
        have E1 := Lib.hid (show val s = 4 from by unfold val; rw [if_neg h0, if_neg h1, if_neg h2, if_neg h3, if_pos hy])
        have E2 := Lib.hid (show cod s = 0 from by unfold cod; rw [if_pos (by simp [hy])])
        clear hy h0 h1 h2 h3
        go_wp2_with (first | (go_at_call 129; refine (within_any _ _ _ _).mono ?_; rintro e w' ⟨rfl, rfl⟩) | go_in)
        go_ret2
        rw [E1.out, E2.out]
        exact ⟨rfl, by first | exact hb | exact hb.alloc hb.size _⟩
      · have hbe : (([100, 105, 115, 97, 103, 114, 101, 101] : List UInt8) == s.toList) = false := by
          rw [beq_eq_false_iff_ne]; exact hy
        have HY := Lib.hid hy
        clear hy
        go_wp2_with (first | (go_at_call 129; refine (within_any _ _ _ _).mono ?_; rintro e w' ⟨rfl, rfl⟩) | go_in)
        go_roundw
        case rel => exact ⟨5, by omega, rfl, fun j hj => (by
          rcases (by omega : j < 4 ∨ j = 4) with h | rfl
          · exact HNO.out j h
          · exact HY.out), by first | exact hb | exact hb.alloc hb.size _⟩
        case measure => simp [intOf]
end StatusNamed
end Go.Proofs.Ytdbfnldjibjbkaa
