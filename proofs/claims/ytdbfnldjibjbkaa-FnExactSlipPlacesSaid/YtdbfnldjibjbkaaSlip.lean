/- The walks of SlipPlaces, of the program and the reference. Conditions: lists of at most 2^40 numbers. -/
import Derived.Test.YtdbfnldjibjbkaaWithin
import Derived.Test.YtdbfnldjibjbkaaKit4
namespace Go.Proofs.Ytdbfnldjibjbkaa
open Go.RowKit
namespace SlipPlaces
/-- the places below k at which a drop is within a run -/
def slipsTo (zs : List Int) : Nat → List Int
  | 0 => []
  | k + 1 => slipsTo zs k ++ (if within5 zs ⟨3, k, 1, 0⟩ then [(k : Int)] else [])
theorem slipsTo_yes {zs : List Int} {k : Nat} (h : within5 zs ⟨3, k, 1, 0⟩ = true) : slipsTo zs (k + 1) = slipsTo zs k ++ [(k : Int)] := by simp [slipsTo, h]
theorem slipsTo_no {zs : List Int} {k : Nat} (h : within5 zs ⟨3, k, 1, 0⟩ = false) : slipsTo zs (k + 1) = slipsTo zs k := by simp [slipsTo, h]
theorem slipsTo_len (zs : List Int) (k : Nat) : (slipsTo zs k).length ≤ k := by
  induction k with
  | zero => simp [slipsTo]
  | succ k ih => unfold slipsTo; split <;> simp <;> omega
def res (zs : List Int) : List Int := if isBits zs then slipsTo zs zs.length else []
def cod (zs : List Int) : Int := if isBits zs then 0 else 1
theorem res_len (zs : List Int) : (res zs).length ≤ zs.length := by
  unfold res; split
  · exact slipsTo_len _ _
  · simp

set_option maxHeartbeats 1000000 in
theorem spec_any (A : Option Addr) (n c : Nat) (zs : List Int) (w : World) (h : RI w w.heap.size A n zs) (hn : n ≤ 1099511627776) :
    Calls Try.prog 29 #[.slice A n c] w (RetIC 2 w (res zs) (cod zs)) := by
  have L := Lib.hid h.len
  rcases bool_cases (isBits zs) with hz | hz
  case inr =>
    have E1 := Lib.hid (show res zs = [] from by simp [res, hz])
    have E2 := Lib.hid (show cod zs = 1 from by simp [cod, hz])
    go_enter Try.func29, Try.ntmps29
    go_wp2_with (go_at_call 102; refine (sIsBits_any _ _ _ _ _ h hn).mono ?_; rintro e w' ⟨rfl, rfl⟩)
    go_ret2
    exact ⟨none, 0, 0, by rw [E2.out]; rfl, by rw [E1.out]; exact OwnI.nil _ _ _, by go_grown⟩
  have E1 := Lib.hid (show slipsTo zs zs.length = res zs from by simp [res, hz])
  have E2 := Lib.hid (show cod zs = 0 from by simp [cod, hz])
  go_enter Try.func29, Try.ntmps29
  go_wp2_with (go_at_call 102; refine (sIsBits_any _ _ _ _ _ h hn).mono ?_; rintro e w' ⟨rfl, rfl⟩)
  go_loopw [4, 5] (fun o i wr => ∃ (k m : Nat) (A' : Option Addr) (c' : Nat), k ≤ n ∧ m ≤ k ∧ i = .int .i64 k ∧ o = .slice A' m c' ∧ OwnI 2 wr w.heap.size A' m c' (slipsTo zs k) ∧ Below w.heap.size w wr) (fun _ i _ => n - (intOf i).toNat)
  case atStart => exact ⟨0, 0, some ⟨w.heap.size, 0, none⟩, 0, Nat.zero_le _, Nat.le_refl _, rfl, rfl, OwnI.empty _ (Nat.le_refl _), (Below.refl _ _).alloc (Nat.le_refl _) _⟩
  case round =>
    obtain ⟨k, m, A', c', hk, hmk, rfl, rfl, hown, hb⟩ := hrel
    by_cases hlt : k < n
    · go_wp2_with fail
      refine (l26Within_any _ _ _ zs _ _ _ _ _ (h.up hb) hn).mono ?_
      rcases bool_cases (within5 zs ⟨3, k, 1, 0⟩) with hy | hy
      · have HY := Lib.hid hy
        rw [hy]
        clear hy
        rintro e w1 ⟨rfl, hb1⟩
        have hown1 := hown.below hb1
        have hb1' := below_next hb1 hb (Nat.le_refl _)
        go_wp2_with (at_builtin; refine wpl_appI _ _ Try.underlying25 infoInt rfl _ _ rfl w.heap.size _ m _ _ rfl hown1 (k : Int) rfl (by omega) hb1'.size ?_; intro A2 c2 w2 hown2 hB2 hg2)
        go_roundw
        case rel => exact ⟨k + 1, m + 1, A2, c2, by omega, by omega, by go_num, rfl, by rw [slipsTo_yes HY.out]; exact hown2, hb1'.trans (hB2 _ (Nat.le_refl _))⟩
        case measure => simp [intOf]; omega
      · have HY := Lib.hid hy
        rw [hy]
        clear hy
        rintro e w1 ⟨rfl, hb1⟩
        have hown1 := hown.below hb1
        have hb1' := below_next hb1 hb (Nat.le_refl _)
        go_wp2
        go_roundw
        case rel => exact ⟨k + 1, m, A', c', by omega, by omega, by go_num, rfl, by rw [slipsTo_no HY.out]; exact hown1, hb1'⟩
        case measure => simp [intOf]; omega
    · have hkn : k = n := by omega
      have HK := Lib.hid hkn
      clear hkn
      go_wp2
      go_ret2
      refine ⟨_, _, _, by rw [E2.out]; rfl, ?_, hb⟩
      rw [← E1.out, L.out]
      rw [HK.out] at hown
      exact hown

set_option maxHeartbeats 1000000 in
theorem impl_any (A : Option Addr) (n c : Nat) (zs : List Int) (w : World) (h : RI w w.heap.size A n zs) (hn : n ≤ 1099511627776) (hcap : n ≤ c) (hcm : c ≤ maxLen) :
    Calls Try.prog 31 #[.slice A n c] w (RetIC 2 w (res zs) (cod zs)) := by
  have L := Lib.hid h.len
  rcases bool_cases (isBits zs) with hz | hz
  case inr =>
    have E1 := Lib.hid (show res zs = [] from by simp [res, hz])
    have E2 := Lib.hid (show cod zs = 1 from by simp [cod, hz])
    go_enter Try.func31, Try.ntmps31
    go_wp2_with (go_at_call 104; refine (iIsBits_any _ _ _ _ _ h hn).mono ?_; rintro e w' ⟨rfl, rfl⟩)
    go_ret2
    exact ⟨none, 0, 0, by rw [E2.out]; rfl, by rw [E1.out]; exact OwnI.nil _ _ _, by go_grown⟩
  have E1 := Lib.hid (show slipsTo zs zs.length = res zs from by simp [res, hz])
  have E2 := Lib.hid (show cod zs = 0 from by simp [cod, hz])
  go_enter Try.func31, Try.ntmps31
  go_wp2_with (go_at_call 104; refine (iIsBits_any _ _ _ _ _ h hn).mono ?_; rintro e w' ⟨rfl, rfl⟩)
  go_loopw [4, 5, 12] (fun o _ i wr => ∃ (k m : Nat) (A' : Option Addr) (c' : Nat), k ≤ n ∧ m ≤ k ∧ i = .int .i64 k ∧ o = .slice A' m c' ∧ OwnI 2 wr w.heap.size A' m c' (slipsTo zs k) ∧ Below w.heap.size w wr) (fun _ _ i _ => n - (intOf i).toNat)
  case atStart => exact ⟨0, 0, some ⟨w.heap.size, 0, none⟩, 0, Nat.zero_le _, Nat.le_refl _, rfl, rfl, OwnI.empty _ (Nat.le_refl _), (Below.refl _ _).alloc (Nat.le_refl _) _⟩
  case round =>
    obtain ⟨k, m, A', c', hk, hmk, rfl, rfl, hown, hb⟩ := hrel
    by_cases hlt : k < n
    · go_wp2_with fail
      refine (withinRun_any _ _ _ zs _ _ _ _ _ (h.up hb) hn hcap hcm).mono ?_
      rcases bool_cases (within5 zs ⟨3, k, 1, 0⟩) with hy | hy
      · have HY := Lib.hid hy
        rw [hy]
        clear hy
        rintro e w1 ⟨rfl, hb1⟩
        have hown1 := hown.below hb1
        have hb1' := below_next hb1 hb (Nat.le_refl _)
        go_wp2_with (at_builtin; refine wpl_appI _ _ Try.underlying25 infoInt rfl _ _ rfl w.heap.size _ m _ _ rfl hown1 (k : Int) rfl (by omega) hb1'.size ?_; intro A2 c2 w2 hown2 hB2 hg2)
        go_roundw
        case rel => exact ⟨k + 1, m + 1, A2, c2, by omega, by omega, by go_num, rfl, by rw [slipsTo_yes HY.out]; exact hown2, hb1'.trans (hB2 _ (Nat.le_refl _))⟩
        case measure => simp [intOf]; omega
      · have HY := Lib.hid hy
        rw [hy]
        clear hy
        rintro e w1 ⟨rfl, hb1⟩
        have hown1 := hown.below hb1
        have hb1' := below_next hb1 hb (Nat.le_refl _)
        go_wp2
        go_roundw
        case rel => exact ⟨k + 1, m, A', c', by omega, by omega, by go_num, rfl, by rw [slipsTo_no HY.out]; exact hown1, hb1'⟩
        case measure => simp [intOf]; omega
    · have hkn : k = n := by omega
      have HK := Lib.hid hkn
      clear hkn
      go_wp2
      go_ret2
      refine ⟨_, _, _, by rw [E2.out]; rfl, ?_, hb⟩
      rw [← E1.out, L.out]
      rw [HK.out] at hown
      exact hown
end SlipPlaces
end Go.Proofs.Ytdbfnldjibjbkaa
