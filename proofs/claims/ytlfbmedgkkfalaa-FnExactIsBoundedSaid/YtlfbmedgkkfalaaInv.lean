/- The walks of InvertCells, of the program and the reference. Conditions: lists of at most 2^20 numbers. -/
import Derived.Test.YtlfbmedgkkfalaaRise
import Derived.Test.YtlfbmedgkkfalaaFaultS
import Derived.Test.YtlfbmedgkkfalaaKit5
namespace Go.Proofs.Ytlfbmedgkkfalaa
open Go.RowKit
theorem szF_negL {n : Nat} {left : Int} (h : left < (n : Int)) : szF n left = -1 := by unfold szF; rw [if_pos (by omega)]
theorem szF_posL {n : Nat} {left : Int} (h : (n : Int) ≤ left) : szF n left = left - (n : Int) := by unfold szF; rw [if_neg (by omega)]
namespace InvertCells
def flt (z : Int) : Flt := ⟨2, 8 * z, 8, 0⟩
def res (xs zs : List Int) : List Flt := if isBits zs = true ∧ rises xs ((zs.length : Int) / 8) = true then xs.map flt else []
def cod (xs zs : List Int) : Int := if isBits zs then (if rises xs ((zs.length : Int) / 8) then 0 else 2) else 1
theorem res_len (xs zs : List Int) : (res xs zs).length ≤ xs.length := by unfold res; split <;> simp
theorem map_take {zs : List Int} {k : Nat} (h : k < zs.length) : (zs.take (k + 1)).map flt = (zs.take k).map flt ++ [flt (gi zs k)] := by
  rw [take_gi h, List.map_append]; rfl

set_option maxHeartbeats 4000000 in
theorem spec_any (B : Option Addr) (nb cb : Nat) (xs : List Int) (A : Option Addr) (n c : Nat) (zs : List Int) (w : World) (hx : RI w w.heap.size B nb xs) (hnb' : nb ≤ 1099511627776) (hnb : nb ≤ 1048576) (h : RI w w.heap.size A n zs) (hn' : n ≤ 1099511627776) (hn : n ≤ 1048576) :
    Calls Try.prog 85 #[.slice B nb cb, .slice A n c] w (RetEC encF 4 76 w (res xs zs) (cod xs zs)) := by
  have L := Lib.hid h.len
  have LX := Lib.hid hx.len
  have hdiv : (n : Int).tdiv 8 = (n : Int) / 8 := Int.tdiv_eq_ediv_of_nonneg (by omega)
  rcases bool_cases (isBits zs) with hz | hz
  case inr =>
    have E1 := Lib.hid (show res xs zs = [] from by simp [res, hz])
    have E2 := Lib.hid (show cod xs zs = 1 from by simp [cod, hz])
    go_enter Try.func85, Try.ntmps85
    go_wp2_with (go_at_call 154; refine (sIsBits_any _ _ _ _ _ h hn').mono ?_; rintro e w' ⟨rfl, rfl⟩)
    go_ret2
    exact ⟨none, 0, 0, by rw [E2.out]; rfl, by rw [E1.out]; exact OwnE.nil _ _ _ _ _, by go_grown⟩
  rcases bool_cases (rises xs ((n : Int) / 8)) with hr | hr
  case inr =>
    have E1 := Lib.hid (show res xs zs = [] from by simp [res, L.out, hr])
    have E2 := Lib.hid (show cod xs zs = 2 from by simp [cod, hz, L.out, hr])
    have HR := Lib.hid hr
    go_enter Try.func85, Try.ntmps85
    go_wp2_with (go_at_call 154; refine (sIsBits_any _ _ _ _ _ h hn').mono ?_; rintro e w' ⟨rfl, rfl⟩)
    (first | rw [hdiv] | skip)
    refine (l01Rises_any _ _ _ xs ((n : Int) / 8) _ hx hnb' (by omega) (by omega)).mono ?_
    rw [HR.out]
    rintro e w1 ⟨rfl, hb1⟩
    go_wp2
    go_ret2
    exact ⟨none, 0, 0, by rw [E2.out]; rfl, by rw [E1.out]; exact OwnE.nil _ _ _ _ _, hb1⟩
  have E1 := Lib.hid (show xs.map flt = res xs zs from by simp [res, hz, L.out, hr])
  have E2 := Lib.hid (show cod xs zs = 0 from by simp [cod, hz, L.out, hr])
  have HR := Lib.hid hr
  clear hr
  go_enter Try.func85, Try.ntmps85
  go_wp2_with (go_at_call 154; refine (sIsBits_any _ _ _ _ _ h hn').mono ?_; rintro e w' ⟨rfl, rfl⟩)
  (first | rw [hdiv] | skip)
  refine (l01Rises_any _ _ _ xs ((n : Int) / 8) _ hx hnb' (by omega) (by omega)).mono ?_
  rw [HR.out]
  rintro e w1 ⟨rfl, hb1⟩
  go_wp2
  go_loopw [6, 7] (fun o i wr => ∃ (k m : Nat) (A' : Option Addr) (c' : Nat), k ≤ nb ∧ m = k ∧ i = .int .i64 k ∧ o = .slice A' m c' ∧ OwnE encF 4 76 wr w.heap.size A' m c' ((xs.take k).map flt) ∧ Below w.heap.size w wr) (fun _ i _ => nb - (intOf i).toNat)
  case atStart => exact ⟨0, 0, some ⟨w1.heap.size, 0, none⟩, 0, Nat.zero_le _, rfl, rfl, rfl, OwnE.empty _ hb1.size, hb1.alloc hb1.size _⟩
  case round =>
    obtain ⟨k, m, A', c', hk, hmk, rfl, rfl, hown, hb⟩ := hrel
    have HM := Lib.hid hmk
    have hm30 : m ≤ 1048576 := by omega
    clear hmk
    by_cases hlt : k < nb
    · obtain ⟨b, o, rfl, hbl, hc⟩ := (hx.below hb (Nat.le_refl _)).get (by omega)
      have hcell := hc k hlt
      clear hc
      have hrg := rises_gi HR.out (k := k) (by rw [LX.out]; exact hlt)
      obtain ⟨hr1, hr2⟩ := hrg
      have hr3 : gi xs k ≤ 1048576 := by omega
      clear hr2
      go_wp2_with (at_builtin; refine wpl_appF _ _ Try.underlying40 infoFault rfl _ _ rfl w.heap.size _ m _ _ rfl hown (flt (gi xs k)) rfl (by omega) hb.size ?_; intro A2 c2 w2 hown2 hB2 hg2)
      go_roundw
      case rel => exact ⟨k + 1, m + 1, A2, c2, by omega, by rw [HM.out], by go_num, rfl, by rw [map_take (by rw [LX.out]; exact hlt)]; exact hown2, hb.trans (hB2 _ (Nat.le_refl _))⟩
      case measure => simp [intOf]; omega
    · have hkn : k = nb := by omega
      have HK := Lib.hid hkn
      clear hkn
      go_wp2
      go_ret2
      refine ⟨_, _, _, by rw [E2.out]; rfl, ?_, hb⟩
      rw [← E1.out]
      rw [HK.out, List.take_of_length_le (by rw [LX.out]; exact Nat.le_refl _)] at hown
      exact hown

set_option maxHeartbeats 4000000 in
theorem impl_any (B : Option Addr) (nb cb : Nat) (xs : List Int) (A : Option Addr) (n c : Nat) (zs : List Int) (w : World) (hx : RI w w.heap.size B nb xs) (hnb' : nb ≤ 1099511627776) (hnb : nb ≤ 1048576) (h : RI w w.heap.size A n zs) (hn' : n ≤ 1099511627776) (hn : n ≤ 1048576) :
    Calls Try.prog 84 #[.slice B nb cb, .slice A n c] w (RetEC encF 4 76 w (res xs zs) (cod xs zs)) := by
  have L := Lib.hid h.len
  have LX := Lib.hid hx.len
  have hdiv : (n : Int).tdiv 8 = (n : Int) / 8 := Int.tdiv_eq_ediv_of_nonneg (by omega)
  rcases bool_cases (isBits zs) with hz | hz
  case inr =>
    have E1 := Lib.hid (show res xs zs = [] from by simp [res, hz])
    have E2 := Lib.hid (show cod xs zs = 1 from by simp [cod, hz])
    go_enter Try.func84, Try.ntmps84
    go_wp2_with (go_at_call 155; refine (iIsBits_any _ _ _ _ _ h hn').mono ?_; rintro e w' ⟨rfl, rfl⟩)
    go_ret2
    exact ⟨none, 0, 0, by rw [E2.out]; rfl, by rw [E1.out]; exact OwnE.nil _ _ _ _ _, by go_grown⟩
  rcases bool_cases (rises xs ((n : Int) / 8)) with hr | hr
  case inr =>
    have E1 := Lib.hid (show res xs zs = [] from by simp [res, L.out, hr])
    have E2 := Lib.hid (show cod xs zs = 2 from by simp [cod, hz, L.out, hr])
    have HR := Lib.hid hr
    go_enter Try.func84, Try.ntmps84
    go_wp2_with (go_at_call 155; refine (iIsBits_any _ _ _ _ _ h hn').mono ?_; rintro e w' ⟨rfl, rfl⟩)
    (first | rw [hdiv] | skip)
    refine (isRising_any _ _ _ xs ((n : Int) / 8) _ hx hnb' (by omega) (by omega)).mono ?_
    rw [HR.out]
    rintro e w1 ⟨rfl, hb1⟩
    go_wp2
    go_ret2
    exact ⟨none, 0, 0, by rw [E2.out]; rfl, by rw [E1.out]; exact OwnE.nil _ _ _ _ _, hb1⟩
  have E1 := Lib.hid (show xs.map flt = res xs zs from by simp [res, hz, L.out, hr])
  have E2 := Lib.hid (show cod xs zs = 0 from by simp [cod, hz, L.out, hr])
  have HR := Lib.hid hr
  clear hr
  go_enter Try.func84, Try.ntmps84
  go_wp2_with (go_at_call 155; refine (iIsBits_any _ _ _ _ _ h hn').mono ?_; rintro e w' ⟨rfl, rfl⟩)
  (first | rw [hdiv] | skip)
  refine (isRising_any _ _ _ xs ((n : Int) / 8) _ hx hnb' (by omega) (by omega)).mono ?_
  rw [HR.out]
  rintro e w1 ⟨rfl, hb1⟩
  go_wp2
  go_loopw [6, 8, 21] (fun o _ i wr => ∃ (k m : Nat) (A' : Option Addr) (c' : Nat), k ≤ nb ∧ m = k ∧ i = .int .i64 k ∧ o = .slice A' m c' ∧ OwnE encF 4 76 wr w.heap.size A' m c' ((xs.take k).map flt) ∧ Below w.heap.size w wr) (fun _ _ i _ => nb - (intOf i).toNat)
  case atStart => exact ⟨0, 0, some ⟨w1.heap.size, 0, none⟩, 0, Nat.zero_le _, rfl, rfl, rfl, OwnE.empty _ hb1.size, hb1.alloc hb1.size _⟩
  case round =>
    obtain ⟨k, m, A', c', hk, hmk, rfl, rfl, hown, hb⟩ := hrel
    have HM := Lib.hid hmk
    have hm30 : m ≤ 1048576 := by omega
    clear hmk
    by_cases hlt : k < nb
    · obtain ⟨b, o, rfl, hbl, hc⟩ := (hx.below hb (Nat.le_refl _)).get (by omega)
      have hcell := hc k hlt
      clear hc
      have hrg := rises_gi HR.out (k := k) (by rw [LX.out]; exact hlt)
      obtain ⟨hr1, hr2⟩ := hrg
      have hr3 : gi xs k ≤ 1048576 := by omega
      clear hr2
      go_wp2_with (at_builtin; refine wpl_appF _ _ Try.underlying40 infoFault rfl _ _ rfl w.heap.size _ m _ _ rfl hown (⟨2, gi xs k * 8, 8, 0⟩) rfl (by omega) hb.size ?_; intro A2 c2 w2 hown2 hB2 hg2)
      go_roundw
      case rel => exact ⟨k + 1, m + 1, A2, c2, by omega, by rw [HM.out], by go_num, rfl, by rw [map_take (by rw [LX.out]; exact hlt), show flt (gi xs k) = ⟨2, gi xs k * 8, 8, 0⟩ from by unfold flt; rw [Int.mul_comm]]; exact hown2, hb.trans (hB2 _ (Nat.le_refl _))⟩
      case measure => simp [intOf]; omega
    · have hkn : k = nb := by omega
      have HK := Lib.hid hkn
      clear hkn
      go_wp2
      go_ret2
      refine ⟨_, _, _, by rw [E2.out]; rfl, ?_, hb⟩
      rw [← E1.out]
      rw [HK.out, List.take_of_length_le (by rw [LX.out]; exact Nat.le_refl _)] at hown
      exact hown
end InvertCells
end Go.Proofs.Ytlfbmedgkkfalaa
