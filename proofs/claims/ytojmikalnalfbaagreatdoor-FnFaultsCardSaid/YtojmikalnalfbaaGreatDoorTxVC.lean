/- The walk of the reference's l01Value. Conditions: none. -/
import Derived.Test.YtojmikalnalfbaaGreatDoorTxDC
import Derived.Test.YtojmikalnalfbaaGreatDoorNumC
import Derived.Test.YtojmikalnalfbaaGreatDoorTxFC
namespace Go.Proofs.YtojmikalnalfbaaGreatDoor
open Go.Lib Go.RowKit

theorem sNum_bad {l : List UInt8} (h : ¬ (1 ≤ l.length ∧ l.length ≤ 12)) : sNum l = (0, false) := by unfold sNum; rw [if_neg (fun e => h e.1)]
theorem sNum_nod {l : List UInt8} (h : digB l = false) : sNum l = (0, false) := by unfold sNum; rw [if_neg (fun e => by rw [h] at e; exact absurd e.2 (by simp))]
theorem sNum_yes {l : List UInt8} (h : 1 ≤ l.length ∧ l.length ≤ 12) (hd : digB l = true) : sNum l = ((valD l : Int), decide (decDigits (valD l) = l)) := by unfold sNum; rw [if_pos ⟨h, hd⟩]

set_option maxRecDepth 20000 in
set_option maxHeartbeats 8000000 in
theorem l01Value_any (s : ByteArray) (w : World) (hm : s.size ≤ maxLen) :
    Calls Tryz.prog 72 #[.string s] w (RetV w (.tuple #[.int .i64 (sNum s.data.toList).1, .bool (sNum s.data.toList).2])) := by
  have hm2 := hm
  clear hm
  have hsz : s.size = s.data.toList.length := Lib.size_eq s
  by_cases hl : 1 ≤ s.data.toList.length ∧ s.data.toList.length ≤ 12
  case neg =>
    have E := Lib.hid (sNum_bad hl)
    rw [← hsz] at hl
    clear hsz
    by_cases h1 : (s.size : Int) < 1
    · go_enter Tryz.func72, Tryz.ntmps72
      go_wp2
      go_ret2
      rw [E.out]
      exact ⟨rfl, by go_grown⟩
    · have h2 : (12 : Int) < (s.size : Int) := by omega
      go_enter Tryz.func72, Tryz.ntmps72
      go_wp2
      go_ret2
      rw [E.out]
      exact ⟨rfl, by go_grown⟩
  have hl2 : 1 ≤ s.size ∧ s.size ≤ 12 := by rw [hsz]; exact hl
  have h1 : ¬ (s.size : Int) < 1 := by omega
  have h2 : ¬ (12 : Int) < (s.size : Int) := by omega
  have HL := Lib.hid hl
  have HS := Lib.hid hsz
  clear hl hsz
  go_enter Tryz.func72, Tryz.ntmps72
  go_wp2_with fail
  clear h1 h2
  go_loopw [4, 5] (fun v i wr => ∃ k : Nat, k ≤ s.size ∧ i = .int .i64 k ∧ v = .int .i64 (valD (s.data.toList.take k) : Nat) ∧ digB (s.data.toList.take k) = true ∧ Below w.heap.size w wr) (fun _ i _ => s.size - (RowKit.intOf i).toNat)
  case atStart => exact ⟨0, by omega, rfl, rfl, rfl, Below.refl _ _⟩
  case round =>
    obtain ⟨k, hk, rfl, rfl, hd, hb⟩ := hrel
    have HD := Lib.hid hd
    clear hd
    by_cases hlt : k < s.size
    · have hkl : k < s.data.toList.length := by rw [← HS.out]; exact hlt
      have hsk : (s.data.toList[k]).toNat = s[k].toNat := rfl
      obtain ⟨d, hd⟩ : ∃ d, s[k].toNat = d := ⟨_, rfl⟩
      rw [hd] at hsk
      rcases (show d < 48 ∨ 57 < d ∨ (48 ≤ d ∧ d ≤ 57) by omega) with h1 | h1 | ⟨h1, h2⟩
      · have E := Lib.hid (sNum_nod (digB_no hkl (by rw [hsk]; simp; try omega)))
        have h1' : (d : Int) < 48 := by omega
        clear hsk h1
        go_wp2_with fail
        go_ret2
        rw [E.out]
        exact ⟨rfl, hb⟩
      · have E := Lib.hid (sNum_nod (digB_no hkl (by rw [hsk]; simp; try omega)))
        have h1' : (57 : Int) < d := by omega
        clear hsk h1
        go_wp2_with fail
        go_ret2
        rw [E.out]
        exact ⟨rfl, hb⟩
      · have E1 := Lib.hid ((valD_take hkl).trans (by rw [hsk]))
        have E2 := Lib.hid ((digB_take hkl).trans (by rw [HD.out, hsk, decide_eq_true h1, decide_eq_true h2]))
        have hv := valD_lt k (s.data.toList.take k) (by rw [List.length_take]; omega) HD.out
        have hv2 : valD (s.data.toList.take k) < 1000000000000 := Nat.lt_of_lt_of_le hv (Nat.le_trans (Nat.pow_le_pow_right (by omega) (show k ≤ 12 by omega)) (by decide))
        obtain ⟨v, hvv⟩ : ∃ v, valD (s.data.toList.take k) = v := ⟨_, rfl⟩
        rw [hvv] at hv2
        have h1' : (48 : Int) ≤ d := by omega
        have h2' : (d : Int) ≤ 57 := by omega
        have HV := Lib.hid hvv
        rw [hvv]
        clear hsk h1 h2 hv hvv
        go_wp2_with fail
        go_roundw
        case rel => exact ⟨k + 1, by omega, by go_num, by rw [E1.out, HV.out]; congr 1; omega, E2.out, hb⟩
        case measure => simp [RowKit.intOf]; omega
    · have hkn : k = s.size := by omega
      have hfull : s.data.toList.take k = s.data.toList := List.take_of_length_le (by rw [hkn, HS.out]; exact Nat.le_refl _)
      have hv := valD_lt k (s.data.toList.take k) (by rw [List.length_take, hkn, HS.out]; omega) HD.out
      have hv2 : valD (s.data.toList.take k) < 1000000000000 := Nat.lt_of_lt_of_le hv (Nat.le_trans (Nat.pow_le_pow_right (by omega) (show k ≤ 12 by omega)) (by decide))
      have hd2 := HD.out
      rw [hfull] at hd2 hv2 ⊢
      have E := Lib.hid (sNum_yes HL.out hd2)
      obtain ⟨v, hvv⟩ : ∃ v, valD s.data.toList = v := ⟨_, rfl⟩
      rw [hvv] at hv2 ⊢
      have HV := Lib.hid hvv
      clear hvv hv hfull hkn hd2
      go_wp2_with (go_at_call 47; refine (l01Dec_any v v _ (Nat.le_refl _) (by omega)).mono ?_; rintro e w2 ⟨rfl, hb2⟩)
      go_ret2
      rw [E.out, HV.out]
      refine ⟨?_, below_next hb2 hb (Nat.le_refl _)⟩
      have hbe : (decDigits v == s.toList) = decide (decDigits v = s.data.toList) := by
        rw [Lib.toList_data]
        rw [Bool.eq_iff_iff, beq_iff_eq, decide_eq_true_iff]
      rw [← hbe]
      rfl
end Go.Proofs.YtojmikalnalfbaaGreatDoor
