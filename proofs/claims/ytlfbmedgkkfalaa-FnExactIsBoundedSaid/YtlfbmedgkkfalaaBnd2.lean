/- The walks of l26Slips and boundOf, and of IsBounded and BoundOf. Conditions: none. -/
import Derived.Test.YtlfbmedgkkfalaaBnd3
import Derived.StillTailTactics
namespace Go.Proofs.Ytlfbmedgkkfalaa
open Go.RowKit

set_option maxRecDepth 20000 in
set_option maxHeartbeats 8000000 in
theorem l26Slips_any (A : Option Addr) (n c : Nat) (zs : List Int) (B : Option Addr) (m d : Nat) (fs : List Flt) (w : World) (h : RI w w.heap.size A n zs) (hz : isBits zs = true) (hA : Pl A c) (hnc : n ≤ c) (hcm : c ≤ maxLen) (hf : RE encF 4 w w.heap.size B m fs) (hall : allF fs = true) (hm : m ≤ 1099511627776) :
    Calls Try.prog 242 #[.slice A n c, .slice B m d] w (RetV w (.bool (spaced fs 160 && wit zs fs))) := by
  have L := Lib.hid h.len
  have LF := Lib.hid hf.len
  have HZ := Lib.hid hz
  have HA := Lib.hid hall
  clear hz hall
  go_enter Try.func242, Try.ntmps242
  go_wp2
  go_loopw [0, 5] (fun s i wr => ∃ (k n' : Nat) (A' : Option Addr) (c' : Nat), k ≤ m ∧ i = .int .i64 k ∧ s = .slice A' n' c' ∧ RI wr wr.heap.size A' n' (appS zs (fs.take k)) ∧ Pl A' c' ∧ n' ≤ c' ∧ c' ≤ maxLen ∧ spTo fs 160 k = true ∧ witTo zs fs k = true ∧ Below w.heap.size w wr) (fun _ i _ => m - (intOf i).toNat)
  case atStart => exact ⟨0, n, A, c, Nat.zero_le _, rfl, rfl, h, hA, hnc, hcm, rfl, rfl, Below.refl _ _⟩
  case round =>
    obtain ⟨k, n', A', c', hk, rfl, rfl, hri, hpl, hnc', hcm', hsp, hwi, hb⟩ := hrel
    have HSP := Lib.hid hsp
    have HWI := Lib.hid hwi
    have HPL := Lib.hid hpl
    have hn' : n' ≤ 8192 := by
      rw [← hri.len]; exact isBits_len (appS_bits HZ.out (allF_take' k HA.out))
    clear hsp hwi hpl
    by_cases hlt : k < m
    · obtain ⟨b, o, rfl, _, hc⟩ := (hf.below hb (Nat.le_refl _)).get (by omega)
      have hc0 := hc k hlt 0 _ rfl
      have hc1 := hc k hlt 1 _ rfl
      have hc2 := hc k hlt 2 _ rfl
      have hc3 := hc k hlt 3 _ rfl
      have HC := Lib.hid hc
      clear hc
      rw [Nat.add_zero] at hc0
      have HBT := Lib.hid (appS_bits HZ.out (allF_take' k HA.out))
      have HFL := Lib.hid (allF_ge HA.out (k := k) (by rw [LF.out]; exact hlt))
      have ST := Lib.hid (appS_take (zs := zs) (fs := fs) (k := k) (by rw [LF.out]; exact hlt))
      by_cases hk0 : k = 0
      · subst hk0
        have HD := Lib.hid (spAt_zero fs 160)
        simp only [Nat.zero_mul, Nat.add_zero] at hc0 hc1 hc2 hc3
        rcases bool_cases (within5 (appS zs (fs.take 0)) (ge fs 0)) with hw | hw
        case inl =>
          have HW := Lib.hid hw
          clear hw
          go_wp2_with fail
          refine wp_region_still_tail 23 (by kernel_rfl) (by kernel_rfl) ?_
          simp only [List.take_succ_cons, List.take_zero, List.drop_succ_cons, List.drop_zero]
          iterate 23 ((with_reducible refine wpStill_step (fun K hK => ?_)); have HK9 := Lib.hid hK; clear hK; go_simp; (with_reducible refine HK9.out _ ?_); clear HK9 K)
          with_reducible refine wpStill_nil ?_
          go_wp2_with fail
          refine (l26Within_any A' n' c' (appS zs (fs.take 0)) (ge fs 0).kd (ge fs 0).pos (ge fs 0).len (ge fs 0).val _ (by exact hri) (by omega)).mono ?_
          rw [show within5 (appS zs (fs.take 0)) ⟨(ge fs 0).kd, (ge fs 0).pos, (ge fs 0).len, (ge fs 0).val⟩ = _ from HW.out]
          rintro e w2 ⟨rfl, hb2⟩
          have hbc : Below wr.heap.size wr w2 := below_next_drew hb2 (Below.refl wr.heap.size wr) (Nat.le_refl _)
          clear hb2
          have hbT := below_next hbc hb (Nat.le_refl _)
          have hri2 := hri.up hbc
          obtain ⟨b', o', e', _, hc⟩ := (hf.below hbT (Nat.le_refl _)).get (by omega)
          cases e'
          have g0 := hc 0 hlt 0 _ rfl
          have g1 := hc 0 hlt 1 _ rfl
          have g2 := hc 0 hlt 2 _ rfl
          have g3 := hc 0 hlt 3 _ rfl
          clear hc
          simp only [Nat.zero_mul, Nat.add_zero] at g0 g1 g2 g3
          clear hc0 hc1 hc2 hc3
          go_wp2_with fail
          refine (ApplyScript.l24L A' n' c' _ (ge fs 0) _ hri2 HBT.out HFL.out HPL.out hnc' hcm').mono ?_
          rintro e w3 ⟨A3, n3, c3, rfl, hown3, hb3⟩
          have HO3 := Lib.hid hown3
          clear hown3
          go_wp2
          go_roundw
          case rel =>
            have e3 := HO3.out
            exact ⟨1, n3, A3, c3, by omega, by go_num, rfl, by rw [ST.out]; exact e3.reads, e3.pl, e3.cap.1, e3.cap.2, by rw [spTo_succ, HSP.out, HD.out]; rfl, by rw [witTo_succ, HWI.out, HW.out]; rfl, below_next hb3 hbT (Nat.le_refl _)⟩
          case measure => simp [intOf]; omega
        case inr =>
          have HW := Lib.hid hw
          clear hw
          go_wp2_with fail
          refine wp_region_still_tail 23 (by kernel_rfl) (by kernel_rfl) ?_
          simp only [List.take_succ_cons, List.take_zero, List.drop_succ_cons, List.drop_zero]
          iterate 23 ((with_reducible refine wpStill_step (fun K hK => ?_)); have HK9 := Lib.hid hK; clear hK; go_simp; (with_reducible refine HK9.out _ ?_); clear HK9 K)
          with_reducible refine wpStill_nil ?_
          go_wp2_with fail
          refine (l26Within_any A' n' c' (appS zs (fs.take 0)) (ge fs 0).kd (ge fs 0).pos (ge fs 0).len (ge fs 0).val _ (by exact hri) (by omega)).mono ?_
          rw [show within5 (appS zs (fs.take 0)) ⟨(ge fs 0).kd, (ge fs 0).pos, (ge fs 0).len, (ge fs 0).val⟩ = _ from HW.out]
          rintro e w2 ⟨rfl, hb2⟩
          have hbc : Below wr.heap.size wr w2 := below_next_drew hb2 (Below.refl wr.heap.size wr) (Nat.le_refl _)
          clear hb2
          have hbT := below_next hbc hb (Nat.le_refl _)
          have hri2 := hri.up hbc
          obtain ⟨b', o', e', _, hc⟩ := (hf.below hbT (Nat.le_refl _)).get (by omega)
          cases e'
          have g0 := hc 0 hlt 0 _ rfl
          have g1 := hc 0 hlt 1 _ rfl
          have g2 := hc 0 hlt 2 _ rfl
          have g3 := hc 0 hlt 3 _ rfl
          clear hc
          simp only [Nat.zero_mul, Nat.add_zero] at g0 g1 g2 g3
          clear hc0 hc1 hc2 hc3
          go_wp2
          go_ret
          exact ⟨ret_bool (by rw [wit_no (by rw [LF.out]; exact hlt) HW.out, Bool.and_false]), hbT⟩
      · have hc4 := HC.out (k - 1) (by omega) 1 _ rfl
        have hp1 := isFault_pos HFL.out
        have hp2 := isFault_pos (allF_ge HA.out (k := k - 1) (by rw [LF.out]; omega))
        have hk1 : 0 < k := by omega
        have HK0 := Lib.hid hk0
        clear hk0
        obtain ⟨p, hp⟩ : ∃ p, (ge fs k).pos = p := ⟨_, rfl⟩
        obtain ⟨q, hq⟩ : ∃ q, (ge fs (k - 1)).pos = q := ⟨_, rfl⟩
        rw [hq] at hc4 hp2
        have HQ := Lib.hid hq
        clear hq
        rw [hp] at hp1
        obtain ⟨hp3, hp4⟩ := hp1
        obtain ⟨hq3, hq4⟩ := hp2
        by_cases hd : 160 ≤ p - q
        case neg =>
          rw [hp] at hc1
          have HP := Lib.hid hp
          clear hp
          have HD := Lib.hid (show spAt fs 160 k = false from spAt_no HK0.out (by rw [HP.out, HQ.out]; exact hd))
          have hd2 : decide (p - q < 160) = true := by simp; omega
          have hw1 : IntKind.i64.wrap (p - q) = p - q := IntWalk.i64_in _ (by omega)
          clear hd
          go_wp2_with fail
          go_quiet (fail)
          clear hk1 hw1 hc0 hc1 hc2 hc3 hc4
          go_wp2
          go_ret
          exact ⟨ret_bool (by rw [spaced_no (by rw [LF.out]; exact hlt) HD.out, Bool.false_and]), below_drewN hb _⟩
        subst hp
        have HD := Lib.hid (show spAt fs 160 k = true from spAt_of (by rw [HQ.out]; exact hd))
        have hd2 : decide ((ge fs k).pos - q < 160) = false := by simp; omega
        have hw1 : IntKind.i64.wrap ((ge fs k).pos - q) = (ge fs k).pos - q := IntWalk.i64_in _ (by omega)
        have hwk : IntKind.i64.wrap ((k : Int) - 1) = ((k - 1 : Nat) : Int) := by rw [IntWalk.i64_in _ (by omega)]; omega
        have hk2 : k - 1 < m := by omega
        clear hd
        rcases bool_cases (within5 (appS zs (fs.take k)) (ge fs k)) with hw | hw
        case inl =>
          have HW := Lib.hid hw
          clear hw
          go_wp2_with fail
          refine wp_region_still_tail 23 (by kernel_rfl) (by kernel_rfl) ?_
          simp only [List.take_succ_cons, List.take_zero, List.drop_succ_cons, List.drop_zero]
          iterate 23 ((with_reducible refine wpStill_step (fun K hK => ?_)); have HK9 := Lib.hid hK; clear hK; go_simp; (with_reducible refine HK9.out _ ?_); clear HK9 K)
          with_reducible refine wpStill_nil ?_
          go_wp2_with fail
          refine (l26Within_any A' n' c' (appS zs (fs.take k)) (ge fs k).kd (ge fs k).pos (ge fs k).len (ge fs k).val _ (by exact hri) (by omega)).mono ?_
          rw [show within5 (appS zs (fs.take k)) ⟨(ge fs k).kd, (ge fs k).pos, (ge fs k).len, (ge fs k).val⟩ = _ from HW.out]
          rintro e w2 ⟨rfl, hb2⟩
          have hbc : Below wr.heap.size wr w2 := below_next_drew hb2 (Below.refl wr.heap.size wr) (Nat.le_refl _)
          clear hb2
          have hbT := below_next hbc hb (Nat.le_refl _)
          have hri2 := hri.up hbc
          obtain ⟨b', o', e', _, hc⟩ := (hf.below hbT (Nat.le_refl _)).get (by omega)
          cases e'
          have g0 := hc k hlt 0 _ rfl
          have g1 := hc k hlt 1 _ rfl
          have g2 := hc k hlt 2 _ rfl
          have g3 := hc k hlt 3 _ rfl
          clear hc
          rw [Nat.add_zero] at g0
          clear hc0 hc1 hc2 hc3 hc4 hw1 hk1 hwk hk2
          go_wp2_with fail
          refine (ApplyScript.l24L A' n' c' _ (ge fs k) _ hri2 HBT.out HFL.out HPL.out hnc' hcm').mono ?_
          rintro e w3 ⟨A3, n3, c3, rfl, hown3, hb3⟩
          have HO3 := Lib.hid hown3
          clear hown3
          go_wp2
          go_roundw
          case rel =>
            have e3 := HO3.out
            exact ⟨k + 1, n3, A3, c3, by omega, by go_num, rfl, by rw [ST.out]; exact e3.reads, e3.pl, e3.cap.1, e3.cap.2, by rw [spTo_succ, HSP.out, HD.out]; rfl, by rw [witTo_succ, HWI.out, HW.out]; rfl, below_next hb3 hbT (Nat.le_refl _)⟩
          case measure => simp [intOf]; omega
        case inr =>
          have HW := Lib.hid hw
          clear hw
          go_wp2_with fail
          refine wp_region_still_tail 23 (by kernel_rfl) (by kernel_rfl) ?_
          simp only [List.take_succ_cons, List.take_zero, List.drop_succ_cons, List.drop_zero]
          iterate 23 ((with_reducible refine wpStill_step (fun K hK => ?_)); have HK9 := Lib.hid hK; clear hK; go_simp; (with_reducible refine HK9.out _ ?_); clear HK9 K)
          with_reducible refine wpStill_nil ?_
          go_wp2_with fail
          refine (l26Within_any A' n' c' (appS zs (fs.take k)) (ge fs k).kd (ge fs k).pos (ge fs k).len (ge fs k).val _ (by exact hri) (by omega)).mono ?_
          rw [show within5 (appS zs (fs.take k)) ⟨(ge fs k).kd, (ge fs k).pos, (ge fs k).len, (ge fs k).val⟩ = _ from HW.out]
          rintro e w2 ⟨rfl, hb2⟩
          have hbc : Below wr.heap.size wr w2 := below_next_drew hb2 (Below.refl wr.heap.size wr) (Nat.le_refl _)
          clear hb2
          have hbT := below_next hbc hb (Nat.le_refl _)
          have hri2 := hri.up hbc
          obtain ⟨b', o', e', _, hc⟩ := (hf.below hbT (Nat.le_refl _)).get (by omega)
          cases e'
          have g0 := hc k hlt 0 _ rfl
          have g1 := hc k hlt 1 _ rfl
          have g2 := hc k hlt 2 _ rfl
          have g3 := hc k hlt 3 _ rfl
          clear hc
          rw [Nat.add_zero] at g0
          clear hc0 hc1 hc2 hc3 hc4 hw1 hk1 hwk hk2
          go_wp2
          go_ret
          exact ⟨ret_bool (by rw [wit_no (by rw [LF.out]; exact hlt) HW.out, Bool.and_false]), hbT⟩
    · have hkm : k = m := by omega
      have h1 := Lib.hid (show (spaced fs 160 && wit zs fs) = true from by
        unfold spaced wit
        rw [LF.out, ← hkm, HSP.out, HWI.out]; rfl)
      clear hkm
      go_wp2
      go_ret
      exact ⟨ret_bool h1.out.symm, hb⟩
end Go.Proofs.Ytlfbmedgkkfalaa
