/- The walk of the reference's ReadScript. Conditions: texts of at most 2^20 bytes. -/
import Derived.Test.YtojmikalnalfbaaGreatDoorRdSC
import Derived.Test.YtojmikalnalfbaaGreatDoorTxRC
namespace Go.Proofs.YtojmikalnalfbaaGreatDoor
open Go.Lib Go.RowKit

set_option maxRecDepth 20000 in
set_option maxHeartbeats 16000000 in
theorem sReadScript_any (s : ByteArray) (w : World) (hs : s.size ≤ 1048576) :
    Calls Tryz.prog 23 #[.string s] w (RetFB w (rdS s.data.toList)) := by
  have hO := OwnE.room (enc := encF) (sz := 4) (T := 26) w (base := w.heap.size) (cap := 0) (cur := #[]) (Nat.le_refl _) (by simp [maxLen]) rfl
  have HO := Lib.hid hO
  have HB := Lib.hid (below_alloc (Below.refl w.heap.size w) (Nat.le_refl _) (.cells #[] 26))
  clear hO
  by_cases h0 : s.data.toList = []
  · have E := Lib.hid (show rdS s.data.toList = ([], true) by rw [h0]; exact rdS_nil)
    have hq : s.toList.isEmpty = true := by rw [Lib.toList_data, h0]; rfl
    have hq2 : s.toList = [] := by rw [Lib.toList_data, h0]
    clear h0
    go_enter Tryz.func23, Tryz.ntmps23
    go_wp2_with fail
    go_ret2
    rw [E.out]
    exact ⟨_, _, _, rfl, HO.out, HB.out⟩
  have hq : s.toList.isEmpty = false := by
    rw [Lib.toList_data]
    cases hs' : s.data.toList with
    | nil => exact absurd hs' h0
    | cons x y => rfl
  have H0 := Lib.hid h0
  clear h0
  go_enter Tryz.func23, Tryz.ntmps23
  go_wp2_with fail
  refine (l01Split_any s 59 _ (by omega)).mono ?_
  rintro e w1 ⟨A, n, c, bs, rfl, hown, hbs, hb1⟩
  have hb := below_next hb1 HB.out (Nat.le_refl _)
  have HO1 := Lib.hid (HO.out.below hb1)
  have hn1 : 1 ≤ n := by
    have h1 := hown.len
    rcases Nat.eq_zero_or_pos n with h0 | h0
    · subst h0
      rw [List.length_eq_zero_iff.1 h1] at hbs
      exact absurd hbs.symm (spl_ne _ _)
    · exact h0
  obtain ⟨g, rfl, hg1, hg2⟩ := hown.form hn1
  have HW := Lib.hid hown
  have D := Lib.hid hbs
  have L := Lib.hid hown.len
  have hn2 : n ≤ 1048577 := by
    have h1 := spl_len 59 s.data.toList
    have h2 := L.out
    rw [← D.out] at h1
    unfold dat at h1
    rw [List.length_map, h2, ← Lib.size_eq] at h1
    omega
  have HSB := Lib.hid (show ∀ i, i < n → (ge bs i).size ≤ 1048576 by
    intro i hi
    have := spl_mem_len 59 s.data.toList (ge bs i).data.toList (by rw [← D.out]; exact List.mem_map.2 ⟨_, mem_ge (by rw [L.out]; exact hi), rfl⟩)
    rw [← Lib.size_eq, ← Lib.size_eq] at this
    omega)
  clear hown hbs hb1 HB HO hg2
  go_wp2_with fail
  go_loopw [4, 6] (fun p i wr => ∃ (k : Nat) (A2 : Option Addr) (c2 : Nat) (M : List Flt), k ≤ n ∧ i = .int .i64 k ∧ p = .slice A2 k c2 ∧ allRd (dat (bs.take k)) = some M ∧ OwnE encF 4 26 wr w.heap.size A2 k c2 M ∧ OwnE encS 1 9 wr (w.heap.size + 1) (some ⟨g, 0, none⟩) n c bs ∧ Below w.heap.size w wr) (fun _ i _ => n - (RowKit.intOf i).toNat)
  case atStart => exact ⟨0, _, _, [], Nat.zero_le _, rfl, rfl, rfl, HO1.out, by simpa using HW.out, hb⟩
  case round =>
    obtain ⟨k, A2, c2, M, hk, rfl, rfl, hM, hown, hw, hb⟩ := hrel
    have HMM := Lib.hid hM
    clear hM HO1 HW
    by_cases hlt : k < n
    · have hc0 := hw.cell encS_len (i := k) (j := 0) hlt (by omega)
      rw [Nat.mul_one, Nat.add_zero] at hc0
      have hkl : k < bs.length := by rw [L.out]; exact hlt
      have hms := HSB.out k hlt
      have hmem := Lib.hid (show (ge bs k).data.toList ∈ spl 59 s.data.toList by rw [← D.out]; exact List.mem_map.2 ⟨_, mem_ge hkl, rfl⟩)
      obtain ⟨S, hS⟩ : ∃ S, ge bs k = S := ⟨_, rfl⟩
      obtain ⟨⟨fk, fp, fl, fv⟩, q, hvq⟩ : ∃ v q, rdF S.data.toList = (v, q) := ⟨_, _, rfl⟩
      have HV := Lib.hid hvq
      have HD := Lib.hid ((dat_take hkl).trans (by rw [hS]))
      rw [hS] at hc0 hms hmem
      have hc0' : wr.cell? ⟨g, k, none⟩ = some (.string S) := hc0
      clear hS hvq hkl hc0
      go_wp2_with fail
      refine (sReadFault_any S _ hms).mono ?_
      rw [HV.out]
      unfold aggR
      rintro e w2 ⟨rfl, hb2⟩
      have hown2 := hown.below hb2
      have hw2 := hw.below hb2
      have hb3 := below_next hb2 hb (Nat.le_refl _)
      clear hb2 hown hb hc0' hw
      obtain ⟨u, hu⟩ : ∃ X, w2.alloc (.cells #[.int .i64 fk, .int .i64 fp, .int .i64 fl, .int .i64 fv] 26) = X := ⟨_, rfl⟩
      have KF := Lib.hid (show BlkL u w2.heap.size 26 [.int .i64 fk, .int .i64 fp, .int .i64 fl, .int .i64 fv] from hu ▸ BlkL.new w2 _ _ rfl)
      have hb4 : Below w.heap.size w u := hu ▸ below_alloc hb3 (Nat.le_refl _) _
      have hown3 : OwnE encF 4 26 u w.heap.size A2 k c2 M := hu ▸ hown2.alloc _
      have hw3 : OwnE encS 1 9 u (w.heap.size + 1) (some ⟨g, 0, none⟩) n c bs := hu ▸ hw2.alloc _
      have HU := Lib.hid hu
      have hz4 := hb4.size
      clear hown2 hw2 hb3 hu
      cases q
      · have E := Lib.hid (rdS_bad2 H0.out hmem.out (by rw [HV.out]))
        go_wp2_with (rw [HU.out])
        go_ret2
        exact RetFB.no hb4 E.out rfl
      · have E := Lib.hid (show allRd (dat (bs.take (k + 1))) = some (M ++ [⟨fk, fp, fl, fv⟩]) by rw [HD.out, allRd_snoc _ HMM.out, HV.out]; rfl)
        have k0 := KF.out.c 0 rfl; have k1 := KF.out.c 1 rfl; have k2 := KF.out.c 2 rfl; have k3 := KF.out.c 3 rfl
        have HNE := Lib.hid (OwnE.apart hw3 hown3 (by decide))
        have HW3 := Lib.hid hw3
        clear hw3
        go_wp2_with (first | rw [HU.out] | (at_builtin; refine wpl_appF _ _ Tryz.underlying38 infoFault rfl _ _ rfl w.heap.size _ k _ _ rfl hown3 ⟨fk, fp, fl, fv⟩ rfl (by omega) hz4 ?_; intro A4 c4 w4 hown4 hB4 hg4))
        go_roundw
        case rel => exact ⟨k + 1, A4, c4, M ++ [⟨fk, fp, fl, fv⟩], by omega, by go_num, rfl, E.out, hown4, HW3.out.kept hg4 HNE.out, hb4.trans (hB4 _ (Nat.le_refl _))⟩
        case measure => simp [RowKit.intOf] <;> omega
    · have hkn : k = n := by omega
      subst hkn
      have hfull : bs.take k = bs := List.take_of_length_le (by rw [L.out]; exact Nat.le_refl _)
      have hM := HMM.out
      rw [hfull, D.out] at hM
      obtain ⟨e1, e2⟩ := allRd_some hM
      have HM2 := Lib.hid hM
      have HE2 := Lib.hid e2
      have HLM := Lib.hid hown.len
      have hsp : (spl 59 s.data.toList).length = k := by rw [← D.out]; unfold dat; rw [List.length_map, L.out]
      have HSP := Lib.hid hsp
      clear hfull hM e1 e2 hsp
      go_wp2_with fail
      refine (sIsScript_any _ k _ M _ (hown.reads encF_len) (by omega)).mono ?_
      by_cases hk30 : k ≤ 30
      · rw [isScr_of HE2.out (by rw [HLM.out]; exact hk30)]
        rintro e w2 ⟨rfl, hb2⟩
        have E := Lib.hid (rdS_ok H0.out HM2.out (by rw [HLM.out]; exact hk30))
        have hown2 := hown.below hb2
        go_wp2_with fail
        go_ret2
        rw [E.out]
        exact ⟨_, _, _, rfl, hown2, below_next hb2 hb (Nat.le_refl _)⟩
      · rw [isScr_not (by rw [HLM.out]; omega)]
        rintro e w2 ⟨rfl, hb2⟩
        have E := Lib.hid (rdS_many H0.out (by rw [HSP.out]; omega))
        go_wp2_with fail
        go_ret2
        exact RetFB.no (below_next hb2 hb (Nat.le_refl _)) E.out rfl
end Go.Proofs.YtojmikalnalfbaaGreatDoor
