/- The walk of the program's boundOf. Conditions: none. -/
import Derived.Test.YtlfbmedgkkfalaaBnd
import Derived.Test.YtlfbmedgkkfalaaKit12
namespace Go.Proofs.Ytlfbmedgkkfalaa
open Go.RowKit
/-- the way in which a script is bounded, or 0 -/
def bnd (zs : List Int) (fs : List Flt) : Int := if (spaced fs 6 && allFl fs) = true then 1 else if (spaced fs 160 && wit zs fs) = true then 2 else 0

set_option maxRecDepth 20000 in
set_option maxHeartbeats 8000000 in
theorem boundOf_any (A : Option Addr) (n c : Nat) (zs : List Int) (B : Option Addr) (m d : Nat) (fs : List Flt) (w : World) (h : RI w w.heap.size A n zs) (hz : isBits zs = true) (hA : Pl A c) (hnc : n ≤ c) (hcm : c ≤ maxLen) (hf : RE encF 4 w w.heap.size B m fs) (hall : allF fs = true) (hm : m ≤ 1099511627776) :
    Calls Try.prog 176 #[.slice A n c, .slice B m d] w (RetV w (.int .i64 (bnd zs fs))) := by
  have L := Lib.hid h.len
  have LF := Lib.hid hf.len
  have HZ := Lib.hid hz
  have HA := Lib.hid hall
  have HPL := Lib.hid hA
  clear hz hall hA
  obtain ⟨V, hV⟩ : ∃ V, bnd zs fs = V := ⟨_, rfl⟩
  rw [hV]
  have HV := Lib.hid hV
  clear hV
  rcases bool_cases (spaced fs 6 && allFl fs) with hb | hb
  case inl =>
    have hb' := hb
    rw [Bool.and_eq_true] at hb'
    have H1 := Lib.hid hb'.1
    have H2 := Lib.hid hb'.2
    have HW := Lib.hid (show V = 1 from by rw [← HV.out]; unfold bnd; rw [if_pos hb])
    clear hb hb'
    go_enter Try.func176, Try.ntmps176
    go_wp2_with fail
    refine (isSpaced_any B m d fs 6 w hf hm HA.out).mono ?_
    rw [H1.out]
    rintro e w1 ⟨rfl, hb1⟩
    go_wp2_with fail
    refine (containsFl_any B m d fs _ (hf.up hb1) hm).mono ?_
    rw [H2.out]
    rintro e w2 ⟨rfl, hb2⟩
    go_wp2
    go_ret
    exact ⟨ret_int HW.out.symm, below_next hb2 hb1 (Nat.le_refl _)⟩
  have HNB := Lib.hid hb
  rcases bool_cases (spaced fs 6) with h6 | h6
  all_goals
    have H6 := Lib.hid h6
    have HFL := Lib.hid (show spaced fs 6 = true → allFl fs = false from fun e => by rw [e, Bool.true_and] at hb; exact hb)
    clear hb h6
    go_enter Try.func176, Try.ntmps176
    go_wp2_with fail
    refine (isSpaced_any B m d fs 6 w hf hm HA.out).mono ?_
    rw [H6.out]
    rintro e w1 ⟨rfl, hb1⟩
  · go_wp2_with fail
    refine (containsFl_any B m d fs _ (hf.up hb1) hm).mono ?_
    rw [HFL.out H6.out]
    rintro e w2 ⟨rfl, hb2⟩
    have hbb := below_next hb2 hb1 (Nat.le_refl _)
    clear hb1 hb2
    go_wp2_with fail
    go_loopw [0, 16] (fun s i wr => ∃ (k n' : Nat) (A' : Option Addr) (c' : Nat), k ≤ m ∧ i = .int .i64 k ∧ s = .slice A' n' c' ∧ RI wr wr.heap.size A' n' (appS zs (fs.take k)) ∧ Hid (Pl A' c') ∧ n' ≤ c' ∧ c' ≤ maxLen ∧ witTo zs fs k = true ∧ Below w.heap.size w wr) (fun _ i _ => m - (intOf i).toNat)
    case atStart => exact ⟨0, n, A, c, Nat.zero_le _, rfl, rfl, h.up hbb, HPL.out, hnc, hcm, rfl, hbb⟩
    case round =>
      obtain ⟨k, n', A', c', hk, rfl, rfl, hri, HPL', hnc', hcm', hwi, hb⟩ := hrel
      have HWI := Lib.hid hwi
      have hn' : n' ≤ 8192 := by
        rw [← hri.len]; exact isBits_len (appS_bits HZ.out (allF_take' k HA.out))
      clear hwi hbb
      by_cases hlt : k < m
      · obtain ⟨b, o, rfl, _, hc⟩ := (hf.below hb (Nat.le_refl _)).get (by omega)
        have hc0 := hc k hlt 0 _ rfl
        have hc1 := hc k hlt 1 _ rfl
        have hc2 := hc k hlt 2 _ rfl
        have hc3 := hc k hlt 3 _ rfl
        clear hc
        rw [Nat.add_zero] at hc0
        have HBT := Lib.hid (appS_bits HZ.out (allF_take' k HA.out))
        have HFT := Lib.hid (allF_ge HA.out (k := k) (by rw [LF.out]; exact hlt))
        have ST := Lib.hid (appS_take (zs := zs) (fs := fs) (k := k) (by rw [LF.out]; exact hlt))
        have hbk := BlkL.new wr 76 #[.int .i64 (ge fs k).kd, .int .i64 (ge fs k).pos, .int .i64 (ge fs k).len, .int .i64 (ge fs k).val] rfl
        have HBK := Lib.hid hbk
        have HB := Lib.hid hb
        have HRI := Lib.hid hri
        clear hbk hb hri
        rcases bool_cases (within5 (appS zs (fs.take k)) (ge fs k)) with hw | hw
        · have HW := Lib.hid hw
          clear hw
          go_wp2_with fail
          refine (withinRun_any A' n' c' (appS zs (fs.take k)) (ge fs k).kd (ge fs k).pos (ge fs k).len (ge fs k).val _ (by exact HRI.out.alloc' _) (by omega) hnc' hcm').mono ?_
          rw [show within5 (appS zs (fs.take k)) ⟨(ge fs k).kd, (ge fs k).pos, (ge fs k).len, (ge fs k).val⟩ = _ from HW.out]
          rintro e w3 ⟨rfl, hb3⟩
          have K3 := BlkL.next hb3 HBK.out
          have s0 := K3.c 0 rfl
          have s1 := K3.c 1 rfl
          have s2 := K3.c 2 rfl
          have s3 := K3.c 3 rfl
          have hri3 := (HRI.out.alloc' _).up hb3
          have hB3 := below_next hb3 (below_alloc HB.out (Nat.le_refl _) _) (Nat.le_refl _)
          have HB3 := Lib.hid hB3
          clear K3 hb3 hB3 hc0 hc1 hc2 hc3
          go_wp2_with fail
          refine (ApplyScript.apfL A' n' c' _ (ge fs k) _ hri3 HBT.out HFT.out HPL'.out.cap).mono ?_
          rintro e w4 ⟨A4, n4, c4, rfl, hown4, hb4⟩
          have HO4 := Lib.hid hown4
          clear hown4
          go_wp2
          go_roundw
          case rel =>
            have e4 := HO4.out
            exact ⟨k + 1, n4, A4, c4, by omega, by go_num, rfl, by rw [ST.out]; exact e4.reads, e4.pl, e4.cap.1, e4.cap.2, by rw [witTo_succ, HWI.out, HW.out]; rfl, below_next hb4 HB3.out (Nat.le_refl _)⟩
          case measure => simp [intOf]; omega
        · have HW := Lib.hid hw
          have HR := Lib.hid (show V = 0 from by
            rw [← HV.out]; unfold bnd; rw [HNB.out, wit_no (by rw [LF.out]; exact hlt) hw, Bool.and_false]; rfl)
          clear hw
          go_wp2_with fail
          refine (withinRun_any A' n' c' (appS zs (fs.take k)) (ge fs k).kd (ge fs k).pos (ge fs k).len (ge fs k).val _ (by exact HRI.out.alloc' _) (by omega) hnc' hcm').mono ?_
          rw [show within5 (appS zs (fs.take k)) ⟨(ge fs k).kd, (ge fs k).pos, (ge fs k).len, (ge fs k).val⟩ = _ from HW.out]
          rintro e w3 ⟨rfl, hb3⟩
          go_wp2
          go_ret
          exact ⟨ret_int HR.out.symm, below_next hb3 (below_alloc HB.out (Nat.le_refl _) _) (Nat.le_refl _)⟩
      · have hkm : k = m := by omega
        have HWT := Lib.hid (show wit zs fs = true from by unfold wit; rw [LF.out, ← hkm]; exact HWI.out)
        clear hkm
        rcases bool_cases (spaced fs 160) with hs | hs
        all_goals
          have HS := Lib.hid hs
          have HR := Lib.hid (show V = if spaced fs 160 = true then 2 else 0 from by
            rw [← HV.out]; unfold bnd; rw [HNB.out, HWT.out, Bool.and_true]; rfl)
          clear hs
          go_wp2_with fail
          refine (isSpaced_any B m d fs 160 _ (by exact hf.up hb) hm HA.out).mono ?_
          rw [HS.out]
          rintro e w3 ⟨rfl, hb3⟩
          go_wp2
          go_ret
          exact ⟨ret_int (by rw [HR.out, HS.out]; rfl), below_next hb3 hb (Nat.le_refl _)⟩
  · have hbb := hb1
    go_wp2_with fail
    go_loopw [0, 16] (fun s i wr => ∃ (k n' : Nat) (A' : Option Addr) (c' : Nat), k ≤ m ∧ i = .int .i64 k ∧ s = .slice A' n' c' ∧ RI wr wr.heap.size A' n' (appS zs (fs.take k)) ∧ Hid (Pl A' c') ∧ n' ≤ c' ∧ c' ≤ maxLen ∧ witTo zs fs k = true ∧ Below w.heap.size w wr) (fun _ i _ => m - (intOf i).toNat)
    case atStart => exact ⟨0, n, A, c, Nat.zero_le _, rfl, rfl, h.up hbb, HPL.out, hnc, hcm, rfl, hbb⟩
    case round =>
      obtain ⟨k, n', A', c', hk, rfl, rfl, hri, HPL', hnc', hcm', hwi, hb⟩ := hrel
      have HWI := Lib.hid hwi
      have hn' : n' ≤ 8192 := by
        rw [← hri.len]; exact isBits_len (appS_bits HZ.out (allF_take' k HA.out))
      clear hwi hbb
      by_cases hlt : k < m
      · obtain ⟨b, o, rfl, _, hc⟩ := (hf.below hb (Nat.le_refl _)).get (by omega)
        have hc0 := hc k hlt 0 _ rfl
        have hc1 := hc k hlt 1 _ rfl
        have hc2 := hc k hlt 2 _ rfl
        have hc3 := hc k hlt 3 _ rfl
        clear hc
        rw [Nat.add_zero] at hc0
        have HBT := Lib.hid (appS_bits HZ.out (allF_take' k HA.out))
        have HFT := Lib.hid (allF_ge HA.out (k := k) (by rw [LF.out]; exact hlt))
        have ST := Lib.hid (appS_take (zs := zs) (fs := fs) (k := k) (by rw [LF.out]; exact hlt))
        have hbk := BlkL.new wr 76 #[.int .i64 (ge fs k).kd, .int .i64 (ge fs k).pos, .int .i64 (ge fs k).len, .int .i64 (ge fs k).val] rfl
        have HBK := Lib.hid hbk
        have HB := Lib.hid hb
        have HRI := Lib.hid hri
        clear hbk hb hri
        rcases bool_cases (within5 (appS zs (fs.take k)) (ge fs k)) with hw | hw
        · have HW := Lib.hid hw
          clear hw
          go_wp2_with fail
          refine (withinRun_any A' n' c' (appS zs (fs.take k)) (ge fs k).kd (ge fs k).pos (ge fs k).len (ge fs k).val _ (by exact HRI.out.alloc' _) (by omega) hnc' hcm').mono ?_
          rw [show within5 (appS zs (fs.take k)) ⟨(ge fs k).kd, (ge fs k).pos, (ge fs k).len, (ge fs k).val⟩ = _ from HW.out]
          rintro e w3 ⟨rfl, hb3⟩
          have K3 := BlkL.next hb3 HBK.out
          have s0 := K3.c 0 rfl
          have s1 := K3.c 1 rfl
          have s2 := K3.c 2 rfl
          have s3 := K3.c 3 rfl
          have hri3 := (HRI.out.alloc' _).up hb3
          have hB3 := below_next hb3 (below_alloc HB.out (Nat.le_refl _) _) (Nat.le_refl _)
          have HB3 := Lib.hid hB3
          clear K3 hb3 hB3 hc0 hc1 hc2 hc3
          go_wp2_with fail
          refine (ApplyScript.apfL A' n' c' _ (ge fs k) _ hri3 HBT.out HFT.out HPL'.out.cap).mono ?_
          rintro e w4 ⟨A4, n4, c4, rfl, hown4, hb4⟩
          have HO4 := Lib.hid hown4
          clear hown4
          go_wp2
          go_roundw
          case rel =>
            have e4 := HO4.out
            exact ⟨k + 1, n4, A4, c4, by omega, by go_num, rfl, by rw [ST.out]; exact e4.reads, e4.pl, e4.cap.1, e4.cap.2, by rw [witTo_succ, HWI.out, HW.out]; rfl, below_next hb4 HB3.out (Nat.le_refl _)⟩
          case measure => simp [intOf]; omega
        · have HW := Lib.hid hw
          have HR := Lib.hid (show V = 0 from by
            rw [← HV.out]; unfold bnd; rw [HNB.out, wit_no (by rw [LF.out]; exact hlt) hw, Bool.and_false]; rfl)
          clear hw
          go_wp2_with fail
          refine (withinRun_any A' n' c' (appS zs (fs.take k)) (ge fs k).kd (ge fs k).pos (ge fs k).len (ge fs k).val _ (by exact HRI.out.alloc' _) (by omega) hnc' hcm').mono ?_
          rw [show within5 (appS zs (fs.take k)) ⟨(ge fs k).kd, (ge fs k).pos, (ge fs k).len, (ge fs k).val⟩ = _ from HW.out]
          rintro e w3 ⟨rfl, hb3⟩
          go_wp2
          go_ret
          exact ⟨ret_int HR.out.symm, below_next hb3 (below_alloc HB.out (Nat.le_refl _) _) (Nat.le_refl _)⟩
      · have hkm : k = m := by omega
        have HWT := Lib.hid (show wit zs fs = true from by unfold wit; rw [LF.out, ← hkm]; exact HWI.out)
        clear hkm
        rcases bool_cases (spaced fs 160) with hs | hs
        all_goals
          have HS := Lib.hid hs
          have HR := Lib.hid (show V = if spaced fs 160 = true then 2 else 0 from by
            rw [← HV.out]; unfold bnd; rw [HNB.out, HWT.out, Bool.and_true]; rfl)
          clear hs
          go_wp2_with fail
          refine (isSpaced_any B m d fs 160 _ (by exact hf.up hb) hm HA.out).mono ?_
          rw [HS.out]
          rintro e w3 ⟨rfl, hb3⟩
          go_wp2
          go_ret
          exact ⟨ret_int (by rw [HR.out, HS.out]; rfl), below_next hb3 hb (Nat.le_refl _)⟩
end Go.Proofs.Ytlfbmedgkkfalaa
