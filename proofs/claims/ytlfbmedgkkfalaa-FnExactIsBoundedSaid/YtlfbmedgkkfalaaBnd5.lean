/- The walks of the reference's l26Bound, IsBounded and BoundOf. Conditions: none. -/
import Derived.Test.YtlfbmedgkkfalaaBnd2
import Derived.Test.YtlfbmedgkkfalaaBnd4
namespace Go.Proofs.Ytlfbmedgkkfalaa
open Go.RowKit
set_option maxHeartbeats 4000000 in
theorem l26Bound_any (A : Option Addr) (n c : Nat) (zs : List Int) (B : Option Addr) (m d : Nat) (fs : List Flt) (w : World) (h : RI w w.heap.size A n zs) (hz : isBits zs = true) (hA : Pl A c) (hnc : n ≤ c) (hcm : c ≤ maxLen) (hf : RE encF 4 w w.heap.size B m fs) (hall : allF fs = true) (hm : m ≤ 1099511627776) :
    Calls Try.prog 175 #[.slice A n c, .slice B m d] w (RetV w (.int .i64 (bnd zs fs))) := by
  obtain ⟨V, hV⟩ : ∃ V, bnd zs fs = V := ⟨_, rfl⟩
  rw [hV]
  have HV := Lib.hid hV
  have HZ := Lib.hid hz
  have HA := Lib.hid hall
  have HPL := Lib.hid hA
  clear hV hz hall hA
  rcases bool_cases (spaced fs 6 && allFl fs) with h1 | h1
  case inl =>
    have H1 := Lib.hid h1
    have HW := Lib.hid (show V = 1 from by rw [← HV.out]; unfold bnd; rw [if_pos h1])
    clear h1
    go_enter Try.func175, Try.ntmps175
    go_wp2_with fail
    refine (l26Flips_any B m d fs w hf hm HA.out).mono ?_
    rw [H1.out]
    rintro e w1 ⟨rfl, hb1⟩
    go_wp2
    go_ret
    exact ⟨ret_int HW.out.symm, hb1⟩
  rcases bool_cases (spaced fs 160 && wit zs fs) with h2 | h2
  all_goals
    have H1 := Lib.hid h1
    have H2 := Lib.hid h2
    have HW := Lib.hid (show V = if (spaced fs 160 && wit zs fs) = true then 2 else 0 from by rw [← HV.out]; unfold bnd; rw [h1]; rfl)
    clear h1 h2
    go_enter Try.func175, Try.ntmps175
    go_wp2_with fail
    refine (l26Flips_any B m d fs w hf hm HA.out).mono ?_
    rw [H1.out]
    rintro e w1 ⟨rfl, hb1⟩
    go_wp2_with fail
    refine (l26Slips_any A n c zs B m d fs _ (h.up hb1) HZ.out HPL.out hnc hcm (hf.up hb1) HA.out hm).mono ?_
    rw [H2.out]
    rintro e w2 ⟨rfl, hb2⟩
    go_wp2
    go_ret
    exact ⟨ret_int (by rw [HW.out, H2.out]; rfl), below_next hb2 hb1 (Nat.le_refl _)⟩
namespace BoundOf
set_option maxHeartbeats 4000000 in
theorem spec_any (A : Option Addr) (n c : Nat) (zs : List Int) (B : Option Addr) (m d : Nat) (fs : List Flt) (w : World) (h : RI w w.heap.size A n zs) (hn' : n ≤ 1099511627776) (hA : Pl A c) (hnc : n ≤ c) (hcm : c ≤ maxLen) (hf : RE encF 4 w w.heap.size B m fs) (hm' : m ≤ 1099511627776) :
    Calls Try.prog 78 #[.slice A n c, .slice B m d] w (RetV w (.tuple #[.int .i64 (val zs fs), .int .i64 (bsCode zs fs)])) := by
  obtain ⟨q, hq⟩ : ∃ q, bsCode zs fs = q := ⟨_, rfl⟩
  have HQ := Lib.hid hq
  by_cases h1 : q = 0
  case neg =>
    have h2 : (q != 0) = true := by simp [h1]
    have E1 := Lib.hid (show val zs fs = 0 from by unfold val; rw [hq, if_neg h1])
    clear hq h1
    go_enter Try.func78, Try.ntmps78
    go_wp2_with fail
    refine (l26Code_any A B n c m d zs fs w h hn' hf hm').mono ?_
    rw [HQ.out]
    rintro e w1 ⟨rfl, hb1⟩
    go_wp2
    go_ret2
    rw [E1.out, HQ.out]
    exact ⟨rfl, hb1⟩
  subst h1
  obtain ⟨hbits, hscr⟩ := ApplyScript.bs_ok hq
  have HZ := Lib.hid hbits
  have HS := Lib.hid hscr
  have E1 := Lib.hid (show val zs fs = bnd zs fs from by unfold val; rw [hq, if_pos rfl])
  clear hq hbits hscr
  go_enter Try.func78, Try.ntmps78
  go_wp2_with fail
  refine (l26Code_any A B n c m d zs fs w h hn' hf hm').mono ?_
  rw [HQ.out]
  rintro e w1 ⟨rfl, hb1⟩
  go_wp2_with fail
  refine (l26Bound_any A n c zs B m d fs _ (h.up hb1) HZ.out hA hnc hcm (hf.up hb1) (isScript_all HS.out) hm').mono ?_
  rintro e w2 ⟨rfl, hb2⟩
  go_wp2
  go_ret2
  rw [E1.out, HQ.out]
  exact ⟨rfl, below_next hb2 hb1 (Nat.le_refl _)⟩
end BoundOf
namespace IsBounded
set_option maxHeartbeats 4000000 in
theorem spec_any (A : Option Addr) (n c : Nat) (zs : List Int) (B : Option Addr) (m d : Nat) (fs : List Flt) (w : World) (h : RI w w.heap.size A n zs) (hn' : n ≤ 1099511627776) (hA : Pl A c) (hnc : n ≤ c) (hcm : c ≤ maxLen) (hf : RE encF 4 w w.heap.size B m fs) (hm' : m ≤ 1099511627776) :
    Calls Try.prog 76 #[.slice A n c, .slice B m d] w (RetV w (.bool (val zs fs))) := by
  obtain ⟨V, hV⟩ : ∃ V, val zs fs = V := ⟨_, rfl⟩
  rw [hV]
  have HV := Lib.hid hV
  clear hV
  obtain ⟨q, hq⟩ : ∃ q, bsCode zs fs = q := ⟨_, rfl⟩
  have HQ := Lib.hid hq
  by_cases h1 : q = 0
  case neg =>
    have h2 : (q == 0) = false := by simp [h1]
    have E1 := Lib.hid (show V = false from by rw [← HV.out]; unfold val; rw [hq]; simp [h1])
    clear hq h1
    go_enter Try.func76, Try.ntmps76
    go_wp2_with fail
    refine (l26Code_any A B n c m d zs fs w h hn' hf hm').mono ?_
    rw [HQ.out]
    rintro e w1 ⟨rfl, hb1⟩
    go_wp2
    go_ret
    exact ⟨ret_bool E1.out.symm, hb1⟩
  subst h1
  obtain ⟨hbits, hscr⟩ := ApplyScript.bs_ok hq
  have HZ := Lib.hid hbits
  have HS := Lib.hid hscr
  obtain ⟨b, hb⟩ : ∃ b, bnd zs fs = b := ⟨_, rfl⟩
  have E1 := Lib.hid (show V = decide (0 < b) from by rw [← HV.out]; unfold val; rw [hq, hb]; rfl)
  have HBD := Lib.hid hb
  clear hq hbits hscr hb
  by_cases hp : 0 < b
  all_goals
    have HP := Lib.hid hp
    go_enter Try.func76, Try.ntmps76
    go_wp2_with fail
    refine (l26Code_any A B n c m d zs fs w h hn' hf hm').mono ?_
    rw [HQ.out]
    rintro e w1 ⟨rfl, hb1⟩
    go_wp2_with fail
    refine (l26Bound_any A n c zs B m d fs _ (h.up hb1) HZ.out hA hnc hcm (hf.up hb1) (isScript_all HS.out) hm').mono ?_
    rw [HBD.out]
    rintro e w2 ⟨rfl, hb2⟩
    go_wp2
    go_ret
    exact ⟨ret_bool (by rw [E1.out] <;> simp [HP.out]), below_next hb2 hb1 (Nat.le_refl _)⟩
end IsBounded
end Go.Proofs.Ytlfbmedgkkfalaa
