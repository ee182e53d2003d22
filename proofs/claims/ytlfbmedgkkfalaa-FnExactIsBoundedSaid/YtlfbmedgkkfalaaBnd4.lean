/- The walks of the program's IsBounded and BoundOf. Conditions: none. -/
import Derived.Test.YtlfbmedgkkfalaaBnd3
namespace Go.Proofs.Ytlfbmedgkkfalaa
open Go.RowKit
namespace BoundOf
def val (zs : List Int) (fs : List Flt) : Int := if bsCode zs fs = 0 then bnd zs fs else 0
theorem bnd_rng (zs : List Int) (fs : List Flt) : bnd zs fs = 0 ∨ bnd zs fs = 1 ∨ bnd zs fs = 2 := by
  unfold bnd
  split
  · exact .inr (.inl rfl)
  · split
    · exact .inr (.inr rfl)
    · exact .inl rfl

set_option maxHeartbeats 4000000 in
theorem impl_any (A : Option Addr) (n c : Nat) (zs : List Int) (B : Option Addr) (m d : Nat) (fs : List Flt) (w : World) (h : RI w w.heap.size A n zs) (hn' : n ≤ 1099511627776) (hA : Pl A c) (hnc : n ≤ c) (hcm : c ≤ maxLen) (hf : RE encF 4 w w.heap.size B m fs) (hm' : m ≤ 1099511627776) :
    Calls Try.prog 79 #[.slice A n c, .slice B m d] w (RetV w (.tuple #[.int .i64 (val zs fs), .int .i64 (bsCode zs fs)])) := by
  obtain ⟨q, hq⟩ : ∃ q, bsCode zs fs = q := ⟨_, rfl⟩
  have HQ := Lib.hid hq
  by_cases h1 : q = 0
  case neg =>
    have h2 : (q != 0) = true := by simp [h1]
    have E1 := Lib.hid (show val zs fs = 0 from by unfold val; rw [hq, if_neg h1])
    clear hq h1
    go_enter Try.func79, Try.ntmps79
    go_wp2_with fail
    refine (scriptCode_any A B n c m d zs fs w h hn' hf hm').mono ?_
    rw [HQ.out]
    rintro e w1 ⟨rfl, hb1⟩
    go_wp2
    go_ret2
    rw [E1.out, HQ.out]
    exact ⟨rfl, hb1⟩
  subst h1
  obtain ⟨hbits, hscr⟩ := ApplyScript.bs_ok hq
  have HZ := Lib.hid hbits
  have HS := Lib.hid hscr
  have E1 := Lib.hid (show val zs fs = bnd zs fs from by unfold val; rw [hq, if_pos rfl])
  clear hq hbits hscr
  go_enter Try.func79, Try.ntmps79
  go_wp2_with fail
  refine (scriptCode_any A B n c m d zs fs w h hn' hf hm').mono ?_
  rw [HQ.out]
  rintro e w1 ⟨rfl, hb1⟩
  go_wp2_with fail
  refine (boundOf_any A n c zs B m d fs _ (h.up hb1) HZ.out hA hnc hcm (hf.up hb1) (isScript_all HS.out) hm').mono ?_
  rintro e w2 ⟨rfl, hb2⟩
  go_wp2
  go_ret2
  rw [E1.out, HQ.out]
  exact ⟨rfl, below_next hb2 hb1 (Nat.le_refl _)⟩
end BoundOf
namespace IsBounded
def val (zs : List Int) (fs : List Flt) : Bool := decide (bsCode zs fs = 0) && decide (0 < bnd zs fs)

set_option maxHeartbeats 4000000 in
theorem impl_any (A : Option Addr) (n c : Nat) (zs : List Int) (B : Option Addr) (m d : Nat) (fs : List Flt) (w : World) (h : RI w w.heap.size A n zs) (hn' : n ≤ 1099511627776) (hA : Pl A c) (hnc : n ≤ c) (hcm : c ≤ maxLen) (hf : RE encF 4 w w.heap.size B m fs) (hm' : m ≤ 1099511627776) :
    Calls Try.prog 77 #[.slice A n c, .slice B m d] w (RetV w (.bool (val zs fs))) := by
  obtain ⟨V, hV⟩ : ∃ V, val zs fs = V := ⟨_, rfl⟩
  rw [hV]
  have HV := Lib.hid hV
  clear hV
  obtain ⟨q, hq⟩ : ∃ q, bsCode zs fs = q := ⟨_, rfl⟩
  have HQ := Lib.hid hq
  by_cases h1 : q = 0
  case neg =>
    have h2 : (q == 0) = false := by simp [h1]
    have E1 := Lib.hid (show V = false from by rw [← HV.out]; unfold val; rw [hq]; simp [h1])
    clear hq h1
    go_enter Try.func77, Try.ntmps77
    go_wp2_with fail
    refine (scriptCode_any A B n c m d zs fs w h hn' hf hm').mono ?_
    rw [HQ.out]
    rintro e w1 ⟨rfl, hb1⟩
    go_wp2
    go_ret
    exact ⟨ret_bool E1.out.symm, hb1⟩
  subst h1
  obtain ⟨hbits, hscr⟩ := ApplyScript.bs_ok hq
  have HZ := Lib.hid hbits
  have HS := Lib.hid hscr
  obtain ⟨b, hb⟩ : ∃ b, bnd zs fs = b := ⟨_, rfl⟩
  have E1 := Lib.hid (show V = decide (0 < b) from by rw [← HV.out]; unfold val; rw [hq, hb]; rfl)
  have HBD := Lib.hid hb
  clear hq hbits hscr hb
  by_cases hp : 0 < b
  all_goals
    have HP := Lib.hid hp
    go_enter Try.func77, Try.ntmps77
    go_wp2_with fail
    refine (scriptCode_any A B n c m d zs fs w h hn' hf hm').mono ?_
    rw [HQ.out]
    rintro e w1 ⟨rfl, hb1⟩
    go_wp2_with fail
    refine (boundOf_any A n c zs B m d fs _ (h.up hb1) HZ.out hA hnc hcm (hf.up hb1) (isScript_all HS.out) hm').mono ?_
    rw [HBD.out]
    rintro e w2 ⟨rfl, hb2⟩
    go_wp2
    go_ret
    exact ⟨ret_bool (by rw [E1.out] <;> simp [HP.out]), below_next hb2 hb1 (Nat.le_refl _)⟩
end IsBounded
end Go.Proofs.Ytlfbmedgkkfalaa
