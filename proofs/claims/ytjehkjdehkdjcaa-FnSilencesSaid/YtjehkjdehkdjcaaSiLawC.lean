/- FnSilences: a silence keeps what lies before it and is high behind it, and inverted cells differ in eight samples each, for every code. Conditions: none. -/
import Derived.Test.YtjehkjdehkdjcaaB2
import Derived.Test.YtjehkjdehkdjcaaB9
import Derived.Test.YtjehkjdehkdjcaaB17
import Derived.Test.YtjehkjdehkdjcaaB12
import Derived.Test.YtjehkjdehkdjcaaB13
import Derived.Test.YtjehkjdehkdjcaaB7
import Derived.Test.YtjehkjdehkdjcaaB5
import Derived.Test.YtjehkjdehkdjcaaB6
import Derived.Test.YtjehkjdehkdjcaaB1
import Derived.BigQuiet
import Derived.IntWalk
namespace Go.Proofs.Ytjehkjdehkdjcaa
open Go.ChangeShapes Go.WideShapes Go.ChangeAt Go.RowKit
namespace FnSilences

theorem likeS (A A' : Option Addr) (n c c' : Nat) (xs : List Int) (w : World) (hx : RI w w.heap.size A n xs) (hy : RI w w.heap.size A' n xs) (hn : n ≤ 1099511627776) :
    Calls Try.prog 32 #[.slice A n c, .slice A' n c'] w fun e w' => e = .returned (.bool true) ∧ ∃ m, w' = w.drewN m := by
  have h := likeInts_any A A' n n c c' xs xs w hx hy hn hn
  rwa [eqI_self] at h

set_option maxRecDepth 100000 in
set_option maxHeartbeats 16000000 in
theorem walk (w : World) (A : Option Addr) (n c : Nat) (bs : List Int) (h : RB w w.heap.size A n bs) (hn : n ≤ maxLen) :
    Calls Try.prog 7 #[.slice A n c] w fun e w' => e = .returned (.bool true) ∧ Below w.heap.size w w' := by
  rcases bool_cases (decide (4096 < n)) with hbig | hbig
  · go_enter Try.func7, Try.ntmps7
    go_wp2_with (go_at_call 21; refine (big_any _ _ _ _ hn).mono ?_; rw [hbig]; rintro e w' ⟨rfl, rfl⟩)
    go_ret
    exact ⟨rfl, Below.refl _ _⟩
  have hn4 : n ≤ 4096 := by simpa using hbig
  have B := Lib.hid (Below.refl w.heap.size w)
  go_enter Try.func7, Try.ntmps7
  go_wp2_with (go_at_call 21; refine (big_any _ _ _ _ hn).mono ?_; rw [hbig]; rintro e w' ⟨rfl, rfl⟩)
  clear hbig hn
  refine (drawSilenceFrom_any A n c bs _ ((h.below B.out (Nat.le_refl _)).more B.out.size) (by omega)).mono ?_
  rintro e w1 ⟨A_s, n_s, c_s, z_s, p, rfl, o_s, hn_s, hp, hb⟩
  replace B := Lib.hid (below_next hb B.out (Nat.le_refl _))
  have r_s := o_s.reads
  have L_s := Lib.hid o_s.len
  have non_s := Lib.hid (own_none o_s)
  have pl_s := Lib.hid o_s.pl
  have cap_s := o_s.cap
  clear hb o_s
  obtain ⟨F, hF⟩ : ∃ x, SilenceFrom.res z_s p = x := ⟨_, rfl⟩
  obtain ⟨q, hq⟩ : ∃ x, SilenceFrom.cod z_s p = x := ⟨_, rfl⟩
  have HF := Lib.hid hF
  have HQ := Lib.hid hq
  have hFl : F.length ≤ 8200 := by rw [← hF]; exact Nat.le_trans (SilenceFrom.res_len _ _) (by rw [L_s.out]; exact hn_s)
  have HFL := Lib.hid hFl
  clear hF hq hFl
  go_wp2_with fail
  refine (SilenceFrom.impl_any A_s n_s c_s z_s p _ r_s (by omega) non_s.out).mono ?_
  rw [HF.out, HQ.out]
  rintro e w2 ⟨A_x, n_x, c_x, rfl, o_x, hb⟩
  replace B := Lib.hid (below_next hb B.out (Nat.le_refl _))
  replace r_s := r_s.up hb
  have r_x := o_x.reads
  have L_x := Lib.hid o_x.len
  have pl_x := Lib.hid o_x.pl
  have cap_x := o_x.cap
  clear hb o_x
  go_wp2_with fail
  refine (SilenceFrom.spec_any A_s n_s c_s z_s p _ r_s (by omega) non_s.out).mono ?_
  rw [HF.out, HQ.out]
  rintro e w3 ⟨A_y, n_y, c_y, rfl, o_y, hb⟩
  replace B := Lib.hid (below_next hb B.out (Nat.le_refl _))
  replace r_s := r_s.up hb
  replace r_x := r_x.up hb
  have r_y := o_y.reads
  have L_y := Lib.hid o_y.len
  clear hb o_y
  go_wp2_with fail
  refine (drawInvertCells_any A n c bs _ ((h.below B.out (Nat.le_refl _)).more B.out.size) (by omega)).mono ?_
  rintro e w4 ⟨A_i, n_i, c_i, z_i, A_l, n_l, c_l, z_l, rfl, o_i, hn_i, o_l, hn_l, hb⟩
  replace B := Lib.hid (below_next hb B.out (Nat.le_refl _))
  replace r_s := r_s.up hb
  replace r_x := r_x.up hb
  replace r_y := r_y.up hb
  have r_i := o_i.reads
  have L_i := Lib.hid o_i.len
  have r_l := o_l.reads
  have L_l := Lib.hid o_l.len
  have non_l := Lib.hid (own_none o_l)
  clear hb o_i o_l
  obtain ⟨E, hE⟩ : ∃ x, InvertCells.res z_i z_l = x := ⟨_, rfl⟩
  obtain ⟨r, hr⟩ : ∃ x, InvertCells.cod z_i z_l = x := ⟨_, rfl⟩
  have HE := Lib.hid hE
  have HR := Lib.hid hr
  have hEl : E.length ≤ 8200 := by rw [← hE]; exact Nat.le_trans (InvertCells.res_len _ _) (by rw [L_i.out]; exact hn_i)
  have HEL := Lib.hid hEl
  clear hE hr hEl
  go_wp2_with fail
  refine (InvertCells.impl_any A_i n_i c_i z_i A_l n_l c_l z_l _ r_i (by omega) (by omega) r_l (by omega) (by omega)).mono ?_
  rw [HE.out, HR.out]
  rintro e w5 ⟨A_e, n_e, c_e, rfl, o_e, hb⟩
  replace B := Lib.hid (below_next hb B.out (Nat.le_refl _))
  replace r_s := r_s.up hb
  replace r_x := r_x.up hb
  replace r_y := r_y.up hb
  replace r_i := r_i.up hb
  replace r_l := r_l.up hb
  have r_e := o_e.reads encF_len
  have L_e := Lib.hid o_e.len
  clear hb o_e
  go_wp2_with fail
  refine (InvertCells.spec_any A_i n_i c_i z_i A_l n_l c_l z_l _ r_i (by omega) (by omega) r_l (by omega) (by omega)).mono ?_
  rw [HE.out, HR.out]
  rintro e w6 ⟨A_m, n_m, c_m, rfl, o_m, hb⟩
  replace B := Lib.hid (below_next hb B.out (Nat.le_refl _))
  replace r_s := r_s.up hb
  replace r_x := r_x.up hb
  replace r_y := r_y.up hb
  replace r_i := r_i.up hb
  replace r_l := r_l.up hb
  replace r_e := r_e.up hb
  have r_m := o_m.reads encF_len
  have L_m := Lib.hid o_m.len
  clear hb o_m
  obtain ⟨N, hN⟩ : ∃ x, F.length = x := ⟨_, rfl⟩
  have HN := Lib.hid hN
  have hNl := HFL.out
  rw [hN] at hNl
  have e_x : N = n_x := by have := L_x.out; omega
  subst e_x
  have e_y : N = n_y := by have := L_y.out; omega
  subst e_y
  clear hN
  obtain ⟨K, hK⟩ : ∃ x, E.length = x := ⟨_, rfl⟩
  have HK := Lib.hid hK
  have hKl := HEL.out
  rw [hK] at hKl
  have e_e : K = n_e := by have := L_e.out; omega
  subst e_e
  have e_m : K = n_m := by have := L_m.out; omega
  subst e_m
  clear hK
  go_wp2_with fail
  have lk := likeIntsV A_x A_y (N) (N) c_x c_y F F _ r_x r_y (by omega) (by omega)
  rw [eqI_self] at lk
  refine lk.mono ?_
  clear lk
  rintro e w7 ⟨rfl, hb⟩
  replace B := Lib.hid (below_next hb B.out (Nat.le_refl _))
  replace r_s := r_s.up hb
  replace r_x := r_x.up hb
  replace r_y := r_y.up hb
  replace r_i := r_i.up hb
  replace r_l := r_l.up hb
  replace r_e := r_e.up hb
  replace r_m := r_m.up hb
  clear hb
  go_wp2_with fail
  have lk := likeFaultsV A_e A_m (K) c_e c_m E _ r_e r_m (by omega)
  refine lk.mono ?_
  clear lk
  rintro e w8 ⟨rfl, hb⟩
  replace B := Lib.hid (below_next hb B.out (Nat.le_refl _))
  replace r_s := r_s.up hb
  replace r_x := r_x.up hb
  replace r_y := r_y.up hb
  replace r_i := r_i.up hb
  replace r_l := r_l.up hb
  replace r_e := r_e.up hb
  replace r_m := r_m.up hb
  clear hb
  clear r_y
  clear r_m
  rcases ne_cases r with rfl | ⟨h1, h2, h3⟩
  case inl =>
    by_cases hK30 : K ≤ 30
    case pos =>
      obtain ⟨v1, v2, v3, v4, v5⟩ := inv_law HR.out (by rw [HE.out, HK.out]; exact hK30)
      rw [HE.out] at v1 v2 v4 v5
      have r1 : ApplyScript.res z_l E = appS z_l E := by unfold ApplyScript.res; rw [if_pos v1]
      obtain ⟨Y, hY⟩ : ∃ x, appS z_l E = x := ⟨_, rfl⟩
      rw [hY] at v2 v4 v5 r1
      rw [L_l.out] at v2 v5
      rw [L_i.out] at v5
      have R1 := Lib.hid r1
      have V1 := Lib.hid v1
      have V2 := Lib.hid v2
      have V3 := Lib.hid v3
      have V4 := Lib.hid v4
      have V5 := Lib.hid v5
      have hl8 : n_l ≤ 8192 := by have := (isBits_iff.1 v3).1; have := L_l.out; omega
      have hK31 : (K : Int) ≤ 30 := by omega
      clear v1 v2 v3 v4 v5 r1 hY
      go_wp2_with fail
      refine (ApplyScript.impl_any A_l n_l c_l z_l A_e K c_e E _ r_l (by omega) non_l.out r_e (by omega)).mono ?_
      rw [R1.out, V1.out]
      rintro e w9 ⟨A_v, n_v, c_v, rfl, o_v, hb⟩
      replace B := Lib.hid (below_next hb B.out (Nat.le_refl _))
      replace r_s := r_s.up hb
      replace r_x := r_x.up hb
      replace r_i := r_i.up hb
      replace r_l := r_l.up hb
      replace r_e := r_e.up hb
      have r_v := o_v.reads
      have L_v := Lib.hid o_v.len
      clear hb o_v
      have e_v : n_l = n_v := by have := L_v.out; have := V2.out; omega
      subst e_v
      go_wp2_with fail
      refine (differingBits_any A_l A_v n_l c_l c_v z_l Y _ r_l r_v hl8 V3.out V4.out).mono ?_
      rw [V5.out]
      rintro e w10 ⟨A_d, c_d, z_d, rfl, o_d, hb⟩
      replace B := Lib.hid (below_next hb B.out (Nat.le_refl _))
      replace r_s := r_s.up hb
      replace r_x := r_x.up hb
      replace r_i := r_i.up hb
      replace r_l := r_l.up hb
      replace r_e := r_e.up hb
      replace r_v := r_v.up hb
      have r_d := o_d.reads
      have L_d := Lib.hid o_d.len
      clear hb o_d
      clear r_i
      clear r_l
      clear r_e
      clear r_v
      clear r_d
      rcases ne_cases q with rfl | ⟨g1, g2, g3⟩
      case inr =>
        go_wp2
        go_ret
        exact ⟨rfl, B.out⟩
      obtain ⟨s1, s2, s3⟩ := sil_law HQ.out
      rw [HF.out] at s3
      obtain ⟨a, rfl⟩ : ∃ a : Nat, p = a := ⟨p.toNat, by omega⟩
      rw [Int.toNat_natCast] at s3
      have e_x : N = n_s := by have := HN.out; rw [s3, silF_len, L_s.out] at this; exact this.symm
      subst e_x
      have hn8 : N ≤ 8192 := by have := (isBits_iff.1 s1).1; have := L_s.out; omega
      rw [L_s.out] at s3
      subst s3
      clear s1
      by_cases hat : a < N
      · have hat1 : (a : Int) < (N : Int) := by omega
        have hcx : a ≤ c_x := Nat.le_trans (by omega) cap_x.1
        have hcs : a ≤ c_s := Nat.le_trans (by omega) cap_s.1
        have hcx1 : (a : Int) ≤ (c_x : Int) := by omega
        have hcs1 : (a : Int) ≤ (c_s : Int) := by omega
        have hcx2 : (N : Int) ≤ (c_x : Int) := by have := cap_x.1; omega
        have hat2 : (a : Int) ≤ (N : Int) := by omega
        obtain ⟨b, o, rfl, _, _⟩ := r_x.get (by omega)
        obtain ⟨b1, o1, rfl, _, _⟩ := r_s.get (by omega)
        have tk : (silF z_s a N).take a = z_s.take a := by
          refine ext_gi (by rw [List.length_take, List.length_take, silF_len]) fun i hi => ?_
          rw [List.length_take, silF_len] at hi
          rw [gi_take (by omega), gi_take (by omega), silF_gi (by omega), if_neg (by omega)]
        have rp := r_x.pre (k := a) (by omega)
        rw [tk] at rp
        have RP := Lib.hid rp
        have RS := Lib.hid (r_s.pre (k := a) (by omega))
        have RD := Lib.hid (r_x.suf (k := a) (by omega))
        have ON := Lib.hid (show ∀ i, i < N - a → gi ((silF z_s a N).drop a) i = 1 from fun i hi => by rw [gi_drop, silF_gi (by have := L_s.out; omega), if_pos (by omega)])
        have f1 : ((N - a : Nat) : Int) = (N : Int) - (a : Int) := by omega
        clear tk rp
        go_wp2_with fail
        go_quiet (first
          | (go_at_call 32; exact Calls.quiet_of (likeS _ _ a _ _ (z_s.take a) _ RP.out RS.out (by omega)))
          | (go_at_call 56; exact quiet_same (sum_ones _ (N - a) _ _ _ RD.out ON.out (by omega))))
        go_wp2
        go_ret
        exact ⟨rfl, below_drewN B.out _⟩
      · have hat1 : ¬ (a : Int) < (N : Int) := by omega
        have hcx : N ≤ c_x := cap_x.1
        have hcs : N ≤ c_s := cap_s.1
        have hcx1 : (N : Int) ≤ (c_x : Int) := by omega
        have hcs1 : (N : Int) ≤ (c_s : Int) := by omega
        have tk : silF z_s a N = z_s := silF_none (by omega)
        rw [tk] at r_x
        have RP := Lib.hid (r_x.pre (k := N) (by omega))
        have RS := Lib.hid (r_s.pre (k := N) (by omega))
        have f1 : (N : Int) - (N : Int) = 0 := by omega
        clear tk
        rcases (show N < a ∨ N = a by omega) with hNa | hNa
        · have hNa1 : (N : Int) < (a : Int) := by omega
          rcases pl_x.out with ⟨rfl, rfl⟩ | ⟨b, o, rfl⟩
          · rcases pl_s.out with ⟨rfl, rfl⟩ | ⟨b1, o1, rfl⟩
            · obtain rfl : N = 0 := by omega
              go_wp2_with fail
              go_quiet (first
                | (go_at_call 32; exact Calls.quiet_of (likeS _ _ 0 _ _ (z_s.take 0) _ RP.out RS.out (by omega)))
                | (go_at_call 56; exact quiet_same (sum_ones _ 0 _ [] _ (RI.nil _ _ _) (fun i hi => absurd hi (by omega)) (by omega))))
              go_wp2
              all_goals
                go_ret
                exact ⟨rfl, below_drewN B.out _⟩
            · obtain rfl : N = 0 := by omega
              go_wp2_with fail
              go_quiet (first
                | (go_at_call 32; exact Calls.quiet_of (likeS _ _ 0 _ _ (z_s.take 0) _ RP.out RS.out (by omega)))
                | (go_at_call 56; exact quiet_same (sum_ones _ 0 _ [] _ (RI.nil _ _ _) (fun i hi => absurd hi (by omega)) (by omega))))
              go_wp2
              all_goals
                go_ret
                exact ⟨rfl, below_drewN B.out _⟩
          · rcases pl_s.out with ⟨rfl, rfl⟩ | ⟨b1, o1, rfl⟩
            · obtain rfl : N = 0 := by omega
              go_wp2_with fail
              go_quiet (first
                | (go_at_call 32; exact Calls.quiet_of (likeS _ _ 0 _ _ (z_s.take 0) _ RP.out RS.out (by omega)))
                | (go_at_call 56; exact quiet_same (sum_ones _ 0 _ [] _ (RI.nil _ _ _) (fun i hi => absurd hi (by omega)) (by omega))))
              go_wp2
              all_goals
                go_ret
                exact ⟨rfl, below_drewN B.out _⟩
            · go_wp2_with fail
              go_quiet (first
                | (go_at_call 32; exact Calls.quiet_of (likeS _ _ N _ _ (z_s.take N) _ RP.out RS.out (by omega)))
                | (go_at_call 56; exact quiet_same (sum_ones _ 0 _ [] _ (RI.nil _ _ _) (fun i hi => absurd hi (by omega)) (by omega))))
              go_wp2
              all_goals
                go_ret
                exact ⟨rfl, below_drewN B.out _⟩
        · subst hNa
          rcases pl_x.out with ⟨rfl, rfl⟩ | ⟨b, o, rfl⟩
          · rcases pl_s.out with ⟨rfl, rfl⟩ | ⟨b1, o1, rfl⟩
            · obtain rfl : N = 0 := by omega
              go_wp2_with fail
              go_quiet (first
                | (go_at_call 32; exact Calls.quiet_of (likeS _ _ 0 _ _ (z_s.take 0) _ RP.out RS.out (by omega)))
                | (go_at_call 56; exact quiet_same (sum_ones _ 0 _ [] _ (RI.nil _ _ _) (fun i hi => absurd hi (by omega)) (by omega))))
              go_wp2
              all_goals
                go_ret
                exact ⟨rfl, below_drewN B.out _⟩
            · obtain rfl : N = 0 := by omega
              go_wp2_with fail
              go_quiet (first
                | (go_at_call 32; exact Calls.quiet_of (likeS _ _ 0 _ _ (z_s.take 0) _ RP.out RS.out (by omega)))
                | (go_at_call 56; exact quiet_same (sum_ones _ 0 _ [] _ (RI.nil _ _ _) (fun i hi => absurd hi (by omega)) (by omega))))
              go_wp2
              all_goals
                go_ret
                exact ⟨rfl, below_drewN B.out _⟩
          · rcases pl_s.out with ⟨rfl, rfl⟩ | ⟨b1, o1, rfl⟩
            · obtain rfl : N = 0 := by omega
              go_wp2_with fail
              go_quiet (first
                | (go_at_call 32; exact Calls.quiet_of (likeS _ _ 0 _ _ (z_s.take 0) _ RP.out RS.out (by omega)))
                | (go_at_call 56; exact quiet_same (sum_ones _ 0 _ [] _ (RI.nil _ _ _) (fun i hi => absurd hi (by omega)) (by omega))))
              go_wp2
              all_goals
                go_ret
                exact ⟨rfl, below_drewN B.out _⟩
            · go_wp2_with fail
              go_quiet (first
                | (go_at_call 32; exact Calls.quiet_of (likeS _ _ N _ _ (z_s.take N) _ RP.out RS.out (by omega)))
                | (go_at_call 56; exact quiet_same (sum_ones _ 0 _ [] _ (RI.nil _ _ _) (fun i hi => absurd hi (by omega)) (by omega))))
              go_wp2
              all_goals
                go_ret
                exact ⟨rfl, below_drewN B.out _⟩
    case neg =>
      have hK31 : ¬ (K : Int) ≤ 30 := by omega
      clear r_i
      clear r_l
      clear r_e
      rcases ne_cases q with rfl | ⟨g1, g2, g3⟩
      case inr =>
        go_wp2
        go_ret
        exact ⟨rfl, B.out⟩
      obtain ⟨s1, s2, s3⟩ := sil_law HQ.out
      rw [HF.out] at s3
      obtain ⟨a, rfl⟩ : ∃ a : Nat, p = a := ⟨p.toNat, by omega⟩
      rw [Int.toNat_natCast] at s3
      have e_x : N = n_s := by have := HN.out; rw [s3, silF_len, L_s.out] at this; exact this.symm
      subst e_x
      have hn8 : N ≤ 8192 := by have := (isBits_iff.1 s1).1; have := L_s.out; omega
      rw [L_s.out] at s3
      subst s3
      clear s1
      by_cases hat : a < N
      · have hat1 : (a : Int) < (N : Int) := by omega
        have hcx : a ≤ c_x := Nat.le_trans (by omega) cap_x.1
        have hcs : a ≤ c_s := Nat.le_trans (by omega) cap_s.1
        have hcx1 : (a : Int) ≤ (c_x : Int) := by omega
        have hcs1 : (a : Int) ≤ (c_s : Int) := by omega
        have hcx2 : (N : Int) ≤ (c_x : Int) := by have := cap_x.1; omega
        have hat2 : (a : Int) ≤ (N : Int) := by omega
        obtain ⟨b, o, rfl, _, _⟩ := r_x.get (by omega)
        obtain ⟨b1, o1, rfl, _, _⟩ := r_s.get (by omega)
        have tk : (silF z_s a N).take a = z_s.take a := by
          refine ext_gi (by rw [List.length_take, List.length_take, silF_len]) fun i hi => ?_
          rw [List.length_take, silF_len] at hi
          rw [gi_take (by omega), gi_take (by omega), silF_gi (by omega), if_neg (by omega)]
        have rp := r_x.pre (k := a) (by omega)
        rw [tk] at rp
        have RP := Lib.hid rp
        have RS := Lib.hid (r_s.pre (k := a) (by omega))
        have RD := Lib.hid (r_x.suf (k := a) (by omega))
        have ON := Lib.hid (show ∀ i, i < N - a → gi ((silF z_s a N).drop a) i = 1 from fun i hi => by rw [gi_drop, silF_gi (by have := L_s.out; omega), if_pos (by omega)])
        have f1 : ((N - a : Nat) : Int) = (N : Int) - (a : Int) := by omega
        clear tk rp
        go_wp2_with fail
        go_quiet (first
          | (go_at_call 32; exact Calls.quiet_of (likeS _ _ a _ _ (z_s.take a) _ RP.out RS.out (by omega)))
          | (go_at_call 56; exact quiet_same (sum_ones _ (N - a) _ _ _ RD.out ON.out (by omega))))
        go_wp2
        go_ret
        exact ⟨rfl, below_drewN B.out _⟩
      · have hat1 : ¬ (a : Int) < (N : Int) := by omega
        have hcx : N ≤ c_x := cap_x.1
        have hcs : N ≤ c_s := cap_s.1
        have hcx1 : (N : Int) ≤ (c_x : Int) := by omega
        have hcs1 : (N : Int) ≤ (c_s : Int) := by omega
        have tk : silF z_s a N = z_s := silF_none (by omega)
        rw [tk] at r_x
        have RP := Lib.hid (r_x.pre (k := N) (by omega))
        have RS := Lib.hid (r_s.pre (k := N) (by omega))
        have f1 : (N : Int) - (N : Int) = 0 := by omega
        clear tk
        rcases (show N < a ∨ N = a by omega) with hNa | hNa
        · have hNa1 : (N : Int) < (a : Int) := by omega
          rcases pl_x.out with ⟨rfl, rfl⟩ | ⟨b, o, rfl⟩
          · rcases pl_s.out with ⟨rfl, rfl⟩ | ⟨b1, o1, rfl⟩
            · obtain rfl : N = 0 := by omega
              go_wp2_with fail
              go_quiet (first
                | (go_at_call 32; exact Calls.quiet_of (likeS _ _ 0 _ _ (z_s.take 0) _ RP.out RS.out (by omega)))
                | (go_at_call 56; exact quiet_same (sum_ones _ 0 _ [] _ (RI.nil _ _ _) (fun i hi => absurd hi (by omega)) (by omega))))
              go_wp2
              all_goals
                go_ret
                exact ⟨rfl, below_drewN B.out _⟩
            · obtain rfl : N = 0 := by omega
              go_wp2_with fail
              go_quiet (first
                | (go_at_call 32; exact Calls.quiet_of (likeS _ _ 0 _ _ (z_s.take 0) _ RP.out RS.out (by omega)))
                | (go_at_call 56; exact quiet_same (sum_ones _ 0 _ [] _ (RI.nil _ _ _) (fun i hi => absurd hi (by omega)) (by omega))))
              go_wp2
              all_goals
                go_ret
                exact ⟨rfl, below_drewN B.out _⟩
          · rcases pl_s.out with ⟨rfl, rfl⟩ | ⟨b1, o1, rfl⟩
            · obtain rfl : N = 0 := by omega
              go_wp2_with fail
              go_quiet (first
                | (go_at_call 32; exact Calls.quiet_of (likeS _ _ 0 _ _ (z_s.take 0) _ RP.out RS.out (by omega)))
                | (go_at_call 56; exact quiet_same (sum_ones _ 0 _ [] _ (RI.nil _ _ _) (fun i hi => absurd hi (by omega)) (by omega))))
              go_wp2
              all_goals
                go_ret
                exact ⟨rfl, below_drewN B.out _⟩
            · go_wp2_with fail
              go_quiet (first
                | (go_at_call 32; exact Calls.quiet_of (likeS _ _ N _ _ (z_s.take N) _ RP.out RS.out (by omega)))
                | (go_at_call 56; exact quiet_same (sum_ones _ 0 _ [] _ (RI.nil _ _ _) (fun i hi => absurd hi (by omega)) (by omega))))
              go_wp2
              all_goals
                go_ret
                exact ⟨rfl, below_drewN B.out _⟩
        · subst hNa
          rcases pl_x.out with ⟨rfl, rfl⟩ | ⟨b, o, rfl⟩
          · rcases pl_s.out with ⟨rfl, rfl⟩ | ⟨b1, o1, rfl⟩
            · obtain rfl : N = 0 := by omega
              go_wp2_with fail
              go_quiet (first
                | (go_at_call 32; exact Calls.quiet_of (likeS _ _ 0 _ _ (z_s.take 0) _ RP.out RS.out (by omega)))
                | (go_at_call 56; exact quiet_same (sum_ones _ 0 _ [] _ (RI.nil _ _ _) (fun i hi => absurd hi (by omega)) (by omega))))
              go_wp2
              all_goals
                go_ret
                exact ⟨rfl, below_drewN B.out _⟩
            · obtain rfl : N = 0 := by omega
              go_wp2_with fail
              go_quiet (first
                | (go_at_call 32; exact Calls.quiet_of (likeS _ _ 0 _ _ (z_s.take 0) _ RP.out RS.out (by omega)))
                | (go_at_call 56; exact quiet_same (sum_ones _ 0 _ [] _ (RI.nil _ _ _) (fun i hi => absurd hi (by omega)) (by omega))))
              go_wp2
              all_goals
                go_ret
                exact ⟨rfl, below_drewN B.out _⟩
          · rcases pl_s.out with ⟨rfl, rfl⟩ | ⟨b1, o1, rfl⟩
            · obtain rfl : N = 0 := by omega
              go_wp2_with fail
              go_quiet (first
                | (go_at_call 32; exact Calls.quiet_of (likeS _ _ 0 _ _ (z_s.take 0) _ RP.out RS.out (by omega)))
                | (go_at_call 56; exact quiet_same (sum_ones _ 0 _ [] _ (RI.nil _ _ _) (fun i hi => absurd hi (by omega)) (by omega))))
              go_wp2
              all_goals
                go_ret
                exact ⟨rfl, below_drewN B.out _⟩
            · go_wp2_with fail
              go_quiet (first
                | (go_at_call 32; exact Calls.quiet_of (likeS _ _ N _ _ (z_s.take N) _ RP.out RS.out (by omega)))
                | (go_at_call 56; exact quiet_same (sum_ones _ 0 _ [] _ (RI.nil _ _ _) (fun i hi => absurd hi (by omega)) (by omega))))
              go_wp2
              all_goals
                go_ret
                exact ⟨rfl, below_drewN B.out _⟩
  case inr =>
    clear r_i
    clear r_l
    clear r_e
    rcases ne_cases q with rfl | ⟨g1, g2, g3⟩
    case inr =>
      go_wp2
      go_ret
      exact ⟨rfl, B.out⟩
    obtain ⟨s1, s2, s3⟩ := sil_law HQ.out
    rw [HF.out] at s3
    obtain ⟨a, rfl⟩ : ∃ a : Nat, p = a := ⟨p.toNat, by omega⟩
    rw [Int.toNat_natCast] at s3
    have e_x : N = n_s := by have := HN.out; rw [s3, silF_len, L_s.out] at this; exact this.symm
    subst e_x
    have hn8 : N ≤ 8192 := by have := (isBits_iff.1 s1).1; have := L_s.out; omega
    rw [L_s.out] at s3
    subst s3
    clear s1
    by_cases hat : a < N
    · have hat1 : (a : Int) < (N : Int) := by omega
      have hcx : a ≤ c_x := Nat.le_trans (by omega) cap_x.1
      have hcs : a ≤ c_s := Nat.le_trans (by omega) cap_s.1
      have hcx1 : (a : Int) ≤ (c_x : Int) := by omega
      have hcs1 : (a : Int) ≤ (c_s : Int) := by omega
      have hcx2 : (N : Int) ≤ (c_x : Int) := by have := cap_x.1; omega
      have hat2 : (a : Int) ≤ (N : Int) := by omega
      obtain ⟨b, o, rfl, _, _⟩ := r_x.get (by omega)
      obtain ⟨b1, o1, rfl, _, _⟩ := r_s.get (by omega)
      have tk : (silF z_s a N).take a = z_s.take a := by
        refine ext_gi (by rw [List.length_take, List.length_take, silF_len]) fun i hi => ?_
        rw [List.length_take, silF_len] at hi
        rw [gi_take (by omega), gi_take (by omega), silF_gi (by omega), if_neg (by omega)]
      have rp := r_x.pre (k := a) (by omega)
      rw [tk] at rp
      have RP := Lib.hid rp
      have RS := Lib.hid (r_s.pre (k := a) (by omega))
      have RD := Lib.hid (r_x.suf (k := a) (by omega))
      have ON := Lib.hid (show ∀ i, i < N - a → gi ((silF z_s a N).drop a) i = 1 from fun i hi => by rw [gi_drop, silF_gi (by have := L_s.out; omega), if_pos (by omega)])
      have f1 : ((N - a : Nat) : Int) = (N : Int) - (a : Int) := by omega
      clear tk rp
      go_wp2_with fail
      go_quiet (first
        | (go_at_call 32; exact Calls.quiet_of (likeS _ _ a _ _ (z_s.take a) _ RP.out RS.out (by omega)))
        | (go_at_call 56; exact quiet_same (sum_ones _ (N - a) _ _ _ RD.out ON.out (by omega))))
      go_wp2
      go_ret
      exact ⟨rfl, below_drewN B.out _⟩
    · have hat1 : ¬ (a : Int) < (N : Int) := by omega
      have hcx : N ≤ c_x := cap_x.1
      have hcs : N ≤ c_s := cap_s.1
      have hcx1 : (N : Int) ≤ (c_x : Int) := by omega
      have hcs1 : (N : Int) ≤ (c_s : Int) := by omega
      have tk : silF z_s a N = z_s := silF_none (by omega)
      rw [tk] at r_x
      have RP := Lib.hid (r_x.pre (k := N) (by omega))
      have RS := Lib.hid (r_s.pre (k := N) (by omega))
      have f1 : (N : Int) - (N : Int) = 0 := by omega
      clear tk
      rcases (show N < a ∨ N = a by omega) with hNa | hNa
      · have hNa1 : (N : Int) < (a : Int) := by omega
        rcases pl_x.out with ⟨rfl, rfl⟩ | ⟨b, o, rfl⟩
        · rcases pl_s.out with ⟨rfl, rfl⟩ | ⟨b1, o1, rfl⟩
          · obtain rfl : N = 0 := by omega
            go_wp2_with fail
            go_quiet (first
              | (go_at_call 32; exact Calls.quiet_of (likeS _ _ 0 _ _ (z_s.take 0) _ RP.out RS.out (by omega)))
              | (go_at_call 56; exact quiet_same (sum_ones _ 0 _ [] _ (RI.nil _ _ _) (fun i hi => absurd hi (by omega)) (by omega))))
            go_wp2
            all_goals
              go_ret
              exact ⟨rfl, below_drewN B.out _⟩
          · obtain rfl : N = 0 := by omega
            go_wp2_with fail
            go_quiet (first
              | (go_at_call 32; exact Calls.quiet_of (likeS _ _ 0 _ _ (z_s.take 0) _ RP.out RS.out (by omega)))
              | (go_at_call 56; exact quiet_same (sum_ones _ 0 _ [] _ (RI.nil _ _ _) (fun i hi => absurd hi (by omega)) (by omega))))
            go_wp2
            all_goals
              go_ret
              exact ⟨rfl, below_drewN B.out _⟩
        · rcases pl_s.out with ⟨rfl, rfl⟩ | ⟨b1, o1, rfl⟩
          · obtain rfl : N = 0 := by omega
            go_wp2_with fail
            go_quiet (first
              | (go_at_call 32; exact Calls.quiet_of (likeS _ _ 0 _ _ (z_s.take 0) _ RP.out RS.out (by omega)))
              | (go_at_call 56; exact quiet_same (sum_ones _ 0 _ [] _ (RI.nil _ _ _) (fun i hi => absurd hi (by omega)) (by omega))))
            go_wp2
            all_goals
              go_ret
              exact ⟨rfl, below_drewN B.out _⟩
          · go_wp2_with fail
            go_quiet (first
              | (go_at_call 32; exact Calls.quiet_of (likeS _ _ N _ _ (z_s.take N) _ RP.out RS.out (by omega)))
              | (go_at_call 56; exact quiet_same (sum_ones _ 0 _ [] _ (RI.nil _ _ _) (fun i hi => absurd hi (by omega)) (by omega))))
            go_wp2
            all_goals
              go_ret
              exact ⟨rfl, below_drewN B.out _⟩
      · subst hNa
        rcases pl_x.out with ⟨rfl, rfl⟩ | ⟨b, o, rfl⟩
        · rcases pl_s.out with ⟨rfl, rfl⟩ | ⟨b1, o1, rfl⟩
          · obtain rfl : N = 0 := by omega
            go_wp2_with fail
            go_quiet (first
              | (go_at_call 32; exact Calls.quiet_of (likeS _ _ 0 _ _ (z_s.take 0) _ RP.out RS.out (by omega)))
              | (go_at_call 56; exact quiet_same (sum_ones _ 0 _ [] _ (RI.nil _ _ _) (fun i hi => absurd hi (by omega)) (by omega))))
            go_wp2
            all_goals
              go_ret
              exact ⟨rfl, below_drewN B.out _⟩
          · obtain rfl : N = 0 := by omega
            go_wp2_with fail
            go_quiet (first
              | (go_at_call 32; exact Calls.quiet_of (likeS _ _ 0 _ _ (z_s.take 0) _ RP.out RS.out (by omega)))
              | (go_at_call 56; exact quiet_same (sum_ones _ 0 _ [] _ (RI.nil _ _ _) (fun i hi => absurd hi (by omega)) (by omega))))
            go_wp2
            all_goals
              go_ret
              exact ⟨rfl, below_drewN B.out _⟩
        · rcases pl_s.out with ⟨rfl, rfl⟩ | ⟨b1, o1, rfl⟩
          · obtain rfl : N = 0 := by omega
            go_wp2_with fail
            go_quiet (first
              | (go_at_call 32; exact Calls.quiet_of (likeS _ _ 0 _ _ (z_s.take 0) _ RP.out RS.out (by omega)))
              | (go_at_call 56; exact quiet_same (sum_ones _ 0 _ [] _ (RI.nil _ _ _) (fun i hi => absurd hi (by omega)) (by omega))))
            go_wp2
            all_goals
              go_ret
              exact ⟨rfl, below_drewN B.out _⟩
          · go_wp2_with fail
            go_quiet (first
              | (go_at_call 32; exact Calls.quiet_of (likeS _ _ N _ _ (z_s.take N) _ RP.out RS.out (by omega)))
              | (go_at_call 56; exact quiet_same (sum_ones _ 0 _ [] _ (RI.nil _ _ _) (fun i hi => absurd hi (by omega)) (by omega))))
            go_wp2
            all_goals
              go_ret
              exact ⟨rfl, below_drewN B.out _⟩

set_option maxRecDepth 100000 in
theorem lifted (os : Os) (started : os.Started) (H : Type) (enc : TypeId × Value → H) :
    ReturnsInHanded {} Try.checked os 7 .any (Rows.fnSilencesSpec.pre6 enc Try.prog Try.f7 Rows.fnSilencesRow.domain false) (Rows.fnSilencesSpec.post enc Try.prog Try.f7 false true false false) := by
  refine returnsInHanded_of_change (C := Try.checked) own started (by kernel_rfl) Try.func7
    (ChangeSpec.witness6 (enc := enc) (C := Try.checked) false ⟨#[], #[.slice none 0 0], []⟩ 8 (by kernel_rfl) (by kernel_rfl) (by kernel_rfl) (by kernel_rfl)) ?_
  intro W base args ds gs before hval0 hW _ _
  have hval : ∀ (j : Nat) t v, Try.f7.params[j]? = some t → args[j]? = some v → Value.okWide Try.prog W .any base t v := hval0
  have hW' := hW
  obtain ⟨p, q, hA0, hV, rfl, hfz, hnd⟩ := hW
  have hA : DataW.TrodAll enc Try.prog W 0 (fun _ => true) true Try.f7.params.toList args.toList ds p := hA0
  rw [Try.params7] at hA hval
  obtain ⟨v0, vs0, d0, ds0, p0, q0, hargs, rfl, rfl, h0, r0⟩ := trodAll_cons hA
  obtain ⟨rfl, rfl, rfl⟩ := trodAll_nil r0
  obtain rfl : args = #[v0] := by cases args; simp_all
  obtain ⟨A0, n0, c0, bs0, rfl, hr0, hn0⟩ := arg_bytes Try.underlying39 Try.underlying5 (by kernel_rfl) (hval 0 39 v0 rfl rfl) h0
  refine (walk W A0 n0 c0 bs0 hr0 hn0).mono fun e W' ⟨he, hb⟩ => ?_
  subst he
  exact ⟨_, rfl, law_post laidOut (by
    rw [show Try.f7.params.toList = [39] from rfl]
    intro t ht
    rw [List.mem_singleton.1 ht]; exact ⟨by kernel_rfl, of_decide_eq_true (by kernel_rfl)⟩) rfl Try.underlying4 rfl rfl hW' hb⟩

set_option maxRecDepth 100000 in
theorem closed : joinedFacts Try.prog 7 Try.f7 Rows.fnSilencesSpec Rows.fnSilencesRow = true := by
  unfold joinedFacts
  rw [mayEnter_ok, liftsFinal_ok, make_ok]
  change _ = true
  kernel_rfl

theorem holds : Rows.FnSilencesSaid :=
  OpenClaim.holds_of_wide 7 Try.f7 rfl rfl rfl rfl rfl rfl rfl ⟨rfl, rfl, rfl, rfl, rfl⟩ rfl rfl rfl rfl rfl (by kernel_rfl) Try.func7 closed
    (of_decide_eq_true (by kernel_rfl)) (by unfold Func.isWrapper; first | (rw [if_pos (by decide +kernel)]; kernel_rfl) | (rw [if_neg (by decide +kernel)]; exact ⟨rfl, rfl⟩))
    (fun os started H enc _ => lifted os started H enc)
end FnSilences
end Go.Proofs.Ytjehkjdehkdjcaa
