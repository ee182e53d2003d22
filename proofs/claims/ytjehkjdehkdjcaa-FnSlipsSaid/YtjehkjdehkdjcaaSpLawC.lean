/- FnSlips: a fault within a run changes the length of this run alone by one, for every code. Conditions: none. -/
import Derived.Test.YtjehkjdehkdjcaaB2
import Derived.Test.YtjehkjdehkdjcaaB9
import Derived.Test.YtjehkjdehkdjcaaB19
import Derived.Test.YtjehkjdehkdjcaaB12
import Derived.Test.YtjehkjdehkdjcaaB13
import Derived.Test.YtjehkjdehkdjcaaB7
import Derived.Test.YtjehkjdehkdjcaaB6
import Derived.Test.YtjehkjdehkdjcaaB18
import Derived.Test.YtjehkjdehkdjcaaB5
import Derived.BigQuiet
import Derived.IntWalk
namespace Go.Proofs.Ytjehkjdehkdjcaa
open Go.ChangeShapes Go.WideShapes Go.ChangeAt Go.RowKit
namespace FnSlips

set_option maxRecDepth 100000 in
set_option maxHeartbeats 16000000 in
theorem walk (w : World) (A : Option Addr) (n c : Nat) (bs : List Int) (h : RB w w.heap.size A n bs) (hn : n ≤ maxLen) :
    Calls Try.prog 12 #[.slice A n c] w fun e w' => e = .returned (.bool true) ∧ Below w.heap.size w w' := by
  rcases bool_cases (decide (4096 < n)) with hbig | hbig
  · go_enter Try.func12, Try.ntmps12
    go_wp2_with (go_at_call 21; refine (big_any _ _ _ _ hn).mono ?_; rw [hbig]; rintro e w' ⟨rfl, rfl⟩)
    go_ret
    exact ⟨rfl, Below.refl _ _⟩
  have hn4 : n ≤ 4096 := by simpa using hbig
  have B := Lib.hid (Below.refl w.heap.size w)
  go_enter Try.func12, Try.ntmps12
  go_wp2_with (go_at_call 21; refine (big_any _ _ _ _ hn).mono ?_; rw [hbig]; rintro e w' ⟨rfl, rfl⟩)
  clear hbig hn
  refine (drawWithinRun_any A n c bs _ ((h.below B.out (Nat.le_refl _)).more B.out.size) (by omega)).mono ?_
  rintro e w1 ⟨A_s, n_s, c_s, z_s, ⟨fk, fp, fl, fv⟩, rfl, o_s, hn_s, hb⟩
  replace B := Lib.hid (below_next hb B.out (Nat.le_refl _))
  have r_s := o_s.reads
  have L_s := Lib.hid o_s.len
  have non_s := Lib.hid (own_none o_s)
  have cap_s := o_s.cap
  clear hb o_s
  dsimp only
  obtain ⟨OK, hOK⟩ : ∃ x, WithinRun.wrB z_s ⟨fk, fp, fl, fv⟩ = x := ⟨_, rfl⟩
  have HOK := Lib.hid hOK
  obtain ⟨q, hq⟩ : ∃ x, WithinRun.cod (isBits z_s) (isFault ⟨fk, fp, fl, fv⟩) = x := ⟨_, rfl⟩
  have HQ := Lib.hid hq
  clear hOK hq
  obtain ⟨wz, hz⟩ : ∃ x, w1.alloc (.cells #[.int .i64 0, .int .i64 0, .int .i64 0, .int .i64 0] 82) = x := ⟨_, rfl⟩
  have hK0 := Blk4.new w1 82 (.int .i64 0) (.int .i64 0) (.int .i64 0) (.int .i64 0)
  have hba := (Below.refl w1.heap.size w1).alloc (Nat.le_refl _) (o := .cells #[.int .i64 0, .int .i64 0, .int .i64 0, .int .i64 0] 82)
  rw [hz] at hK0 hba
  have k0 := hK0.c0; have k1 := hK0.c1; have k2 := hK0.c2; have k3 := hK0.c3; have kf := hK0.free
  go_wp2_with (rw [hz])
  obtain ⟨w2, hw2⟩ : ∃ x, (((wz.setCell ⟨w1.heap.size, 0, none⟩ (.int .i64 fk)).setCell ⟨w1.heap.size, 1, none⟩ (.int .i64 fp)).setCell ⟨w1.heap.size, 2, none⟩ (.int .i64 fl)).setCell ⟨w1.heap.size, 3, none⟩ (.int .i64 fv) = x := ⟨_, rfl⟩
  have HK := Lib.hid (hw2 ▸ hK0.all (x0 := .int .i64 fk) (x1 := .int .i64 fp) (x2 := .int .i64 fl) (x3 := .int .i64 fv) : Blk4 w2 w1.heap.size 82 (.int .i64 fk) (.int .i64 fp) (.int .i64 fl) (.int .i64 fv))
  have hb := ((((hba.setCell (p := ⟨w1.heap.size, 0, none⟩) (Nat.le_refl _) (.int .i64 fk)).setCell (p := ⟨w1.heap.size, 1, none⟩) (Nat.le_refl _) (.int .i64 fp)).setCell (p := ⟨w1.heap.size, 2, none⟩) (Nat.le_refl _) (.int .i64 fl)).setCell (p := ⟨w1.heap.size, 3, none⟩) (Nat.le_refl _) (.int .i64 fv))
  rw [hw2] at hb ⊢
  replace B := Lib.hid (below_next hb B.out (Nat.le_refl _))
  replace r_s := r_s.up hb
  clear hb hw2 hK0 hba hz k0 k1 k2 k3 kf
  refine (WithinRun.impl_any A_s n_s c_s z_s fk fp fl fv _ r_s (by omega) cap_s.1 cap_s.2).mono ?_
  rw [HOK.out, HQ.out]
  rintro e w3 ⟨rfl, hb⟩
  replace B := Lib.hid (below_next hb B.out (Nat.le_refl _))
  replace r_s := r_s.up hb
  replace HK := Lib.hid (Blk4.next hb HK.out)
  clear hb
  have k0 := HK.out.c0; have k1 := HK.out.c1; have k2 := HK.out.c2; have k3 := HK.out.c3
  go_wp2_with fail
  refine (WithinRun.spec_any A_s n_s c_s z_s fk fp fl fv _ r_s (by omega)).mono ?_
  rw [HOK.out, HQ.out]
  clear k0 k1 k2 k3
  rintro e w4 ⟨rfl, hb⟩
  replace B := Lib.hid (below_next hb B.out (Nat.le_refl _))
  replace r_s := r_s.up hb
  replace HK := Lib.hid (Blk4.next hb HK.out)
  clear hb
  go_wp2_with fail
  refine (drawSlipPlaces_any A n c bs _ ((h.below B.out (Nat.le_refl _)).more B.out.size) (by omega)).mono ?_
  rintro e w5 ⟨A_l, n_l, c_l, z_l, rfl, o_l, hn_l, hb⟩
  replace B := Lib.hid (below_next hb B.out (Nat.le_refl _))
  replace r_s := r_s.up hb
  have r_l := o_l.reads
  have L_l := Lib.hid o_l.len
  have cap_l := o_l.cap
  replace HK := Lib.hid (Blk4.next hb HK.out)
  clear hb o_l
  obtain ⟨P, hP⟩ : ∃ x, SlipPlaces.res z_l = x := ⟨_, rfl⟩
  obtain ⟨q1, hq1⟩ : ∃ x, SlipPlaces.cod z_l = x := ⟨_, rfl⟩
  have HP := Lib.hid hP
  have HQ1 := Lib.hid hq1
  have hPl : P.length ≤ 8200 := by rw [← hP]; exact Nat.le_trans (SlipPlaces.res_len _) (by rw [L_l.out]; exact hn_l)
  have HPL := Lib.hid hPl
  clear hP hq1 hPl
  go_wp2_with fail
  refine (SlipPlaces.impl_any A_l n_l c_l z_l _ r_l (by omega) cap_l.1 cap_l.2).mono ?_
  rw [HP.out, HQ1.out]
  rintro e w6 ⟨A_x, n_x, c_x, rfl, o_x, hb⟩
  replace B := Lib.hid (below_next hb B.out (Nat.le_refl _))
  replace r_s := r_s.up hb
  replace r_l := r_l.up hb
  have r_x := o_x.reads
  have L_x := Lib.hid o_x.len
  replace HK := Lib.hid (Blk4.next hb HK.out)
  clear hb o_x
  go_wp2_with fail
  refine (SlipPlaces.spec_any A_l n_l c_l z_l _ r_l (by omega)).mono ?_
  rw [HP.out, HQ1.out]
  rintro e w7 ⟨A_y, n_y, c_y, rfl, o_y, hb⟩
  replace B := Lib.hid (below_next hb B.out (Nat.le_refl _))
  replace r_s := r_s.up hb
  replace r_l := r_l.up hb
  replace r_x := r_x.up hb
  have r_y := o_y.reads
  have L_y := Lib.hid o_y.len
  replace HK := Lib.hid (Blk4.next hb HK.out)
  clear hb o_y
  go_wp2_with fail
  refine (drawCountSlips_any A n c bs _ ((h.below B.out (Nat.le_refl _)).more B.out.size) (by omega)).mono ?_
  rintro e w8 ⟨A_t, n_t, c_t, z_t, rfl, o_t, hn_t, hb⟩
  replace B := Lib.hid (below_next hb B.out (Nat.le_refl _))
  replace r_s := r_s.up hb
  replace r_l := r_l.up hb
  replace r_x := r_x.up hb
  replace r_y := r_y.up hb
  have r_t := o_t.reads encF_len
  have L_t := Lib.hid o_t.len
  replace HK := Lib.hid (Blk4.next hb HK.out)
  clear hb o_t
  obtain ⟨V, hV⟩ : ∃ x, CountSlips.val z_t = x := ⟨_, rfl⟩
  obtain ⟨q2, hq2⟩ : ∃ x, CountSlips.cod z_t = x := ⟨_, rfl⟩
  have HV := Lib.hid hV
  have HQ2 := Lib.hid hq2
  clear hV hq2
  go_wp2_with fail
  refine (CountSlips.impl_any A_t n_t c_t z_t _ r_t (by omega)).mono ?_
  rw [HV.out, HQ2.out]
  rintro e w9 ⟨rfl, hb⟩
  replace B := Lib.hid (below_next hb B.out (Nat.le_refl _))
  replace r_s := r_s.up hb
  replace r_l := r_l.up hb
  replace r_x := r_x.up hb
  replace r_y := r_y.up hb
  replace r_t := r_t.up hb
  replace HK := Lib.hid (Blk4.next hb HK.out)
  clear hb
  go_wp2_with fail
  refine (CountSlips.spec_any A_t n_t c_t z_t _ r_t (by omega)).mono ?_
  rw [HV.out, HQ2.out]
  rintro e w10 ⟨rfl, hb⟩
  replace B := Lib.hid (below_next hb B.out (Nat.le_refl _))
  replace r_s := r_s.up hb
  replace r_l := r_l.up hb
  replace r_x := r_x.up hb
  replace r_y := r_y.up hb
  replace r_t := r_t.up hb
  replace HK := Lib.hid (Blk4.next hb HK.out)
  clear hb
  obtain ⟨N, hN⟩ : ∃ x, P.length = x := ⟨_, rfl⟩
  have HN := Lib.hid hN
  have hNl := HPL.out
  rw [hN] at hNl
  have e_x : N = n_x := by have := L_x.out; omega
  subst e_x
  have e_y : N = n_y := by have := L_y.out; omega
  subst e_y
  clear hN
  go_wp2_with fail
  have lk := likeIntsV A_x A_y N N c_x c_y P P _ r_x r_y (by omega) (by omega)
  rw [eqI_self] at lk
  refine lk.mono ?_
  clear lk
  rintro e w11 ⟨rfl, hb⟩
  replace B := Lib.hid (below_next hb B.out (Nat.le_refl _))
  replace HK := Lib.hid (Blk4.next hb HK.out)
  clear r_x
  clear r_y
  clear r_t
  clear r_l
  replace r_s := r_s.up hb
  clear hb
  have k0 := HK.out.c0; have k1 := HK.out.c1; have k2 := HK.out.c2; have k3 := HK.out.c3
  rcases ne_cases q with rfl | ⟨h1, h2, h3⟩
  case inr =>
    go_wp2
    go_ret
    exact ⟨rfl, B.out⟩
  cases OK
  case false =>
    go_wp2
    go_ret
    exact ⟨rfl, B.out⟩
  obtain ⟨b1, b2, b3⟩ := wr_iff.1 HOK.out
  have hn8 : n_s ≤ 8192 := by have := isBits_len b1; have := L_s.out; omega
  obtain ⟨u1, u2⟩ := within_out b3
  have u1 : fk = 3 ∨ fk = 4 := u1
  have u2 : fl = 1 := u2.1
  subst u2
  by_cases hx : fk = 4 ∧ n_s = 8192
  case pos =>
    obtain ⟨rfl, rfl⟩ := hx
    go_wp2
    go_ret
    exact ⟨rfl, B.out⟩
  have c5 : Flt.kd ⟨fk, fp, 1, fv⟩ = 4 → z_s.length < 8192 := fun h => by have h : fk = 4 := h; have := L_s.out; omega
  obtain ⟨j, j1, j2, j3⟩ := slip_law b3 c5
  have r1 : ApplyFault.res z_s ⟨fk, fp, 1, fv⟩ = appF z_s ⟨fk, fp, 1, fv⟩ := by unfold ApplyFault.res; rw [if_pos ⟨b1, b2⟩]
  have r2 : ApplyFault.cod z_s ⟨fk, fp, 1, fv⟩ = 0 := by unfold ApplyFault.cod; rw [if_pos b1, if_pos b2]
  have r3 := appF_bits b1 b2
  have v1 : CountSlips.val [⟨fk, fp, 1, fv⟩] = slipOf ⟨fk, fp, 1, fv⟩ := by have hs : isScript [⟨fk, fp, 1, fv⟩] = true := by {simp [isScript, allF, b2]}; unfold CountSlips.val; rw [if_pos hs]; simp [sumTo]
  have v2 : CountSlips.cod [⟨fk, fp, 1, fv⟩] = 0 := by have hs : isScript [⟨fk, fp, 1, fv⟩] = true := by {simp [isScript, allF, b2]}; unfold CountSlips.cod; rw [if_pos hs]
  have v3 : slipOf ⟨fk, fp, 1, fv⟩ = 1 ∨ slipOf ⟨fk, fp, 1, fv⟩ = -1 := by rcases u1 with rfl | rfl <;> simp [slipOf]
  obtain ⟨X, hX⟩ : ∃ x, appF z_s ⟨fk, fp, 1, fv⟩ = x := ⟨_, rfl⟩
  obtain ⟨S, hS⟩ : ∃ x, slipOf ⟨fk, fp, 1, fv⟩ = x := ⟨_, rfl⟩
  rw [hX] at r1 r3 j2 j3
  rw [hS] at v1 v3 j3
  rw [L_s.out] at j1 j2 j3
  have R1 := Lib.hid r1; have R2 := Lib.hid r2; have R3 := Lib.hid r3; have V1 := Lib.hid v1; have V2 := Lib.hid v2; have J1 := Lib.hid j1; have J2 := Lib.hid j2; have J3 := Lib.hid j3; have HB1 := Lib.hid b1
  have hXl : X.length ≤ 8192 := isBits_len r3
  have HXL := Lib.hid hXl
  clear r1 r2 r3 v1 v2 j1 j2 j3 b1 b2 b3 c5 hX hS hXl
  clear u1
  rcases bool_cases (fk == 4) with hm | hm
  case inl =>
    have hm10 : ((n_s : Int) == 8192) = false := by have h4 : fk = 4 := by {simpa using hm}; have : n_s ≠ 8192 := fun h => hx ⟨h4, h⟩; simp; omega
    clear hx
    go_wp2_with fail
    refine (ApplyFault.impl_any A_s n_s c_s z_s fk fp 1 fv _ r_s (by omega) non_s.out).mono ?_
    rw [R1.out, R2.out]
    clear k0 k1 k2 k3
    rintro e w12 ⟨A_x, n_x, c_x, rfl, o_x, hb⟩
    replace B := Lib.hid (below_next hb B.out (Nat.le_refl _))
    replace r_s := r_s.up hb
    have r_x := o_x.reads
    have L_x := Lib.hid o_x.len
    replace HK := Lib.hid (Blk4.next hb HK.out)
    clear hb o_x
    have hx8 : n_x ≤ 8192 := by have := L_x.out; have := HXL.out; omega
    go_wp2_with fail
    refine (RunLengths_any A_s n_s c_s z_s _ r_s hn8 HB1.out).mono ?_
    rintro e w13 ⟨A_a, n_a, c_a, rfl, o_a, hb⟩
    replace B := Lib.hid (below_next hb B.out (Nat.le_refl _))
    replace r_s := r_s.up hb
    replace r_x := r_x.up hb
    have r_a := o_a.reads
    have L_a := Lib.hid o_a.len
    replace HK := Lib.hid (Blk4.next hb HK.out)
    clear hb o_a
    go_wp2_with fail
    refine (RunLengths_any A_x n_x c_x X _ r_x hx8 R3.out).mono ?_
    rintro e w14 ⟨A_b, n_b, c_b, rfl, o_b, hb⟩
    replace B := Lib.hid (below_next hb B.out (Nat.le_refl _))
    replace r_s := r_s.up hb
    replace r_x := r_x.up hb
    replace r_a := r_a.up hb
    have r_b := o_b.reads
    have L_b := Lib.hid o_b.len
    replace HK := Lib.hid (Blk4.next hb HK.out)
    clear hb o_b
    clear r_x
    clear r_s
    have j3 := J3.out
    have j2 := J2.out
    have j1 := J1.out
    have lx := L_x.out
    rw [lx] at j2 j3
    have la := L_a.out
    have lb := L_b.out
    have bd := runsTo_bd z_s n_s
    have hla := (runsTo_len z_s n_s).1
    rw [la] at j1 j2 j3 bd hla
    rw [lb] at j2
    obtain ⟨xs1, has⟩ : ∃ x, runsTo z_s n_s = x := ⟨_, rfl⟩
    obtain ⟨bs2, hbs2⟩ : ∃ x, runsTo X n_x = x := ⟨_, rfl⟩
    rw [has] at r_a j3 bd
    rw [hbs2] at r_b j3
    subst j2
    have JJ := Lib.hid j3
    have BD := Lib.hid bd
    clear j3 bd has hbs2 la lb lx L_a L_b L_x
    have k0 := HK.out.c0; have k1 := HK.out.c1; have k2 := HK.out.c2; have k3 := HK.out.c3
    have kf := HK.out.free
    go_wp2_with fail
    obtain ⟨wl, hwl⟩ : ∃ x, w14.alloc (.cells #[.int .i64 fk, .int .i64 fp, .int .i64 1, .int .i64 fv] 82) = x := ⟨_, rfl⟩
    have hb := (Below.refl w14.heap.size w14).alloc (Nat.le_refl _) (o := .cells #[.int .i64 fk, .int .i64 fp, .int .i64 1, .int .i64 fv] 82)
    have hk := Blk4.new w14 82 (.int .i64 fk) (.int .i64 fp) (.int .i64 1) (.int .i64 fv)
    have hsz : w14.heap.size < wl.heap.size := by rw [← hwl]; simp
    rw [hwl] at hb hk ⊢
    replace B := Lib.hid (below_next hb B.out (Nat.le_refl _))
    replace r_a := r_a.up hb
    replace r_b := r_b.up hb
    clear hb hwl k0 k1 k2 k3 kf HK
    refine (CountSlips.impl_any (some ⟨w14.heap.size, 0, none⟩) 1 1 [⟨fk, fp, 1, fv⟩] _ (RE.one (f := ⟨fk, fp, 1, fv⟩) hk hsz) (by omega)).mono ?_
    rw [V1.out, V2.out]
    clear hk hsz
    rintro e w15 ⟨rfl, hb⟩
    replace B := Lib.hid (below_next hb B.out (Nat.le_refl _))
    replace r_a := r_a.up hb
    replace r_b := r_b.up hb
    clear hb
    have hj8 : j < n_b := by omega
    go_wp2_with fail
    go_loopw [27, 28] (fun x i wr => ∃ k : Nat, k ≤ n_b ∧ i = .int .i64 k ∧ x = .int .i64 (if j < k then 1 else 0) ∧ Below w15.heap.size w15 wr) (fun _ i _ => n_b - (intOf i).toNat)
    case atStart => exact ⟨0, Nat.zero_le _, rfl, by rw [if_neg (by omega)], Below.refl _ _⟩
    case round =>
      obtain ⟨k, hk, rfl, rfl, hbw⟩ := hrel
      by_cases hlt : k < n_b
      · obtain ⟨b, o, rfl, _, hc⟩ := (r_a.below hbw (Nat.le_refl _)).get (by omega)
        obtain ⟨b2, o2, rfl, _, hc2⟩ := (r_b.below hbw (Nat.le_refl _)).get (by omega)
        have ha := hc k hlt
        have hb := hc2 k hlt
        have e3 := JJ.out k hlt
        have e4 := BD.out k hlt
        clear hc hc2
        obtain ⟨x, hx⟩ : ∃ x, gi xs1 k = x := ⟨_, rfl⟩
        obtain ⟨y, hy⟩ : ∃ y, gi bs2 k = y := ⟨_, rfl⟩
        rw [hx] at ha e3 e4
        rw [hy] at hb e3
        clear hx hy
        have f1 : IntKind.i64.wrap (x + S) = x + S := IntWalk.i64_in _ (by omega)
        by_cases hjk : j = k
        · subst hjk
          rw [if_pos rfl] at e3
          subst e3
          have g1 : (x != x + S) = true := by simp; omega
          rw [if_neg (by omega)]
          go_wp2_with fail
          go_region
          all_goals
            go_wp2_with fail
            go_region
            all_goals
              go_wp2
              go_roundw
              case rel => exact ⟨j + 1, by omega, by go_num, by rw [if_pos (by omega)], hbw.drew.drew⟩
              case measure => simp [intOf]; omega
        · rw [if_neg hjk, Int.add_zero] at e3
          subst e3
          obtain ⟨z, hz⟩ : ∃ z : Int, (if j < k then 1 else 0) = z := ⟨_, rfl⟩
          have HZ := Lib.hid (show (if j < k + 1 then (1 : Int) else 0) = z by rw [← hz]; by_cases h : j < k; {rw [if_pos h, if_pos (by omega)]}; {rw [if_neg h, if_neg (by omega)]})
          rw [hz]
          clear hz
          go_wp2_with fail
          go_region
          all_goals
            go_wp2
            go_roundw
            case rel => exact ⟨k + 1, by omega, by go_num, by rw [HZ.out], hbw.drew⟩
            case measure => simp [intOf]; omega
      · have hkn : k = n_b := by omega
        subst hkn
        rw [if_pos hj8]
        go_wp2
        go_ret
        exact ⟨rfl, below_next hbw B.out (Nat.le_refl _)⟩
  case inr =>
    clear hx
    go_wp2_with fail
    refine (ApplyFault.impl_any A_s n_s c_s z_s fk fp 1 fv _ r_s (by omega) non_s.out).mono ?_
    rw [R1.out, R2.out]
    clear k0 k1 k2 k3
    rintro e w12 ⟨A_x, n_x, c_x, rfl, o_x, hb⟩
    replace B := Lib.hid (below_next hb B.out (Nat.le_refl _))
    replace r_s := r_s.up hb
    have r_x := o_x.reads
    have L_x := Lib.hid o_x.len
    replace HK := Lib.hid (Blk4.next hb HK.out)
    clear hb o_x
    have hx8 : n_x ≤ 8192 := by have := L_x.out; have := HXL.out; omega
    go_wp2_with fail
    refine (RunLengths_any A_s n_s c_s z_s _ r_s hn8 HB1.out).mono ?_
    rintro e w13 ⟨A_a, n_a, c_a, rfl, o_a, hb⟩
    replace B := Lib.hid (below_next hb B.out (Nat.le_refl _))
    replace r_s := r_s.up hb
    replace r_x := r_x.up hb
    have r_a := o_a.reads
    have L_a := Lib.hid o_a.len
    replace HK := Lib.hid (Blk4.next hb HK.out)
    clear hb o_a
    go_wp2_with fail
    refine (RunLengths_any A_x n_x c_x X _ r_x hx8 R3.out).mono ?_
    rintro e w14 ⟨A_b, n_b, c_b, rfl, o_b, hb⟩
    replace B := Lib.hid (below_next hb B.out (Nat.le_refl _))
    replace r_s := r_s.up hb
    replace r_x := r_x.up hb
    replace r_a := r_a.up hb
    have r_b := o_b.reads
    have L_b := Lib.hid o_b.len
    replace HK := Lib.hid (Blk4.next hb HK.out)
    clear hb o_b
    clear r_x
    clear r_s
    have j3 := J3.out
    have j2 := J2.out
    have j1 := J1.out
    have lx := L_x.out
    rw [lx] at j2 j3
    have la := L_a.out
    have lb := L_b.out
    have bd := runsTo_bd z_s n_s
    have hla := (runsTo_len z_s n_s).1
    rw [la] at j1 j2 j3 bd hla
    rw [lb] at j2
    obtain ⟨xs1, has⟩ : ∃ x, runsTo z_s n_s = x := ⟨_, rfl⟩
    obtain ⟨bs2, hbs2⟩ : ∃ x, runsTo X n_x = x := ⟨_, rfl⟩
    rw [has] at r_a j3 bd
    rw [hbs2] at r_b j3
    subst j2
    have JJ := Lib.hid j3
    have BD := Lib.hid bd
    clear j3 bd has hbs2 la lb lx L_a L_b L_x
    have k0 := HK.out.c0; have k1 := HK.out.c1; have k2 := HK.out.c2; have k3 := HK.out.c3
    have kf := HK.out.free
    go_wp2_with fail
    obtain ⟨wl, hwl⟩ : ∃ x, w14.alloc (.cells #[.int .i64 fk, .int .i64 fp, .int .i64 1, .int .i64 fv] 82) = x := ⟨_, rfl⟩
    have hb := (Below.refl w14.heap.size w14).alloc (Nat.le_refl _) (o := .cells #[.int .i64 fk, .int .i64 fp, .int .i64 1, .int .i64 fv] 82)
    have hk := Blk4.new w14 82 (.int .i64 fk) (.int .i64 fp) (.int .i64 1) (.int .i64 fv)
    have hsz : w14.heap.size < wl.heap.size := by rw [← hwl]; simp
    rw [hwl] at hb hk ⊢
    replace B := Lib.hid (below_next hb B.out (Nat.le_refl _))
    replace r_a := r_a.up hb
    replace r_b := r_b.up hb
    clear hb hwl k0 k1 k2 k3 kf HK
    refine (CountSlips.impl_any (some ⟨w14.heap.size, 0, none⟩) 1 1 [⟨fk, fp, 1, fv⟩] _ (RE.one (f := ⟨fk, fp, 1, fv⟩) hk hsz) (by omega)).mono ?_
    rw [V1.out, V2.out]
    clear hk hsz
    rintro e w15 ⟨rfl, hb⟩
    replace B := Lib.hid (below_next hb B.out (Nat.le_refl _))
    replace r_a := r_a.up hb
    replace r_b := r_b.up hb
    clear hb
    have hj8 : j < n_b := by omega
    go_wp2_with fail
    go_loopw [27, 28] (fun x i wr => ∃ k : Nat, k ≤ n_b ∧ i = .int .i64 k ∧ x = .int .i64 (if j < k then 1 else 0) ∧ Below w15.heap.size w15 wr) (fun _ i _ => n_b - (intOf i).toNat)
    case atStart => exact ⟨0, Nat.zero_le _, rfl, by rw [if_neg (by omega)], Below.refl _ _⟩
    case round =>
      obtain ⟨k, hk, rfl, rfl, hbw⟩ := hrel
      by_cases hlt : k < n_b
      · obtain ⟨b, o, rfl, _, hc⟩ := (r_a.below hbw (Nat.le_refl _)).get (by omega)
        obtain ⟨b2, o2, rfl, _, hc2⟩ := (r_b.below hbw (Nat.le_refl _)).get (by omega)
        have ha := hc k hlt
        have hb := hc2 k hlt
        have e3 := JJ.out k hlt
        have e4 := BD.out k hlt
        clear hc hc2
        obtain ⟨x, hx⟩ : ∃ x, gi xs1 k = x := ⟨_, rfl⟩
        obtain ⟨y, hy⟩ : ∃ y, gi bs2 k = y := ⟨_, rfl⟩
        rw [hx] at ha e3 e4
        rw [hy] at hb e3
        clear hx hy
        have f1 : IntKind.i64.wrap (x + S) = x + S := IntWalk.i64_in _ (by omega)
        by_cases hjk : j = k
        · subst hjk
          rw [if_pos rfl] at e3
          subst e3
          have g1 : (x != x + S) = true := by simp; omega
          rw [if_neg (by omega)]
          go_wp2_with fail
          go_region
          all_goals
            go_wp2_with fail
            go_region
            all_goals
              go_wp2
              go_roundw
              case rel => exact ⟨j + 1, by omega, by go_num, by rw [if_pos (by omega)], hbw.drew.drew⟩
              case measure => simp [intOf]; omega
        · rw [if_neg hjk, Int.add_zero] at e3
          subst e3
          obtain ⟨z, hz⟩ : ∃ z : Int, (if j < k then 1 else 0) = z := ⟨_, rfl⟩
          have HZ := Lib.hid (show (if j < k + 1 then (1 : Int) else 0) = z by rw [← hz]; by_cases h : j < k; {rw [if_pos h, if_pos (by omega)]}; {rw [if_neg h, if_neg (by omega)]})
          rw [hz]
          clear hz
          go_wp2_with fail
          go_region
          all_goals
            go_wp2
            go_roundw
            case rel => exact ⟨k + 1, by omega, by go_num, by rw [HZ.out], hbw.drew⟩
            case measure => simp [intOf]; omega
      · have hkn : k = n_b := by omega
        subst hkn
        rw [if_pos hj8]
        go_wp2
        go_ret
        exact ⟨rfl, below_next hbw B.out (Nat.le_refl _)⟩

set_option maxRecDepth 100000 in
theorem lifted (os : Os) (started : os.Started) (H : Type) (enc : TypeId × Value → H) :
    ReturnsInHanded {} Try.checked os 12 .any (Rows.fnSlipsSpec.pre6 enc Try.prog Try.f12 Rows.fnSlipsRow.domain false) (Rows.fnSlipsSpec.post enc Try.prog Try.f12 false true false false) := by
  refine returnsInHanded_of_change (C := Try.checked) own started (by kernel_rfl) Try.func12
    (ChangeSpec.witness6 (enc := enc) (C := Try.checked) false ⟨#[], #[.slice none 0 0], []⟩ 8 (by kernel_rfl) (by kernel_rfl) (by kernel_rfl) (by kernel_rfl)) ?_
  intro W base args ds gs before hval0 hW _ _
  have hval : ∀ (j : Nat) t v, Try.f12.params[j]? = some t → args[j]? = some v → Value.okWide Try.prog W .any base t v := hval0
  have hW' := hW
  obtain ⟨p, q, hA0, hV, rfl, hfz, hnd⟩ := hW
  have hA : DataW.TrodAll enc Try.prog W 0 (fun _ => true) true Try.f12.params.toList args.toList ds p := hA0
  rw [Try.params12] at hA hval
  obtain ⟨v0, vs0, d0, ds0, p0, q0, hargs, rfl, rfl, h0, r0⟩ := trodAll_cons hA
  obtain ⟨rfl, rfl, rfl⟩ := trodAll_nil r0
  obtain rfl : args = #[v0] := by cases args; simp_all
  obtain ⟨A0, n0, c0, bs0, rfl, hr0, hn0⟩ := arg_bytes Try.underlying39 Try.underlying5 (by kernel_rfl) (hval 0 39 v0 rfl rfl) h0
  refine (walk W A0 n0 c0 bs0 hr0 hn0).mono fun e W' ⟨he, hb⟩ => ?_
  subst he
  exact ⟨_, rfl, law_post laidOut (by
    rw [show Try.f12.params.toList = [39] from rfl]
    intro t ht
    rw [List.mem_singleton.1 ht]; exact ⟨by kernel_rfl, of_decide_eq_true (by kernel_rfl)⟩) rfl Try.underlying4 rfl rfl hW' hb⟩

set_option maxRecDepth 100000 in
theorem closed : joinedFacts Try.prog 12 Try.f12 Rows.fnSlipsSpec Rows.fnSlipsRow = true := by
  unfold joinedFacts
  rw [mayEnter_ok, liftsFinal_ok, make_ok]
  change _ = true
  kernel_rfl

theorem holds : Rows.FnSlipsSaid :=
  OpenClaim.holds_of_wide 12 Try.f12 rfl rfl rfl rfl rfl rfl rfl ⟨rfl, rfl, rfl, rfl, rfl⟩ rfl rfl rfl rfl rfl (by kernel_rfl) Try.func12 closed
    (of_decide_eq_true (by kernel_rfl)) (by unfold Func.isWrapper; first | (rw [if_pos (by decide +kernel)]; kernel_rfl) | (rw [if_neg (by decide +kernel)]; exact ⟨rfl, rfl⟩))
    (fun os started H enc _ => lifted os started H enc)
end FnSlips
end Go.Proofs.Ytjehkjdehkdjcaa
