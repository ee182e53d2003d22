/- FnBounded: the bytes of a transmission whose nominal samples a bounded script has changed are decoded, for every code. Conditions: none. -/
import Derived.Test.YtjehkjdehkdjcaaB2
import Derived.Test.YtjehkjdehkdjcaaB9
import Derived.Test.YtjehkjdehkdjcaaB19
import Derived.Test.YtjehkjdehkdjcaaB12
import Derived.Test.YtjehkjdehkdjcaaB28
import Derived.Test.YtjehkjdehkdjcaaB27
import Derived.Test.YtjehkjdehkdjcaaB7
import Derived.Test.YtjehkjdehkdjcaaB4
import Derived.Test.YtjehkjdehkdjcaaB5
import Derived.Test.YtjehkjdehkdjcaaB11
import Derived.BigQuiet
import Derived.IntWalk
namespace Go.Proofs.Ytjehkjdehkdjcaa
open Go.ChangeShapes Go.WideShapes Go.ChangeAt Go.RowKit
namespace FnBounded

theorem dice_next {W w1 w2 : World} {B g : Nat} (h : W.grownBy w2 (some g)) (hb : Below B w1 W) (hg : B ≤ g) (hs : B ≤ W.heap.size) : Below B w1 w2 :=
  hb.grown h hs (fun j e => by cases e; exact hg)
theorem cells_len (ds : List Int) (p : Int) : (CellsOf.res ds p).length ≤ 8192 := by
  unfold CellsOf.res
  split
  · rename_i hc
    have := CellsOf.ok hc
    rw [cellsP_len]
    omega
  · simp

set_option maxRecDepth 100000 in
set_option maxHeartbeats 16000000 in
theorem walk (w : World) (A : Option Addr) (n c : Nat) (bs : List Int) (h : RB w w.heap.size A n bs) (hn : n ≤ maxLen) :
    Calls Try.prog 15 #[.slice A n c] w fun e w' => e = .returned (.bool true) ∧ Below w.heap.size w w' := by
  rcases bool_cases (decide (4096 < n)) with hbig | hbig
  · go_enter Try.func15, Try.ntmps15
    go_wp2_with (go_at_call 21; refine (big_any _ _ _ _ hn).mono ?_; rw [hbig]; rintro e w' ⟨rfl, rfl⟩)
    go_ret
    exact ⟨rfl, Below.refl _ _⟩
  have hn4 : n ≤ 4096 := by simpa using hbig
  have B := Lib.hid (Below.refl w.heap.size w)
  go_enter Try.func15, Try.ntmps15
  go_wp2_with (go_at_call 21; refine (big_any _ _ _ _ hn).mono ?_; rw [hbig]; rintro e w' ⟨rfl, rfl⟩)
  clear hbig hn
  refine (drawIsBounded_any A n c bs _ ((h.below B.out (Nat.le_refl _)).more B.out.size) (by omega)).mono ?_
  rintro e w1 ⟨A_s, n_s, c_s, z_s, A_f, n_f, c_f, z_f, rfl, o_s, hn_s, o_f, hn_f, hb⟩
  replace B := Lib.hid (below_next hb B.out (Nat.le_refl _))
  have r_s := o_s.reads
  have L_s := Lib.hid o_s.len
  have r_f := o_f.reads encF_len
  have L_f := Lib.hid o_f.len
  have cap_s := o_s.cap
  have pl_s := Lib.hid o_s.pl
  clear hb o_s o_f
  obtain ⟨V, hV⟩ : ∃ x, BoundOf.val z_s z_f = x := ⟨_, rfl⟩
  obtain ⟨q, hq⟩ : ∃ x, bsCode z_s z_f = x := ⟨_, rfl⟩
  obtain ⟨I, hI⟩ : ∃ x, IsBounded.val z_s z_f = x := ⟨_, rfl⟩
  have HV := Lib.hid hV; have HQ := Lib.hid hq; have HI := Lib.hid hI
  clear hV hq hI
  go_wp2_with fail
  refine (BoundOf.impl_any A_s n_s c_s z_s A_f n_f c_f z_f _ r_s (by omega) pl_s.out cap_s.1 cap_s.2 r_f (by omega)).mono ?_
  rw [HV.out, HQ.out]
  rintro e w2 ⟨rfl, hb⟩
  replace B := Lib.hid (below_next hb B.out (Nat.le_refl _))
  replace r_s := r_s.up hb
  replace r_f := r_f.up hb
  clear hb
  go_wp2_with fail
  refine (BoundOf.spec_any A_s n_s c_s z_s A_f n_f c_f z_f _ r_s (by omega) pl_s.out cap_s.1 cap_s.2 r_f (by omega)).mono ?_
  rw [HV.out, HQ.out]
  rintro e w3 ⟨rfl, hb⟩
  replace B := Lib.hid (below_next hb B.out (Nat.le_refl _))
  replace r_s := r_s.up hb
  replace r_f := r_f.up hb
  clear hb
  go_wp2_with fail
  refine (IsBounded.impl_any A_s n_s c_s z_s A_f n_f c_f z_f _ r_s (by omega) pl_s.out cap_s.1 cap_s.2 r_f (by omega)).mono ?_
  rw [HI.out]
  rintro e w4 ⟨rfl, hb⟩
  replace B := Lib.hid (below_next hb B.out (Nat.le_refl _))
  replace r_s := r_s.up hb
  replace r_f := r_f.up hb
  clear hb
  go_wp2_with fail
  refine (IsBounded.spec_any A_s n_s c_s z_s A_f n_f c_f z_f _ r_s (by omega) pl_s.out cap_s.1 cap_s.2 r_f (by omega)).mono ?_
  rw [HI.out]
  rintro e w5 ⟨rfl, hb⟩
  replace B := Lib.hid (below_next hb B.out (Nat.le_refl _))
  replace r_s := r_s.up hb
  replace r_f := r_f.up hb
  clear hb
  clear r_s
  go_wp2_with fail
  refine (drawCellsOf_any A n c bs _ ((h.below B.out (Nat.le_refl _)).more B.out.size) (by omega)).mono ?_
  rintro e w6 ⟨A_d, n_d, c_d, z_d, p, rfl, o_d, hn_d, hp, hb⟩
  replace B := Lib.hid (below_next hb B.out (Nat.le_refl _))
  replace r_f := r_f.up hb
  have r_d := o_d.reads
  have L_d := Lib.hid o_d.len
  have cap_d := o_d.cap
  clear hb o_d
  obtain ⟨X, hX⟩ : ∃ x, CellsOf.res z_d p = x := ⟨_, rfl⟩
  obtain ⟨r, hr⟩ : ∃ x, CellsOf.cod z_d p = x := ⟨_, rfl⟩
  have HX := Lib.hid hX; have HR := Lib.hid hr
  have HXL := Lib.hid (show X.length ≤ 8192 from by rw [← hX]; exact cells_len _ _)
  clear hX hr
  go_wp2_with fail
  refine (CellsOf.spec_any A_d n_d c_d p z_d _ r_d (by omega) cap_d.1 cap_d.2 (by omega)).mono ?_
  rw [HX.out, HR.out]
  rintro e w7 ⟨A_c, n_c, c_c, rfl, o_c, hb⟩
  replace B := Lib.hid (below_next hb B.out (Nat.le_refl _))
  replace r_f := r_f.up hb
  replace r_d := r_d.up hb
  have r_c := o_c.reads
  have L_c := Lib.hid o_c.len
  have non_c := Lib.hid (own_none o_c)
  clear hb o_c
  have hn_c : n_c ≤ 8192 := by have := L_c.out; have := HXL.out; omega
  rcases ne_cases r with rfl | ⟨h1, h2, h3⟩
  case inr =>
    go_wp2
    go_ret
    exact ⟨rfl, B.out⟩
  by_cases h6 : n_c ≤ 600
  case neg =>
    go_wp2
    go_ret
    exact ⟨rfl, B.out⟩
  obtain ⟨g1, g2, g3, g4, g5, g6, g7⟩ := line_facts HR.out (by rw [HX.out, L_c.out]; exact h6)
  rw [HX.out] at g1
  subst g1
  obtain ⟨S, hS⟩ : ∃ x, nom (lineP 4 (cellsP z_d p) 4) = x := ⟨_, rfl⟩
  have ne := @places_line z_d p
  rw [hS] at g3 g4 g5 g6 g7 ne
  obtain ⟨ln, hln⟩ : ∃ x, lineP 4 (cellsP z_d p) 4 = x := ⟨_, rfl⟩
  have hlnl : ln.length ≤ 8192 := by rw [← hln, lineP_len]; have := L_c.out; omega
  rw [hln] at g2 g3
  have G2 := Lib.hid g2; have G3 := Lib.hid g3; have G4 := Lib.hid g4; have G7 := Lib.hid g7; have NE := Lib.hid ne; have HLN := Lib.hid hlnl; have G5 := Lib.hid g5; have G6 := Lib.hid g6
  clear g2 g3 g4 g5 g6 g7 ne hln hlnl hS
  rcases bool_cases (isScript z_f) with hsc | hsc
  case inr =>
    go_wp2_with fail
    refine (sIsScript_any A_f n_f c_f z_f _ r_f (by omega)).mono ?_
    rw [hsc]
    rintro e w' ⟨rfl, hb⟩
    go_wp2
    go_ret
    exact ⟨rfl, below_next hb B.out (Nat.le_refl _)⟩
  have HSC := Lib.hid hsc
  clear hsc
  go_wp2_with fail
  refine (sIsScript_any A_f n_f c_f z_f _ r_f (by omega)).mono ?_
  rw [HSC.out]
  rintro e w8 ⟨rfl, hb⟩
  replace B := Lib.hid (below_next hb B.out (Nat.le_refl _))
  replace r_f := r_f.up hb
  replace r_d := r_d.up hb
  replace r_c := r_c.up hb
  clear hb
  go_wp2_with fail
  refine (PadLine.spec_any A_c n_c c_c 4 4 (cellsP z_d p) _ r_c (by omega) non_c.out (by omega) (by omega)).mono ?_
  rw [G2.out]
  rintro e w9 ⟨A_l, n_l, c_l, rfl, o_l, hb⟩
  replace B := Lib.hid (below_next hb B.out (Nat.le_refl _))
  replace r_f := r_f.up hb
  replace r_d := r_d.up hb
  replace r_c := r_c.up hb
  have r_l := o_l.reads
  have L_l := Lib.hid o_l.len
  clear hb o_l
  clear r_c
  have hn_l : n_l ≤ 8192 := by have := L_l.out; have := HLN.out; omega
  go_wp2_with fail
  refine (NominalSamples.spec_any A_l n_l c_l ln _ r_l (by omega)).mono ?_
  rw [G3.out]
  rintro e w10 ⟨A_n, n_n, c_n, rfl, o_n, hb⟩
  replace B := Lib.hid (below_next hb B.out (Nat.le_refl _))
  replace r_f := r_f.up hb
  replace r_d := r_d.up hb
  replace r_l := r_l.up hb
  have r_n := o_n.reads
  have L_n := Lib.hid o_n.len
  have cap_n := o_n.cap
  have pl_n := Lib.hid o_n.pl
  have non_n := Lib.hid (own_none o_n)
  clear hb o_n
  clear r_l
  have hn_n : n_n ≤ 5000 := by have := L_n.out; have := G5.out; omega
  obtain ⟨J, hJ⟩ : ∃ x, IsBounded.val S z_f = x := ⟨_, rfl⟩
  have HJ := Lib.hid hJ
  clear hJ
  go_wp2_with fail
  refine (IsBounded.spec_any A_n n_n c_n S A_f n_f c_f z_f _ r_n (by omega) pl_n.out cap_n.1 cap_n.2 r_f (by omega)).mono ?_
  rw [HJ.out]
  rintro e w11 ⟨rfl, hb⟩
  replace B := Lib.hid (below_next hb B.out (Nat.le_refl _))
  replace r_f := r_f.up hb
  replace r_d := r_d.up hb
  replace r_n := r_n.up hb
  clear hb
  cases J
  case false =>
    clear r_f
    go_wp2_with fail
    refine (SlipPlaces.impl_any A_n n_n c_n S _ r_n (by omega) cap_n.1 cap_n.2).mono ?_
    rw [show SlipPlaces.res S = SlipPlaces.slipsTo S S.length from by unfold SlipPlaces.res; rw [if_pos G4.out], show SlipPlaces.cod S = 0 from by unfold SlipPlaces.cod; rw [if_pos G4.out]]
    rintro e w12 ⟨A_p, n_p, c_p, rfl, o_p, hb⟩
    replace B := Lib.hid (below_next hb B.out (Nat.le_refl _))
    replace r_d := r_d.up hb
    replace r_n := r_n.up hb
    have r_p := o_p.reads
    have L_p := Lib.hid o_p.len
    clear hb o_p
    have h1p : 1 ≤ n_p := by
      have := L_p.out
      have h := NE.out
      rcases n_p with _ | n
      · exact absurd (List.eq_nil_of_length_eq_zero this) h
      · omega
    have hn_p : n_p ≤ 8192 := by have := L_p.out; have := SlipPlaces.slipsTo_len S S.length; have := G5.out; omega
    go_wp2_with fail
    refine (roll_any A n c bs _ _ ((h.below B.out (Nat.le_refl _)).more B.out.size) (by omega)).mono ?_
    rintro e w13 ⟨g, rfl, hd3, hg3, hb3⟩
    go_wp2_with fail
    refine (dice_below g n_p _ hd3 (by omega)).mono ?_
    rintro e w14 ⟨x, rfl, hx, hd4, hg4⟩
    have hb := dice_next hg4 hb3 hg3 hb3.size
    replace B := Lib.hid (below_next hb B.out (Nat.le_refl _))
    replace r_d := r_d.up hb
    replace r_n := r_n.up hb
    replace r_p := r_p.up hb
    have hx9 : x < n_p := by omega
    clear hx hd3 hg3 hb3 hd4 hg4 hb
    obtain ⟨bp, op, rfl, hbp, hcp⟩ := r_p.get (by omega)
    have hcell := hcp x hx9
    obtain ⟨i, hi1, hi2, hi3⟩ := slipsTo_mem.1 (mem_gi (zs := SlipPlaces.slipsTo S S.length) (i := x) (by rw [L_p.out]; exact hx9))
    rw [hi2] at hcell
    rw [L_n.out] at hi1
    have hi9 : i ≤ 5000 := by omega
    obtain ⟨u1, u2⟩ := drop_bnd hi3 (Nat.le_trans G5.out (by omega))
    obtain ⟨d1, d2⟩ := G7.out _ u1 u2
    have b1 : bsCode S [⟨3, i, 1, 0⟩] = 0 := ApplyScript.bs_of G4.out u1
    have e1 : ApplyScript.res S [⟨3, i, 1, 0⟩] = appS S [⟨3, i, 1, 0⟩] := by unfold ApplyScript.res; rw [if_pos b1]
    obtain ⟨Z, hZ⟩ : ∃ x, appS S [⟨3, i, 1, 0⟩] = x := ⟨_, rfl⟩
    have hzl : Z.length ≤ 8192 := by rw [← hZ, ← e1]; exact ApplyScript.res_len _ _
    rw [hZ] at e1 d1 d2
    have B1 := Lib.hid b1; have E1 := Lib.hid e1; have D1 := Lib.hid d1; have D2 := Lib.hid d2; have HZL := Lib.hid hzl
    clear b1 e1 d1 d2 hzl hZ u1 u2 hi1 hi2 hi3 hcp
    go_wp2_with fail
    obtain ⟨wl, hwl⟩ : ∃ x, w14.alloc (.cells #[.int .i64 3, .int .i64 i, .int .i64 1, .int .i64 0] 82) = x := ⟨_, rfl⟩
    have hb := (Below.refl w14.heap.size w14).alloc (Nat.le_refl _) (o := .cells #[.int .i64 3, .int .i64 i, .int .i64 1, .int .i64 0] 82)
    have hk := Blk4.new w14 82 (.int .i64 3) (.int .i64 i) (.int .i64 1) (.int .i64 0)
    have hsz : w14.heap.size < wl.heap.size := by rw [← hwl]; simp
    rw [hwl] at hb hk ⊢
    replace B := Lib.hid (below_next hb B.out (Nat.le_refl _))
    replace r_d := r_d.up hb
    replace r_n := r_n.up hb
    replace r_p := r_p.up hb
    clear hb hwl
    have r_o := RE.one (f := ⟨3, i, 1, 0⟩) hk hsz
    clear hk hsz
    refine (ApplyScript.impl_any A_n n_n c_n S (some ⟨w14.heap.size, 0, none⟩) 1 1 [⟨3, i, 1, 0⟩] _ r_n (by omega) non_n.out r_o (by omega)).mono ?_
    rw [E1.out, B1.out]
    rintro e w15 ⟨A_z, n_z, c_z, rfl, o_z, hb⟩
    replace B := Lib.hid (below_next hb B.out (Nat.le_refl _))
    replace r_d := r_d.up hb
    replace r_n := r_n.up hb
    replace r_p := r_p.up hb
    have r_z := o_z.reads
    have L_z := Lib.hid o_z.len
    clear r_o
    clear hb o_z
    have hn_z : n_z ≤ 8192 := by have := L_z.out; have := HZL.out; omega
    go_wp2_with fail
    refine (DecodeSamples.impl_any A_z n_z c_z Z _ r_z (by omega) (by omega)).mono ?_
    rw [D1.out, D2.out]
    rintro e w16 ⟨A_w, n_w, c_w, rfl, o_w, hb⟩
    replace B := Lib.hid (below_next hb B.out (Nat.le_refl _))
    replace r_d := r_d.up hb
    replace r_n := r_n.up hb
    replace r_p := r_p.up hb
    replace r_z := r_z.up hb
    have r_w := o_w.reads
    have L_w := Lib.hid o_w.len
    clear hb o_w
    have e_w : n_d = n_w := by have := L_w.out; have := L_d.out; omega
    subst e_w
    go_wp2_with fail
    have lk := likeIntsV A_w A_d (n_d) (n_d) c_w c_d z_d z_d _ r_w r_d (by omega) (by omega)
    rw [eqI_self] at lk
    refine lk.mono ?_
    clear lk
    rintro e w17 ⟨rfl, hb⟩
    replace B := Lib.hid (below_next hb B.out (Nat.le_refl _))
    replace r_d := r_d.up hb
    replace r_n := r_n.up hb
    replace r_p := r_p.up hb
    replace r_z := r_z.up hb
    replace r_w := r_w.up hb
    clear hb
    go_wp2
    go_ret
    exact ⟨rfl, B.out⟩
  case true =>
    have jb : 0 < bnd S z_f := by have h := HJ.out; unfold IsBounded.val at h; simp only [Bool.and_eq_true, decide_eq_true_eq] at h; exact h.2
    obtain ⟨d1, d2⟩ := G7.out z_f HSC.out jb
    have b1 : bsCode S z_f = 0 := ApplyScript.bs_of G4.out HSC.out
    have e1 : ApplyScript.res S z_f = appS S z_f := by unfold ApplyScript.res; rw [if_pos b1]
    obtain ⟨Y, hY⟩ : ∃ x, appS S z_f = x := ⟨_, rfl⟩
    have hyl : Y.length ≤ 8192 := by rw [← hY, ← e1]; exact ApplyScript.res_len _ _
    rw [hY] at e1 d1 d2
    have B1 := Lib.hid b1; have E1 := Lib.hid e1; have D1 := Lib.hid d1; have D2 := Lib.hid d2; have HYL := Lib.hid hyl
    clear b1 e1 d1 d2 hyl hY jb
    go_wp2_with fail
    refine (ApplyScript.impl_any A_n n_n c_n S A_f n_f c_f z_f _ r_n (by omega) non_n.out r_f (by omega)).mono ?_
    rw [E1.out, B1.out]
    rintro e w12 ⟨A_y, n_y, c_y, rfl, o_y, hb⟩
    replace B := Lib.hid (below_next hb B.out (Nat.le_refl _))
    replace r_f := r_f.up hb
    replace r_d := r_d.up hb
    replace r_n := r_n.up hb
    have r_y := o_y.reads
    have L_y := Lib.hid o_y.len
    have cap_y := o_y.cap
    clear hb o_y
    have hn_y : n_y ≤ 8192 := by have := L_y.out; have := HYL.out; omega
    go_wp2_with fail
    refine (DecodeSamples.impl_any A_y n_y c_y Y _ r_y (by omega) (by omega)).mono ?_
    rw [D1.out, D2.out]
    rintro e w13 ⟨A_x, n_x, c_x, rfl, o_x, hb⟩
    replace B := Lib.hid (below_next hb B.out (Nat.le_refl _))
    replace r_f := r_f.up hb
    replace r_d := r_d.up hb
    replace r_n := r_n.up hb
    replace r_y := r_y.up hb
    have r_x := o_x.reads
    have L_x := Lib.hid o_x.len
    clear hb o_x
    have e_x : n_d = n_x := by have := L_x.out; have := L_d.out; omega
    subst e_x
    go_wp2_with fail
    have lk := likeIntsV A_x A_d (n_d) (n_d) c_x c_d z_d z_d _ r_x r_d (by omega) (by omega)
    rw [eqI_self] at lk
    refine lk.mono ?_
    clear lk
    rintro e w14 ⟨rfl, hb⟩
    replace B := Lib.hid (below_next hb B.out (Nat.le_refl _))
    replace r_f := r_f.up hb
    replace r_d := r_d.up hb
    replace r_n := r_n.up hb
    replace r_y := r_y.up hb
    replace r_x := r_x.up hb
    clear hb
    clear r_y
    clear r_x
    clear r_f
    go_wp2_with fail
    refine (SlipPlaces.impl_any A_n n_n c_n S _ r_n (by omega) cap_n.1 cap_n.2).mono ?_
    rw [show SlipPlaces.res S = SlipPlaces.slipsTo S S.length from by unfold SlipPlaces.res; rw [if_pos G4.out], show SlipPlaces.cod S = 0 from by unfold SlipPlaces.cod; rw [if_pos G4.out]]
    rintro e w15 ⟨A_p, n_p, c_p, rfl, o_p, hb⟩
    replace B := Lib.hid (below_next hb B.out (Nat.le_refl _))
    replace r_d := r_d.up hb
    replace r_n := r_n.up hb
    have r_p := o_p.reads
    have L_p := Lib.hid o_p.len
    clear hb o_p
    have h1p : 1 ≤ n_p := by
      have := L_p.out
      have h := NE.out
      rcases n_p with _ | n
      · exact absurd (List.eq_nil_of_length_eq_zero this) h
      · omega
    have hn_p : n_p ≤ 8192 := by have := L_p.out; have := SlipPlaces.slipsTo_len S S.length; have := G5.out; omega
    go_wp2_with fail
    refine (roll_any A n c bs _ _ ((h.below B.out (Nat.le_refl _)).more B.out.size) (by omega)).mono ?_
    rintro e w16 ⟨g, rfl, hd3, hg3, hb3⟩
    go_wp2_with fail
    refine (dice_below g n_p _ hd3 (by omega)).mono ?_
    rintro e w17 ⟨x, rfl, hx, hd4, hg4⟩
    have hb := dice_next hg4 hb3 hg3 hb3.size
    replace B := Lib.hid (below_next hb B.out (Nat.le_refl _))
    replace r_d := r_d.up hb
    replace r_n := r_n.up hb
    replace r_p := r_p.up hb
    have hx9 : x < n_p := by omega
    clear hx hd3 hg3 hb3 hd4 hg4 hb
    obtain ⟨bp, op, rfl, hbp, hcp⟩ := r_p.get (by omega)
    have hcell := hcp x hx9
    obtain ⟨i, hi1, hi2, hi3⟩ := slipsTo_mem.1 (mem_gi (zs := SlipPlaces.slipsTo S S.length) (i := x) (by rw [L_p.out]; exact hx9))
    rw [hi2] at hcell
    rw [L_n.out] at hi1
    have hi9 : i ≤ 5000 := by omega
    obtain ⟨u1, u2⟩ := drop_bnd hi3 (Nat.le_trans G5.out (by omega))
    obtain ⟨d1, d2⟩ := G7.out _ u1 u2
    have b1 : bsCode S [⟨3, i, 1, 0⟩] = 0 := ApplyScript.bs_of G4.out u1
    have e1 : ApplyScript.res S [⟨3, i, 1, 0⟩] = appS S [⟨3, i, 1, 0⟩] := by unfold ApplyScript.res; rw [if_pos b1]
    obtain ⟨Z, hZ⟩ : ∃ x, appS S [⟨3, i, 1, 0⟩] = x := ⟨_, rfl⟩
    have hzl : Z.length ≤ 8192 := by rw [← hZ, ← e1]; exact ApplyScript.res_len _ _
    rw [hZ] at e1 d1 d2
    have B1 := Lib.hid b1; have E1 := Lib.hid e1; have D1 := Lib.hid d1; have D2 := Lib.hid d2; have HZL := Lib.hid hzl
    clear b1 e1 d1 d2 hzl hZ u1 u2 hi1 hi2 hi3 hcp
    go_wp2_with fail
    obtain ⟨wl, hwl⟩ : ∃ x, w17.alloc (.cells #[.int .i64 3, .int .i64 i, .int .i64 1, .int .i64 0] 82) = x := ⟨_, rfl⟩
    have hb := (Below.refl w17.heap.size w17).alloc (Nat.le_refl _) (o := .cells #[.int .i64 3, .int .i64 i, .int .i64 1, .int .i64 0] 82)
    have hk := Blk4.new w17 82 (.int .i64 3) (.int .i64 i) (.int .i64 1) (.int .i64 0)
    have hsz : w17.heap.size < wl.heap.size := by rw [← hwl]; simp
    rw [hwl] at hb hk ⊢
    replace B := Lib.hid (below_next hb B.out (Nat.le_refl _))
    replace r_d := r_d.up hb
    replace r_n := r_n.up hb
    replace r_p := r_p.up hb
    clear hb hwl
    have r_o := RE.one (f := ⟨3, i, 1, 0⟩) hk hsz
    clear hk hsz
    refine (ApplyScript.impl_any A_n n_n c_n S (some ⟨w17.heap.size, 0, none⟩) 1 1 [⟨3, i, 1, 0⟩] _ r_n (by omega) non_n.out r_o (by omega)).mono ?_
    rw [E1.out, B1.out]
    rintro e w18 ⟨A_z, n_z, c_z, rfl, o_z, hb⟩
    replace B := Lib.hid (below_next hb B.out (Nat.le_refl _))
    replace r_d := r_d.up hb
    replace r_n := r_n.up hb
    replace r_p := r_p.up hb
    have r_z := o_z.reads
    have L_z := Lib.hid o_z.len
    clear r_o
    clear hb o_z
    have hn_z : n_z ≤ 8192 := by have := L_z.out; have := HZL.out; omega
    go_wp2_with fail
    refine (DecodeSamples.impl_any A_z n_z c_z Z _ r_z (by omega) (by omega)).mono ?_
    rw [D1.out, D2.out]
    rintro e w19 ⟨A_w, n_w, c_w, rfl, o_w, hb⟩
    replace B := Lib.hid (below_next hb B.out (Nat.le_refl _))
    replace r_d := r_d.up hb
    replace r_n := r_n.up hb
    replace r_p := r_p.up hb
    replace r_z := r_z.up hb
    have r_w := o_w.reads
    have L_w := Lib.hid o_w.len
    clear hb o_w
    have e_w : n_d = n_w := by have := L_w.out; have := L_d.out; omega
    subst e_w
    go_wp2_with fail
    have lk := likeIntsV A_w A_d (n_d) (n_d) c_w c_d z_d z_d _ r_w r_d (by omega) (by omega)
    rw [eqI_self] at lk
    refine lk.mono ?_
    clear lk
    rintro e w20 ⟨rfl, hb⟩
    replace B := Lib.hid (below_next hb B.out (Nat.le_refl _))
    replace r_d := r_d.up hb
    replace r_n := r_n.up hb
    replace r_p := r_p.up hb
    replace r_z := r_z.up hb
    replace r_w := r_w.up hb
    clear hb
    go_wp2
    go_ret
    exact ⟨rfl, B.out⟩

set_option maxRecDepth 100000 in
theorem lifted (os : Os) (started : os.Started) (H : Type) (enc : TypeId × Value → H) :
    ReturnsInHanded {} Try.checked os 15 .any (Rows.fnBoundedSpec.pre6 enc Try.prog Try.f15 Rows.fnBoundedRow.domain false) (Rows.fnBoundedSpec.post enc Try.prog Try.f15 false true false false) := by
  refine returnsInHanded_of_change (C := Try.checked) own started (by kernel_rfl) Try.func15
    (ChangeSpec.witness6 (enc := enc) (C := Try.checked) false ⟨#[], #[.slice none 0 0], []⟩ 8 (by kernel_rfl) (by kernel_rfl) (by kernel_rfl) (by kernel_rfl)) ?_
  intro W base args ds gs before hval0 hW _ _
  have hval : ∀ (j : Nat) t v, Try.f15.params[j]? = some t → args[j]? = some v → Value.okWide Try.prog W .any base t v := hval0
  have hW' := hW
  obtain ⟨p, q, hA0, hV, rfl, hfz, hnd⟩ := hW
  have hA : DataW.TrodAll enc Try.prog W 0 (fun _ => true) true Try.f15.params.toList args.toList ds p := hA0
  rw [Try.params15] at hA hval
  obtain ⟨v0, vs0, d0, ds0, p0, q0, hargs, rfl, rfl, h0, r0⟩ := trodAll_cons hA
  obtain ⟨rfl, rfl, rfl⟩ := trodAll_nil r0
  obtain rfl : args = #[v0] := by cases args; simp_all
  obtain ⟨A0, n0, c0, bs0, rfl, hr0, hn0⟩ := arg_bytes Try.underlying39 Try.underlying5 (by kernel_rfl) (hval 0 39 v0 rfl rfl) h0
  refine (walk W A0 n0 c0 bs0 hr0 hn0).mono fun e W' ⟨he, hb⟩ => ?_
  subst he
  exact ⟨_, rfl, law_post laidOut (by
    rw [show Try.f15.params.toList = [39] from rfl]
    intro t ht
    rw [List.mem_singleton.1 ht]; exact ⟨by kernel_rfl, of_decide_eq_true (by kernel_rfl)⟩) rfl Try.underlying4 rfl rfl hW' hb⟩

set_option maxRecDepth 100000 in
theorem closed : joinedFacts Try.prog 15 Try.f15 Rows.fnBoundedSpec Rows.fnBoundedRow = true := by
  unfold joinedFacts
  rw [mayEnter_ok, liftsFinal_ok, make_ok]
  change _ = true
  kernel_rfl

theorem holds : Rows.FnBoundedSaid :=
  OpenClaim.holds_of_wide 15 Try.f15 rfl rfl rfl rfl rfl rfl rfl ⟨rfl, rfl, rfl, rfl, rfl⟩ rfl rfl rfl rfl rfl (by kernel_rfl) Try.func15 closed
    (of_decide_eq_true (by kernel_rfl)) (by unfold Func.isWrapper; first | (rw [if_pos (by decide +kernel)]; kernel_rfl) | (rw [if_neg (by decide +kernel)]; exact ⟨rfl, rfl⟩))
    (fun os started H enc _ => lifted os started H enc)
end FnBounded
end Go.Proofs.Ytjehkjdehkdjcaa
