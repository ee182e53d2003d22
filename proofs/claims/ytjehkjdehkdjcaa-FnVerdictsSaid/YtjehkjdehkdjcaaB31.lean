/- Walks, laws and small notions for the claims of this seat, several texts as one (DrwYV, DrwYT). Conditions: as each theorem states them. -/
import Derived.Test.YtjehkjdehkdjcaaB30
import Derived.Test.YtjehkjdehkdjcaaB12
import Derived.Deep.RegionWith
import Derived.Test.YtjehkjdehkdjcaaB1
namespace Go.Proofs.Ytjehkjdehkdjcaa
open Go.RowKit

set_option maxRecDepth 6000 in
set_option maxHeartbeats 8000000 in
theorem drawVerdict_any (g : Nat) (w : World) (h : Src w g) :
    Calls Try.prog 136 #[.pointer (some ⟨g, 0, none⟩)] w (DrVd w g) := by
  have hl := h.lt
  have hne_R : g ≠ w.heap.size := by omega
  go_enter Try.func136, Try.ntmps136
  go_wp2_with fail
  refine (next_any g 5 _ ((Dr.refl h).alloc _).src).mono ?_
  rintro e w1 ⟨st, rfl, hx_st, d⟩
  have K_R := Lib.hid (show BlkL w1 (w.heap.size) 35 [.int .i64 0, .int .i64 0, .int .i64 0, .int .i64 0, .int .i64 0, .int .i64 0, .int .i64 0, .int .i64 0, .slice none 0 0] from BlkL.dr (BlkL.new _ 35 _ rfl) d hne_R)
  have D_1 := Lib.hid (d.next ((Dr.refl h).alloc _))
  have hb_st : st < 5 := by omega
  clear d
  have hg1 := D_1.out.lt
  have hK1 := K_R.out.lt
  by_cases h3 : st = 3
  case pos =>
    subst h3
    have hne_V : g ≠ w1.heap.size := by have := D_1.out.lt; omega
    have ne_RV : ¬ w.heap.size = w1.heap.size := by have := K_R.out.lt; omega
    have ne_VR : ¬ w1.heap.size = w.heap.size := fun e => ne_RV e.symm
    go_wp2_with fail
    refine (drawFrame_any g _ (D_1.out.alloc _).src).mono ?_
    rintro e w2 ⟨k, r, t, m, dd, sl, b, A, n, c, zs, rfl, ho, hn, d⟩
    replace K_R := Lib.hid (show BlkL w2 (w.heap.size) 35 [.int .i64 0, .int .i64 0, .int .i64 0, .int .i64 0, .int .i64 0, .int .i64 0, .int .i64 0, .int .i64 0, .slice none 0 0] from BlkL.dr (K_R.out.alloc _) d hne_R)
    have K_V := Lib.hid (show BlkL w2 (w1.heap.size) 35 [.int .i64 3, .int .i64 0, .int .i64 0, .int .i64 0, .int .i64 0, .int .i64 0, .int .i64 0, .int .i64 0, .slice none 0 0] from BlkL.dr (BlkL.new _ 35 _ rfl) d hne_V)
    have D_2 := Lib.hid (d.next (D_1.out.alloc _))
    have hle_V : w.heap.size ≤ w1.heap.size := by have := D_1.out.size; omega
    have O := Lib.hid ho
    have no_R : w.heap.size < (w1.alloc (.cells #[.int .i64 3, .int .i64 0, .int .i64 0, .int .i64 0, .int .i64 0, .int .i64 0, .int .i64 0, .int .i64 0, .slice none 0 0] 35)).heap.size := by simp; omega
    have no_V : w1.heap.size < (w1.alloc (.cells #[.int .i64 3, .int .i64 0, .int .i64 0, .int .i64 0, .int .i64 0, .int .i64 0, .int .i64 0, .int .i64 0, .slice none 0 0] 35)).heap.size := by simp
    clear ho
    clear d
    have kR0_1 := K_R.out.c 0 rfl; have kR1_1 := K_R.out.c 1 rfl; have kR2_1 := K_R.out.c 2 rfl; have kR3_1 := K_R.out.c 3 rfl; have kR4_1 := K_R.out.c 4 rfl; have kR5_1 := K_R.out.c 5 rfl; have kR6_1 := K_R.out.c 6 rfl; have kR7_1 := K_R.out.c 7 rfl; have kR8_1 := K_R.out.c 8 rfl; have kfR_1 := K_R.out.free
    have kV0_2 := K_V.out.c 0 rfl; have kV1_2 := K_V.out.c 1 rfl; have kV2_2 := K_V.out.c 2 rfl; have kV3_2 := K_V.out.c 3 rfl; have kV4_2 := K_V.out.c 4 rfl; have kV5_2 := K_V.out.c 5 rfl; have kV6_2 := K_V.out.c 6 rfl; have kV7_2 := K_V.out.c 7 rfl; have kV8_2 := K_V.out.c 8 rfl; have kfV_2 := K_V.out.free
    go_upto_region 4 with fail
    obtain ⟨wA, hwA⟩ : ∃ x, ((((((((w2.setCell ⟨w1.heap.size, 1, none⟩ (.int .i64 k)).setCell ⟨w1.heap.size, 2, none⟩ (.int .i64 r)).setCell ⟨w1.heap.size, 3, none⟩ (.int .i64 t)).setCell ⟨w1.heap.size, 4, none⟩ (.int .i64 m)).setCell ⟨w1.heap.size, 5, none⟩ (.int .i64 dd)).setCell ⟨w1.heap.size, 6, none⟩ (.int .i64 sl)).setCell ⟨w1.heap.size, 7, none⟩ (.int .i64 b)).setCell ⟨w1.heap.size, 8, none⟩ (.slice A n c)) = x := ⟨_, rfl⟩
    clear kR0_1 kR1_1 kR2_1 kR3_1 kR4_1 kR5_1 kR6_1 kR7_1 kR8_1 kfR_1
    clear kV0_2 kV1_2 kV2_2 kV3_2 kV4_2 kV5_2 kV6_2 kV7_2 kV8_2 kfV_2
    replace K_R := Lib.hid (show BlkL wA (w.heap.size) 35 [.int .i64 0, .int .i64 0, .int .i64 0, .int .i64 0, .int .i64 0, .int .i64 0, .int .i64 0, .int .i64 0, .slice none 0 0] from hwA ▸ ((((((((K_R.out.other (p := ⟨w1.heap.size, 1, none⟩) ne_VR _).other (p := ⟨w1.heap.size, 2, none⟩) ne_VR _).other (p := ⟨w1.heap.size, 3, none⟩) ne_VR _).other (p := ⟨w1.heap.size, 4, none⟩) ne_VR _).other (p := ⟨w1.heap.size, 5, none⟩) ne_VR _).other (p := ⟨w1.heap.size, 6, none⟩) ne_VR _).other (p := ⟨w1.heap.size, 7, none⟩) ne_VR _).other (p := ⟨w1.heap.size, 8, none⟩) ne_VR _))
    replace K_V := Lib.hid (show BlkL wA (w1.heap.size) 35 [.int .i64 3, .int .i64 k, .int .i64 r, .int .i64 t, .int .i64 m, .int .i64 dd, .int .i64 sl, .int .i64 b, .slice A n c] from hwA ▸ ((((((((K_V.out.set 1 _).set 2 _).set 3 _).set 4 _).set 5 _).set 6 _).set 7 _).set 8 _))
    replace O := Lib.hid (show OwnI 2 wA _ _ _ _ _ from hwA ▸ ((((((((O.out.other (p := ⟨w1.heap.size, 1, none⟩) no_V _).other (p := ⟨w1.heap.size, 2, none⟩) no_V _).other (p := ⟨w1.heap.size, 3, none⟩) no_V _).other (p := ⟨w1.heap.size, 4, none⟩) no_V _).other (p := ⟨w1.heap.size, 5, none⟩) no_V _).other (p := ⟨w1.heap.size, 6, none⟩) no_V _).other (p := ⟨w1.heap.size, 7, none⟩) no_V _).other (p := ⟨w1.heap.size, 8, none⟩) no_V _))
    have D_3 := Lib.hid (show Dr w g wA from hwA ▸ ((((((((D_2.out.set (p := ⟨w1.heap.size, 1, none⟩) hle_V hl _).set (p := ⟨w1.heap.size, 2, none⟩) hle_V hl _).set (p := ⟨w1.heap.size, 3, none⟩) hle_V hl _).set (p := ⟨w1.heap.size, 4, none⟩) hle_V hl _).set (p := ⟨w1.heap.size, 5, none⟩) hle_V hl _).set (p := ⟨w1.heap.size, 6, none⟩) hle_V hl _).set (p := ⟨w1.heap.size, 7, none⟩) hle_V hl _).set (p := ⟨w1.heap.size, 8, none⟩) hle_V hl _))
    rw [hwA]
    clear hwA
    have kR0_3 := K_R.out.c 0 rfl; have kR1_3 := K_R.out.c 1 rfl; have kR2_3 := K_R.out.c 2 rfl; have kR3_3 := K_R.out.c 3 rfl; have kR4_3 := K_R.out.c 4 rfl; have kR5_3 := K_R.out.c 5 rfl; have kR6_3 := K_R.out.c 6 rfl; have kR7_3 := K_R.out.c 7 rfl; have kR8_3 := K_R.out.c 8 rfl; have kfR_3 := K_R.out.free
    have kV0_4 := K_V.out.c 0 rfl; have kV1_4 := K_V.out.c 1 rfl; have kV2_4 := K_V.out.c 2 rfl; have kV3_4 := K_V.out.c 3 rfl; have kV4_4 := K_V.out.c 4 rfl; have kV5_4 := K_V.out.c 5 rfl; have kV6_4 := K_V.out.c 6 rfl; have kV7_4 := K_V.out.c 7 rfl; have kV8_4 := K_V.out.c 8 rfl; have kfV_4 := K_V.out.free
    go_wp2_with fail
    refine (next_any g 24 _ D_3.out.src).mono ?_
    rintro e w4 ⟨x, rfl, hx_x, d⟩
    replace K_R := Lib.hid (show BlkL w4 (w.heap.size) 35 [.int .i64 0, .int .i64 0, .int .i64 0, .int .i64 0, .int .i64 0, .int .i64 0, .int .i64 0, .int .i64 0, .slice none 0 0] from BlkL.dr K_R.out d hne_R)
    replace K_V := Lib.hid (show BlkL w4 (w1.heap.size) 35 [.int .i64 3, .int .i64 k, .int .i64 r, .int .i64 t, .int .i64 m, .int .i64 dd, .int .i64 sl, .int .i64 b, .slice A n c] from BlkL.dr K_V.out d hne_V)
    replace O := Lib.hid (O.out.dr d (by simp; omega))
    have D_4 := Lib.hid (d.next D_3.out)
    have hb_x : x < 24 := by omega
    clear d
    by_cases h0 : x = 0
    case pos =>
      subst h0
      go_wp2_with fail
      refine (next_any g 3 _ (D_4.out.alloc _).src).mono ?_
      rintro e w5 ⟨y, rfl, hx_y, d⟩
      replace K_R := Lib.hid (show BlkL w5 (w.heap.size) 35 [.int .i64 0, .int .i64 0, .int .i64 0, .int .i64 0, .int .i64 0, .int .i64 0, .int .i64 0, .int .i64 0, .slice none 0 0] from BlkL.dr (K_R.out.alloc _) d hne_R)
      replace K_V := Lib.hid (show BlkL w5 (w1.heap.size) 35 [.int .i64 3, .int .i64 k, .int .i64 r, .int .i64 t, .int .i64 m, .int .i64 dd, .int .i64 sl, .int .i64 b, .slice A n c] from BlkL.dr (K_V.out.alloc _) d hne_V)
      replace O := Lib.hid ((O.out.alloc _).dr d (by simp; omega))
      have D_5 := Lib.hid (d.next (D_4.out.alloc _))
      obtain ⟨u, _, hc⟩ := pick_cell (L := [-1, 5, 3]) d.gr D_4.out.lt (x := y) (by simp; omega)
      have hb_y : y < 3 := by omega
      clear d
      have kR0_5 := K_R.out.c 0 rfl; have kR1_5 := K_R.out.c 1 rfl; have kR2_5 := K_R.out.c 2 rfl; have kR3_5 := K_R.out.c 3 rfl; have kR4_5 := K_R.out.c 4 rfl; have kR5_5 := K_R.out.c 5 rfl; have kR6_5 := K_R.out.c 6 rfl; have kR7_5 := K_R.out.c 7 rfl; have kR8_5 := K_R.out.c 8 rfl; have kfR_5 := K_R.out.free
      have kV0_6 := K_V.out.c 0 rfl; have kV1_6 := K_V.out.c 1 rfl; have kV2_6 := K_V.out.c 2 rfl; have kV3_6 := K_V.out.c 3 rfl; have kV4_6 := K_V.out.c 4 rfl; have kV5_6 := K_V.out.c 5 rfl; have kV6_6 := K_V.out.c 6 rfl; have kV7_6 := K_V.out.c 7 rfl; have kV8_6 := K_V.out.c 8 rfl; have kfV_6 := K_V.out.free
      go_upto_region 9 with fail
      obtain ⟨wS, hwS⟩ : ∃ x, (w5.setCell ⟨w1.heap.size, 0, none⟩ (.int .i64 u)) = x := ⟨_, rfl⟩
      clear kR0_3 kR1_3 kR2_3 kR3_3 kR4_3 kR5_3 kR6_3 kR7_3 kR8_3 kfR_3
      clear kV0_4 kV1_4 kV2_4 kV3_4 kV4_4 kV5_4 kV6_4 kV7_4 kV8_4 kfV_4
      clear kR0_5 kR1_5 kR2_5 kR3_5 kR4_5 kR5_5 kR6_5 kR7_5 kR8_5 kfR_5
      clear kV0_6 kV1_6 kV2_6 kV3_6 kV4_6 kV5_6 kV6_6 kV7_6 kV8_6 kfV_6
      replace K_R := Lib.hid (show BlkL wS (w.heap.size) 35 [.int .i64 0, .int .i64 0, .int .i64 0, .int .i64 0, .int .i64 0, .int .i64 0, .int .i64 0, .int .i64 0, .slice none 0 0] from hwS ▸ (K_R.out.other (p := ⟨w1.heap.size, 0, none⟩) ne_VR _))
      replace K_V := Lib.hid (show BlkL wS (w1.heap.size) 35 [.int .i64 u, .int .i64 k, .int .i64 r, .int .i64 t, .int .i64 m, .int .i64 dd, .int .i64 sl, .int .i64 b, .slice A n c] from hwS ▸ (K_V.out.set 0 _))
      replace O := Lib.hid (show OwnI 2 wS _ _ _ _ _ from hwS ▸ (O.out.other (p := ⟨w1.heap.size, 0, none⟩) no_V _))
      have D_6 := Lib.hid (show Dr w g wS from hwS ▸ (D_5.out.set (p := ⟨w1.heap.size, 0, none⟩) hle_V hl _))
      rw [hwS]
      clear hwS
      have kR0_7 := K_R.out.c 0 rfl; have kR1_7 := K_R.out.c 1 rfl; have kR2_7 := K_R.out.c 2 rfl; have kR3_7 := K_R.out.c 3 rfl; have kR4_7 := K_R.out.c 4 rfl; have kR5_7 := K_R.out.c 5 rfl; have kR6_7 := K_R.out.c 6 rfl; have kR7_7 := K_R.out.c 7 rfl; have kR8_7 := K_R.out.c 8 rfl; have kfR_7 := K_R.out.free
      have kV0_8 := K_V.out.c 0 rfl; have kV1_8 := K_V.out.c 1 rfl; have kV2_8 := K_V.out.c 2 rfl; have kV3_8 := K_V.out.c 3 rfl; have kV4_8 := K_V.out.c 4 rfl; have kV5_8 := K_V.out.c 5 rfl; have kV6_8 := K_V.out.c 6 rfl; have kV7_8 := K_V.out.c 7 rfl; have kV8_8 := K_V.out.c 8 rfl; have kfV_8 := K_V.out.free
      go_wp2_with fail
      refine bp_forget (fun w' => BlkL w' w.heap.size 35 [.int .i64 u, .int .i64 k, .int .i64 r, .int .i64 t, .int .i64 m, .int .i64 dd, .int .i64 sl, .int .i64 b, .slice A n c] ∧ OwnI 2 w' ((w1.alloc (.cells #[.int .i64 3, .int .i64 0, .int .i64 0, .int .i64 0, .int .i64 0, .int .i64 0, .int .i64 0, .int .i64 0, .slice none 0 0] 35)).heap.size) A n c zs ∧ Dr w g w') ?_ ?_
      · exact ⟨(((((((((K_R.out.set 0 _).set 1 _).set 2 _).set 3 _).set 4 _).set 5 _).set 6 _).set 7 _).set 8 _), (((((((((O.out.other (p := ⟨w.heap.size, 0, none⟩) no_R _).other (p := ⟨w.heap.size, 1, none⟩) no_R _).other (p := ⟨w.heap.size, 2, none⟩) no_R _).other (p := ⟨w.heap.size, 3, none⟩) no_R _).other (p := ⟨w.heap.size, 4, none⟩) no_R _).other (p := ⟨w.heap.size, 5, none⟩) no_R _).other (p := ⟨w.heap.size, 6, none⟩) no_R _).other (p := ⟨w.heap.size, 7, none⟩) no_R _).other (p := ⟨w.heap.size, 8, none⟩) no_R _), (((((((((D_6.out.set (p := ⟨w.heap.size, 0, none⟩) (Nat.le_refl _) hl _).set (p := ⟨w.heap.size, 1, none⟩) (Nat.le_refl _) hl _).set (p := ⟨w.heap.size, 2, none⟩) (Nat.le_refl _) hl _).set (p := ⟨w.heap.size, 3, none⟩) (Nat.le_refl _) hl _).set (p := ⟨w.heap.size, 4, none⟩) (Nat.le_refl _) hl _).set (p := ⟨w.heap.size, 5, none⟩) (Nat.le_refl _) hl _).set (p := ⟨w.heap.size, 6, none⟩) (Nat.le_refl _) hl _).set (p := ⟨w.heap.size, 7, none⟩) (Nat.le_refl _) hl _).set (p := ⟨w.heap.size, 8, none⟩) (Nat.le_refl _) hl _)⟩
      rintro wz ⟨kz, oz, dz⟩
      have q0 := kz.c 0 rfl
      have q1 := kz.c 1 rfl
      have q2 := kz.c 2 rfl
      have q3 := kz.c 3 rfl
      have q4 := kz.c 4 rfl
      have q5 := kz.c 5 rfl
      have q6 := kz.c 6 rfl
      have q7 := kz.c 7 rfl
      have q8 := kz.c 8 rfl
      exact bodyPost_ret (v := .agg #[.int .i64 u, .int .i64 k, .int .i64 r, .int .i64 t, .int .i64 m, .int .i64 dd, .int .i64 sl, .int .i64 b, .slice A n c]) (by simp [results, Try.results136, go_sem, q0, q1, q2, q3, q4, q5, q6, q7, q8]) rfl ⟨⟨u, k, r, t, m, dd, sl, b⟩, _, _, _, _, rfl, oz.weaken (by simp; omega), by omega, dz⟩
    have b0 : ((x : Int) == 0) = false := by simp; omega
    by_cases h1 : x = 1
    case pos =>
      subst h1
      have ltR := K_R.out.lt
      have ltV := K_V.out.lt
      clear no_R no_V
      go_wp2_with fail
      refine (drawFrameAny_any g _ D_4.out.src).mono ?_
      rintro e w5 ⟨k2, r2, t2, m2, dd2, sl2, b2, A2, n2, c2, zs2, rfl, ho, hn2, d⟩
      replace K_R := Lib.hid (show BlkL w5 (w.heap.size) 35 [.int .i64 0, .int .i64 0, .int .i64 0, .int .i64 0, .int .i64 0, .int .i64 0, .int .i64 0, .int .i64 0, .slice none 0 0] from BlkL.dr K_R.out d hne_R)
      replace K_V := Lib.hid (show BlkL w5 (w1.heap.size) 35 [.int .i64 3, .int .i64 k, .int .i64 r, .int .i64 t, .int .i64 m, .int .i64 dd, .int .i64 sl, .int .i64 b, .slice A n c] from BlkL.dr K_V.out d hne_V)
      have D_5 := Lib.hid (d.next D_4.out)
      replace O := Lib.hid ho
      clear ho
      have no_R : w.heap.size < w4.heap.size := ltR
      have no_V : w1.heap.size < w4.heap.size := ltV
      clear d
      have kR0_5 := K_R.out.c 0 rfl; have kR1_5 := K_R.out.c 1 rfl; have kR2_5 := K_R.out.c 2 rfl; have kR3_5 := K_R.out.c 3 rfl; have kR4_5 := K_R.out.c 4 rfl; have kR5_5 := K_R.out.c 5 rfl; have kR6_5 := K_R.out.c 6 rfl; have kR7_5 := K_R.out.c 7 rfl; have kR8_5 := K_R.out.c 8 rfl; have kfR_5 := K_R.out.free
      have kV0_6 := K_V.out.c 0 rfl; have kV1_6 := K_V.out.c 1 rfl; have kV2_6 := K_V.out.c 2 rfl; have kV3_6 := K_V.out.c 3 rfl; have kV4_6 := K_V.out.c 4 rfl; have kV5_6 := K_V.out.c 5 rfl; have kV6_6 := K_V.out.c 6 rfl; have kV7_6 := K_V.out.c 7 rfl; have kV8_6 := K_V.out.c 8 rfl; have kfV_6 := K_V.out.free
      go_upto_region 9 with fail
      obtain ⟨wS, hwS⟩ : ∃ x, ((((((((w5.setCell ⟨w1.heap.size, 1, none⟩ (.int .i64 k2)).setCell ⟨w1.heap.size, 2, none⟩ (.int .i64 r2)).setCell ⟨w1.heap.size, 3, none⟩ (.int .i64 t2)).setCell ⟨w1.heap.size, 4, none⟩ (.int .i64 m2)).setCell ⟨w1.heap.size, 5, none⟩ (.int .i64 dd2)).setCell ⟨w1.heap.size, 6, none⟩ (.int .i64 sl2)).setCell ⟨w1.heap.size, 7, none⟩ (.int .i64 b2)).setCell ⟨w1.heap.size, 8, none⟩ (.slice A2 n2 c2)) = x := ⟨_, rfl⟩
      clear kR0_3 kR1_3 kR2_3 kR3_3 kR4_3 kR5_3 kR6_3 kR7_3 kR8_3 kfR_3
      clear kV0_4 kV1_4 kV2_4 kV3_4 kV4_4 kV5_4 kV6_4 kV7_4 kV8_4 kfV_4
      clear kR0_5 kR1_5 kR2_5 kR3_5 kR4_5 kR5_5 kR6_5 kR7_5 kR8_5 kfR_5
      clear kV0_6 kV1_6 kV2_6 kV3_6 kV4_6 kV5_6 kV6_6 kV7_6 kV8_6 kfV_6
      replace K_R := Lib.hid (show BlkL wS (w.heap.size) 35 [.int .i64 0, .int .i64 0, .int .i64 0, .int .i64 0, .int .i64 0, .int .i64 0, .int .i64 0, .int .i64 0, .slice none 0 0] from hwS ▸ ((((((((K_R.out.other (p := ⟨w1.heap.size, 1, none⟩) ne_VR _).other (p := ⟨w1.heap.size, 2, none⟩) ne_VR _).other (p := ⟨w1.heap.size, 3, none⟩) ne_VR _).other (p := ⟨w1.heap.size, 4, none⟩) ne_VR _).other (p := ⟨w1.heap.size, 5, none⟩) ne_VR _).other (p := ⟨w1.heap.size, 6, none⟩) ne_VR _).other (p := ⟨w1.heap.size, 7, none⟩) ne_VR _).other (p := ⟨w1.heap.size, 8, none⟩) ne_VR _))
      replace K_V := Lib.hid (show BlkL wS (w1.heap.size) 35 [.int .i64 3, .int .i64 k2, .int .i64 r2, .int .i64 t2, .int .i64 m2, .int .i64 dd2, .int .i64 sl2, .int .i64 b2, .slice A2 n2 c2] from hwS ▸ ((((((((K_V.out.set 1 _).set 2 _).set 3 _).set 4 _).set 5 _).set 6 _).set 7 _).set 8 _))
      replace O := Lib.hid (show OwnI 2 wS _ _ _ _ _ from hwS ▸ ((((((((O.out.other (p := ⟨w1.heap.size, 1, none⟩) no_V _).other (p := ⟨w1.heap.size, 2, none⟩) no_V _).other (p := ⟨w1.heap.size, 3, none⟩) no_V _).other (p := ⟨w1.heap.size, 4, none⟩) no_V _).other (p := ⟨w1.heap.size, 5, none⟩) no_V _).other (p := ⟨w1.heap.size, 6, none⟩) no_V _).other (p := ⟨w1.heap.size, 7, none⟩) no_V _).other (p := ⟨w1.heap.size, 8, none⟩) no_V _))
      have D_6 := Lib.hid (show Dr w g wS from hwS ▸ ((((((((D_5.out.set (p := ⟨w1.heap.size, 1, none⟩) hle_V hl _).set (p := ⟨w1.heap.size, 2, none⟩) hle_V hl _).set (p := ⟨w1.heap.size, 3, none⟩) hle_V hl _).set (p := ⟨w1.heap.size, 4, none⟩) hle_V hl _).set (p := ⟨w1.heap.size, 5, none⟩) hle_V hl _).set (p := ⟨w1.heap.size, 6, none⟩) hle_V hl _).set (p := ⟨w1.heap.size, 7, none⟩) hle_V hl _).set (p := ⟨w1.heap.size, 8, none⟩) hle_V hl _))
      rw [hwS]
      clear hwS
      have kR0_7 := K_R.out.c 0 rfl; have kR1_7 := K_R.out.c 1 rfl; have kR2_7 := K_R.out.c 2 rfl; have kR3_7 := K_R.out.c 3 rfl; have kR4_7 := K_R.out.c 4 rfl; have kR5_7 := K_R.out.c 5 rfl; have kR6_7 := K_R.out.c 6 rfl; have kR7_7 := K_R.out.c 7 rfl; have kR8_7 := K_R.out.c 8 rfl; have kfR_7 := K_R.out.free
      have kV0_8 := K_V.out.c 0 rfl; have kV1_8 := K_V.out.c 1 rfl; have kV2_8 := K_V.out.c 2 rfl; have kV3_8 := K_V.out.c 3 rfl; have kV4_8 := K_V.out.c 4 rfl; have kV5_8 := K_V.out.c 5 rfl; have kV6_8 := K_V.out.c 6 rfl; have kV7_8 := K_V.out.c 7 rfl; have kV8_8 := K_V.out.c 8 rfl; have kfV_8 := K_V.out.free
      go_wp2_with fail
      refine bp_forget (fun w' => BlkL w' w.heap.size 35 [.int .i64 3, .int .i64 k2, .int .i64 r2, .int .i64 t2, .int .i64 m2, .int .i64 dd2, .int .i64 sl2, .int .i64 b2, .slice A2 n2 c2] ∧ OwnI 2 w' (w4.heap.size) A2 n2 c2 zs2 ∧ Dr w g w') ?_ ?_
      · exact ⟨(((((((((K_R.out.set 0 _).set 1 _).set 2 _).set 3 _).set 4 _).set 5 _).set 6 _).set 7 _).set 8 _), (((((((((O.out.other (p := ⟨w.heap.size, 0, none⟩) no_R _).other (p := ⟨w.heap.size, 1, none⟩) no_R _).other (p := ⟨w.heap.size, 2, none⟩) no_R _).other (p := ⟨w.heap.size, 3, none⟩) no_R _).other (p := ⟨w.heap.size, 4, none⟩) no_R _).other (p := ⟨w.heap.size, 5, none⟩) no_R _).other (p := ⟨w.heap.size, 6, none⟩) no_R _).other (p := ⟨w.heap.size, 7, none⟩) no_R _).other (p := ⟨w.heap.size, 8, none⟩) no_R _), (((((((((D_6.out.set (p := ⟨w.heap.size, 0, none⟩) (Nat.le_refl _) hl _).set (p := ⟨w.heap.size, 1, none⟩) (Nat.le_refl _) hl _).set (p := ⟨w.heap.size, 2, none⟩) (Nat.le_refl _) hl _).set (p := ⟨w.heap.size, 3, none⟩) (Nat.le_refl _) hl _).set (p := ⟨w.heap.size, 4, none⟩) (Nat.le_refl _) hl _).set (p := ⟨w.heap.size, 5, none⟩) (Nat.le_refl _) hl _).set (p := ⟨w.heap.size, 6, none⟩) (Nat.le_refl _) hl _).set (p := ⟨w.heap.size, 7, none⟩) (Nat.le_refl _) hl _).set (p := ⟨w.heap.size, 8, none⟩) (Nat.le_refl _) hl _)⟩
      rintro wz ⟨kz, oz, dz⟩
      have q0 := kz.c 0 rfl
      have q1 := kz.c 1 rfl
      have q2 := kz.c 2 rfl
      have q3 := kz.c 3 rfl
      have q4 := kz.c 4 rfl
      have q5 := kz.c 5 rfl
      have q6 := kz.c 6 rfl
      have q7 := kz.c 7 rfl
      have q8 := kz.c 8 rfl
      exact bodyPost_ret (v := .agg #[.int .i64 3, .int .i64 k2, .int .i64 r2, .int .i64 t2, .int .i64 m2, .int .i64 dd2, .int .i64 sl2, .int .i64 b2, .slice A2 n2 c2]) (by simp [results, Try.results136, go_sem, q0, q1, q2, q3, q4, q5, q6, q7, q8]) rfl ⟨⟨3, k2, r2, t2, m2, dd2, sl2, b2⟩, _, _, _, _, rfl, oz.weaken (Nat.le_of_lt ltR), by omega, dz⟩
    have b1 : ((x : Int) == 1) = false := by simp; omega
    have kR0_5 := K_R.out.c 0 rfl; have kR1_5 := K_R.out.c 1 rfl; have kR2_5 := K_R.out.c 2 rfl; have kR3_5 := K_R.out.c 3 rfl; have kR4_5 := K_R.out.c 4 rfl; have kR5_5 := K_R.out.c 5 rfl; have kR6_5 := K_R.out.c 6 rfl; have kR7_5 := K_R.out.c 7 rfl; have kR8_5 := K_R.out.c 8 rfl; have kfR_5 := K_R.out.free
    have kV0_6 := K_V.out.c 0 rfl; have kV1_6 := K_V.out.c 1 rfl; have kV2_6 := K_V.out.c 2 rfl; have kV3_6 := K_V.out.c 3 rfl; have kV4_6 := K_V.out.c 4 rfl; have kV5_6 := K_V.out.c 5 rfl; have kV6_6 := K_V.out.c 6 rfl; have kV7_6 := K_V.out.c 7 rfl; have kV8_6 := K_V.out.c 8 rfl; have kfV_6 := K_V.out.free
    go_wp2_with fail
    refine bp_forget (fun w' => BlkL w' w.heap.size 35 [.int .i64 3, .int .i64 k, .int .i64 r, .int .i64 t, .int .i64 m, .int .i64 dd, .int .i64 sl, .int .i64 b, .slice A n c] ∧ OwnI 2 w' ((w1.alloc (.cells #[.int .i64 3, .int .i64 0, .int .i64 0, .int .i64 0, .int .i64 0, .int .i64 0, .int .i64 0, .int .i64 0, .slice none 0 0] 35)).heap.size) A n c zs ∧ Dr w g w') ?_ ?_
    · exact ⟨(((((((((K_R.out.set 0 _).set 1 _).set 2 _).set 3 _).set 4 _).set 5 _).set 6 _).set 7 _).set 8 _), (((((((((O.out.other (p := ⟨w.heap.size, 0, none⟩) no_R _).other (p := ⟨w.heap.size, 1, none⟩) no_R _).other (p := ⟨w.heap.size, 2, none⟩) no_R _).other (p := ⟨w.heap.size, 3, none⟩) no_R _).other (p := ⟨w.heap.size, 4, none⟩) no_R _).other (p := ⟨w.heap.size, 5, none⟩) no_R _).other (p := ⟨w.heap.size, 6, none⟩) no_R _).other (p := ⟨w.heap.size, 7, none⟩) no_R _).other (p := ⟨w.heap.size, 8, none⟩) no_R _), (((((((((D_4.out.set (p := ⟨w.heap.size, 0, none⟩) (Nat.le_refl _) hl _).set (p := ⟨w.heap.size, 1, none⟩) (Nat.le_refl _) hl _).set (p := ⟨w.heap.size, 2, none⟩) (Nat.le_refl _) hl _).set (p := ⟨w.heap.size, 3, none⟩) (Nat.le_refl _) hl _).set (p := ⟨w.heap.size, 4, none⟩) (Nat.le_refl _) hl _).set (p := ⟨w.heap.size, 5, none⟩) (Nat.le_refl _) hl _).set (p := ⟨w.heap.size, 6, none⟩) (Nat.le_refl _) hl _).set (p := ⟨w.heap.size, 7, none⟩) (Nat.le_refl _) hl _).set (p := ⟨w.heap.size, 8, none⟩) (Nat.le_refl _) hl _)⟩
    rintro wz ⟨kz, oz, dz⟩
    have q0 := kz.c 0 rfl
    have q1 := kz.c 1 rfl
    have q2 := kz.c 2 rfl
    have q3 := kz.c 3 rfl
    have q4 := kz.c 4 rfl
    have q5 := kz.c 5 rfl
    have q6 := kz.c 6 rfl
    have q7 := kz.c 7 rfl
    have q8 := kz.c 8 rfl
    exact bodyPost_ret (v := .agg #[.int .i64 3, .int .i64 k, .int .i64 r, .int .i64 t, .int .i64 m, .int .i64 dd, .int .i64 sl, .int .i64 b, .slice A n c]) (by simp [results, Try.results136, go_sem, q0, q1, q2, q3, q4, q5, q6, q7, q8]) rfl ⟨⟨3, k, r, t, m, dd, sl, b⟩, _, _, _, _, rfl, oz.weaken (by simp; omega), by omega, dz⟩
  case neg =>
    have bst : ((st : Int) == 3) = false := by simp; omega
    have hne_V : g ≠ w1.heap.size := by have := D_1.out.lt; omega
    have ne_RV : ¬ w.heap.size = w1.heap.size := by have := K_R.out.lt; omega
    have ne_VR : ¬ w1.heap.size = w.heap.size := fun e => ne_RV e.symm
    go_wp2_with fail
    refine (next_any g 24 _ (D_1.out.alloc _).src).mono ?_
    rintro e w2 ⟨x, rfl, hx_x, d⟩
    replace K_R := Lib.hid (show BlkL w2 (w.heap.size) 35 [.int .i64 0, .int .i64 0, .int .i64 0, .int .i64 0, .int .i64 0, .int .i64 0, .int .i64 0, .int .i64 0, .slice none 0 0] from BlkL.dr (K_R.out.alloc _) d hne_R)
    have K_V := Lib.hid (show BlkL w2 (w1.heap.size) 35 [.int .i64 st, .int .i64 0, .int .i64 0, .int .i64 0, .int .i64 0, .int .i64 0, .int .i64 0, .int .i64 0, .slice none 0 0] from BlkL.dr (BlkL.new _ 35 _ rfl) d hne_V)
    have D_2 := Lib.hid (d.next (D_1.out.alloc _))
    have hle_V : w.heap.size ≤ w1.heap.size := by have := D_1.out.size; omega
    have hb_x : x < 24 := by omega
    clear d
    by_cases h0 : x = 0
    case pos =>
      subst h0
      go_wp2_with fail
      refine (next_any g 3 _ (D_2.out.alloc _).src).mono ?_
      rintro e w3 ⟨y, rfl, hx_y, d⟩
      replace K_R := Lib.hid (show BlkL w3 (w.heap.size) 35 [.int .i64 0, .int .i64 0, .int .i64 0, .int .i64 0, .int .i64 0, .int .i64 0, .int .i64 0, .int .i64 0, .slice none 0 0] from BlkL.dr (K_R.out.alloc _) d hne_R)
      replace K_V := Lib.hid (show BlkL w3 (w1.heap.size) 35 [.int .i64 st, .int .i64 0, .int .i64 0, .int .i64 0, .int .i64 0, .int .i64 0, .int .i64 0, .int .i64 0, .slice none 0 0] from BlkL.dr (K_V.out.alloc _) d hne_V)
      have D_3 := Lib.hid (d.next (D_2.out.alloc _))
      obtain ⟨u, _, hc⟩ := pick_cell (L := [-1, 5, 3]) d.gr D_2.out.lt (x := y) (by simp; omega)
      have hb_y : y < 3 := by omega
      clear d
      have kR0_1 := K_R.out.c 0 rfl; have kR1_1 := K_R.out.c 1 rfl; have kR2_1 := K_R.out.c 2 rfl; have kR3_1 := K_R.out.c 3 rfl; have kR4_1 := K_R.out.c 4 rfl; have kR5_1 := K_R.out.c 5 rfl; have kR6_1 := K_R.out.c 6 rfl; have kR7_1 := K_R.out.c 7 rfl; have kR8_1 := K_R.out.c 8 rfl; have kfR_1 := K_R.out.free
      have kV0_2 := K_V.out.c 0 rfl; have kV1_2 := K_V.out.c 1 rfl; have kV2_2 := K_V.out.c 2 rfl; have kV3_2 := K_V.out.c 3 rfl; have kV4_2 := K_V.out.c 4 rfl; have kV5_2 := K_V.out.c 5 rfl; have kV6_2 := K_V.out.c 6 rfl; have kV7_2 := K_V.out.c 7 rfl; have kV8_2 := K_V.out.c 8 rfl; have kfV_2 := K_V.out.free
      go_upto_region 9 with fail
      obtain ⟨wS, hwS⟩ : ∃ x, (w3.setCell ⟨w1.heap.size, 0, none⟩ (.int .i64 u)) = x := ⟨_, rfl⟩
      clear kR0_1 kR1_1 kR2_1 kR3_1 kR4_1 kR5_1 kR6_1 kR7_1 kR8_1 kfR_1
      clear kV0_2 kV1_2 kV2_2 kV3_2 kV4_2 kV5_2 kV6_2 kV7_2 kV8_2 kfV_2
      replace K_R := Lib.hid (show BlkL wS (w.heap.size) 35 [.int .i64 0, .int .i64 0, .int .i64 0, .int .i64 0, .int .i64 0, .int .i64 0, .int .i64 0, .int .i64 0, .slice none 0 0] from hwS ▸ (K_R.out.other (p := ⟨w1.heap.size, 0, none⟩) ne_VR _))
      replace K_V := Lib.hid (show BlkL wS (w1.heap.size) 35 [.int .i64 u, .int .i64 0, .int .i64 0, .int .i64 0, .int .i64 0, .int .i64 0, .int .i64 0, .int .i64 0, .slice none 0 0] from hwS ▸ (K_V.out.set 0 _))
      have D_4 := Lib.hid (show Dr w g wS from hwS ▸ (D_3.out.set (p := ⟨w1.heap.size, 0, none⟩) hle_V hl _))
      rw [hwS]
      clear hwS
      have kR0_3 := K_R.out.c 0 rfl; have kR1_3 := K_R.out.c 1 rfl; have kR2_3 := K_R.out.c 2 rfl; have kR3_3 := K_R.out.c 3 rfl; have kR4_3 := K_R.out.c 4 rfl; have kR5_3 := K_R.out.c 5 rfl; have kR6_3 := K_R.out.c 6 rfl; have kR7_3 := K_R.out.c 7 rfl; have kR8_3 := K_R.out.c 8 rfl; have kfR_3 := K_R.out.free
      have kV0_4 := K_V.out.c 0 rfl; have kV1_4 := K_V.out.c 1 rfl; have kV2_4 := K_V.out.c 2 rfl; have kV3_4 := K_V.out.c 3 rfl; have kV4_4 := K_V.out.c 4 rfl; have kV5_4 := K_V.out.c 5 rfl; have kV6_4 := K_V.out.c 6 rfl; have kV7_4 := K_V.out.c 7 rfl; have kV8_4 := K_V.out.c 8 rfl; have kfV_4 := K_V.out.free
      go_wp2_with fail
      refine bp_forget (fun w' => BlkL w' w.heap.size 35 [.int .i64 u, .int .i64 0, .int .i64 0, .int .i64 0, .int .i64 0, .int .i64 0, .int .i64 0, .int .i64 0, .slice none 0 0] ∧ Dr w g w') ?_ ?_
      · exact ⟨(((((((((K_R.out.set 0 _).set 1 _).set 2 _).set 3 _).set 4 _).set 5 _).set 6 _).set 7 _).set 8 _), (((((((((D_4.out.set (p := ⟨w.heap.size, 0, none⟩) (Nat.le_refl _) hl _).set (p := ⟨w.heap.size, 1, none⟩) (Nat.le_refl _) hl _).set (p := ⟨w.heap.size, 2, none⟩) (Nat.le_refl _) hl _).set (p := ⟨w.heap.size, 3, none⟩) (Nat.le_refl _) hl _).set (p := ⟨w.heap.size, 4, none⟩) (Nat.le_refl _) hl _).set (p := ⟨w.heap.size, 5, none⟩) (Nat.le_refl _) hl _).set (p := ⟨w.heap.size, 6, none⟩) (Nat.le_refl _) hl _).set (p := ⟨w.heap.size, 7, none⟩) (Nat.le_refl _) hl _).set (p := ⟨w.heap.size, 8, none⟩) (Nat.le_refl _) hl _)⟩
      rintro wz ⟨kz, dz⟩
      have q0 := kz.c 0 rfl
      have q1 := kz.c 1 rfl
      have q2 := kz.c 2 rfl
      have q3 := kz.c 3 rfl
      have q4 := kz.c 4 rfl
      have q5 := kz.c 5 rfl
      have q6 := kz.c 6 rfl
      have q7 := kz.c 7 rfl
      have q8 := kz.c 8 rfl
      exact bodyPost_ret (v := .agg #[.int .i64 u, .int .i64 0, .int .i64 0, .int .i64 0, .int .i64 0, .int .i64 0, .int .i64 0, .int .i64 0, .slice none 0 0]) (by simp [results, Try.results136, go_sem, q0, q1, q2, q3, q4, q5, q6, q7, q8]) rfl ⟨⟨u, 0, 0, 0, 0, 0, 0, 0⟩, none, 0, 0, [], rfl, OwnI.nil _ _ _, by omega, dz⟩
    have b0 : ((x : Int) == 0) = false := by simp; omega
    by_cases h1 : x = 1
    case pos =>
      subst h1
      have ltR := K_R.out.lt
      have ltV := K_V.out.lt
      go_wp2_with fail
      refine (drawFrameAny_any g _ D_2.out.src).mono ?_
      rintro e w3 ⟨k2, r2, t2, m2, dd2, sl2, b2, A2, n2, c2, zs2, rfl, ho, hn2, d⟩
      replace K_R := Lib.hid (show BlkL w3 (w.heap.size) 35 [.int .i64 0, .int .i64 0, .int .i64 0, .int .i64 0, .int .i64 0, .int .i64 0, .int .i64 0, .int .i64 0, .slice none 0 0] from BlkL.dr K_R.out d hne_R)
      replace K_V := Lib.hid (show BlkL w3 (w1.heap.size) 35 [.int .i64 st, .int .i64 0, .int .i64 0, .int .i64 0, .int .i64 0, .int .i64 0, .int .i64 0, .int .i64 0, .slice none 0 0] from BlkL.dr K_V.out d hne_V)
      have D_3 := Lib.hid (d.next D_2.out)
      have O := Lib.hid ho
      clear ho
      have no_R : w.heap.size < w2.heap.size := ltR
      have no_V : w1.heap.size < w2.heap.size := ltV
      clear d
      have kR0_1 := K_R.out.c 0 rfl; have kR1_1 := K_R.out.c 1 rfl; have kR2_1 := K_R.out.c 2 rfl; have kR3_1 := K_R.out.c 3 rfl; have kR4_1 := K_R.out.c 4 rfl; have kR5_1 := K_R.out.c 5 rfl; have kR6_1 := K_R.out.c 6 rfl; have kR7_1 := K_R.out.c 7 rfl; have kR8_1 := K_R.out.c 8 rfl; have kfR_1 := K_R.out.free
      have kV0_2 := K_V.out.c 0 rfl; have kV1_2 := K_V.out.c 1 rfl; have kV2_2 := K_V.out.c 2 rfl; have kV3_2 := K_V.out.c 3 rfl; have kV4_2 := K_V.out.c 4 rfl; have kV5_2 := K_V.out.c 5 rfl; have kV6_2 := K_V.out.c 6 rfl; have kV7_2 := K_V.out.c 7 rfl; have kV8_2 := K_V.out.c 8 rfl; have kfV_2 := K_V.out.free
      go_upto_region 9 with fail
      obtain ⟨wS, hwS⟩ : ∃ x, ((((((((w3.setCell ⟨w1.heap.size, 1, none⟩ (.int .i64 k2)).setCell ⟨w1.heap.size, 2, none⟩ (.int .i64 r2)).setCell ⟨w1.heap.size, 3, none⟩ (.int .i64 t2)).setCell ⟨w1.heap.size, 4, none⟩ (.int .i64 m2)).setCell ⟨w1.heap.size, 5, none⟩ (.int .i64 dd2)).setCell ⟨w1.heap.size, 6, none⟩ (.int .i64 sl2)).setCell ⟨w1.heap.size, 7, none⟩ (.int .i64 b2)).setCell ⟨w1.heap.size, 8, none⟩ (.slice A2 n2 c2)) = x := ⟨_, rfl⟩
      clear kR0_1 kR1_1 kR2_1 kR3_1 kR4_1 kR5_1 kR6_1 kR7_1 kR8_1 kfR_1
      clear kV0_2 kV1_2 kV2_2 kV3_2 kV4_2 kV5_2 kV6_2 kV7_2 kV8_2 kfV_2
      replace K_R := Lib.hid (show BlkL wS (w.heap.size) 35 [.int .i64 0, .int .i64 0, .int .i64 0, .int .i64 0, .int .i64 0, .int .i64 0, .int .i64 0, .int .i64 0, .slice none 0 0] from hwS ▸ ((((((((K_R.out.other (p := ⟨w1.heap.size, 1, none⟩) ne_VR _).other (p := ⟨w1.heap.size, 2, none⟩) ne_VR _).other (p := ⟨w1.heap.size, 3, none⟩) ne_VR _).other (p := ⟨w1.heap.size, 4, none⟩) ne_VR _).other (p := ⟨w1.heap.size, 5, none⟩) ne_VR _).other (p := ⟨w1.heap.size, 6, none⟩) ne_VR _).other (p := ⟨w1.heap.size, 7, none⟩) ne_VR _).other (p := ⟨w1.heap.size, 8, none⟩) ne_VR _))
      replace K_V := Lib.hid (show BlkL wS (w1.heap.size) 35 [.int .i64 st, .int .i64 k2, .int .i64 r2, .int .i64 t2, .int .i64 m2, .int .i64 dd2, .int .i64 sl2, .int .i64 b2, .slice A2 n2 c2] from hwS ▸ ((((((((K_V.out.set 1 _).set 2 _).set 3 _).set 4 _).set 5 _).set 6 _).set 7 _).set 8 _))
      replace O := Lib.hid (show OwnI 2 wS _ _ _ _ _ from hwS ▸ ((((((((O.out.other (p := ⟨w1.heap.size, 1, none⟩) no_V _).other (p := ⟨w1.heap.size, 2, none⟩) no_V _).other (p := ⟨w1.heap.size, 3, none⟩) no_V _).other (p := ⟨w1.heap.size, 4, none⟩) no_V _).other (p := ⟨w1.heap.size, 5, none⟩) no_V _).other (p := ⟨w1.heap.size, 6, none⟩) no_V _).other (p := ⟨w1.heap.size, 7, none⟩) no_V _).other (p := ⟨w1.heap.size, 8, none⟩) no_V _))
      have D_4 := Lib.hid (show Dr w g wS from hwS ▸ ((((((((D_3.out.set (p := ⟨w1.heap.size, 1, none⟩) hle_V hl _).set (p := ⟨w1.heap.size, 2, none⟩) hle_V hl _).set (p := ⟨w1.heap.size, 3, none⟩) hle_V hl _).set (p := ⟨w1.heap.size, 4, none⟩) hle_V hl _).set (p := ⟨w1.heap.size, 5, none⟩) hle_V hl _).set (p := ⟨w1.heap.size, 6, none⟩) hle_V hl _).set (p := ⟨w1.heap.size, 7, none⟩) hle_V hl _).set (p := ⟨w1.heap.size, 8, none⟩) hle_V hl _))
      rw [hwS]
      clear hwS
      have kR0_3 := K_R.out.c 0 rfl; have kR1_3 := K_R.out.c 1 rfl; have kR2_3 := K_R.out.c 2 rfl; have kR3_3 := K_R.out.c 3 rfl; have kR4_3 := K_R.out.c 4 rfl; have kR5_3 := K_R.out.c 5 rfl; have kR6_3 := K_R.out.c 6 rfl; have kR7_3 := K_R.out.c 7 rfl; have kR8_3 := K_R.out.c 8 rfl; have kfR_3 := K_R.out.free
      have kV0_4 := K_V.out.c 0 rfl; have kV1_4 := K_V.out.c 1 rfl; have kV2_4 := K_V.out.c 2 rfl; have kV3_4 := K_V.out.c 3 rfl; have kV4_4 := K_V.out.c 4 rfl; have kV5_4 := K_V.out.c 5 rfl; have kV6_4 := K_V.out.c 6 rfl; have kV7_4 := K_V.out.c 7 rfl; have kV8_4 := K_V.out.c 8 rfl; have kfV_4 := K_V.out.free
      go_wp2_with fail
      refine bp_forget (fun w' => BlkL w' w.heap.size 35 [.int .i64 st, .int .i64 k2, .int .i64 r2, .int .i64 t2, .int .i64 m2, .int .i64 dd2, .int .i64 sl2, .int .i64 b2, .slice A2 n2 c2] ∧ OwnI 2 w' (w2.heap.size) A2 n2 c2 zs2 ∧ Dr w g w') ?_ ?_
      · exact ⟨(((((((((K_R.out.set 0 _).set 1 _).set 2 _).set 3 _).set 4 _).set 5 _).set 6 _).set 7 _).set 8 _), (((((((((O.out.other (p := ⟨w.heap.size, 0, none⟩) no_R _).other (p := ⟨w.heap.size, 1, none⟩) no_R _).other (p := ⟨w.heap.size, 2, none⟩) no_R _).other (p := ⟨w.heap.size, 3, none⟩) no_R _).other (p := ⟨w.heap.size, 4, none⟩) no_R _).other (p := ⟨w.heap.size, 5, none⟩) no_R _).other (p := ⟨w.heap.size, 6, none⟩) no_R _).other (p := ⟨w.heap.size, 7, none⟩) no_R _).other (p := ⟨w.heap.size, 8, none⟩) no_R _), (((((((((D_4.out.set (p := ⟨w.heap.size, 0, none⟩) (Nat.le_refl _) hl _).set (p := ⟨w.heap.size, 1, none⟩) (Nat.le_refl _) hl _).set (p := ⟨w.heap.size, 2, none⟩) (Nat.le_refl _) hl _).set (p := ⟨w.heap.size, 3, none⟩) (Nat.le_refl _) hl _).set (p := ⟨w.heap.size, 4, none⟩) (Nat.le_refl _) hl _).set (p := ⟨w.heap.size, 5, none⟩) (Nat.le_refl _) hl _).set (p := ⟨w.heap.size, 6, none⟩) (Nat.le_refl _) hl _).set (p := ⟨w.heap.size, 7, none⟩) (Nat.le_refl _) hl _).set (p := ⟨w.heap.size, 8, none⟩) (Nat.le_refl _) hl _)⟩
      rintro wz ⟨kz, oz, dz⟩
      have q0 := kz.c 0 rfl
      have q1 := kz.c 1 rfl
      have q2 := kz.c 2 rfl
      have q3 := kz.c 3 rfl
      have q4 := kz.c 4 rfl
      have q5 := kz.c 5 rfl
      have q6 := kz.c 6 rfl
      have q7 := kz.c 7 rfl
      have q8 := kz.c 8 rfl
      exact bodyPost_ret (v := .agg #[.int .i64 st, .int .i64 k2, .int .i64 r2, .int .i64 t2, .int .i64 m2, .int .i64 dd2, .int .i64 sl2, .int .i64 b2, .slice A2 n2 c2]) (by simp [results, Try.results136, go_sem, q0, q1, q2, q3, q4, q5, q6, q7, q8]) rfl ⟨⟨st, k2, r2, t2, m2, dd2, sl2, b2⟩, _, _, _, _, rfl, oz.weaken (Nat.le_of_lt ltR), by omega, dz⟩
    have b1 : ((x : Int) == 1) = false := by simp; omega
    have kR0_1 := K_R.out.c 0 rfl; have kR1_1 := K_R.out.c 1 rfl; have kR2_1 := K_R.out.c 2 rfl; have kR3_1 := K_R.out.c 3 rfl; have kR4_1 := K_R.out.c 4 rfl; have kR5_1 := K_R.out.c 5 rfl; have kR6_1 := K_R.out.c 6 rfl; have kR7_1 := K_R.out.c 7 rfl; have kR8_1 := K_R.out.c 8 rfl; have kfR_1 := K_R.out.free
    have kV0_2 := K_V.out.c 0 rfl; have kV1_2 := K_V.out.c 1 rfl; have kV2_2 := K_V.out.c 2 rfl; have kV3_2 := K_V.out.c 3 rfl; have kV4_2 := K_V.out.c 4 rfl; have kV5_2 := K_V.out.c 5 rfl; have kV6_2 := K_V.out.c 6 rfl; have kV7_2 := K_V.out.c 7 rfl; have kV8_2 := K_V.out.c 8 rfl; have kfV_2 := K_V.out.free
    go_wp2_with fail
    refine bp_forget (fun w' => BlkL w' w.heap.size 35 [.int .i64 st, .int .i64 0, .int .i64 0, .int .i64 0, .int .i64 0, .int .i64 0, .int .i64 0, .int .i64 0, .slice none 0 0] ∧ Dr w g w') ?_ ?_
    · exact ⟨(((((((((K_R.out.set 0 _).set 1 _).set 2 _).set 3 _).set 4 _).set 5 _).set 6 _).set 7 _).set 8 _), (((((((((D_2.out.set (p := ⟨w.heap.size, 0, none⟩) (Nat.le_refl _) hl _).set (p := ⟨w.heap.size, 1, none⟩) (Nat.le_refl _) hl _).set (p := ⟨w.heap.size, 2, none⟩) (Nat.le_refl _) hl _).set (p := ⟨w.heap.size, 3, none⟩) (Nat.le_refl _) hl _).set (p := ⟨w.heap.size, 4, none⟩) (Nat.le_refl _) hl _).set (p := ⟨w.heap.size, 5, none⟩) (Nat.le_refl _) hl _).set (p := ⟨w.heap.size, 6, none⟩) (Nat.le_refl _) hl _).set (p := ⟨w.heap.size, 7, none⟩) (Nat.le_refl _) hl _).set (p := ⟨w.heap.size, 8, none⟩) (Nat.le_refl _) hl _)⟩
    rintro wz ⟨kz, dz⟩
    have q0 := kz.c 0 rfl
    have q1 := kz.c 1 rfl
    have q2 := kz.c 2 rfl
    have q3 := kz.c 3 rfl
    have q4 := kz.c 4 rfl
    have q5 := kz.c 5 rfl
    have q6 := kz.c 6 rfl
    have q7 := kz.c 7 rfl
    have q8 := kz.c 8 rfl
    exact bodyPost_ret (v := .agg #[.int .i64 st, .int .i64 0, .int .i64 0, .int .i64 0, .int .i64 0, .int .i64 0, .int .i64 0, .int .i64 0, .slice none 0 0]) (by simp [results, Try.results136, go_sem, q0, q1, q2, q3, q4, q5, q6, q7, q8]) rfl ⟨⟨st, 0, 0, 0, 0, 0, 0, 0⟩, none, 0, 0, [], rfl, OwnI.nil _ _ _, by omega, dz⟩
end Go.Proofs.Ytjehkjdehkdjcaa

namespace Go.Proofs.Ytjehkjdehkdjcaa
open Go.RowKit
/-- a drawn verdict, at the law's level -/
def TopV (w : World) (e : Ending) (w' : World) : Prop :=
  ∃ (x : Vdt) (A : Option Addr) (n c : Nat) (zs : List Int), e = .returned (.agg #[.int .i64 x.st, .int .i64 x.kd, .int .i64 x.rq, .int .i64 x.tm, .int .i64 x.md, .int .i64 x.rd, .int .i64 x.sl, .int .i64 x.mb, .slice A n c]) ∧ RI w' w'.heap.size A n zs ∧ n ≤ 8200 ∧ Below w.heap.size w w'
theorem dv_fn : (Try.f136.name == "runtime.NumGoroutine") = false ∧ Try.f136.body.isSome = true := ⟨by kernel_rfl, by kernel_rfl⟩
/-- two drawn verdicts -/
def TopVV (w : World) (e : Ending) (w' : World) : Prop :=
  ∃ (x : Vdt) (A : Option Addr) (n c : Nat) (zs : List Int) (y : Vdt) (A' : Option Addr) (n' c' : Nat) (ys : List Int), e = .returned (.tuple #[.agg #[.int .i64 x.st, .int .i64 x.kd, .int .i64 x.rq, .int .i64 x.tm, .int .i64 x.md, .int .i64 x.rd, .int .i64 x.sl, .int .i64 x.mb, .slice A n c], .agg #[.int .i64 y.st, .int .i64 y.kd, .int .i64 y.rq, .int .i64 y.tm, .int .i64 y.md, .int .i64 y.rd, .int .i64 y.sl, .int .i64 y.mb, .slice A' n' c']]) ∧ RI w' w'.heap.size A n zs ∧ n ≤ 8200 ∧ RI w' w'.heap.size A' n' ys ∧ n' ≤ 8200 ∧ Below w.heap.size w w'

set_option maxRecDepth 20000 in
set_option maxHeartbeats 8000000 in
theorem drawIsVerdict_any (A : Option Addr) (n c : Nat) (bs : List Int) (w : World) (h : RB w w.heap.size A n bs) (hn : n ≤ 1099511627776) :
    Calls Try.prog 33 #[.slice A n c] w (TopV w) := by
  obtain ⟨w0, hw0⟩ : ∃ x, (w.alloc (.cells #[.int .i64 0, .int .i64 0, .int .i64 0, .int .i64 0, .int .i64 0, .int .i64 0, .int .i64 0, .int .i64 0, .slice none 0 0] 35)) = x := ⟨_, rfl⟩
  have hB0 := Lib.hid (show Below w.heap.size w w0 from hw0 ▸ below_alloc (Below.refl _ _) (Nat.le_refl _) _)
  have K0 := Lib.hid (show BlkL w0 w.heap.size 35 [.int .i64 0, .int .i64 0, .int .i64 0, .int .i64 0, .int .i64 0, .int .i64 0, .int .i64 0, .int .i64 0, .slice none 0 0] from hw0 ▸ BlkL.new w 35 _ rfl)
  have lt0 := K0.out.lt
  have HW := Lib.hid hw0
  clear hw0
  go_enter Try.func33, Try.ntmps33
  go_wp2_with (rw [HW.out])
  refine (from_any A n c bs _ ((h.below hB0.out (Nat.le_refl _)).more hB0.out.size) hn).mono ?_
  rintro e w1 ⟨g, rfl, hs1, hg, hb1⟩
  have K1 := Lib.hid (K0.out.next hb1)
  have hB1 := Lib.hid (below_next hb1 hB0.out (Nat.le_refl _))
  have hgw : w.heap.size < g := Nat.lt_of_lt_of_le lt0 hg
  have hne : g ≠ w.heap.size := by omega
  have ltR : w.heap.size < w1.heap.size := K1.out.lt
  clear hb1 hg
  have hgl := hs1.lt
  go_wp2_with fail
  refine (drawVerdict_any g _ hs1).mono ?_
  rintro e w2 ⟨x, A2, n2, c2, zs2, rfl, ho, hn2, d2⟩
  have K2 := Lib.hid (K1.out.dr d2 hne)
  have O2 := Lib.hid ho
  have B2 := Lib.hid (d2.top hB1.out (Nat.le_of_lt hgw))
  have D2 := Lib.hid d2
  clear d2 ho
  have a0 := K2.out.c 0 rfl; have a1 := K2.out.c 1 rfl; have a2 := K2.out.c 2 rfl; have a3 := K2.out.c 3 rfl; have a4 := K2.out.c 4 rfl; have a5 := K2.out.c 5 rfl; have a6 := K2.out.c 6 rfl; have a7 := K2.out.c 7 rfl; have a8 := K2.out.c 8 rfl; have af := K2.out.free
  go_wp2_with fail
  refine bp_forget (fun w' => BlkL w' w.heap.size 35 [.int .i64 x.st, .int .i64 x.kd, .int .i64 x.rq, .int .i64 x.tm, .int .i64 x.md, .int .i64 x.rd, .int .i64 x.sl, .int .i64 x.mb, .slice A2 n2 c2] ∧ OwnI 2 w' w1.heap.size A2 n2 c2 zs2 ∧ Below w.heap.size w w') ?_ ?_
  · exact ⟨(((((((((K2.out.set 0 _).set 1 _).set 2 _).set 3 _).set 4 _).set 5 _).set 6 _).set 7 _).set 8 _), (((((((((O2.out.other (p := ⟨w.heap.size, 0, none⟩) ltR _).other (p := ⟨w.heap.size, 1, none⟩) ltR _).other (p := ⟨w.heap.size, 2, none⟩) ltR _).other (p := ⟨w.heap.size, 3, none⟩) ltR _).other (p := ⟨w.heap.size, 4, none⟩) ltR _).other (p := ⟨w.heap.size, 5, none⟩) ltR _).other (p := ⟨w.heap.size, 6, none⟩) ltR _).other (p := ⟨w.heap.size, 7, none⟩) ltR _).other (p := ⟨w.heap.size, 8, none⟩) ltR _), (((((((((B2.out.setCell (p := ⟨w.heap.size, 0, none⟩) (Nat.le_refl _) _).setCell (p := ⟨w.heap.size, 1, none⟩) (Nat.le_refl _) _).setCell (p := ⟨w.heap.size, 2, none⟩) (Nat.le_refl _) _).setCell (p := ⟨w.heap.size, 3, none⟩) (Nat.le_refl _) _).setCell (p := ⟨w.heap.size, 4, none⟩) (Nat.le_refl _) _).setCell (p := ⟨w.heap.size, 5, none⟩) (Nat.le_refl _) _).setCell (p := ⟨w.heap.size, 6, none⟩) (Nat.le_refl _) _).setCell (p := ⟨w.heap.size, 7, none⟩) (Nat.le_refl _) _).setCell (p := ⟨w.heap.size, 8, none⟩) (Nat.le_refl _) _)⟩
  rintro wz ⟨kz, oz, bz⟩
  have q0 := kz.c 0 rfl
  have q1 := kz.c 1 rfl
  have q2 := kz.c 2 rfl
  have q3 := kz.c 3 rfl
  have q4 := kz.c 4 rfl
  have q5 := kz.c 5 rfl
  have q6 := kz.c 6 rfl
  have q7 := kz.c 7 rfl
  have q8 := kz.c 8 rfl
  exact bodyPost_ret (v := .agg #[.int .i64 x.st, .int .i64 x.kd, .int .i64 x.rq, .int .i64 x.tm, .int .i64 x.md, .int .i64 x.rd, .int .i64 x.sl, .int .i64 x.mb, .slice A2 n2 c2]) (by simp [results, Try.results33, go_sem, q0, q1, q2, q3, q4, q5, q6, q7, q8]) rfl ⟨x, A2, n2, c2, zs2, rfl, oz.reads, hn2, bz⟩

set_option maxHeartbeats 4000000 in
theorem drawStatusName_any (A : Option Addr) (n c : Nat) (bs : List Int) (w : World) (h : RB w w.heap.size A n bs) (hn : n ≤ 1099511627776) :
    Calls Try.prog 35 #[.slice A n c] w fun e w' => ∃ k : Int, e = .returned (.int .i64 k) ∧ -1 ≤ k ∧ k ≤ 5 ∧ Below w.heap.size w w' := by
  go_enter Try.func35, Try.ntmps35
  go_wp2_with fail
  refine (from_any A n c bs _ h hn).mono ?_
  rintro e w1 ⟨g, rfl, hs1, hg, hb1⟩
  go_wp2_with fail
  refine (next_any g 7 _ hs1).mono ?_
  rintro e w2 ⟨x, rfl, hx, d2⟩
  have hx7 : x < 7 := by omega
  have B2 := Lib.hid (d2.top hb1 hg)
  clear d2 hb1 hx
  go_wp2
  go_ret
  exact ⟨(x : Int) - 1, rfl, by omega, by omega, B2.out⟩

theorem str_cell {w w' : World} {g x : Nat} {L : List Value} {t : TypeId} (hg : (w.alloc (.cells L.toArray t)).grownBy w' (some g)) (hl : g < w.heap.size) (hx : x < L.length) :
    ∃ v, L[x]? = some v ∧ w'.cell? ⟨w.heap.size, x, none⟩ = some v := by
  refine ⟨L[x], by simp [hx], World.grownBy.cell hg ?_ (fun e => by injection e with e; dsimp only at e; omega)⟩
  have hx' := new_heap w (.cells L.toArray t)
  unfold World.cell?
  rw [hx']
  simp [hx]

set_option maxHeartbeats 4000000 in
theorem drawStatusNamed_any (A : Option Addr) (n c : Nat) (bs : List Int) (w : World) (h : RB w w.heap.size A n bs) (hn : n ≤ 1099511627776) :
    Calls Try.prog 38 #[.slice A n c] w fun e w' => ∃ s, e = .returned (.string s) ∧ Below w.heap.size w w' := by
  go_enter Try.func38, Try.ntmps38
  go_wp2_with fail
  refine (from_any A n c bs _ h hn).mono ?_
  rintro e w1 ⟨g, rfl, hs1, hg, hb1⟩
  have hgl := hs1.lt
  go_wp2_with fail
  refine (next_any g 7 _ ((Dr.refl hs1).alloc _).src).mono ?_
  rintro e w2 ⟨x, rfl, hx, d2⟩
  have hx7 : x < 7 := by omega
  obtain ⟨v, hv, hc⟩ := str_cell (L := _) (x := x) d2.gr hgl (by simp; omega)
  obtain ⟨s, rfl⟩ : ∃ s, v = .string s := by
    have hcs : x = 0 ∨ x = 1 ∨ x = 2 ∨ x = 3 ∨ x = 4 ∨ x = 5 ∨ x = 6 := by omega
    rcases hcs with rfl | rfl | rfl | rfl | rfl | rfl | rfl <;> (simp at hv; exact ⟨_, hv.symm⟩)
  have B2 := Lib.hid ((d2.next ((Dr.refl hs1).alloc _)).top hb1 hg)
  clear d2 hb1 hx hv
  go_wp2
  go_ret
  exact ⟨s, rfl, B2.out⟩

set_option maxRecDepth 20000 in
set_option maxHeartbeats 8000000 in
theorem drawSameVerdict_any (A : Option Addr) (n c : Nat) (bs : List Int) (w : World) (h : RB w w.heap.size A n bs) (hn : n ≤ 1099511627776) :
    Calls Try.prog 34 #[.slice A n c] w (TopVV w) := by
  obtain ⟨w0, hw0⟩ : ∃ x, ((w.alloc (.cells #[.int .i64 0, .int .i64 0, .int .i64 0, .int .i64 0, .int .i64 0, .int .i64 0, .int .i64 0, .int .i64 0, .slice none 0 0] 35)).alloc (.cells #[.int .i64 0, .int .i64 0, .int .i64 0, .int .i64 0, .int .i64 0, .int .i64 0, .int .i64 0, .int .i64 0, .slice none 0 0] 35)) = x := ⟨_, rfl⟩
  have hB0 := Lib.hid (show Below w.heap.size w w0 from hw0 ▸ below_alloc (below_alloc (Below.refl _ _) (Nat.le_refl _) _) (by simp) _)
  have K0 := Lib.hid (show BlkL w0 w.heap.size 35 [.int .i64 0, .int .i64 0, .int .i64 0, .int .i64 0, .int .i64 0, .int .i64 0, .int .i64 0, .int .i64 0, .slice none 0 0] from hw0 ▸ (BlkL.new w 35 _ rfl).alloc _)
  have M0 := Lib.hid (show BlkL w0 (w.heap.size + 1) 35 [.int .i64 0, .int .i64 0, .int .i64 0, .int .i64 0, .int .i64 0, .int .i64 0, .int .i64 0, .int .i64 0, .slice none 0 0] from hw0 ▸ BlkL.new _ 35 _ (by simp))
  have lt0 := K0.out.lt
  have HW := Lib.hid hw0
  clear hw0
  go_enter Try.func34, Try.ntmps34
  go_wp2_with (rw [HW.out])
  refine (from_any A n c bs _ ((h.below hB0.out (Nat.le_refl _)).more hB0.out.size) hn).mono ?_
  rintro e w1 ⟨g, rfl, hs1, hg, hb1⟩
  have K1 := Lib.hid (K0.out.next hb1)
  have hB1 := Lib.hid (below_next hb1 hB0.out (Nat.le_refl _))
  have hgw : w.heap.size < g := Nat.lt_of_lt_of_le lt0 hg
  have hne : g ≠ w.heap.size := by omega
  have ltR : w.heap.size < w1.heap.size := K1.out.lt
  have lt1 := M0.out.lt
  have M1 := Lib.hid (M0.out.next hb1)
  have hne2 : g ≠ w.heap.size + 1 := by omega
  have ltM : w.heap.size + 1 < w1.heap.size := M1.out.lt
  clear hb1 hg
  have hgl := hs1.lt
  go_wp2_with fail
  refine (drawVerdict_any g _ hs1).mono ?_
  rintro e w2 ⟨x, A2, n2, c2, zs2, rfl, ho, hn2, d2⟩
  have K2 := Lib.hid (K1.out.dr d2 hne)
  have O2 := Lib.hid ho
  have B2 := Lib.hid (d2.top hB1.out (Nat.le_of_lt hgw))
  have D2 := Lib.hid d2
  have M2 := Lib.hid (M1.out.dr d2 hne2)
  clear d2 ho
  have K2b := K2; have hne5 : g ≠ w2.heap.size := by have := D2.out.lt; omega
  go_wp2_with fail
  refine (next_any g 2 _ (D2.out.alloc _).src).mono ?_
  rintro e w3 ⟨y, rfl, hy, d3⟩
  have V3 := Lib.hid (show BlkL w3 w2.heap.size 35 [.int .i64 x.st, .int .i64 x.kd, .int .i64 x.rq, .int .i64 x.tm, .int .i64 x.md, .int .i64 x.rd, .int .i64 x.sl, .int .i64 x.mb, .slice A2 n2 c2] from (BlkL.new w2 35 _ rfl).dr d3 hne5)
  have K3 := Lib.hid ((K2.out.alloc _).dr d3 hne)
  have M3 := Lib.hid ((M2.out.alloc _).dr d3 hne2)
  have O3 := Lib.hid ((O2.out.alloc _).dr d3 hgl)
  have D3 := Lib.hid (d3.next (D2.out.alloc _))
  have B3 := Lib.hid (D3.out.top hB1.out (Nat.le_of_lt hgw))
  have hy2 : y < 2 := by omega
  have p1 : ¬ w2.heap.size = w.heap.size := by have := K2.out.lt; omega
  have p2 : ¬ w2.heap.size = w.heap.size + 1 := by have := M2.out.lt; omega
  have p3 : ¬ w.heap.size = w2.heap.size := fun e => p1 e.symm
  have p4 : ¬ w.heap.size + 1 = w2.heap.size := fun e => p2 e.symm
  clear d3 hy K2 M2 O2 D2 K2b B2
  have a0 := V3.out.c 0 rfl; have a1 := V3.out.c 1 rfl; have a2 := V3.out.c 2 rfl; have a3 := V3.out.c 3 rfl; have a4 := V3.out.c 4 rfl; have a5 := V3.out.c 5 rfl; have a6 := V3.out.c 6 rfl; have a7 := V3.out.c 7 rfl; have a8 := V3.out.c 8 rfl; have af := V3.out.free
  have b0 := K3.out.c 0 rfl; have b1 := K3.out.c 1 rfl; have b2 := K3.out.c 2 rfl; have b3 := K3.out.c 3 rfl; have b4 := K3.out.c 4 rfl; have b5 := K3.out.c 5 rfl; have b6 := K3.out.c 6 rfl; have b7 := K3.out.c 7 rfl; have b8 := K3.out.c 8 rfl; have bf := K3.out.free
  have d0 := M3.out.c 0 rfl; have d1 := M3.out.c 1 rfl; have d2 := M3.out.c 2 rfl; have d3 := M3.out.c 3 rfl; have d4 := M3.out.c 4 rfl; have d5 := M3.out.c 5 rfl; have d6 := M3.out.c 6 rfl; have d7 := M3.out.c 7 rfl; have d8 := M3.out.c 8 rfl; have df := M3.out.free
  by_cases y0 : y = 0
  · subst y0
    go_wp2_with fail
    go_region
    all_goals
      go_wp2_with fail
      have pRM : ¬ w.heap.size = w.heap.size + 1 := by omega
      have pMR : ¬ w.heap.size + 1 = w.heap.size := by omega
      refine bp_forget (fun w' => BlkL w' w.heap.size 35 [.int .i64 x.st, .int .i64 x.kd, .int .i64 x.rq, .int .i64 x.tm, .int .i64 x.md, .int .i64 x.rd, .int .i64 x.sl, .int .i64 x.mb, .slice A2 n2 c2] ∧ BlkL w' (w.heap.size + 1) 35 [.int .i64 x.st, .int .i64 x.kd, .int .i64 x.rq, .int .i64 x.tm, .int .i64 x.md, .int .i64 x.rd, .int .i64 x.sl, .int .i64 x.mb, .slice A2 n2 c2] ∧ OwnI 2 w' w1.heap.size A2 n2 c2 zs2 ∧ Below w.heap.size w w') ?_ ?_
      · exact ⟨((((((((((((((((((K3.out.set 0 _).set 1 _).set 2 _).set 3 _).set 4 _).set 5 _).set 6 _).set 7 _).set 8 _).other (p := ⟨w.heap.size + 1, 0, none⟩) pMR _).other (p := ⟨w.heap.size + 1, 1, none⟩) pMR _).other (p := ⟨w.heap.size + 1, 2, none⟩) pMR _).other (p := ⟨w.heap.size + 1, 3, none⟩) pMR _).other (p := ⟨w.heap.size + 1, 4, none⟩) pMR _).other (p := ⟨w.heap.size + 1, 5, none⟩) pMR _).other (p := ⟨w.heap.size + 1, 6, none⟩) pMR _).other (p := ⟨w.heap.size + 1, 7, none⟩) pMR _).other (p := ⟨w.heap.size + 1, 8, none⟩) pMR _).drew, ((((((((((((((((((M3.out.other (p := ⟨w.heap.size, 0, none⟩) pRM _).other (p := ⟨w.heap.size, 1, none⟩) pRM _).other (p := ⟨w.heap.size, 2, none⟩) pRM _).other (p := ⟨w.heap.size, 3, none⟩) pRM _).other (p := ⟨w.heap.size, 4, none⟩) pRM _).other (p := ⟨w.heap.size, 5, none⟩) pRM _).other (p := ⟨w.heap.size, 6, none⟩) pRM _).other (p := ⟨w.heap.size, 7, none⟩) pRM _).other (p := ⟨w.heap.size, 8, none⟩) pRM _).set 0 _).set 1 _).set 2 _).set 3 _).set 4 _).set 5 _).set 6 _).set 7 _).set 8 _).drew, ((((((((((((((((((O3.out.other (p := ⟨w.heap.size, 0, none⟩) ltR _).other (p := ⟨w.heap.size, 1, none⟩) ltR _).other (p := ⟨w.heap.size, 2, none⟩) ltR _).other (p := ⟨w.heap.size, 3, none⟩) ltR _).other (p := ⟨w.heap.size, 4, none⟩) ltR _).other (p := ⟨w.heap.size, 5, none⟩) ltR _).other (p := ⟨w.heap.size, 6, none⟩) ltR _).other (p := ⟨w.heap.size, 7, none⟩) ltR _).other (p := ⟨w.heap.size, 8, none⟩) ltR _).other (p := ⟨w.heap.size + 1, 0, none⟩) ltM _).other (p := ⟨w.heap.size + 1, 1, none⟩) ltM _).other (p := ⟨w.heap.size + 1, 2, none⟩) ltM _).other (p := ⟨w.heap.size + 1, 3, none⟩) ltM _).other (p := ⟨w.heap.size + 1, 4, none⟩) ltM _).other (p := ⟨w.heap.size + 1, 5, none⟩) ltM _).other (p := ⟨w.heap.size + 1, 6, none⟩) ltM _).other (p := ⟨w.heap.size + 1, 7, none⟩) ltM _).other (p := ⟨w.heap.size + 1, 8, none⟩) ltM _).drew, ((((((((((((((((((B3.out.setCell (p := ⟨w.heap.size, 0, none⟩) (Nat.le_refl _) _).setCell (p := ⟨w.heap.size, 1, none⟩) (Nat.le_refl _) _).setCell (p := ⟨w.heap.size, 2, none⟩) (Nat.le_refl _) _).setCell (p := ⟨w.heap.size, 3, none⟩) (Nat.le_refl _) _).setCell (p := ⟨w.heap.size, 4, none⟩) (Nat.le_refl _) _).setCell (p := ⟨w.heap.size, 5, none⟩) (Nat.le_refl _) _).setCell (p := ⟨w.heap.size, 6, none⟩) (Nat.le_refl _) _).setCell (p := ⟨w.heap.size, 7, none⟩) (Nat.le_refl _) _).setCell (p := ⟨w.heap.size, 8, none⟩) (Nat.le_refl _) _).setCell (p := ⟨w.heap.size + 1, 0, none⟩) (Nat.le_succ _) _).setCell (p := ⟨w.heap.size + 1, 1, none⟩) (Nat.le_succ _) _).setCell (p := ⟨w.heap.size + 1, 2, none⟩) (Nat.le_succ _) _).setCell (p := ⟨w.heap.size + 1, 3, none⟩) (Nat.le_succ _) _).setCell (p := ⟨w.heap.size + 1, 4, none⟩) (Nat.le_succ _) _).setCell (p := ⟨w.heap.size + 1, 5, none⟩) (Nat.le_succ _) _).setCell (p := ⟨w.heap.size + 1, 6, none⟩) (Nat.le_succ _) _).setCell (p := ⟨w.heap.size + 1, 7, none⟩) (Nat.le_succ _) _).setCell (p := ⟨w.heap.size + 1, 8, none⟩) (Nat.le_succ _) _).drew⟩
      rintro wz ⟨kz, mz, oz, bz⟩
      have q0 := kz.c 0 rfl
      have q1 := kz.c 1 rfl
      have q2 := kz.c 2 rfl
      have q3 := kz.c 3 rfl
      have q4 := kz.c 4 rfl
      have q5 := kz.c 5 rfl
      have q6 := kz.c 6 rfl
      have q7 := kz.c 7 rfl
      have q8 := kz.c 8 rfl
      have s0 := mz.c 0 rfl
      have s1 := mz.c 1 rfl
      have s2 := mz.c 2 rfl
      have s3 := mz.c 3 rfl
      have s4 := mz.c 4 rfl
      have s5 := mz.c 5 rfl
      have s6 := mz.c 6 rfl
      have s7 := mz.c 7 rfl
      have s8 := mz.c 8 rfl
      exact bodyPost_ret (v := .tuple #[.agg #[.int .i64 x.st, .int .i64 x.kd, .int .i64 x.rq, .int .i64 x.tm, .int .i64 x.md, .int .i64 x.rd, .int .i64 x.sl, .int .i64 x.mb, .slice A2 n2 c2], .agg #[.int .i64 x.st, .int .i64 x.kd, .int .i64 x.rq, .int .i64 x.tm, .int .i64 x.md, .int .i64 x.rd, .int .i64 x.sl, .int .i64 x.mb, .slice A2 n2 c2]]) (by simp [results, Try.results34, go_sem, q0, q1, q2, q3, q4, q5, q6, q7, q8, s0, s1, s2, s3, s4, s5, s6, s7, s8]) rfl ⟨x, A2, n2, c2, zs2, x, A2, n2, c2, zs2, rfl, oz.reads, hn2, oz.reads, hn2, bz⟩
  · have b0 : ((y : Int) == 0) = false := by simp; omega
    clear y0
    have ltR3 : w.heap.size < w3.heap.size := K3.out.lt
    have ltM3 : w.heap.size + 1 < w3.heap.size := M3.out.lt
    have hg3 := D3.out.lt
    go_wp2_with fail
    go_region_law (first | ((go_simp); (refine (drawVerdict_any g _ (by first | exact D3.out.src | exact D3.out.drew.src)).mono ?_); rintro e w4 ⟨x4, A4, n4, c4, zs4, rfl, ho4, hn4, d4⟩; (have V4 := Lib.hid (show BlkL w4 w2.heap.size 35 [.int .i64 x.st, .int .i64 x.kd, .int .i64 x.rq, .int .i64 x.tm, .int .i64 x.md, .int .i64 x.rd, .int .i64 x.sl, .int .i64 x.mb, .slice A2 n2 c2] from by first | exact BlkL.dr V3.out d4 hne5 | exact BlkL.dr V3.out.drew d4 hne5)); (have K4 := Lib.hid (show BlkL w4 w.heap.size 35 [.int .i64 0, .int .i64 0, .int .i64 0, .int .i64 0, .int .i64 0, .int .i64 0, .int .i64 0, .int .i64 0, .slice none 0 0] from by first | exact BlkL.dr K3.out d4 hne | exact BlkL.dr K3.out.drew d4 hne)); (have M4 := Lib.hid (show BlkL w4 (w.heap.size + 1) 35 [.int .i64 0, .int .i64 0, .int .i64 0, .int .i64 0, .int .i64 0, .int .i64 0, .int .i64 0, .int .i64 0, .slice none 0 0] from by first | exact BlkL.dr M3.out d4 hne2 | exact BlkL.dr M3.out.drew d4 hne2)); (have O4 := Lib.hid (show OwnI 2 w4 w1.heap.size A2 n2 c2 zs2 from by first | exact OwnI.dr O3.out d4 hgl | exact OwnI.dr O3.out.drew d4 hgl)); (have P4 := Lib.hid (show OwnI 2 w4 w3.heap.size A4 n4 c4 zs4 from ho4)); (have B4 := Lib.hid (show Below w.heap.size w w4 from by first | exact (d4.next D3.out).top hB1.out (Nat.le_of_lt hgw) | exact (d4.next D3.out.drew).top hB1.out (Nat.le_of_lt hgw))); clear d4 ho4; have f0 := V4.out.c 0 rfl; have f1 := V4.out.c 1 rfl; have f2 := V4.out.c 2 rfl; have f3 := V4.out.c 3 rfl; have f4 := V4.out.c 4 rfl; have f5 := V4.out.c 5 rfl; have f6 := V4.out.c 6 rfl; have f7 := V4.out.c 7 rfl; have f8 := V4.out.c 8 rfl; have ff := V4.out.free; have h0 := K4.out.c 0 rfl; have h1 := K4.out.c 1 rfl; have h2 := K4.out.c 2 rfl; have h3 := K4.out.c 3 rfl; have h4 := K4.out.c 4 rfl; have h5 := K4.out.c 5 rfl; have h6 := K4.out.c 6 rfl; have h7 := K4.out.c 7 rfl; have h8 := K4.out.c 8 rfl; have hf := K4.out.free; have j0 := M4.out.c 0 rfl; have j1 := M4.out.c 1 rfl; have j2 := M4.out.c 2 rfl; have j3 := M4.out.c 3 rfl; have j4 := M4.out.c 4 rfl; have j5 := M4.out.c 5 rfl; have j6 := M4.out.c 6 rfl; have j7 := M4.out.c 7 rfl; have j8 := M4.out.c 8 rfl; have jf := M4.out.free))
    all_goals
      clear a0 a1 a2 a3 a4 a5 a6 a7 a8 af
      clear b0 b1 b2 b3 b4 b5 b6 b7 b8 bf
      clear d0 d1 d2 d3 d4 d5 d6 d7 d8 df
      try simp [Act.put]
      go_wp2_with fail
      all_goals
        have pRM : ¬ w.heap.size = w.heap.size + 1 := by omega
        have pMR : ¬ w.heap.size + 1 = w.heap.size := by omega
        refine bp_forget (fun w' => BlkL w' w.heap.size 35 [.int .i64 x.st, .int .i64 x.kd, .int .i64 x.rq, .int .i64 x.tm, .int .i64 x.md, .int .i64 x.rd, .int .i64 x.sl, .int .i64 x.mb, .slice A2 n2 c2] ∧ BlkL w' (w.heap.size + 1) 35 [.int .i64 x4.st, .int .i64 x4.kd, .int .i64 x4.rq, .int .i64 x4.tm, .int .i64 x4.md, .int .i64 x4.rd, .int .i64 x4.sl, .int .i64 x4.mb, .slice A4 n4 c4] ∧ OwnI 2 w' w1.heap.size A2 n2 c2 zs2 ∧ OwnI 2 w' w3.heap.size A4 n4 c4 zs4 ∧ Below w.heap.size w w') ?_ ?_
        · first | (with_reducible exact ⟨((((((((((((((((((K4.out.set 0 _).set 1 _).set 2 _).set 3 _).set 4 _).set 5 _).set 6 _).set 7 _).set 8 _).other (p := ⟨w.heap.size + 1, 0, none⟩) pMR _).other (p := ⟨w.heap.size + 1, 1, none⟩) pMR _).other (p := ⟨w.heap.size + 1, 2, none⟩) pMR _).other (p := ⟨w.heap.size + 1, 3, none⟩) pMR _).other (p := ⟨w.heap.size + 1, 4, none⟩) pMR _).other (p := ⟨w.heap.size + 1, 5, none⟩) pMR _).other (p := ⟨w.heap.size + 1, 6, none⟩) pMR _).other (p := ⟨w.heap.size + 1, 7, none⟩) pMR _).other (p := ⟨w.heap.size + 1, 8, none⟩) pMR _), ((((((((((((((((((M4.out.other (p := ⟨w.heap.size, 0, none⟩) pRM _).other (p := ⟨w.heap.size, 1, none⟩) pRM _).other (p := ⟨w.heap.size, 2, none⟩) pRM _).other (p := ⟨w.heap.size, 3, none⟩) pRM _).other (p := ⟨w.heap.size, 4, none⟩) pRM _).other (p := ⟨w.heap.size, 5, none⟩) pRM _).other (p := ⟨w.heap.size, 6, none⟩) pRM _).other (p := ⟨w.heap.size, 7, none⟩) pRM _).other (p := ⟨w.heap.size, 8, none⟩) pRM _).set 0 _).set 1 _).set 2 _).set 3 _).set 4 _).set 5 _).set 6 _).set 7 _).set 8 _), ((((((((((((((((((O4.out.other (p := ⟨w.heap.size, 0, none⟩) ltR _).other (p := ⟨w.heap.size, 1, none⟩) ltR _).other (p := ⟨w.heap.size, 2, none⟩) ltR _).other (p := ⟨w.heap.size, 3, none⟩) ltR _).other (p := ⟨w.heap.size, 4, none⟩) ltR _).other (p := ⟨w.heap.size, 5, none⟩) ltR _).other (p := ⟨w.heap.size, 6, none⟩) ltR _).other (p := ⟨w.heap.size, 7, none⟩) ltR _).other (p := ⟨w.heap.size, 8, none⟩) ltR _).other (p := ⟨w.heap.size + 1, 0, none⟩) ltM _).other (p := ⟨w.heap.size + 1, 1, none⟩) ltM _).other (p := ⟨w.heap.size + 1, 2, none⟩) ltM _).other (p := ⟨w.heap.size + 1, 3, none⟩) ltM _).other (p := ⟨w.heap.size + 1, 4, none⟩) ltM _).other (p := ⟨w.heap.size + 1, 5, none⟩) ltM _).other (p := ⟨w.heap.size + 1, 6, none⟩) ltM _).other (p := ⟨w.heap.size + 1, 7, none⟩) ltM _).other (p := ⟨w.heap.size + 1, 8, none⟩) ltM _), ((((((((((((((((((P4.out.other (p := ⟨w.heap.size, 0, none⟩) ltR3 _).other (p := ⟨w.heap.size, 1, none⟩) ltR3 _).other (p := ⟨w.heap.size, 2, none⟩) ltR3 _).other (p := ⟨w.heap.size, 3, none⟩) ltR3 _).other (p := ⟨w.heap.size, 4, none⟩) ltR3 _).other (p := ⟨w.heap.size, 5, none⟩) ltR3 _).other (p := ⟨w.heap.size, 6, none⟩) ltR3 _).other (p := ⟨w.heap.size, 7, none⟩) ltR3 _).other (p := ⟨w.heap.size, 8, none⟩) ltR3 _).other (p := ⟨w.heap.size + 1, 0, none⟩) ltM3 _).other (p := ⟨w.heap.size + 1, 1, none⟩) ltM3 _).other (p := ⟨w.heap.size + 1, 2, none⟩) ltM3 _).other (p := ⟨w.heap.size + 1, 3, none⟩) ltM3 _).other (p := ⟨w.heap.size + 1, 4, none⟩) ltM3 _).other (p := ⟨w.heap.size + 1, 5, none⟩) ltM3 _).other (p := ⟨w.heap.size + 1, 6, none⟩) ltM3 _).other (p := ⟨w.heap.size + 1, 7, none⟩) ltM3 _).other (p := ⟨w.heap.size + 1, 8, none⟩) ltM3 _), ((((((((((((((((((B4.out.setCell (p := ⟨w.heap.size, 0, none⟩) (Nat.le_refl _) _).setCell (p := ⟨w.heap.size, 1, none⟩) (Nat.le_refl _) _).setCell (p := ⟨w.heap.size, 2, none⟩) (Nat.le_refl _) _).setCell (p := ⟨w.heap.size, 3, none⟩) (Nat.le_refl _) _).setCell (p := ⟨w.heap.size, 4, none⟩) (Nat.le_refl _) _).setCell (p := ⟨w.heap.size, 5, none⟩) (Nat.le_refl _) _).setCell (p := ⟨w.heap.size, 6, none⟩) (Nat.le_refl _) _).setCell (p := ⟨w.heap.size, 7, none⟩) (Nat.le_refl _) _).setCell (p := ⟨w.heap.size, 8, none⟩) (Nat.le_refl _) _).setCell (p := ⟨w.heap.size + 1, 0, none⟩) (Nat.le_succ _) _).setCell (p := ⟨w.heap.size + 1, 1, none⟩) (Nat.le_succ _) _).setCell (p := ⟨w.heap.size + 1, 2, none⟩) (Nat.le_succ _) _).setCell (p := ⟨w.heap.size + 1, 3, none⟩) (Nat.le_succ _) _).setCell (p := ⟨w.heap.size + 1, 4, none⟩) (Nat.le_succ _) _).setCell (p := ⟨w.heap.size + 1, 5, none⟩) (Nat.le_succ _) _).setCell (p := ⟨w.heap.size + 1, 6, none⟩) (Nat.le_succ _) _).setCell (p := ⟨w.heap.size + 1, 7, none⟩) (Nat.le_succ _) _).setCell (p := ⟨w.heap.size + 1, 8, none⟩) (Nat.le_succ _) _)⟩) | (with_reducible exact ⟨((((((((((((((((((K4.out.set 0 _).set 1 _).set 2 _).set 3 _).set 4 _).set 5 _).set 6 _).set 7 _).set 8 _).other (p := ⟨w.heap.size + 1, 0, none⟩) pMR _).other (p := ⟨w.heap.size + 1, 1, none⟩) pMR _).other (p := ⟨w.heap.size + 1, 2, none⟩) pMR _).other (p := ⟨w.heap.size + 1, 3, none⟩) pMR _).other (p := ⟨w.heap.size + 1, 4, none⟩) pMR _).other (p := ⟨w.heap.size + 1, 5, none⟩) pMR _).other (p := ⟨w.heap.size + 1, 6, none⟩) pMR _).other (p := ⟨w.heap.size + 1, 7, none⟩) pMR _).other (p := ⟨w.heap.size + 1, 8, none⟩) pMR _).drew, ((((((((((((((((((M4.out.other (p := ⟨w.heap.size, 0, none⟩) pRM _).other (p := ⟨w.heap.size, 1, none⟩) pRM _).other (p := ⟨w.heap.size, 2, none⟩) pRM _).other (p := ⟨w.heap.size, 3, none⟩) pRM _).other (p := ⟨w.heap.size, 4, none⟩) pRM _).other (p := ⟨w.heap.size, 5, none⟩) pRM _).other (p := ⟨w.heap.size, 6, none⟩) pRM _).other (p := ⟨w.heap.size, 7, none⟩) pRM _).other (p := ⟨w.heap.size, 8, none⟩) pRM _).set 0 _).set 1 _).set 2 _).set 3 _).set 4 _).set 5 _).set 6 _).set 7 _).set 8 _).drew, ((((((((((((((((((O4.out.other (p := ⟨w.heap.size, 0, none⟩) ltR _).other (p := ⟨w.heap.size, 1, none⟩) ltR _).other (p := ⟨w.heap.size, 2, none⟩) ltR _).other (p := ⟨w.heap.size, 3, none⟩) ltR _).other (p := ⟨w.heap.size, 4, none⟩) ltR _).other (p := ⟨w.heap.size, 5, none⟩) ltR _).other (p := ⟨w.heap.size, 6, none⟩) ltR _).other (p := ⟨w.heap.size, 7, none⟩) ltR _).other (p := ⟨w.heap.size, 8, none⟩) ltR _).other (p := ⟨w.heap.size + 1, 0, none⟩) ltM _).other (p := ⟨w.heap.size + 1, 1, none⟩) ltM _).other (p := ⟨w.heap.size + 1, 2, none⟩) ltM _).other (p := ⟨w.heap.size + 1, 3, none⟩) ltM _).other (p := ⟨w.heap.size + 1, 4, none⟩) ltM _).other (p := ⟨w.heap.size + 1, 5, none⟩) ltM _).other (p := ⟨w.heap.size + 1, 6, none⟩) ltM _).other (p := ⟨w.heap.size + 1, 7, none⟩) ltM _).other (p := ⟨w.heap.size + 1, 8, none⟩) ltM _).drew, ((((((((((((((((((P4.out.other (p := ⟨w.heap.size, 0, none⟩) ltR3 _).other (p := ⟨w.heap.size, 1, none⟩) ltR3 _).other (p := ⟨w.heap.size, 2, none⟩) ltR3 _).other (p := ⟨w.heap.size, 3, none⟩) ltR3 _).other (p := ⟨w.heap.size, 4, none⟩) ltR3 _).other (p := ⟨w.heap.size, 5, none⟩) ltR3 _).other (p := ⟨w.heap.size, 6, none⟩) ltR3 _).other (p := ⟨w.heap.size, 7, none⟩) ltR3 _).other (p := ⟨w.heap.size, 8, none⟩) ltR3 _).other (p := ⟨w.heap.size + 1, 0, none⟩) ltM3 _).other (p := ⟨w.heap.size + 1, 1, none⟩) ltM3 _).other (p := ⟨w.heap.size + 1, 2, none⟩) ltM3 _).other (p := ⟨w.heap.size + 1, 3, none⟩) ltM3 _).other (p := ⟨w.heap.size + 1, 4, none⟩) ltM3 _).other (p := ⟨w.heap.size + 1, 5, none⟩) ltM3 _).other (p := ⟨w.heap.size + 1, 6, none⟩) ltM3 _).other (p := ⟨w.heap.size + 1, 7, none⟩) ltM3 _).other (p := ⟨w.heap.size + 1, 8, none⟩) ltM3 _).drew, ((((((((((((((((((B4.out.setCell (p := ⟨w.heap.size, 0, none⟩) (Nat.le_refl _) _).setCell (p := ⟨w.heap.size, 1, none⟩) (Nat.le_refl _) _).setCell (p := ⟨w.heap.size, 2, none⟩) (Nat.le_refl _) _).setCell (p := ⟨w.heap.size, 3, none⟩) (Nat.le_refl _) _).setCell (p := ⟨w.heap.size, 4, none⟩) (Nat.le_refl _) _).setCell (p := ⟨w.heap.size, 5, none⟩) (Nat.le_refl _) _).setCell (p := ⟨w.heap.size, 6, none⟩) (Nat.le_refl _) _).setCell (p := ⟨w.heap.size, 7, none⟩) (Nat.le_refl _) _).setCell (p := ⟨w.heap.size, 8, none⟩) (Nat.le_refl _) _).setCell (p := ⟨w.heap.size + 1, 0, none⟩) (Nat.le_succ _) _).setCell (p := ⟨w.heap.size + 1, 1, none⟩) (Nat.le_succ _) _).setCell (p := ⟨w.heap.size + 1, 2, none⟩) (Nat.le_succ _) _).setCell (p := ⟨w.heap.size + 1, 3, none⟩) (Nat.le_succ _) _).setCell (p := ⟨w.heap.size + 1, 4, none⟩) (Nat.le_succ _) _).setCell (p := ⟨w.heap.size + 1, 5, none⟩) (Nat.le_succ _) _).setCell (p := ⟨w.heap.size + 1, 6, none⟩) (Nat.le_succ _) _).setCell (p := ⟨w.heap.size + 1, 7, none⟩) (Nat.le_succ _) _).setCell (p := ⟨w.heap.size + 1, 8, none⟩) (Nat.le_succ _) _).drew⟩) | exact ⟨((((((((((((((((((K4.out.set 0 _).set 1 _).set 2 _).set 3 _).set 4 _).set 5 _).set 6 _).set 7 _).set 8 _).other (p := ⟨w.heap.size + 1, 0, none⟩) pMR _).other (p := ⟨w.heap.size + 1, 1, none⟩) pMR _).other (p := ⟨w.heap.size + 1, 2, none⟩) pMR _).other (p := ⟨w.heap.size + 1, 3, none⟩) pMR _).other (p := ⟨w.heap.size + 1, 4, none⟩) pMR _).other (p := ⟨w.heap.size + 1, 5, none⟩) pMR _).other (p := ⟨w.heap.size + 1, 6, none⟩) pMR _).other (p := ⟨w.heap.size + 1, 7, none⟩) pMR _).other (p := ⟨w.heap.size + 1, 8, none⟩) pMR _), ((((((((((((((((((M4.out.other (p := ⟨w.heap.size, 0, none⟩) pRM _).other (p := ⟨w.heap.size, 1, none⟩) pRM _).other (p := ⟨w.heap.size, 2, none⟩) pRM _).other (p := ⟨w.heap.size, 3, none⟩) pRM _).other (p := ⟨w.heap.size, 4, none⟩) pRM _).other (p := ⟨w.heap.size, 5, none⟩) pRM _).other (p := ⟨w.heap.size, 6, none⟩) pRM _).other (p := ⟨w.heap.size, 7, none⟩) pRM _).other (p := ⟨w.heap.size, 8, none⟩) pRM _).set 0 _).set 1 _).set 2 _).set 3 _).set 4 _).set 5 _).set 6 _).set 7 _).set 8 _), ((((((((((((((((((O4.out.other (p := ⟨w.heap.size, 0, none⟩) ltR _).other (p := ⟨w.heap.size, 1, none⟩) ltR _).other (p := ⟨w.heap.size, 2, none⟩) ltR _).other (p := ⟨w.heap.size, 3, none⟩) ltR _).other (p := ⟨w.heap.size, 4, none⟩) ltR _).other (p := ⟨w.heap.size, 5, none⟩) ltR _).other (p := ⟨w.heap.size, 6, none⟩) ltR _).other (p := ⟨w.heap.size, 7, none⟩) ltR _).other (p := ⟨w.heap.size, 8, none⟩) ltR _).other (p := ⟨w.heap.size + 1, 0, none⟩) ltM _).other (p := ⟨w.heap.size + 1, 1, none⟩) ltM _).other (p := ⟨w.heap.size + 1, 2, none⟩) ltM _).other (p := ⟨w.heap.size + 1, 3, none⟩) ltM _).other (p := ⟨w.heap.size + 1, 4, none⟩) ltM _).other (p := ⟨w.heap.size + 1, 5, none⟩) ltM _).other (p := ⟨w.heap.size + 1, 6, none⟩) ltM _).other (p := ⟨w.heap.size + 1, 7, none⟩) ltM _).other (p := ⟨w.heap.size + 1, 8, none⟩) ltM _), ((((((((((((((((((P4.out.other (p := ⟨w.heap.size, 0, none⟩) ltR3 _).other (p := ⟨w.heap.size, 1, none⟩) ltR3 _).other (p := ⟨w.heap.size, 2, none⟩) ltR3 _).other (p := ⟨w.heap.size, 3, none⟩) ltR3 _).other (p := ⟨w.heap.size, 4, none⟩) ltR3 _).other (p := ⟨w.heap.size, 5, none⟩) ltR3 _).other (p := ⟨w.heap.size, 6, none⟩) ltR3 _).other (p := ⟨w.heap.size, 7, none⟩) ltR3 _).other (p := ⟨w.heap.size, 8, none⟩) ltR3 _).other (p := ⟨w.heap.size + 1, 0, none⟩) ltM3 _).other (p := ⟨w.heap.size + 1, 1, none⟩) ltM3 _).other (p := ⟨w.heap.size + 1, 2, none⟩) ltM3 _).other (p := ⟨w.heap.size + 1, 3, none⟩) ltM3 _).other (p := ⟨w.heap.size + 1, 4, none⟩) ltM3 _).other (p := ⟨w.heap.size + 1, 5, none⟩) ltM3 _).other (p := ⟨w.heap.size + 1, 6, none⟩) ltM3 _).other (p := ⟨w.heap.size + 1, 7, none⟩) ltM3 _).other (p := ⟨w.heap.size + 1, 8, none⟩) ltM3 _), ((((((((((((((((((B4.out.setCell (p := ⟨w.heap.size, 0, none⟩) (Nat.le_refl _) _).setCell (p := ⟨w.heap.size, 1, none⟩) (Nat.le_refl _) _).setCell (p := ⟨w.heap.size, 2, none⟩) (Nat.le_refl _) _).setCell (p := ⟨w.heap.size, 3, none⟩) (Nat.le_refl _) _).setCell (p := ⟨w.heap.size, 4, none⟩) (Nat.le_refl _) _).setCell (p := ⟨w.heap.size, 5, none⟩) (Nat.le_refl _) _).setCell (p := ⟨w.heap.size, 6, none⟩) (Nat.le_refl _) _).setCell (p := ⟨w.heap.size, 7, none⟩) (Nat.le_refl _) _).setCell (p := ⟨w.heap.size, 8, none⟩) (Nat.le_refl _) _).setCell (p := ⟨w.heap.size + 1, 0, none⟩) (Nat.le_succ _) _).setCell (p := ⟨w.heap.size + 1, 1, none⟩) (Nat.le_succ _) _).setCell (p := ⟨w.heap.size + 1, 2, none⟩) (Nat.le_succ _) _).setCell (p := ⟨w.heap.size + 1, 3, none⟩) (Nat.le_succ _) _).setCell (p := ⟨w.heap.size + 1, 4, none⟩) (Nat.le_succ _) _).setCell (p := ⟨w.heap.size + 1, 5, none⟩) (Nat.le_succ _) _).setCell (p := ⟨w.heap.size + 1, 6, none⟩) (Nat.le_succ _) _).setCell (p := ⟨w.heap.size + 1, 7, none⟩) (Nat.le_succ _) _).setCell (p := ⟨w.heap.size + 1, 8, none⟩) (Nat.le_succ _) _)⟩
        rintro wz ⟨kz, mz, oz, oy, bz⟩
        have q0 := kz.c 0 rfl
        have q1 := kz.c 1 rfl
        have q2 := kz.c 2 rfl
        have q3 := kz.c 3 rfl
        have q4 := kz.c 4 rfl
        have q5 := kz.c 5 rfl
        have q6 := kz.c 6 rfl
        have q7 := kz.c 7 rfl
        have q8 := kz.c 8 rfl
        have s0 := mz.c 0 rfl
        have s1 := mz.c 1 rfl
        have s2 := mz.c 2 rfl
        have s3 := mz.c 3 rfl
        have s4 := mz.c 4 rfl
        have s5 := mz.c 5 rfl
        have s6 := mz.c 6 rfl
        have s7 := mz.c 7 rfl
        have s8 := mz.c 8 rfl
        exact bodyPost_ret (v := .tuple #[.agg #[.int .i64 x.st, .int .i64 x.kd, .int .i64 x.rq, .int .i64 x.tm, .int .i64 x.md, .int .i64 x.rd, .int .i64 x.sl, .int .i64 x.mb, .slice A2 n2 c2], .agg #[.int .i64 x4.st, .int .i64 x4.kd, .int .i64 x4.rq, .int .i64 x4.tm, .int .i64 x4.md, .int .i64 x4.rd, .int .i64 x4.sl, .int .i64 x4.mb, .slice A4 n4 c4]]) (by simp [results, Try.results34, go_sem, q0, q1, q2, q3, q4, q5, q6, q7, q8, s0, s1, s2, s3, s4, s5, s6, s7, s8]) rfl ⟨x, A2, n2, c2, zs2, x4, A4, n4, c4, zs4, rfl, oz.reads, hn2, oy.reads, hn4, bz⟩
end Go.Proofs.Ytjehkjdehkdjcaa
