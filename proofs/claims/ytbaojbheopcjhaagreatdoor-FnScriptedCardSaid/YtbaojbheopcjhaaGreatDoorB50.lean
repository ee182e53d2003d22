/- Walks, laws and small notions for the claims of this seat, several texts as one (DrD, DrM, DrA, DrS, DrT). Conditions: as each theorem states them. -/
import Derived.Test.YtbaojbheopcjhaaGreatDoorB48
import Derived.Test.YtbaojbheopcjhaaGreatDoorB7
import Derived.Test.YtbaojbheopcjhaaGreatDoorB49
import Derived.Test.YtbaojbheopcjhaaGreatDoorB11
import Derived.Test.YtbaojbheopcjhaaGreatDoorB8
import Derived.Test.YtbaojbheopcjhaaGreatDoorB3
namespace Go.Proofs.YtbaojbheopcjhaaGreatDoor
open Go.RowKit
/-- a drawn descriptor -/
def DrD (w : World) (g : Nat) (e : Ending) (w' : World) : Prop :=
  ∃ (nd kd sz du : Int) (ch : Bool), e = .returned (.agg #[.int .i64 nd, .int .i64 kd, .int .i64 sz, .int .i64 du, .bool ch]) ∧ inR kd 0 3 = true ∧ (0 ≤ sz ∧ sz ≤ 32) ∧ Dr w g w'
def DrDA (w : World) (g : Nat) (e : Ending) (w' : World) : Prop :=
  ∃ (nd kd sz du : Int) (ch : Bool), e = .returned (.agg #[.int .i64 nd, .int .i64 kd, .int .i64 sz, .int .i64 du, .bool ch]) ∧ Dr w g w'
theorem cellsN_bdd {k n : Int} (hn : 0 ≤ n ∧ n ≤ 32) : 0 ≤ cellsN k n ∧ cellsN k n ≤ 1000 := by
  unfold cellsN bodyN
  split <;> split <;> omega

set_option maxRecDepth 6000 in
set_option maxHeartbeats 8000000 in
theorem drawDesc_any (g : Nat) (w : World) (h : Src w g) :
    Calls Tryz.prog 184 #[.pointer (some ⟨g, 0, none⟩)] w (DrD w g) := by
  have hl := h.lt
  have hne_R : g ≠ w.heap.size := by omega
  go_enter Tryz.func184, Tryz.ntmps184
  go_wp2_with fail
  refine (next_any g 4 _ ((Dr.refl h).alloc _).src).mono ?_
  rintro e w1 ⟨a, rfl, hx_a, d⟩
  have K_R := Lib.hid (show BlkL w1 (w.heap.size) 69 [.int .i64 0, .int .i64 0, .int .i64 0, .int .i64 0, .bool false] from BlkL.dr (BlkL.new _ 69 _ rfl) d hne_R)
  have D_1 := Lib.hid (d.next ((Dr.refl h).alloc _))
  have hb_a : a < 4 := by omega
  have hi_a : (a : Int) < 4 := by omega
  clear hx_a
  clear d
  go_wp2_with fail
  refine (next_any g 4 _ D_1.out.src).mono ?_
  rintro e w2 ⟨kd, rfl, hx_kd, d⟩
  replace K_R := Lib.hid (show BlkL w2 (w.heap.size) 69 [.int .i64 0, .int .i64 0, .int .i64 0, .int .i64 0, .bool false] from BlkL.dr K_R.out d hne_R)
  have D_2 := Lib.hid (d.next D_1.out)
  have hb_kd : kd < 4 := by omega
  have hi_kd : (kd : Int) < 4 := by omega
  clear hx_kd
  clear d
  go_wp2_with fail
  refine (next_any g 2 _ D_2.out.src).mono ?_
  rintro e w3 ⟨c, rfl, hx_c, d⟩
  replace K_R := Lib.hid (show BlkL w3 (w.heap.size) 69 [.int .i64 0, .int .i64 0, .int .i64 0, .int .i64 0, .bool false] from BlkL.dr K_R.out d hne_R)
  have D_3 := Lib.hid (d.next D_2.out)
  have hb_c : c < 2 := by omega
  have hi_c : (c : Int) < 2 := by omega
  clear hx_c
  clear d
  obtain ⟨C, hC⟩ : ∃ C, ((c : Int) == 0) = C := ⟨_, rfl⟩
  have HCC := Lib.hid hC
  rcases (show kd = 0 ∨ kd = 1 ∨ kd = 2 ∨ kd = 3 by omega) with rfl | rfl | rfl | rfl
  case inl =>
    clear hb_kd hi_kd
    have hne_F : g ≠ w3.heap.size := by have := D_3.out.lt; omega
    have ne_RF : ¬ w.heap.size = w3.heap.size := by have := K_R.out.lt; omega
    have ne_FR : ¬ w3.heap.size = w.heap.size := fun e => ne_RF e.symm
    go_upto_region 2 with (first | rw [hC])
    obtain ⟨wS, hwS⟩ : ∃ x, (w3.alloc (.cells #[.int .i64 a, .int .i64 0, .int .i64 0, .int .i64 0, .bool C] 69)) = x := ⟨_, rfl⟩
    replace K_R := Lib.hid (show BlkL wS (w.heap.size) 69 [.int .i64 0, .int .i64 0, .int .i64 0, .int .i64 0, .bool false] from hwS ▸ (K_R.out.alloc _))
    have K_F := Lib.hid (show BlkL wS (w3.heap.size) 69 [.int .i64 a, .int .i64 0, .int .i64 0, .int .i64 0, .bool C] from hwS ▸ (BlkL.new _ 69 _ rfl))
    have D_4 := Lib.hid (show Dr w g wS from hwS ▸ (D_3.out.alloc _))
    have hle_F : w.heap.size ≤ w3.heap.size := by have := D_3.out.size; omega
    rw [hwS]
    clear hwS
    have kR0_1 := K_R.out.c 0 rfl; have kR1_1 := K_R.out.c 1 rfl; have kR2_1 := K_R.out.c 2 rfl; have kR3_1 := K_R.out.c 3 rfl; have kR4_1 := K_R.out.c 4 rfl; have kfR_1 := K_R.out.free
    have kF0_2 := K_F.out.c 0 rfl; have kF1_2 := K_F.out.c 1 rfl; have kF2_2 := K_F.out.c 2 rfl; have kF3_2 := K_F.out.c 3 rfl; have kF4_2 := K_F.out.c 4 rfl; have kfF_2 := K_F.out.free
    clear hC HCC
    go_wp2_with (first | (go_at_call 130; refine (l06Data_any _ _).mono ?_; rintro e w' ⟨rfl, rfl⟩))
    refine (next_any g 5 _ D_4.out.src).mono ?_
    rintro e w5 ⟨q, rfl, hx_q, d⟩
    replace K_R := Lib.hid (show BlkL w5 (w.heap.size) 69 [.int .i64 0, .int .i64 0, .int .i64 0, .int .i64 0, .bool false] from BlkL.dr K_R.out d hne_R)
    replace K_F := Lib.hid (show BlkL w5 (w3.heap.size) 69 [.int .i64 a, .int .i64 0, .int .i64 0, .int .i64 0, .bool C] from BlkL.dr K_F.out d hne_F)
    have D_5 := Lib.hid (d.next D_4.out)
    have hb_q : q < 5 := by omega
    have hi_q : (q : Int) < 5 := by omega
    clear hx_q
    clear d
    clear kR0_1 kR1_1 kR2_1 kR3_1 kR4_1 kfR_1
    clear kF0_2 kF1_2 kF2_2 kF3_2 kF4_2 kfF_2
    have kR0_3 := K_R.out.c 0 rfl; have kR1_3 := K_R.out.c 1 rfl; have kR2_3 := K_R.out.c 2 rfl; have kR3_3 := K_R.out.c 3 rfl; have kR4_3 := K_R.out.c 4 rfl; have kfR_3 := K_R.out.free
    have kF0_4 := K_F.out.c 0 rfl; have kF1_4 := K_F.out.c 1 rfl; have kF2_4 := K_F.out.c 2 rfl; have kF3_4 := K_F.out.c 3 rfl; have kF4_4 := K_F.out.c 4 rfl; have kfF_4 := K_F.out.free
    go_upto_region 4 with fail
    obtain ⟨wT, hwT⟩ : ∃ x, (w5.setCell ⟨w3.heap.size, 2, none⟩ (.int .i64 (1 + q))) = x := ⟨_, rfl⟩
    clear kR0_3 kR1_3 kR2_3 kR3_3 kR4_3 kfR_3
    clear kF0_4 kF1_4 kF2_4 kF3_4 kF4_4 kfF_4
    replace K_R := Lib.hid (show BlkL wT (w.heap.size) 69 [.int .i64 0, .int .i64 0, .int .i64 0, .int .i64 0, .bool false] from hwT ▸ (K_R.out.other (p := ⟨w3.heap.size, 2, none⟩) ne_FR _))
    replace K_F := Lib.hid (show BlkL wT (w3.heap.size) 69 [.int .i64 a, .int .i64 0, .int .i64 (1 + q), .int .i64 0, .bool C] from hwT ▸ (K_F.out.set 2 _))
    have D_6 := Lib.hid (show Dr w g wT from hwT ▸ (D_5.out.set (p := ⟨w3.heap.size, 2, none⟩) hle_F hl _))
    rw [hwT]
    clear hwT
    have kR0_5 := K_R.out.c 0 rfl; have kR1_5 := K_R.out.c 1 rfl; have kR2_5 := K_R.out.c 2 rfl; have kR3_5 := K_R.out.c 3 rfl; have kR4_5 := K_R.out.c 4 rfl; have kfR_5 := K_R.out.free
    have kF0_6 := K_F.out.c 0 rfl; have kF1_6 := K_F.out.c 1 rfl; have kF2_6 := K_F.out.c 2 rfl; have kF3_6 := K_F.out.c 3 rfl; have kF4_6 := K_F.out.c 4 rfl; have kfF_6 := K_F.out.free
    go_upto_region 6 with fail
    have hsz : 0 ≤ (1 + (q : Int) : Int) ∧ (1 + (q : Int) : Int) ≤ 32 := by omega
    have hcl := sCells_any 0 (1 + (q : Int)) (by decide) hsz
    have hcb := cellsN_bdd (k := 0) hsz
    obtain ⟨V, hV⟩ : ∃ V, cellsN 0 (1 + (q : Int)) = V := ⟨_, rfl⟩
    rw [hV] at hcl hcb
    obtain ⟨hV0, hV1⟩ := hcb
    clear hV
    have HCL := Lib.hid hcl
    clear hcl
    go_wp2_with (first | (go_at_call 170; refine (HCL.out _).mono ?_; rintro e w' ⟨rfl, rfl⟩))
    refine (next_any g 200 _ D_6.out.src).mono ?_
    rintro e w7 ⟨y, rfl, hx_y, d⟩
    replace K_R := Lib.hid (show BlkL w7 (w.heap.size) 69 [.int .i64 0, .int .i64 0, .int .i64 0, .int .i64 0, .bool false] from BlkL.dr K_R.out d hne_R)
    replace K_F := Lib.hid (show BlkL w7 (w3.heap.size) 69 [.int .i64 a, .int .i64 0, .int .i64 (1 + q), .int .i64 0, .bool C] from BlkL.dr K_F.out d hne_F)
    have D_7 := Lib.hid (d.next D_6.out)
    have hb_y : y < 200 := by omega
    have hi_y : (y : Int) < 200 := by omega
    clear hx_y
    clear d
    clear kR0_5 kR1_5 kR2_5 kR3_5 kR4_5 kfR_5
    clear kF0_6 kF1_6 kF2_6 kF3_6 kF4_6 kfF_6
    have kR0_7 := K_R.out.c 0 rfl; have kR1_7 := K_R.out.c 1 rfl; have kR2_7 := K_R.out.c 2 rfl; have kR3_7 := K_R.out.c 3 rfl; have kR4_7 := K_R.out.c 4 rfl; have kfR_7 := K_R.out.free
    have kF0_8 := K_F.out.c 0 rfl; have kF1_8 := K_F.out.c 1 rfl; have kF2_8 := K_F.out.c 2 rfl; have kF3_8 := K_F.out.c 3 rfl; have kF4_8 := K_F.out.c 4 rfl; have kfF_8 := K_F.out.free
    go_upto_region 7 with fail
    obtain ⟨wU, hwU⟩ : ∃ x, (w7.setCell ⟨w3.heap.size, 3, none⟩ (.int .i64 (V + 20 + y))) = x := ⟨_, rfl⟩
    clear kR0_7 kR1_7 kR2_7 kR3_7 kR4_7 kfR_7
    clear kF0_8 kF1_8 kF2_8 kF3_8 kF4_8 kfF_8
    replace K_R := Lib.hid (show BlkL wU (w.heap.size) 69 [.int .i64 0, .int .i64 0, .int .i64 0, .int .i64 0, .bool false] from hwU ▸ (K_R.out.other (p := ⟨w3.heap.size, 3, none⟩) ne_FR _))
    replace K_F := Lib.hid (show BlkL wU (w3.heap.size) 69 [.int .i64 a, .int .i64 0, .int .i64 (1 + q), .int .i64 (V + 20 + y), .bool C] from hwU ▸ (K_F.out.set 3 _))
    have D_8 := Lib.hid (show Dr w g wU from hwU ▸ (D_7.out.set (p := ⟨w3.heap.size, 3, none⟩) hle_F hl _))
    rw [hwU]
    clear hwU
    have kR0_9 := K_R.out.c 0 rfl; have kR1_9 := K_R.out.c 1 rfl; have kR2_9 := K_R.out.c 2 rfl; have kR3_9 := K_R.out.c 3 rfl; have kR4_9 := K_R.out.c 4 rfl; have kfR_9 := K_R.out.free
    have kF0_10 := K_F.out.c 0 rfl; have kF1_10 := K_F.out.c 1 rfl; have kF2_10 := K_F.out.c 2 rfl; have kF3_10 := K_F.out.c 3 rfl; have kF4_10 := K_F.out.c 4 rfl; have kfF_10 := K_F.out.free
    go_wp2_with fail
    refine bp_forget (fun w' => BlkL w' w.heap.size 69 [.int .i64 a, .int .i64 0, .int .i64 (1 + q), .int .i64 (V + 20 + y), .bool C] ∧ Dr w g w') ?_ ?_
    · exact ⟨(((((K_R.out.set 0 _).set 1 _).set 2 _).set 3 _).set 4 _), (((((D_8.out.set (p := ⟨w.heap.size, 0, none⟩) (Nat.le_refl _) hl _).set (p := ⟨w.heap.size, 1, none⟩) (Nat.le_refl _) hl _).set (p := ⟨w.heap.size, 2, none⟩) (Nat.le_refl _) hl _).set (p := ⟨w.heap.size, 3, none⟩) (Nat.le_refl _) hl _).set (p := ⟨w.heap.size, 4, none⟩) (Nat.le_refl _) hl _)⟩
    rintro wz ⟨kz, dz⟩
    have q0 := kz.c 0 rfl
    have q1 := kz.c 1 rfl
    have q2 := kz.c 2 rfl
    have q3 := kz.c 3 rfl
    have q4 := kz.c 4 rfl
    exact bodyPost_ret (v := .agg #[.int .i64 a, .int .i64 0, .int .i64 (1 + q), .int .i64 (V + 20 + y), .bool C]) (by simp [results, Tryz.results184, go_sem, q0, q1, q2, q3, q4]) rfl ⟨_, _, _, _, _, rfl, by decide, hsz, dz⟩
  case inr.inl =>
    clear hb_kd hi_kd
    have hne_F : g ≠ w3.heap.size := by have := D_3.out.lt; omega
    have ne_RF : ¬ w.heap.size = w3.heap.size := by have := K_R.out.lt; omega
    have ne_FR : ¬ w3.heap.size = w.heap.size := fun e => ne_RF e.symm
    go_upto_region 2 with (first | rw [hC])
    obtain ⟨wS, hwS⟩ : ∃ x, (w3.alloc (.cells #[.int .i64 a, .int .i64 1, .int .i64 0, .int .i64 0, .bool C] 69)) = x := ⟨_, rfl⟩
    replace K_R := Lib.hid (show BlkL wS (w.heap.size) 69 [.int .i64 0, .int .i64 0, .int .i64 0, .int .i64 0, .bool false] from hwS ▸ (K_R.out.alloc _))
    have K_F := Lib.hid (show BlkL wS (w3.heap.size) 69 [.int .i64 a, .int .i64 1, .int .i64 0, .int .i64 0, .bool C] from hwS ▸ (BlkL.new _ 69 _ rfl))
    have D_4 := Lib.hid (show Dr w g wS from hwS ▸ (D_3.out.alloc _))
    have hle_F : w.heap.size ≤ w3.heap.size := by have := D_3.out.size; omega
    rw [hwS]
    clear hwS
    have kR0_1 := K_R.out.c 0 rfl; have kR1_1 := K_R.out.c 1 rfl; have kR2_1 := K_R.out.c 2 rfl; have kR3_1 := K_R.out.c 3 rfl; have kR4_1 := K_R.out.c 4 rfl; have kfR_1 := K_R.out.free
    have kF0_2 := K_F.out.c 0 rfl; have kF1_2 := K_F.out.c 1 rfl; have kF2_2 := K_F.out.c 2 rfl; have kF3_2 := K_F.out.c 3 rfl; have kF4_2 := K_F.out.c 4 rfl; have kfF_2 := K_F.out.free
    clear hC HCC
    go_upto_region 6 with (first | (go_at_call 130; refine (l06Data_any _ _).mono ?_; rintro e w' ⟨rfl, rfl⟩))
    have hsz : 0 ≤ (0 : Int) ∧ (0 : Int) ≤ 32 := by omega
    have hcl := sCells_any 1 (0) (by decide) hsz
    have hcb := cellsN_bdd (k := 1) hsz
    obtain ⟨V, hV⟩ : ∃ V, cellsN 1 (0) = V := ⟨_, rfl⟩
    rw [hV] at hcl hcb
    obtain ⟨hV0, hV1⟩ := hcb
    clear hV
    have HCL := Lib.hid hcl
    clear hcl
    go_wp2_with (first | (go_at_call 170; refine (HCL.out _).mono ?_; rintro e w' ⟨rfl, rfl⟩))
    refine (next_any g 200 _ D_4.out.src).mono ?_
    rintro e w5 ⟨y, rfl, hx_y, d⟩
    replace K_R := Lib.hid (show BlkL w5 (w.heap.size) 69 [.int .i64 0, .int .i64 0, .int .i64 0, .int .i64 0, .bool false] from BlkL.dr K_R.out d hne_R)
    replace K_F := Lib.hid (show BlkL w5 (w3.heap.size) 69 [.int .i64 a, .int .i64 1, .int .i64 0, .int .i64 0, .bool C] from BlkL.dr K_F.out d hne_F)
    have D_5 := Lib.hid (d.next D_4.out)
    have hb_y : y < 200 := by omega
    have hi_y : (y : Int) < 200 := by omega
    clear hx_y
    clear d
    clear kR0_1 kR1_1 kR2_1 kR3_1 kR4_1 kfR_1
    clear kF0_2 kF1_2 kF2_2 kF3_2 kF4_2 kfF_2
    have kR0_3 := K_R.out.c 0 rfl; have kR1_3 := K_R.out.c 1 rfl; have kR2_3 := K_R.out.c 2 rfl; have kR3_3 := K_R.out.c 3 rfl; have kR4_3 := K_R.out.c 4 rfl; have kfR_3 := K_R.out.free
    have kF0_4 := K_F.out.c 0 rfl; have kF1_4 := K_F.out.c 1 rfl; have kF2_4 := K_F.out.c 2 rfl; have kF3_4 := K_F.out.c 3 rfl; have kF4_4 := K_F.out.c 4 rfl; have kfF_4 := K_F.out.free
    go_upto_region 7 with fail
    obtain ⟨wU, hwU⟩ : ∃ x, (w5.setCell ⟨w3.heap.size, 3, none⟩ (.int .i64 (V + 20 + y))) = x := ⟨_, rfl⟩
    clear kR0_3 kR1_3 kR2_3 kR3_3 kR4_3 kfR_3
    clear kF0_4 kF1_4 kF2_4 kF3_4 kF4_4 kfF_4
    replace K_R := Lib.hid (show BlkL wU (w.heap.size) 69 [.int .i64 0, .int .i64 0, .int .i64 0, .int .i64 0, .bool false] from hwU ▸ (K_R.out.other (p := ⟨w3.heap.size, 3, none⟩) ne_FR _))
    replace K_F := Lib.hid (show BlkL wU (w3.heap.size) 69 [.int .i64 a, .int .i64 1, .int .i64 0, .int .i64 (V + 20 + y), .bool C] from hwU ▸ (K_F.out.set 3 _))
    have D_6 := Lib.hid (show Dr w g wU from hwU ▸ (D_5.out.set (p := ⟨w3.heap.size, 3, none⟩) hle_F hl _))
    rw [hwU]
    clear hwU
    have kR0_5 := K_R.out.c 0 rfl; have kR1_5 := K_R.out.c 1 rfl; have kR2_5 := K_R.out.c 2 rfl; have kR3_5 := K_R.out.c 3 rfl; have kR4_5 := K_R.out.c 4 rfl; have kfR_5 := K_R.out.free
    have kF0_6 := K_F.out.c 0 rfl; have kF1_6 := K_F.out.c 1 rfl; have kF2_6 := K_F.out.c 2 rfl; have kF3_6 := K_F.out.c 3 rfl; have kF4_6 := K_F.out.c 4 rfl; have kfF_6 := K_F.out.free
    go_wp2_with fail
    refine bp_forget (fun w' => BlkL w' w.heap.size 69 [.int .i64 a, .int .i64 1, .int .i64 0, .int .i64 (V + 20 + y), .bool C] ∧ Dr w g w') ?_ ?_
    · exact ⟨(((((K_R.out.set 0 _).set 1 _).set 2 _).set 3 _).set 4 _), (((((D_6.out.set (p := ⟨w.heap.size, 0, none⟩) (Nat.le_refl _) hl _).set (p := ⟨w.heap.size, 1, none⟩) (Nat.le_refl _) hl _).set (p := ⟨w.heap.size, 2, none⟩) (Nat.le_refl _) hl _).set (p := ⟨w.heap.size, 3, none⟩) (Nat.le_refl _) hl _).set (p := ⟨w.heap.size, 4, none⟩) (Nat.le_refl _) hl _)⟩
    rintro wz ⟨kz, dz⟩
    have q0 := kz.c 0 rfl
    have q1 := kz.c 1 rfl
    have q2 := kz.c 2 rfl
    have q3 := kz.c 3 rfl
    have q4 := kz.c 4 rfl
    exact bodyPost_ret (v := .agg #[.int .i64 a, .int .i64 1, .int .i64 0, .int .i64 (V + 20 + y), .bool C]) (by simp [results, Tryz.results184, go_sem, q0, q1, q2, q3, q4]) rfl ⟨_, _, _, _, _, rfl, by decide, hsz, dz⟩
  case inr.inr.inl =>
    clear hb_kd hi_kd
    have hne_F : g ≠ w3.heap.size := by have := D_3.out.lt; omega
    have ne_RF : ¬ w.heap.size = w3.heap.size := by have := K_R.out.lt; omega
    have ne_FR : ¬ w3.heap.size = w.heap.size := fun e => ne_RF e.symm
    go_upto_region 2 with (first | rw [hC])
    obtain ⟨wS, hwS⟩ : ∃ x, (w3.alloc (.cells #[.int .i64 a, .int .i64 2, .int .i64 0, .int .i64 0, .bool C] 69)) = x := ⟨_, rfl⟩
    replace K_R := Lib.hid (show BlkL wS (w.heap.size) 69 [.int .i64 0, .int .i64 0, .int .i64 0, .int .i64 0, .bool false] from hwS ▸ (K_R.out.alloc _))
    have K_F := Lib.hid (show BlkL wS (w3.heap.size) 69 [.int .i64 a, .int .i64 2, .int .i64 0, .int .i64 0, .bool C] from hwS ▸ (BlkL.new _ 69 _ rfl))
    have D_4 := Lib.hid (show Dr w g wS from hwS ▸ (D_3.out.alloc _))
    have hle_F : w.heap.size ≤ w3.heap.size := by have := D_3.out.size; omega
    rw [hwS]
    clear hwS
    have kR0_1 := K_R.out.c 0 rfl; have kR1_1 := K_R.out.c 1 rfl; have kR2_1 := K_R.out.c 2 rfl; have kR3_1 := K_R.out.c 3 rfl; have kR4_1 := K_R.out.c 4 rfl; have kfR_1 := K_R.out.free
    have kF0_2 := K_F.out.c 0 rfl; have kF1_2 := K_F.out.c 1 rfl; have kF2_2 := K_F.out.c 2 rfl; have kF3_2 := K_F.out.c 3 rfl; have kF4_2 := K_F.out.c 4 rfl; have kfF_2 := K_F.out.free
    clear hC HCC
    go_wp2_with (first | (go_at_call 130; refine (l06Data_any _ _).mono ?_; rintro e w' ⟨rfl, rfl⟩))
    refine (next_any g 5 _ D_4.out.src).mono ?_
    rintro e w5 ⟨q, rfl, hx_q, d⟩
    replace K_R := Lib.hid (show BlkL w5 (w.heap.size) 69 [.int .i64 0, .int .i64 0, .int .i64 0, .int .i64 0, .bool false] from BlkL.dr K_R.out d hne_R)
    replace K_F := Lib.hid (show BlkL w5 (w3.heap.size) 69 [.int .i64 a, .int .i64 2, .int .i64 0, .int .i64 0, .bool C] from BlkL.dr K_F.out d hne_F)
    have D_5 := Lib.hid (d.next D_4.out)
    have hb_q : q < 5 := by omega
    have hi_q : (q : Int) < 5 := by omega
    clear hx_q
    clear d
    clear kR0_1 kR1_1 kR2_1 kR3_1 kR4_1 kfR_1
    clear kF0_2 kF1_2 kF2_2 kF3_2 kF4_2 kfF_2
    have kR0_3 := K_R.out.c 0 rfl; have kR1_3 := K_R.out.c 1 rfl; have kR2_3 := K_R.out.c 2 rfl; have kR3_3 := K_R.out.c 3 rfl; have kR4_3 := K_R.out.c 4 rfl; have kfR_3 := K_R.out.free
    have kF0_4 := K_F.out.c 0 rfl; have kF1_4 := K_F.out.c 1 rfl; have kF2_4 := K_F.out.c 2 rfl; have kF3_4 := K_F.out.c 3 rfl; have kF4_4 := K_F.out.c 4 rfl; have kfF_4 := K_F.out.free
    go_upto_region 4 with fail
    obtain ⟨wT, hwT⟩ : ∃ x, (w5.setCell ⟨w3.heap.size, 2, none⟩ (.int .i64 (1 + q))) = x := ⟨_, rfl⟩
    clear kR0_3 kR1_3 kR2_3 kR3_3 kR4_3 kfR_3
    clear kF0_4 kF1_4 kF2_4 kF3_4 kF4_4 kfF_4
    replace K_R := Lib.hid (show BlkL wT (w.heap.size) 69 [.int .i64 0, .int .i64 0, .int .i64 0, .int .i64 0, .bool false] from hwT ▸ (K_R.out.other (p := ⟨w3.heap.size, 2, none⟩) ne_FR _))
    replace K_F := Lib.hid (show BlkL wT (w3.heap.size) 69 [.int .i64 a, .int .i64 2, .int .i64 (1 + q), .int .i64 0, .bool C] from hwT ▸ (K_F.out.set 2 _))
    have D_6 := Lib.hid (show Dr w g wT from hwT ▸ (D_5.out.set (p := ⟨w3.heap.size, 2, none⟩) hle_F hl _))
    rw [hwT]
    clear hwT
    have kR0_5 := K_R.out.c 0 rfl; have kR1_5 := K_R.out.c 1 rfl; have kR2_5 := K_R.out.c 2 rfl; have kR3_5 := K_R.out.c 3 rfl; have kR4_5 := K_R.out.c 4 rfl; have kfR_5 := K_R.out.free
    have kF0_6 := K_F.out.c 0 rfl; have kF1_6 := K_F.out.c 1 rfl; have kF2_6 := K_F.out.c 2 rfl; have kF3_6 := K_F.out.c 3 rfl; have kF4_6 := K_F.out.c 4 rfl; have kfF_6 := K_F.out.free
    go_upto_region 6 with fail
    have hsz : 0 ≤ (1 + (q : Int) : Int) ∧ (1 + (q : Int) : Int) ≤ 32 := by omega
    have hcl := sCells_any 2 (1 + (q : Int)) (by decide) hsz
    have hcb := cellsN_bdd (k := 2) hsz
    obtain ⟨V, hV⟩ : ∃ V, cellsN 2 (1 + (q : Int)) = V := ⟨_, rfl⟩
    rw [hV] at hcl hcb
    obtain ⟨hV0, hV1⟩ := hcb
    clear hV
    have HCL := Lib.hid hcl
    clear hcl
    go_wp2_with (first | (go_at_call 170; refine (HCL.out _).mono ?_; rintro e w' ⟨rfl, rfl⟩))
    refine (next_any g 200 _ D_6.out.src).mono ?_
    rintro e w7 ⟨y, rfl, hx_y, d⟩
    replace K_R := Lib.hid (show BlkL w7 (w.heap.size) 69 [.int .i64 0, .int .i64 0, .int .i64 0, .int .i64 0, .bool false] from BlkL.dr K_R.out d hne_R)
    replace K_F := Lib.hid (show BlkL w7 (w3.heap.size) 69 [.int .i64 a, .int .i64 2, .int .i64 (1 + q), .int .i64 0, .bool C] from BlkL.dr K_F.out d hne_F)
    have D_7 := Lib.hid (d.next D_6.out)
    have hb_y : y < 200 := by omega
    have hi_y : (y : Int) < 200 := by omega
    clear hx_y
    clear d
    clear kR0_5 kR1_5 kR2_5 kR3_5 kR4_5 kfR_5
    clear kF0_6 kF1_6 kF2_6 kF3_6 kF4_6 kfF_6
    have kR0_7 := K_R.out.c 0 rfl; have kR1_7 := K_R.out.c 1 rfl; have kR2_7 := K_R.out.c 2 rfl; have kR3_7 := K_R.out.c 3 rfl; have kR4_7 := K_R.out.c 4 rfl; have kfR_7 := K_R.out.free
    have kF0_8 := K_F.out.c 0 rfl; have kF1_8 := K_F.out.c 1 rfl; have kF2_8 := K_F.out.c 2 rfl; have kF3_8 := K_F.out.c 3 rfl; have kF4_8 := K_F.out.c 4 rfl; have kfF_8 := K_F.out.free
    go_upto_region 7 with fail
    obtain ⟨wU, hwU⟩ : ∃ x, (w7.setCell ⟨w3.heap.size, 3, none⟩ (.int .i64 (V + 20 + y))) = x := ⟨_, rfl⟩
    clear kR0_7 kR1_7 kR2_7 kR3_7 kR4_7 kfR_7
    clear kF0_8 kF1_8 kF2_8 kF3_8 kF4_8 kfF_8
    replace K_R := Lib.hid (show BlkL wU (w.heap.size) 69 [.int .i64 0, .int .i64 0, .int .i64 0, .int .i64 0, .bool false] from hwU ▸ (K_R.out.other (p := ⟨w3.heap.size, 3, none⟩) ne_FR _))
    replace K_F := Lib.hid (show BlkL wU (w3.heap.size) 69 [.int .i64 a, .int .i64 2, .int .i64 (1 + q), .int .i64 (V + 20 + y), .bool C] from hwU ▸ (K_F.out.set 3 _))
    have D_8 := Lib.hid (show Dr w g wU from hwU ▸ (D_7.out.set (p := ⟨w3.heap.size, 3, none⟩) hle_F hl _))
    rw [hwU]
    clear hwU
    have kR0_9 := K_R.out.c 0 rfl; have kR1_9 := K_R.out.c 1 rfl; have kR2_9 := K_R.out.c 2 rfl; have kR3_9 := K_R.out.c 3 rfl; have kR4_9 := K_R.out.c 4 rfl; have kfR_9 := K_R.out.free
    have kF0_10 := K_F.out.c 0 rfl; have kF1_10 := K_F.out.c 1 rfl; have kF2_10 := K_F.out.c 2 rfl; have kF3_10 := K_F.out.c 3 rfl; have kF4_10 := K_F.out.c 4 rfl; have kfF_10 := K_F.out.free
    go_wp2_with fail
    refine bp_forget (fun w' => BlkL w' w.heap.size 69 [.int .i64 a, .int .i64 2, .int .i64 (1 + q), .int .i64 (V + 20 + y), .bool C] ∧ Dr w g w') ?_ ?_
    · exact ⟨(((((K_R.out.set 0 _).set 1 _).set 2 _).set 3 _).set 4 _), (((((D_8.out.set (p := ⟨w.heap.size, 0, none⟩) (Nat.le_refl _) hl _).set (p := ⟨w.heap.size, 1, none⟩) (Nat.le_refl _) hl _).set (p := ⟨w.heap.size, 2, none⟩) (Nat.le_refl _) hl _).set (p := ⟨w.heap.size, 3, none⟩) (Nat.le_refl _) hl _).set (p := ⟨w.heap.size, 4, none⟩) (Nat.le_refl _) hl _)⟩
    rintro wz ⟨kz, dz⟩
    have q0 := kz.c 0 rfl
    have q1 := kz.c 1 rfl
    have q2 := kz.c 2 rfl
    have q3 := kz.c 3 rfl
    have q4 := kz.c 4 rfl
    exact bodyPost_ret (v := .agg #[.int .i64 a, .int .i64 2, .int .i64 (1 + q), .int .i64 (V + 20 + y), .bool C]) (by simp [results, Tryz.results184, go_sem, q0, q1, q2, q3, q4]) rfl ⟨_, _, _, _, _, rfl, by decide, hsz, dz⟩
  case inr.inr.inr =>
    clear hb_kd hi_kd
    have hne_F : g ≠ w3.heap.size := by have := D_3.out.lt; omega
    have ne_RF : ¬ w.heap.size = w3.heap.size := by have := K_R.out.lt; omega
    have ne_FR : ¬ w3.heap.size = w.heap.size := fun e => ne_RF e.symm
    go_upto_region 2 with (first | rw [hC])
    obtain ⟨wS, hwS⟩ : ∃ x, (w3.alloc (.cells #[.int .i64 a, .int .i64 3, .int .i64 0, .int .i64 0, .bool C] 69)) = x := ⟨_, rfl⟩
    replace K_R := Lib.hid (show BlkL wS (w.heap.size) 69 [.int .i64 0, .int .i64 0, .int .i64 0, .int .i64 0, .bool false] from hwS ▸ (K_R.out.alloc _))
    have K_F := Lib.hid (show BlkL wS (w3.heap.size) 69 [.int .i64 a, .int .i64 3, .int .i64 0, .int .i64 0, .bool C] from hwS ▸ (BlkL.new _ 69 _ rfl))
    have D_4 := Lib.hid (show Dr w g wS from hwS ▸ (D_3.out.alloc _))
    have hle_F : w.heap.size ≤ w3.heap.size := by have := D_3.out.size; omega
    rw [hwS]
    clear hwS
    have kR0_1 := K_R.out.c 0 rfl; have kR1_1 := K_R.out.c 1 rfl; have kR2_1 := K_R.out.c 2 rfl; have kR3_1 := K_R.out.c 3 rfl; have kR4_1 := K_R.out.c 4 rfl; have kfR_1 := K_R.out.free
    have kF0_2 := K_F.out.c 0 rfl; have kF1_2 := K_F.out.c 1 rfl; have kF2_2 := K_F.out.c 2 rfl; have kF3_2 := K_F.out.c 3 rfl; have kF4_2 := K_F.out.c 4 rfl; have kfF_2 := K_F.out.free
    clear hC HCC
    go_upto_region 5 with (first | (go_at_call 130; refine (l06Data_any _ _).mono ?_; rintro e w' ⟨rfl, rfl⟩))
    go_upto_region 6 with fail
    obtain ⟨wT, hwT⟩ : ∃ x, (wS.setCell ⟨w3.heap.size, 4, none⟩ (.bool false)) = x := ⟨_, rfl⟩
    clear kR0_1 kR1_1 kR2_1 kR3_1 kR4_1 kfR_1
    clear kF0_2 kF1_2 kF2_2 kF3_2 kF4_2 kfF_2
    replace K_R := Lib.hid (show BlkL wT (w.heap.size) 69 [.int .i64 0, .int .i64 0, .int .i64 0, .int .i64 0, .bool false] from hwT ▸ (K_R.out.other (p := ⟨w3.heap.size, 4, none⟩) ne_FR _))
    replace K_F := Lib.hid (show BlkL wT (w3.heap.size) 69 [.int .i64 a, .int .i64 3, .int .i64 0, .int .i64 0, .bool false] from hwT ▸ (K_F.out.set 4 _))
    have D_5 := Lib.hid (show Dr w g wT from hwT ▸ (D_4.out.set (p := ⟨w3.heap.size, 4, none⟩) hle_F hl _))
    rw [hwT]
    clear hwT
    have kR0_3 := K_R.out.c 0 rfl; have kR1_3 := K_R.out.c 1 rfl; have kR2_3 := K_R.out.c 2 rfl; have kR3_3 := K_R.out.c 3 rfl; have kR4_3 := K_R.out.c 4 rfl; have kfR_3 := K_R.out.free
    have kF0_4 := K_F.out.c 0 rfl; have kF1_4 := K_F.out.c 1 rfl; have kF2_4 := K_F.out.c 2 rfl; have kF3_4 := K_F.out.c 3 rfl; have kF4_4 := K_F.out.c 4 rfl; have kfF_4 := K_F.out.free
    have hsz : 0 ≤ (0 : Int) ∧ (0 : Int) ≤ 32 := by omega
    have hcl := sCells_any 3 (0) (by decide) hsz
    have hcb := cellsN_bdd (k := 3) hsz
    obtain ⟨V, hV⟩ : ∃ V, cellsN 3 (0) = V := ⟨_, rfl⟩
    rw [hV] at hcl hcb
    obtain ⟨hV0, hV1⟩ := hcb
    clear hV
    have HCL := Lib.hid hcl
    clear hcl
    go_wp2_with (first | (go_at_call 170; refine (HCL.out _).mono ?_; rintro e w' ⟨rfl, rfl⟩))
    refine (next_any g 200 _ D_5.out.src).mono ?_
    rintro e w6 ⟨y, rfl, hx_y, d⟩
    replace K_R := Lib.hid (show BlkL w6 (w.heap.size) 69 [.int .i64 0, .int .i64 0, .int .i64 0, .int .i64 0, .bool false] from BlkL.dr K_R.out d hne_R)
    replace K_F := Lib.hid (show BlkL w6 (w3.heap.size) 69 [.int .i64 a, .int .i64 3, .int .i64 0, .int .i64 0, .bool false] from BlkL.dr K_F.out d hne_F)
    have D_6 := Lib.hid (d.next D_5.out)
    have hb_y : y < 200 := by omega
    have hi_y : (y : Int) < 200 := by omega
    clear hx_y
    clear d
    clear kR0_3 kR1_3 kR2_3 kR3_3 kR4_3 kfR_3
    clear kF0_4 kF1_4 kF2_4 kF3_4 kF4_4 kfF_4
    have kR0_5 := K_R.out.c 0 rfl; have kR1_5 := K_R.out.c 1 rfl; have kR2_5 := K_R.out.c 2 rfl; have kR3_5 := K_R.out.c 3 rfl; have kR4_5 := K_R.out.c 4 rfl; have kfR_5 := K_R.out.free
    have kF0_6 := K_F.out.c 0 rfl; have kF1_6 := K_F.out.c 1 rfl; have kF2_6 := K_F.out.c 2 rfl; have kF3_6 := K_F.out.c 3 rfl; have kF4_6 := K_F.out.c 4 rfl; have kfF_6 := K_F.out.free
    go_upto_region 7 with fail
    obtain ⟨wU, hwU⟩ : ∃ x, (w6.setCell ⟨w3.heap.size, 3, none⟩ (.int .i64 (V + 20 + y))) = x := ⟨_, rfl⟩
    clear kR0_5 kR1_5 kR2_5 kR3_5 kR4_5 kfR_5
    clear kF0_6 kF1_6 kF2_6 kF3_6 kF4_6 kfF_6
    replace K_R := Lib.hid (show BlkL wU (w.heap.size) 69 [.int .i64 0, .int .i64 0, .int .i64 0, .int .i64 0, .bool false] from hwU ▸ (K_R.out.other (p := ⟨w3.heap.size, 3, none⟩) ne_FR _))
    replace K_F := Lib.hid (show BlkL wU (w3.heap.size) 69 [.int .i64 a, .int .i64 3, .int .i64 0, .int .i64 (V + 20 + y), .bool false] from hwU ▸ (K_F.out.set 3 _))
    have D_7 := Lib.hid (show Dr w g wU from hwU ▸ (D_6.out.set (p := ⟨w3.heap.size, 3, none⟩) hle_F hl _))
    rw [hwU]
    clear hwU
    have kR0_7 := K_R.out.c 0 rfl; have kR1_7 := K_R.out.c 1 rfl; have kR2_7 := K_R.out.c 2 rfl; have kR3_7 := K_R.out.c 3 rfl; have kR4_7 := K_R.out.c 4 rfl; have kfR_7 := K_R.out.free
    have kF0_8 := K_F.out.c 0 rfl; have kF1_8 := K_F.out.c 1 rfl; have kF2_8 := K_F.out.c 2 rfl; have kF3_8 := K_F.out.c 3 rfl; have kF4_8 := K_F.out.c 4 rfl; have kfF_8 := K_F.out.free
    go_wp2_with fail
    refine bp_forget (fun w' => BlkL w' w.heap.size 69 [.int .i64 a, .int .i64 3, .int .i64 0, .int .i64 (V + 20 + y), .bool false] ∧ Dr w g w') ?_ ?_
    · exact ⟨(((((K_R.out.set 0 _).set 1 _).set 2 _).set 3 _).set 4 _), (((((D_7.out.set (p := ⟨w.heap.size, 0, none⟩) (Nat.le_refl _) hl _).set (p := ⟨w.heap.size, 1, none⟩) (Nat.le_refl _) hl _).set (p := ⟨w.heap.size, 2, none⟩) (Nat.le_refl _) hl _).set (p := ⟨w.heap.size, 3, none⟩) (Nat.le_refl _) hl _).set (p := ⟨w.heap.size, 4, none⟩) (Nat.le_refl _) hl _)⟩
    rintro wz ⟨kz, dz⟩
    have q0 := kz.c 0 rfl
    have q1 := kz.c 1 rfl
    have q2 := kz.c 2 rfl
    have q3 := kz.c 3 rfl
    have q4 := kz.c 4 rfl
    exact bodyPost_ret (v := .agg #[.int .i64 a, .int .i64 3, .int .i64 0, .int .i64 (V + 20 + y), .bool false]) (by simp [results, Tryz.results184, go_sem, q0, q1, q2, q3, q4]) rfl ⟨_, _, _, _, _, rfl, by decide, hsz, dz⟩

set_option maxRecDepth 6000 in
set_option maxHeartbeats 8000000 in
theorem drawDescAny_any (g : Nat) (w : World) (h : Src w g) :
    Calls Tryz.prog 128 #[.pointer (some ⟨g, 0, none⟩)] w (DrDA w g) := by
  have hl := h.lt
  have hne_R : g ≠ w.heap.size := by omega
  go_enter Tryz.func128, Tryz.ntmps128
  go_wp2_with fail
  refine (drawDesc_any g _ ((Dr.refl h).alloc _).src).mono ?_
  rintro e w1 ⟨nd, kd, sz, du, ch, rfl, hkd, hsz, d⟩
  have K_R := Lib.hid (show BlkL w1 (w.heap.size) 69 [.int .i64 0, .int .i64 0, .int .i64 0, .int .i64 0, .bool false] from BlkL.dr (BlkL.new _ 69 _ rfl) d hne_R)
  have D_1 := Lib.hid (d.next ((Dr.refl h).alloc _))
  clear d
  have hne_F : g ≠ w1.heap.size := by have := D_1.out.lt; omega
  have ne_RF : ¬ w.heap.size = w1.heap.size := by have := K_R.out.lt; omega
  have ne_FR : ¬ w1.heap.size = w.heap.size := fun e => ne_RF e.symm
  go_wp2_with fail
  refine (next_any g 30 _ (D_1.out.alloc _).src).mono ?_
  rintro e w2 ⟨x, rfl, hx_x, d⟩
  replace K_R := Lib.hid (show BlkL w2 (w.heap.size) 69 [.int .i64 0, .int .i64 0, .int .i64 0, .int .i64 0, .bool false] from BlkL.dr (K_R.out.alloc _) d hne_R)
  have K_F := Lib.hid (show BlkL w2 (w1.heap.size) 69 [.int .i64 nd, .int .i64 kd, .int .i64 sz, .int .i64 du, .bool ch] from BlkL.dr (BlkL.new _ 69 _ rfl) d hne_F)
  have D_2 := Lib.hid (d.next (D_1.out.alloc _))
  have hle_F : w.heap.size ≤ w1.heap.size := by have := D_1.out.size; omega
  have hb_x : x < 30 := by omega
  have hi_x : (x : Int) < 30 := by omega
  clear hx_x
  clear d
  by_cases h0 : x = 0
  case pos =>
    subst h0
    clear hb_x hi_x
    go_wp2_with fail
    refine (next_any g 3 _ (D_2.out.alloc _).src).mono ?_
    rintro e w3 ⟨y, rfl, hx_y, d⟩
    replace K_R := Lib.hid (show BlkL w3 (w.heap.size) 69 [.int .i64 0, .int .i64 0, .int .i64 0, .int .i64 0, .bool false] from BlkL.dr (K_R.out.alloc _) d hne_R)
    replace K_F := Lib.hid (show BlkL w3 (w1.heap.size) 69 [.int .i64 nd, .int .i64 kd, .int .i64 sz, .int .i64 du, .bool ch] from BlkL.dr (K_F.out.alloc _) d hne_F)
    have D_3 := Lib.hid (d.next (D_2.out.alloc _))
    obtain ⟨u, _, hc⟩ := pick_cell (L := [-1, 31, 32]) d.gr D_2.out.lt (x := y) (by simp; omega)
    have hb_y : y < 3 := by omega
    clear hx_y
    clear d
    have kR0_1 := K_R.out.c 0 rfl; have kR1_1 := K_R.out.c 1 rfl; have kR2_1 := K_R.out.c 2 rfl; have kR3_1 := K_R.out.c 3 rfl; have kR4_1 := K_R.out.c 4 rfl; have kfR_1 := K_R.out.free
    have kF0_2 := K_F.out.c 0 rfl; have kF1_2 := K_F.out.c 1 rfl; have kF2_2 := K_F.out.c 2 rfl; have kF3_2 := K_F.out.c 3 rfl; have kF4_2 := K_F.out.c 4 rfl; have kfF_2 := K_F.out.free
    go_upto_region 13 with fail
    obtain ⟨wS, hwS⟩ : ∃ x, (w3.setCell ⟨w1.heap.size, 0, none⟩ (.int .i64 u)) = x := ⟨_, rfl⟩
    clear kR0_1 kR1_1 kR2_1 kR3_1 kR4_1 kfR_1
    clear kF0_2 kF1_2 kF2_2 kF3_2 kF4_2 kfF_2
    replace K_R := Lib.hid (show BlkL wS (w.heap.size) 69 [.int .i64 0, .int .i64 0, .int .i64 0, .int .i64 0, .bool false] from hwS ▸ (K_R.out.other (p := ⟨w1.heap.size, 0, none⟩) ne_FR _))
    replace K_F := Lib.hid (show BlkL wS (w1.heap.size) 69 [.int .i64 u, .int .i64 kd, .int .i64 sz, .int .i64 du, .bool ch] from hwS ▸ (K_F.out.set 0 _))
    have D_4 := Lib.hid (show Dr w g wS from hwS ▸ (D_3.out.set (p := ⟨w1.heap.size, 0, none⟩) hle_F hl _))
    rw [hwS]
    clear hwS
    have kR0_3 := K_R.out.c 0 rfl; have kR1_3 := K_R.out.c 1 rfl; have kR2_3 := K_R.out.c 2 rfl; have kR3_3 := K_R.out.c 3 rfl; have kR4_3 := K_R.out.c 4 rfl; have kfR_3 := K_R.out.free
    have kF0_4 := K_F.out.c 0 rfl; have kF1_4 := K_F.out.c 1 rfl; have kF2_4 := K_F.out.c 2 rfl; have kF3_4 := K_F.out.c 3 rfl; have kF4_4 := K_F.out.c 4 rfl; have kfF_4 := K_F.out.free
    go_wp2_with fail
    refine bp_forget (fun w' => BlkL w' w.heap.size 69 [.int .i64 u, .int .i64 kd, .int .i64 sz, .int .i64 du, .bool ch] ∧ Dr w g w') ?_ ?_
    · exact ⟨(((((K_R.out.set 0 _).set 1 _).set 2 _).set 3 _).set 4 _), (((((D_4.out.set (p := ⟨w.heap.size, 0, none⟩) (Nat.le_refl _) hl _).set (p := ⟨w.heap.size, 1, none⟩) (Nat.le_refl _) hl _).set (p := ⟨w.heap.size, 2, none⟩) (Nat.le_refl _) hl _).set (p := ⟨w.heap.size, 3, none⟩) (Nat.le_refl _) hl _).set (p := ⟨w.heap.size, 4, none⟩) (Nat.le_refl _) hl _)⟩
    rintro wz ⟨kz, dz⟩
    have q0 := kz.c 0 rfl
    have q1 := kz.c 1 rfl
    have q2 := kz.c 2 rfl
    have q3 := kz.c 3 rfl
    have q4 := kz.c 4 rfl
    exact bodyPost_ret (v := .agg #[.int .i64 u, .int .i64 kd, .int .i64 sz, .int .i64 du, .bool ch]) (by simp [results, Tryz.results128, go_sem, q0, q1, q2, q3, q4]) rfl ⟨_, _, _, _, _, rfl, dz⟩
  have b0 : ((x : Int) == 0) = false := by simp; omega
  by_cases h1 : x = 1
  case pos =>
    subst h1
    clear hb_x hi_x
    go_wp2_with fail
    refine (next_any g 6 _ D_2.out.src).mono ?_
    rintro e w3 ⟨y, rfl, hx_y, d⟩
    replace K_R := Lib.hid (show BlkL w3 (w.heap.size) 69 [.int .i64 0, .int .i64 0, .int .i64 0, .int .i64 0, .bool false] from BlkL.dr K_R.out d hne_R)
    replace K_F := Lib.hid (show BlkL w3 (w1.heap.size) 69 [.int .i64 nd, .int .i64 kd, .int .i64 sz, .int .i64 du, .bool ch] from BlkL.dr K_F.out d hne_F)
    have D_3 := Lib.hid (d.next D_2.out)
    have hb_y : y < 6 := by omega
    have hi_y : (y : Int) < 6 := by omega
    clear hx_y
    clear d
    have kR0_1 := K_R.out.c 0 rfl; have kR1_1 := K_R.out.c 1 rfl; have kR2_1 := K_R.out.c 2 rfl; have kR3_1 := K_R.out.c 3 rfl; have kR4_1 := K_R.out.c 4 rfl; have kfR_1 := K_R.out.free
    have kF0_2 := K_F.out.c 0 rfl; have kF1_2 := K_F.out.c 1 rfl; have kF2_2 := K_F.out.c 2 rfl; have kF3_2 := K_F.out.c 3 rfl; have kF4_2 := K_F.out.c 4 rfl; have kfF_2 := K_F.out.free
    go_upto_region 13 with fail
    obtain ⟨wS, hwS⟩ : ∃ x, (w3.setCell ⟨w1.heap.size, 1, none⟩ (.int .i64 ((y : Int) - 1))) = x := ⟨_, rfl⟩
    clear kR0_1 kR1_1 kR2_1 kR3_1 kR4_1 kfR_1
    clear kF0_2 kF1_2 kF2_2 kF3_2 kF4_2 kfF_2
    replace K_R := Lib.hid (show BlkL wS (w.heap.size) 69 [.int .i64 0, .int .i64 0, .int .i64 0, .int .i64 0, .bool false] from hwS ▸ (K_R.out.other (p := ⟨w1.heap.size, 1, none⟩) ne_FR _))
    replace K_F := Lib.hid (show BlkL wS (w1.heap.size) 69 [.int .i64 nd, .int .i64 ((y : Int) - 1), .int .i64 sz, .int .i64 du, .bool ch] from hwS ▸ (K_F.out.set 1 _))
    have D_4 := Lib.hid (show Dr w g wS from hwS ▸ (D_3.out.set (p := ⟨w1.heap.size, 1, none⟩) hle_F hl _))
    rw [hwS]
    clear hwS
    have kR0_3 := K_R.out.c 0 rfl; have kR1_3 := K_R.out.c 1 rfl; have kR2_3 := K_R.out.c 2 rfl; have kR3_3 := K_R.out.c 3 rfl; have kR4_3 := K_R.out.c 4 rfl; have kfR_3 := K_R.out.free
    have kF0_4 := K_F.out.c 0 rfl; have kF1_4 := K_F.out.c 1 rfl; have kF2_4 := K_F.out.c 2 rfl; have kF3_4 := K_F.out.c 3 rfl; have kF4_4 := K_F.out.c 4 rfl; have kfF_4 := K_F.out.free
    go_wp2_with fail
    refine bp_forget (fun w' => BlkL w' w.heap.size 69 [.int .i64 nd, .int .i64 ((y : Int) - 1), .int .i64 sz, .int .i64 du, .bool ch] ∧ Dr w g w') ?_ ?_
    · exact ⟨(((((K_R.out.set 0 _).set 1 _).set 2 _).set 3 _).set 4 _), (((((D_4.out.set (p := ⟨w.heap.size, 0, none⟩) (Nat.le_refl _) hl _).set (p := ⟨w.heap.size, 1, none⟩) (Nat.le_refl _) hl _).set (p := ⟨w.heap.size, 2, none⟩) (Nat.le_refl _) hl _).set (p := ⟨w.heap.size, 3, none⟩) (Nat.le_refl _) hl _).set (p := ⟨w.heap.size, 4, none⟩) (Nat.le_refl _) hl _)⟩
    rintro wz ⟨kz, dz⟩
    have q0 := kz.c 0 rfl
    have q1 := kz.c 1 rfl
    have q2 := kz.c 2 rfl
    have q3 := kz.c 3 rfl
    have q4 := kz.c 4 rfl
    exact bodyPost_ret (v := .agg #[.int .i64 nd, .int .i64 ((y : Int) - 1), .int .i64 sz, .int .i64 du, .bool ch]) (by simp [results, Tryz.results128, go_sem, q0, q1, q2, q3, q4]) rfl ⟨_, _, _, _, _, rfl, dz⟩
  have b1 : ((x : Int) == 1) = false := by simp; omega
  by_cases h2 : x = 2
  case pos =>
    subst h2
    clear hb_x hi_x
    go_wp2_with fail
    refine (next_any g 4 _ (D_2.out.alloc _).src).mono ?_
    rintro e w3 ⟨y, rfl, hx_y, d⟩
    replace K_R := Lib.hid (show BlkL w3 (w.heap.size) 69 [.int .i64 0, .int .i64 0, .int .i64 0, .int .i64 0, .bool false] from BlkL.dr (K_R.out.alloc _) d hne_R)
    replace K_F := Lib.hid (show BlkL w3 (w1.heap.size) 69 [.int .i64 nd, .int .i64 kd, .int .i64 sz, .int .i64 du, .bool ch] from BlkL.dr (K_F.out.alloc _) d hne_F)
    have D_3 := Lib.hid (d.next (D_2.out.alloc _))
    obtain ⟨u, _, hc⟩ := pick_cell (L := [-1, 0, 32, 33]) d.gr D_2.out.lt (x := y) (by simp; omega)
    have hb_y : y < 4 := by omega
    clear hx_y
    clear d
    have kR0_1 := K_R.out.c 0 rfl; have kR1_1 := K_R.out.c 1 rfl; have kR2_1 := K_R.out.c 2 rfl; have kR3_1 := K_R.out.c 3 rfl; have kR4_1 := K_R.out.c 4 rfl; have kfR_1 := K_R.out.free
    have kF0_2 := K_F.out.c 0 rfl; have kF1_2 := K_F.out.c 1 rfl; have kF2_2 := K_F.out.c 2 rfl; have kF3_2 := K_F.out.c 3 rfl; have kF4_2 := K_F.out.c 4 rfl; have kfF_2 := K_F.out.free
    go_upto_region 13 with fail
    obtain ⟨wS, hwS⟩ : ∃ x, (w3.setCell ⟨w1.heap.size, 2, none⟩ (.int .i64 u)) = x := ⟨_, rfl⟩
    clear kR0_1 kR1_1 kR2_1 kR3_1 kR4_1 kfR_1
    clear kF0_2 kF1_2 kF2_2 kF3_2 kF4_2 kfF_2
    replace K_R := Lib.hid (show BlkL wS (w.heap.size) 69 [.int .i64 0, .int .i64 0, .int .i64 0, .int .i64 0, .bool false] from hwS ▸ (K_R.out.other (p := ⟨w1.heap.size, 2, none⟩) ne_FR _))
    replace K_F := Lib.hid (show BlkL wS (w1.heap.size) 69 [.int .i64 nd, .int .i64 kd, .int .i64 u, .int .i64 du, .bool ch] from hwS ▸ (K_F.out.set 2 _))
    have D_4 := Lib.hid (show Dr w g wS from hwS ▸ (D_3.out.set (p := ⟨w1.heap.size, 2, none⟩) hle_F hl _))
    rw [hwS]
    clear hwS
    have kR0_3 := K_R.out.c 0 rfl; have kR1_3 := K_R.out.c 1 rfl; have kR2_3 := K_R.out.c 2 rfl; have kR3_3 := K_R.out.c 3 rfl; have kR4_3 := K_R.out.c 4 rfl; have kfR_3 := K_R.out.free
    have kF0_4 := K_F.out.c 0 rfl; have kF1_4 := K_F.out.c 1 rfl; have kF2_4 := K_F.out.c 2 rfl; have kF3_4 := K_F.out.c 3 rfl; have kF4_4 := K_F.out.c 4 rfl; have kfF_4 := K_F.out.free
    go_wp2_with fail
    refine bp_forget (fun w' => BlkL w' w.heap.size 69 [.int .i64 nd, .int .i64 kd, .int .i64 u, .int .i64 du, .bool ch] ∧ Dr w g w') ?_ ?_
    · exact ⟨(((((K_R.out.set 0 _).set 1 _).set 2 _).set 3 _).set 4 _), (((((D_4.out.set (p := ⟨w.heap.size, 0, none⟩) (Nat.le_refl _) hl _).set (p := ⟨w.heap.size, 1, none⟩) (Nat.le_refl _) hl _).set (p := ⟨w.heap.size, 2, none⟩) (Nat.le_refl _) hl _).set (p := ⟨w.heap.size, 3, none⟩) (Nat.le_refl _) hl _).set (p := ⟨w.heap.size, 4, none⟩) (Nat.le_refl _) hl _)⟩
    rintro wz ⟨kz, dz⟩
    have q0 := kz.c 0 rfl
    have q1 := kz.c 1 rfl
    have q2 := kz.c 2 rfl
    have q3 := kz.c 3 rfl
    have q4 := kz.c 4 rfl
    exact bodyPost_ret (v := .agg #[.int .i64 nd, .int .i64 kd, .int .i64 u, .int .i64 du, .bool ch]) (by simp [results, Tryz.results128, go_sem, q0, q1, q2, q3, q4]) rfl ⟨_, _, _, _, _, rfl, dz⟩
  have b2 : ((x : Int) == 2) = false := by simp; omega
  by_cases h3 : x = 3
  case pos =>
    subst h3
    clear hb_x hi_x
    have hcl := sCells_any kd sz hkd hsz
    have hcb := cellsN_bdd (k := kd) hsz
    obtain ⟨V, hV⟩ : ∃ V, cellsN kd sz = V := ⟨_, rfl⟩
    rw [hV] at hcl hcb
    obtain ⟨hV0, hV1⟩ := hcb
    clear hV
    have HCL := Lib.hid hcl
    clear hcl
    have kR0_1 := K_R.out.c 0 rfl; have kR1_1 := K_R.out.c 1 rfl; have kR2_1 := K_R.out.c 2 rfl; have kR3_1 := K_R.out.c 3 rfl; have kR4_1 := K_R.out.c 4 rfl; have kfR_1 := K_R.out.free
    have kF0_2 := K_F.out.c 0 rfl; have kF1_2 := K_F.out.c 1 rfl; have kF2_2 := K_F.out.c 2 rfl; have kF3_2 := K_F.out.c 3 rfl; have kF4_2 := K_F.out.c 4 rfl; have kfF_2 := K_F.out.free
    go_wp2_with (first | (go_at_call 170; refine (HCL.out _).mono ?_; rintro e w' ⟨rfl, rfl⟩))
    refine (next_any g 4 _ (D_2.out.alloc _).src).mono ?_
    rintro e w3 ⟨y, rfl, hx_y, d⟩
    replace K_R := Lib.hid (show BlkL w3 (w.heap.size) 69 [.int .i64 0, .int .i64 0, .int .i64 0, .int .i64 0, .bool false] from BlkL.dr (K_R.out.alloc _) d hne_R)
    replace K_F := Lib.hid (show BlkL w3 (w1.heap.size) 69 [.int .i64 nd, .int .i64 kd, .int .i64 sz, .int .i64 du, .bool ch] from BlkL.dr (K_F.out.alloc _) d hne_F)
    have D_3 := Lib.hid (d.next (D_2.out.alloc _))
    obtain ⟨u, _, hc⟩ := pick_cell (L := [0, V + 20 - 1, 1000, 1001]) d.gr D_2.out.lt (x := y) (by simp; omega)
    have hb_y : y < 4 := by omega
    clear hx_y
    clear d
    clear kR0_1 kR1_1 kR2_1 kR3_1 kR4_1 kfR_1
    clear kF0_2 kF1_2 kF2_2 kF3_2 kF4_2 kfF_2
    have kR0_3 := K_R.out.c 0 rfl; have kR1_3 := K_R.out.c 1 rfl; have kR2_3 := K_R.out.c 2 rfl; have kR3_3 := K_R.out.c 3 rfl; have kR4_3 := K_R.out.c 4 rfl; have kfR_3 := K_R.out.free
    have kF0_4 := K_F.out.c 0 rfl; have kF1_4 := K_F.out.c 1 rfl; have kF2_4 := K_F.out.c 2 rfl; have kF3_4 := K_F.out.c 3 rfl; have kF4_4 := K_F.out.c 4 rfl; have kfF_4 := K_F.out.free
    go_upto_region 13 with fail
    obtain ⟨wS, hwS⟩ : ∃ x, (w3.setCell ⟨w1.heap.size, 3, none⟩ (.int .i64 u)) = x := ⟨_, rfl⟩
    clear kR0_3 kR1_3 kR2_3 kR3_3 kR4_3 kfR_3
    clear kF0_4 kF1_4 kF2_4 kF3_4 kF4_4 kfF_4
    replace K_R := Lib.hid (show BlkL wS (w.heap.size) 69 [.int .i64 0, .int .i64 0, .int .i64 0, .int .i64 0, .bool false] from hwS ▸ (K_R.out.other (p := ⟨w1.heap.size, 3, none⟩) ne_FR _))
    replace K_F := Lib.hid (show BlkL wS (w1.heap.size) 69 [.int .i64 nd, .int .i64 kd, .int .i64 sz, .int .i64 u, .bool ch] from hwS ▸ (K_F.out.set 3 _))
    have D_4 := Lib.hid (show Dr w g wS from hwS ▸ (D_3.out.set (p := ⟨w1.heap.size, 3, none⟩) hle_F hl _))
    rw [hwS]
    clear hwS
    have kR0_5 := K_R.out.c 0 rfl; have kR1_5 := K_R.out.c 1 rfl; have kR2_5 := K_R.out.c 2 rfl; have kR3_5 := K_R.out.c 3 rfl; have kR4_5 := K_R.out.c 4 rfl; have kfR_5 := K_R.out.free
    have kF0_6 := K_F.out.c 0 rfl; have kF1_6 := K_F.out.c 1 rfl; have kF2_6 := K_F.out.c 2 rfl; have kF3_6 := K_F.out.c 3 rfl; have kF4_6 := K_F.out.c 4 rfl; have kfF_6 := K_F.out.free
    go_wp2_with fail
    refine bp_forget (fun w' => BlkL w' w.heap.size 69 [.int .i64 nd, .int .i64 kd, .int .i64 sz, .int .i64 u, .bool ch] ∧ Dr w g w') ?_ ?_
    · exact ⟨(((((K_R.out.set 0 _).set 1 _).set 2 _).set 3 _).set 4 _), (((((D_4.out.set (p := ⟨w.heap.size, 0, none⟩) (Nat.le_refl _) hl _).set (p := ⟨w.heap.size, 1, none⟩) (Nat.le_refl _) hl _).set (p := ⟨w.heap.size, 2, none⟩) (Nat.le_refl _) hl _).set (p := ⟨w.heap.size, 3, none⟩) (Nat.le_refl _) hl _).set (p := ⟨w.heap.size, 4, none⟩) (Nat.le_refl _) hl _)⟩
    rintro wz ⟨kz, dz⟩
    have q0 := kz.c 0 rfl
    have q1 := kz.c 1 rfl
    have q2 := kz.c 2 rfl
    have q3 := kz.c 3 rfl
    have q4 := kz.c 4 rfl
    exact bodyPost_ret (v := .agg #[.int .i64 nd, .int .i64 kd, .int .i64 sz, .int .i64 u, .bool ch]) (by simp [results, Tryz.results128, go_sem, q0, q1, q2, q3, q4]) rfl ⟨_, _, _, _, _, rfl, dz⟩
  have b3 : ((x : Int) == 3) = false := by simp; omega
  by_cases h4 : x = 4
  case pos =>
    subst h4
    clear hb_x hi_x
    have kR0_1 := K_R.out.c 0 rfl; have kR1_1 := K_R.out.c 1 rfl; have kR2_1 := K_R.out.c 2 rfl; have kR3_1 := K_R.out.c 3 rfl; have kR4_1 := K_R.out.c 4 rfl; have kfR_1 := K_R.out.free
    have kF0_2 := K_F.out.c 0 rfl; have kF1_2 := K_F.out.c 1 rfl; have kF2_2 := K_F.out.c 2 rfl; have kF3_2 := K_F.out.c 3 rfl; have kF4_2 := K_F.out.c 4 rfl; have kfF_2 := K_F.out.free
    go_upto_region 13 with fail
    obtain ⟨wS, hwS⟩ : ∃ x, (w2.setCell ⟨w1.heap.size, 4, none⟩ (.bool (!ch))) = x := ⟨_, rfl⟩
    clear kR0_1 kR1_1 kR2_1 kR3_1 kR4_1 kfR_1
    clear kF0_2 kF1_2 kF2_2 kF3_2 kF4_2 kfF_2
    replace K_R := Lib.hid (show BlkL wS (w.heap.size) 69 [.int .i64 0, .int .i64 0, .int .i64 0, .int .i64 0, .bool false] from hwS ▸ (K_R.out.other (p := ⟨w1.heap.size, 4, none⟩) ne_FR _))
    replace K_F := Lib.hid (show BlkL wS (w1.heap.size) 69 [.int .i64 nd, .int .i64 kd, .int .i64 sz, .int .i64 du, .bool (!ch)] from hwS ▸ (K_F.out.set 4 _))
    have D_3 := Lib.hid (show Dr w g wS from hwS ▸ (D_2.out.set (p := ⟨w1.heap.size, 4, none⟩) hle_F hl _))
    rw [hwS]
    clear hwS
    have kR0_3 := K_R.out.c 0 rfl; have kR1_3 := K_R.out.c 1 rfl; have kR2_3 := K_R.out.c 2 rfl; have kR3_3 := K_R.out.c 3 rfl; have kR4_3 := K_R.out.c 4 rfl; have kfR_3 := K_R.out.free
    have kF0_4 := K_F.out.c 0 rfl; have kF1_4 := K_F.out.c 1 rfl; have kF2_4 := K_F.out.c 2 rfl; have kF3_4 := K_F.out.c 3 rfl; have kF4_4 := K_F.out.c 4 rfl; have kfF_4 := K_F.out.free
    go_wp2_with fail
    refine bp_forget (fun w' => BlkL w' w.heap.size 69 [.int .i64 nd, .int .i64 kd, .int .i64 sz, .int .i64 du, .bool (!ch)] ∧ Dr w g w') ?_ ?_
    · exact ⟨(((((K_R.out.set 0 _).set 1 _).set 2 _).set 3 _).set 4 _), (((((D_3.out.set (p := ⟨w.heap.size, 0, none⟩) (Nat.le_refl _) hl _).set (p := ⟨w.heap.size, 1, none⟩) (Nat.le_refl _) hl _).set (p := ⟨w.heap.size, 2, none⟩) (Nat.le_refl _) hl _).set (p := ⟨w.heap.size, 3, none⟩) (Nat.le_refl _) hl _).set (p := ⟨w.heap.size, 4, none⟩) (Nat.le_refl _) hl _)⟩
    rintro wz ⟨kz, dz⟩
    have q0 := kz.c 0 rfl
    have q1 := kz.c 1 rfl
    have q2 := kz.c 2 rfl
    have q3 := kz.c 3 rfl
    have q4 := kz.c 4 rfl
    exact bodyPost_ret (v := .agg #[.int .i64 nd, .int .i64 kd, .int .i64 sz, .int .i64 du, .bool (!ch)]) (by simp [results, Tryz.results128, go_sem, q0, q1, q2, q3, q4]) rfl ⟨_, _, _, _, _, rfl, dz⟩
  have b4 : ((x : Int) == 4) = false := by simp; omega
  have kR0_1 := K_R.out.c 0 rfl; have kR1_1 := K_R.out.c 1 rfl; have kR2_1 := K_R.out.c 2 rfl; have kR3_1 := K_R.out.c 3 rfl; have kR4_1 := K_R.out.c 4 rfl; have kfR_1 := K_R.out.free
  have kF0_2 := K_F.out.c 0 rfl; have kF1_2 := K_F.out.c 1 rfl; have kF2_2 := K_F.out.c 2 rfl; have kF3_2 := K_F.out.c 3 rfl; have kF4_2 := K_F.out.c 4 rfl; have kfF_2 := K_F.out.free
  go_wp2_with fail
  refine bp_forget (fun w' => BlkL w' w.heap.size 69 [.int .i64 nd, .int .i64 kd, .int .i64 sz, .int .i64 du, .bool ch] ∧ Dr w g w') ?_ ?_
  · exact ⟨(((((K_R.out.set 0 _).set 1 _).set 2 _).set 3 _).set 4 _), (((((D_2.out.set (p := ⟨w.heap.size, 0, none⟩) (Nat.le_refl _) hl _).set (p := ⟨w.heap.size, 1, none⟩) (Nat.le_refl _) hl _).set (p := ⟨w.heap.size, 2, none⟩) (Nat.le_refl _) hl _).set (p := ⟨w.heap.size, 3, none⟩) (Nat.le_refl _) hl _).set (p := ⟨w.heap.size, 4, none⟩) (Nat.le_refl _) hl _)⟩
  rintro wz ⟨kz, dz⟩
  have q0 := kz.c 0 rfl
  have q1 := kz.c 1 rfl
  have q2 := kz.c 2 rfl
  have q3 := kz.c 3 rfl
  have q4 := kz.c 4 rfl
  exact bodyPost_ret (v := .agg #[.int .i64 nd, .int .i64 kd, .int .i64 sz, .int .i64 du, .bool ch]) (by simp [results, Tryz.results128, go_sem, q0, q1, q2, q3, q4]) rfl ⟨_, _, _, _, _, rfl, dz⟩

end Go.Proofs.YtbaojbheopcjhaaGreatDoor

namespace Go.Proofs.YtbaojbheopcjhaaGreatDoor
open Go.RowKit
/-- a row of numbers and a row of another type of elements lie in blocks of their own -/
theorem apartIE {β : Type} {enc' : β → List Value} {sz' : Nat} {T T' : TypeId} {w : World} {base base' n n' c c' : Nat} {A A' : Option Addr} {zs : List Int} {ys : List β}
    (h : OwnI T w base A n c zs) (h' : OwnE enc' sz' T' w base' A' n' c' ys) (hT : T ≠ T') : ∀ g o, A = some ⟨g, o, none⟩ → some g ≠ (Value.slice A' n' c').ownBlock := by
  intro g0 o0 hA
  rcases h.2 with ⟨h1, h2⟩ | ⟨g, cap, cur, hv, hg, hh, _⟩
  · injection h1 with h3
    rw [h3] at hA; cases hA
  · injection hv with h3
    rw [h3] at hA
    injection hA with hA
    injection hA with hA
    subst hA
    rcases h'.2.2 with ⟨h1, h2⟩ | ⟨g', cap', cur', hv', hg', hh', _⟩
    · injection h1 with h3
      subst h3
      intro e; cases e
    · injection hv' with h3
      subst h3
      intro e
      have e2 : g = g' := Option.some.inj e
      subst e2
      rw [hh] at hh'
      injection Option.some.inj hh' with _ h5
      exact hT h5
theorem encMh_one (x : Mh) : ∀ u ∈ encMh x, u.oneCell' = true := by
  intro u hu
  simp [encMh] at hu
  rcases hu with rfl | rfl | rfl <;> rfl
/-- a drawn table of modes in memory: its heads, and the lists of their own -/
def OMd (N : Nat) (w : World) (base : Nat) (A : Option Addr) (n c : Nat) (hs : List Mh) : Prop :=
  OwnE encMh 3 110 w base A n c hs ∧ ∀ x ∈ hs, OwnI 2 w base x.A x.n x.c x.k.nx ∧ x.n ≤ N
theorem OMd.dr {N : Nat} {w w' : World} {base n c g : Nat} {A : Option Addr} {hs : List Mh} (h : OMd N w base A n c hs) (d : Dr w g w') (hl : g < base) : OMd N w' base A n c hs :=
  ⟨h.1.dr d hl, fun x hx => ⟨(h.2 x hx).1.dr d hl, (h.2 x hx).2⟩⟩
theorem OMd.alloc {N : Nat} {w : World} {base n c : Nat} {A : Option Addr} {hs : List Mh} (h : OMd N w base A n c hs) (o : Obj) : OMd N (w.alloc o) base A n c hs :=
  ⟨h.1.alloc o, fun x hx => ⟨(h.2 x hx).1.alloc o, (h.2 x hx).2⟩⟩
theorem OMd.mono {N N' : Nat} {w : World} {base n c : Nat} {A : Option Addr} {hs : List Mh} (h : OMd N w base A n c hs) (hN : N ≤ N') : OMd N' w base A n c hs :=
  ⟨h.1, fun x hx => ⟨(h.2 x hx).1, Nat.le_trans (h.2 x hx).2 hN⟩⟩
def blkM (x : Mh) : Option Nat := (Value.slice x.A x.n x.c).ownBlock
/-- two modes' lists lie in blocks of their own -/
def apM (x y : Mh) : Prop := ∀ b, blkM x = some b → blkM y ≠ some b
/-- a drawn table of modes -/
def DrM (w : World) (g : Nat) (e : Ending) (w' : World) : Prop :=
  ∃ (A : Option Addr) (n c : Nat) (hs : List Mh), e = .returned (.slice A n c) ∧ OMd 4 w' w.heap.size A n c hs ∧ 1 ≤ n ∧ n ≤ 4 ∧ Dr w g w' ∧ hs.Pairwise apM
set_option maxRecDepth 6000 in
set_option maxHeartbeats 8000000 in
theorem drawModes_any (g : Nat) (w : World) (h : Src w g) :
    Calls Tryz.prog 185 #[.pointer (some ⟨g, 0, none⟩)] w (DrM w g) := by
  have hl := h.lt
  go_enter Tryz.func185, Tryz.ntmps185
  go_wp2_with fail
  refine (next_any g 4 _ ((Dr.refl h).alloc _).src).mono ?_
  rintro e w1 ⟨x, rfl, hx, d1⟩
  have O1 := Lib.hid ((OwnE.empty (enc := encMh) (sz := 3) (T := 110) w (base := w.heap.size) (Nat.le_refl _)).dr d1 hl)
  have D1 := Lib.hid (d1.next ((Dr.refl h).alloc _))
  have hx1 : x < 4 := by omega
  clear d1 hx
  go_wp2_with fail
  go_loopw [3, 5, 6, 7] (fun o i _ _ wr => ∃ (m : Nat) (A' : Option Addr) (c' : Nat) (hs : List Mh), m ≤ 1 + x ∧ o = .slice A' m c' ∧ i = .int .i64 m ∧ OMd 4 wr w.heap.size A' m c' hs ∧ Dr w g wr ∧ hs.Pairwise apM) (fun _ i _ _ _ => 1 + x - (intOf i).toNat)
  case atStart => exact ⟨0, _, _, [], by omega, rfl, rfl, ⟨O1.out, fun x hx => absurd hx List.not_mem_nil⟩, D1.out, List.Pairwise.nil⟩
  case round =>
    clear O1 D1
    obtain ⟨m, A', c', hs, hm, rfl, rfl, hown, d, hpw⟩ := hrel
    obtain ⟨wo, hwo⟩ : ∃ v, v = wr := ⟨_, rfl⟩
    subst hwo
    have PW := Lib.hid hpw
    have OB := Lib.hid (show ∀ y ∈ hs, ∀ b, blkM y = some b → b < wo.heap.size from fun y hy b e => (own_row (hown.2 y hy).1 b e).2)
    have O3 := Lib.hid hown
    have D3 := Lib.hid d
    have hgr : g < wo.heap.size := d.lt
    have hwr := d.size
    clear hown d hpw
    by_cases hq : m < 1 + x
    · have hqi : (m : Int) < 1 + (x : Int) := by omega
      go_wp2_with fail
      go_loopw [6, 7] (fun o i wq => ∃ (p k : Nat) (A4 : Option Addr) (c4 : Nat) (zs : List Int), k ≤ 1 + x ∧ p ≤ k ∧ o = .slice A4 p c4 ∧ i = .int .i64 k ∧ OwnI 2 wq wo.heap.size A4 p c4 zs ∧ Dr wo g wq) (fun _ i _ => 1 + x - (intOf i).toNat)
      case atStart => exact ⟨0, 0, _, _, [], by omega, by omega, rfl, rfl, OwnI.empty _ (Nat.le_refl _), (Dr.refl D3.out.src).alloc _⟩
      case round =>
        obtain ⟨p, k, A4, c4, zs, hk, hp, rfl, rfl, hown4, d4⟩ := hrel
        have O4 := Lib.hid hown4
        have D4 := Lib.hid d4
        clear hown4 d4
        by_cases hk1 : k < 1 + x
        · have hki : (k : Int) < 1 + (x : Int) := by omega
          by_cases hkm : k = m
          · have hne : ((k : Int) != (m : Int)) = false := by simp; omega
            go_wp2_with fail
            go_roundw
            case rel => exact ⟨p, k + 1, A4, c4, zs, by omega, by omega, rfl, vint (by omega), O4.out, D4.out⟩
            case measure => simp [intOf]; omega
          · have hne : ((k : Int) != (m : Int)) = true := by simp; omega
            go_wp2_with fail
            refine (next_any g 2 _ D4.out.src).mono ?_
            rintro e w5 ⟨y, rfl, hy, d5⟩
            have O5 := Lib.hid (O4.out.dr d5 hgr)
            have D5 := Lib.hid (d5.next D4.out)
            clear d5 O4 D4
            by_cases hy0 : y = 0
            · subst hy0
              go_wp2_with (at_builtin; refine wpl_appI _ _ Tryz.underlying31 infoInt rfl _ _ rfl wo.heap.size _ p _ _ rfl O5.out (k : Int) rfl (by omega) D5.out.size ?_; intro A6 c6 w6 hown6 hB6 hg6)
              go_roundw
              case rel => exact ⟨p + 1, k + 1, A6, c6, _, by omega, by omega, rfl, vint (by omega), hown6, D5.out.app O5.out hg6 hgr⟩
              case measure => simp [intOf]; omega
            · have hyb : ((y : Int) == 0) = false := by simp; omega
              go_wp2_with fail
              go_roundw
              case rel => exact ⟨p, k + 1, A4, c4, zs, by omega, by omega, rfl, vint (by omega), O5.out, D5.out⟩
              case measure => simp [intOf]; omega
        · obtain rfl : k = 1 + x := by omega
          have O6 := Lib.hid (O3.out.dr D4.out hl)
          have D6 := Lib.hid (D4.out.next D3.out)
          have hp8 : p ≤ 4 := by omega
          clear O3 D3
          go_wp2_with fail
          refine (next_any g 3 _ D6.out.src).mono ?_
          rintro e w7 ⟨r, rfl, hr, d7⟩
          have O7 := Lib.hid (O6.out.dr d7 hl)
          have N7 := Lib.hid (O4.out.dr d7 hgr)
          have D7 := Lib.hid (d7.next D6.out)
          have hr3 : r < 3 := by omega
          clear d7 hr O6 O4 D4 D6
          go_wp2_with fail
          refine (next_any g 4 _ D7.out.src).mono ?_
          rintro e w8 ⟨s, rfl, hs8, d8⟩
          have O8 := Lib.hid (O7.out.dr d8 hl)
          have NB := Lib.hid (show ∀ b, (Value.slice A4 p c4).ownBlock = some b → wo.heap.size ≤ b from fun b e => (own_row N7.out b e).1)
          have N8 := Lib.hid ((N7.out.dr d8 hgr).weaken hwr)
          have D8 := Lib.hid (d8.next D7.out)
          have hs4 : s < 4 := by omega
          clear d8 hs8 O7 N7 D7
          go_wp2_with (at_builtin; refine wpl_appG encMh 3 encMh_len encMh_one _ _ Tryz.underlying25 infoMode rfl (by omega) (by omega) rfl _ _ rfl w.heap.size _ m _ _ rfl O8.out.1 ⟨⟨1 + r, 1 + s, zs⟩, A4, p, c4⟩ rfl _ rfl (by omega) D8.out.size ?_; intro A9 c9 w9 hown9 hB9 hg9)
          go_roundw
          case rel =>
            refine ⟨m + 1, A9, c9, _, by omega, rfl, vint (by omega), ⟨hown9, fun y hy => ?_⟩, D8.out.appG O8.out.1 hg9 hl, List.pairwise_append.2 ⟨PW.out, List.pairwise_singleton _ _, fun a ha z hz b e1 e2 => by
              rw [List.mem_singleton] at hz
              subst hz
              have h1 := OB.out a ha b e1
              have h2 := NB.out b e2
              omega⟩⟩
            rcases List.mem_append.1 hy with h1 | h1
            · exact ⟨(O8.out.2 y h1).1.kept hg9 (apartIE (O8.out.2 y h1).1 O8.out.1 (by decide)), (O8.out.2 y h1).2⟩
            · rw [List.mem_singleton] at h1
              subst h1
              exact ⟨N8.out.kept hg9 (apartIE N8.out O8.out.1 (by decide)), hp8⟩
          case measure => simp [intOf]; omega
    · obtain rfl : m = 1 + x := by omega
      go_wp2_with fail
      go_ret
      exact ⟨_, _, c', hs, rfl, O3.out, by omega, by omega, D3.out, PW.out⟩
end Go.Proofs.YtbaojbheopcjhaaGreatDoor

namespace Go.Proofs.YtbaojbheopcjhaaGreatDoor
open Go.RowKit
theorem actF_ltW {l : List Nd} : ∀ v : Nat, v < 4294967296 → (∀ x ∈ l, NdOk x) → l.foldl (fun v x => if x.ps then v else v ||| 2 ^ x.id.toNat) v < 4294967296 := by
  induction l with
  | nil => intro v hv _; exact hv
  | cons x l ih =>
    intro v hv hd
    refine ih _ ?_ (fun y hy => hd y (List.mem_cons_of_mem _ hy))
    have hx := hd x (List.mem_cons_self ..)
    dsimp only
    split
    · exact hv
    · have h2 : 2 ^ x.id.toNat < 2 ^ 32 := Nat.pow_lt_pow_right (by decide) (by have := hx.2; omega)
      exact Nat.or_lt_two_pow (n := 32) hv h2
theorem actV_ltW {l : List Nd} (hd : ∀ x ∈ l, NdOk x) : actV l < 4294967296 := actF_ltW 0 (by decide) hd
theorem actF_ge {l : List Nd} : ∀ v : Nat, v ≤ l.foldl (fun v x => if x.ps then v else v ||| 2 ^ x.id.toNat) v := by
  induction l with
  | nil => intro v; exact Nat.le_refl _
  | cons x l ih =>
    intro v
    refine Nat.le_trans ?_ (ih _)
    dsimp only
    split
    · exact Nat.le_refl _
    · exact Nat.left_le_or
theorem actV_pos {x : Nd} {l : List Nd} (h : x.ps = false) : 0 < actV (x :: l) := by
  unfold actV
  rw [List.foldl_cons, h]
  refine Nat.lt_of_lt_of_le ?_ (actF_ge _)
  rw [if_neg (by simp), Nat.zero_or]
  exact Nat.two_pow_pos _
theorem bitCnt_mod0 {B : Nat} : ∀ n, bitCnt B n = 0 → B % 2 ^ n = 0 := by
  intro n
  induction n with
  | zero => intro _; rw [Nat.pow_zero]; exact Nat.mod_one _
  | succ n ih =>
    intro h
    rw [bitCnt] at h
    have h1 : bitCnt B n = 0 := by omega
    have h2 : ¬ B / 2 ^ n % 2 = 1 := by intro e; rw [if_pos e] at h; omega
    rw [Nat.mod_pow_succ, ih h1, show B / 2 ^ n % 2 = 0 by omega, Nat.mul_zero, Nat.add_zero]
theorem bitCnt_pos {B : Nat} (h : 0 < B) (h2 : B < 4294967296) : 1 ≤ bitCnt B 32 := by
  rcases Nat.eq_zero_or_pos (bitCnt B 32) with h0 | h0
  · have := bitCnt_mod0 32 h0
    rw [Nat.mod_eq_of_lt h2] at this
    omega
  · exact h0
set_option maxHeartbeats 4000000 in
theorem l10Active_w (A : Option Addr) (n c : Nat) (l : List Nd) (w : World) (h : RE encNd 4 w w.heap.size A n l) (hn : n ≤ 1099511627776) (hd : ∀ x ∈ l, NdOk x) :
    Calls Tryz.prog 86 #[.slice A n c] w fun e w' => e = .returned (.int .i64 (actV l : Nat)) ∧ w = w' := by
  have L := Lib.hid h.len
  go_enter Tryz.func86, Tryz.ntmps86
  go_wp2
  go_loop [4, 3] (fun i v => ∃ k : Nat, k ≤ n ∧ i = .int .i64 k ∧ v = .int .i64 (actV (l.take k) : Nat)) (fun i _ => n - (intOf i).toNat)
  case atStart => exact ⟨0, Nat.zero_le _, rfl, rfl⟩
  case round =>
    obtain ⟨k, hk, rfl, rfl⟩ := hrel
    have hlt32 := actV_ltW (l := l.take k) (fun x hx => hd x (List.mem_of_mem_take hx))
    by_cases hlt : k < n
    · obtain ⟨b, o, rfl, hbl, hc⟩ := h.get (by omega)
      have hc0 := hc k hlt 0 _ rfl
      have hc3 := hc k hlt 3 _ rfl
      clear hc
      rw [Nat.add_zero] at hc0
      have HS := Lib.hid (show actV (l.take (k + 1)) = if (ge l k).ps then actV (l.take k) else actV (l.take k) ||| 2 ^ (ge l k).id.toNat by rw [take_ge (by rw [L.out]; exact hlt), actV_app])
      have hnd := hd (ge l k) (mem_ge (by rw [L.out]; exact hlt))
      have hid := hnd.2
      clear hnd
      obtain ⟨m, hm⟩ : ∃ m : Nat, (ge l k).id = m := ⟨(ge l k).id.toNat, by omega⟩
      rw [hm] at hc0 HS hid
      rw [Int.toNat_natCast] at HS
      have hm32 : m < 32 := by omega
      generalize actV (l.take k) = B at HS hlt32 ⊢
      rcases bool_cases (ge l k).ps with hps | hps
      · rw [hps] at hc3 HS
        go_wp2
        go_round
        case rel => exact ⟨k + 1, by omega, by go_num, by rw [HS.out]; rfl⟩
        case measure => simp [intOf]; omega
      · rw [hps] at hc3 HS
        go_wp2_with fail
        refine (l05Set_any B m hm32 hlt32 _).mono ?_
        rintro e w' ⟨rfl, rfl⟩
        go_wp2
        go_round
        case rel => exact ⟨k + 1, by omega, by go_num, by rw [HS.out, if_neg (by simp)]⟩
        case measure => simp [intOf]; omega
    · have hkn : k = n := by omega
      have HZ := Lib.hid (show actV (l.take k) = actV l by rw [List.take_of_length_le (by rw [L.out]; omega)])
      clear hkn
      go_wp2
      go_ret
      exact ⟨by rw [HZ.out]; rfl, rfl⟩
set_option maxHeartbeats 4000000 in
theorem sMembersOf_own (B : Nat) (hB : B < 4294967296) (w : World) :
    Calls Tryz.prog 172 #[.int .i64 B] w (fun e w' => ∃ A c, e = .returned (.tuple #[.slice A (bitCnt B 32) c, .int .i64 0]) ∧ OwnI 2 w' w.heap.size A (bitCnt B 32) c (memL B 32) ∧ Below w.heap.size w w') := by
  have hr : RI (w.alloc (.cells #[.int .i64 B] 2)) (w.alloc (.cells #[.int .i64 B] 2)).heap.size (some ⟨w.heap.size, 0, none⟩) 1 [(B : Int)] := RI.one _ _ _
  have HH := Lib.hid (show allR [(B : Int)] 0 4294967295 = true by simp [allR, inR]; omega)
  go_enter Tryz.func172, Tryz.ntmps172
  go_wp2_with (go_at_call 211; refine (l05Vector_any _ _ _ [(B : Int)] _ hr (by omega)).mono ?_; rw [HH.out]; rintro e w' ⟨rfl, rfl⟩)
  go_loopw [4, 5] (fun o i wr => ∃ (k m : Nat) (A' : Option Addr) (c' : Nat), k ≤ 32 ∧ m = bitCnt B k ∧ i = .int .i64 k ∧ o = .slice A' m c' ∧ OwnI 2 wr w.heap.size A' m c' (memL B k) ∧ Below w.heap.size w wr) (fun _ i _ => 32 - (intOf i).toNat)
  case atStart =>
    have e0 := OwnI.empty (T := 2) (w.alloc (.cells #[.int .i64 B] 2)) (base := w.heap.size) (below_alloc (Below.refl _ _) (Nat.le_refl _) _).size
    refine ⟨0, 0, _, _, Nat.zero_le _, rfl, rfl, rfl, ?_, ?_⟩
    · simpa [memL] using e0
    · exact below_alloc (below_alloc (Below.refl w.heap.size w) (Nat.le_refl _) _) (by first | exact Nat.le_refl _ | simp) _
  case round =>
    obtain ⟨k, m, A', c', hk, hmk, rfl, rfl, hown, hb⟩ := hrel
    have hm30 : m ≤ 32 := by have := bitCnt_le B k; omega
    have HM := Lib.hid hmk
    clear hmk
    by_cases hlt : k < 32
    · rcases bool_cases (decide (B / 2 ^ k % 2 = 1)) with hd | hd
      · have HD := Lib.hid hd
        go_wp2_with (first | (go_at_call 186; refine (l05Has_any B k hlt hB _).mono ?_; rw [HD.out]; rintro e w' ⟨rfl, rfl⟩) | (at_builtin; refine wpl_appI _ _ Tryz.underlying31 infoInt rfl _ _ rfl w.heap.size _ m _ _ rfl hown (k : Int) rfl (by omega) hb.size ?_; intro A2 c2 w2 hown2 hB2 hg2))
        go_roundw
        case rel => exact ⟨k + 1, m + 1, A2, c2, by omega, by rw [HM.out, bitCnt, if_pos (by simpa using HD.out)], by go_num, rfl, by rw [memL, if_pos (by simpa using HD.out)]; exact hown2, hb.trans (hB2 _ (Nat.le_refl _))⟩
        case measure => simp [intOf]; omega
      · have HD := Lib.hid hd
        go_wp2_with (first | (go_at_call 186; refine (l05Has_any B k hlt hB _).mono ?_; rw [HD.out]; rintro e w' ⟨rfl, rfl⟩))
        go_roundw
        case rel => exact ⟨k + 1, m, A', c', by omega, by rw [HM.out, bitCnt, if_neg (by simpa using HD.out)]; rfl, by go_num, rfl, by rw [memL, if_neg (by simpa using HD.out), List.append_nil]; exact hown, hb⟩
        case measure => simp [intOf]; omega
    · obtain rfl : k = 32 := by omega
      go_wp2
      go_ret2
      exact ⟨_, _, by rw [← HM.out]; rfl, by rw [← HM.out]; exact hown, hb⟩

end Go.Proofs.YtbaojbheopcjhaaGreatDoor

namespace Go.Proofs.YtbaojbheopcjhaaGreatDoor
open Go.RowKit
theorem flat_take {α : Type} {enc : α → List Value} {sz : Nat} (hk : ∀ x, (enc x).length = sz) : ∀ (xs : List α) (k : Nat), (xs.take k).flatMap enc = (xs.flatMap enc).take (k * sz) := by
  intro xs
  induction xs with
  | nil => intro k; simp
  | cons x xs ih =>
    intro k
    cases k with
    | zero => simp
    | succ k =>
      rw [List.take_succ_cons, List.flatMap_cons, List.flatMap_cons, ih, List.take_append, hk, Nat.succ_mul, Nat.add_sub_cancel, List.take_of_length_le (l := enc x) (by rw [hk]; omega)]
theorem OwnE.cut {α : Type} {enc : α → List Value} {sz : Nat} {T : TypeId} {w : World} {base n c : Nat} {A : Option Addr} {xs : List α} (hk : ∀ x, (enc x).length = sz) (h : OwnE enc sz T w base A n c xs) {k : Nat} (hkn : k ≤ n) : OwnE enc sz T w base A k c (xs.take k) := by
  have hl := h.len
  rcases h.2.2 with ⟨h1, h2⟩ | ⟨g', cap, cur, hv, hb, hh, hn, hm, hs, ht⟩
  · obtain rfl : k = 0 := by omega
    injection h1 with h1 h3 h4
    subst h1; subst h4
    rw [List.take_zero]
    exact OwnE.nil enc sz T w base
  · injection hv with h1 h2 h3
    subst h1; subst h3
    refine ⟨by rw [List.length_take]; omega, ?_, .inr ⟨g', c, cur, rfl, hb, hh, by omega, hm, hs, ?_⟩⟩
    · rw [flat_take hk, List.length_take, h.2.1]
      exact Nat.min_eq_left (Nat.mul_le_mul_right _ hkn)
    · rw [flat_take hk, ← ht, List.take_take, Nat.min_eq_left (Nat.mul_le_mul_right _ hkn)]
/-- a row that has just been written out -/
theorem OwnE.lit {α : Type} {enc : α → List Value} {sz : Nat} {T : TypeId} (w : World) {base n g : Nat} {xs : List α} {L : Array Value} (hg : w.heap.size = g) (hb : base ≤ g) (hn : xs.length = n) (hm : n ≤ maxLen) (hL : L = (xs.flatMap enc).toArray) (hz : (xs.flatMap enc).length = n * sz) :
    OwnE enc sz T (w.alloc (.cells L T)) base (some ⟨g, 0, none⟩) n n xs := by
  subst hL
  subst hg
  exact ⟨hn, hz, .inr ⟨w.heap.size, n, _, rfl, hb, new_heap w _, Nat.le_refl _, hm, by simpa using hz, by rw [List.toList_toArray]; exact List.take_of_length_le (by rw [hz]; exact Nat.le_refl _)⟩⟩
theorem OwnI.lit {T : TypeId} (w : World) {base n g : Nat} {zs : List Int} {L : Array Value} (hg : w.heap.size = g) (hb : base ≤ g) (hn : zs.length = n) (hm : n ≤ maxLen) (hL : L = (zs.map (Value.int .i64)).toArray) :
    OwnI T (w.alloc (.cells L T)) base (some ⟨g, 0, none⟩) n n zs := by
  subst hL
  subst hn
  subst hg
  exact ⟨by simp, .inr ⟨w.heap.size, _, _, rfl, hb, new_heap w _, Nat.le_refl _, hm, by simp, by rw [List.toList_toArray]; exact List.take_of_length_le (by simp)⟩⟩
/-- a drawn schedule in memory of the call's own -/
structure DM (w : World) (base : Nat) (m : Mdv) (ns : List Nd) (hs : List Mh) (ss : List Sl) : Prop where
  on : OwnE encNd 4 84 w base m.An m.nn m.cn ns
  om : OMd 4 w base m.Am m.nm m.cm hs
  os : OwnE encSl 8 102 w base m.As m.ns m.cs ss
  nm : ∀ x ∈ ns, x.nm.size ≤ 30
theorem DM.dr {w w' : World} {base g : Nat} {m : Mdv} {ns : List Nd} {hs : List Mh} {ss : List Sl} (h : DM w base m ns hs ss) (d : Dr w g w') (hl : g < base) : DM w' base m ns hs ss :=
  ⟨h.on.dr d hl, h.om.dr d hl, h.os.dr d hl, h.nm⟩
end Go.Proofs.YtbaojbheopcjhaaGreatDoor

namespace Go.Proofs.YtbaojbheopcjhaaGreatDoor
open Go.RowKit
set_option maxRecDepth 6000 in
set_option maxHeartbeats 8000000 in
theorem small_any (w : World) :
    Calls Tryz.prog 182 #[] w fun e w' => ∃ (m : Mdv) (ns : List Nd) (hs : List Mh) (ss : List Sl), e = .returned (.agg #[.int .i64 m.id, .slice m.An m.nn m.cn, .slice m.Am m.nm m.cm, .slice m.As m.ns m.cs]) ∧ DM w' w.heap.size m ns hs ss ∧ m.nn = 2 ∧ m.nm = 2 ∧ m.ns = 6 ∧ Below w.heap.size w w' := by
  go_enter Tryz.func182, Tryz.ntmps182
  go_wp2_with fail
  have hsz : w.heap.size < w.heap.size + 1 := Nat.lt_succ_self _
  obtain ⟨NS, hNS⟩ : ∃ x : List Nd, x = [⟨0, ⟨#[97]⟩, 100, false⟩, ⟨1, ⟨#[98]⟩, 50, false⟩] := ⟨_, rfl⟩
  obtain ⟨HS, hHS⟩ : ∃ x : List Mh, x = [⟨⟨2, 2, [1]⟩, some ⟨w.heap.size + 1 + 1, 0, none⟩, 1, 1⟩, ⟨⟨1, 2, [0]⟩, some ⟨w.heap.size + 1 + 1 + 1, 0, none⟩, 1, 1⟩] := ⟨_, rfl⟩
  obtain ⟨SS, hSS⟩ : ∃ x : List Sl, x = [⟨0, 0, 0, 0, 3, 0, 200, false⟩, ⟨0, 0, 1, 1, 1, 0, 200, false⟩, ⟨0, 1, 0, 0, 0, 4, 200, true⟩, ⟨0, 1, 1, 1, 0, 2, 200, false⟩, ⟨1, 0, 0, 1, 2, 3, 300, true⟩, ⟨1, 0, 1, 0, 0, 0, 150, false⟩] := ⟨_, rfl⟩
  refine bp_forget (fun v => DM v (w.heap.size + 1) ⟨77, some ⟨w.heap.size + 1, 0, none⟩, 2, 2, some ⟨w.heap.size + 1 + 1 + 1 + 1, 0, none⟩, 2, 2, some ⟨w.heap.size + 1 + 1 + 1 + 1 + 1, 0, none⟩, 6, 6⟩ NS HS SS ∧ BlkL v w.heap.size 28 [.int .i64 77, .slice (some ⟨w.heap.size + 1, 0, none⟩) 2 2, .slice (some ⟨w.heap.size + 1 + 1 + 1 + 1, 0, none⟩) 2 2, .slice (some ⟨w.heap.size + 1 + 1 + 1 + 1 + 1, 0, none⟩) 6 6] ∧ Below w.heap.size w v) ⟨⟨?_, ⟨?_, ?_⟩, ?_, ?_⟩, ?_, by go_grown⟩ ?_
  · exact (((((OwnE.lit _ (by simp) (by omega) (by rw [hNS]; rfl) (show 2 ≤ maxLen by unfold maxLen; omega) (by rw [hNS]; rfl) (by rw [hNS]; rfl)).alloc _).alloc _).alloc _).alloc _)
  · exact ((OwnE.lit _ (by simp) (by omega) (by rw [hHS]; rfl) (show 2 ≤ maxLen by unfold maxLen; omega) (by rw [hHS]; rfl) (by rw [hHS]; rfl)).alloc _)
  · intro x hx
    rw [hHS] at hx
    rcases List.mem_cons.1 hx with rfl | hx
    · exact ⟨((((OwnI.lit (n := 1) (zs := [1]) _ (by simp) (by omega) rfl (show 1 ≤ maxLen by unfold maxLen; omega) rfl).alloc _).alloc _).alloc _), show 1 ≤ 4 by decide⟩
    · rw [List.mem_singleton] at hx
      subst hx
      exact ⟨(((OwnI.lit (n := 1) (zs := [0]) _ (by simp) (by omega) rfl (show 1 ≤ maxLen by unfold maxLen; omega) rfl).alloc _).alloc _), show 1 ≤ 4 by decide⟩
  · exact (OwnE.lit _ (by simp) (by omega) (by rw [hSS]; rfl) (show 6 ≤ maxLen by unfold maxLen; omega) (by rw [hSS]; rfl) (by rw [hSS]; rfl))
  · intro x hx
    rw [hNS] at hx
    rcases List.mem_cons.1 hx with rfl | hx
    · decide
    · rw [List.mem_singleton] at hx
      subst hx
      decide
  · exact (((((BlkL.new w _ _ rfl).alloc _).alloc _).alloc _).alloc _).alloc _
  rintro v9 ⟨dm, ko9, gb9⟩
  have d0 := ko9.c 0 rfl; have d1 := ko9.c 1 rfl; have d2 := ko9.c 2 rfl; have d3 := ko9.c 3 rfl
  exact bodyPost_ret (v := .agg #[.int .i64 77, .slice (some ⟨w.heap.size + 1, 0, none⟩) 2 2, .slice (some ⟨w.heap.size + 1 + 1 + 1 + 1, 0, none⟩) 2 2, .slice (some ⟨w.heap.size + 1 + 1 + 1 + 1 + 1, 0, none⟩) 6 6]) (by simp [results, Tryz.results182, go_sem, d0, d1, d2, d3]) rfl ⟨⟨77, some ⟨w.heap.size + 1, 0, none⟩, 2, 2, some ⟨w.heap.size + 1 + 1 + 1 + 1, 0, none⟩, 2, 2, some ⟨w.heap.size + 1 + 1 + 1 + 1 + 1, 0, none⟩, 6, 6⟩, NS, HS, SS, rfl, ⟨dm.on.weaken (Nat.le_succ _), ⟨dm.om.1.weaken (Nat.le_succ _), fun x hx => ⟨(dm.om.2 x hx).1.weaken (Nat.le_succ _), (dm.om.2 x hx).2⟩⟩, dm.os.weaken (Nat.le_succ _), dm.nm⟩, rfl, rfl, rfl, gb9⟩
end Go.Proofs.YtbaojbheopcjhaaGreatDoor
