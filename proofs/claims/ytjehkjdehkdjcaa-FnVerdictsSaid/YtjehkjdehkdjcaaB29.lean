/- Walks, laws and small notions for the claims of this seat, several texts as one (DrwY). Conditions: as each theorem states them. -/
import Derived.Test.YtjehkjdehkdjcaaB9
import Derived.Test.YtjehkjdehkdjcaaB1
import Derived.Test.YtjehkjdehkdjcaaB10
namespace Go.Proofs.Ytjehkjdehkdjcaa
open Go.RowKit

theorem OwnI.aside {T : TypeId} {w : World} {base n c : Nat} {A : Option Addr} {zs : List Int} (h : OwnI T w base A n c zs) {p : Addr} (hp : (Value.slice A n c).ownBlock ≠ some p.block) (v : Value) : OwnI T (w.setCell p v) base A n c zs := ownsRow_setCell_other h hp v
theorem BlkL.dr {w w' : World} {b g : Nat} {t : TypeId} {L : List Value} (h : BlkL w b t L) (d : Dr w g w') (hne : g ≠ b) : BlkL w' b t L :=
  (d.gr.block b h.lt (fun e => by injection e with e; exact hne e.symm)).trans h
/-- a drawn state -/
def DrS (w : World) (g : Nat) (e : Ending) (w' : World) : Prop :=
  ∃ t m d s b : Int, e = .returned (.agg #[.int .i64 t, .int .i64 m, .int .i64 d, .int .i64 s, .int .i64 b]) ∧ Dr w g w'
/-- a drawn frame -/
def DrFr (w : World) (g : Nat) (e : Ending) (w' : World) : Prop :=
  ∃ (k r t m d s b : Int) (A : Option Addr) (n c : Nat) (zs : List Int), e = .returned (.agg #[.int .i64 k, .int .i64 r, .int .i64 t, .int .i64 m, .int .i64 d, .int .i64 s, .int .i64 b, .slice A n c]) ∧ OwnI 2 w' w.heap.size A n c zs ∧ n ≤ 8200 ∧ Dr w g w'
/-- a drawn verdict -/
def DrVd (w : World) (g : Nat) (e : Ending) (w' : World) : Prop :=
  ∃ (x : Vdt) (A : Option Addr) (n c : Nat) (zs : List Int), e = .returned (.agg #[.int .i64 x.st, .int .i64 x.kd, .int .i64 x.rq, .int .i64 x.tm, .int .i64 x.md, .int .i64 x.rd, .int .i64 x.sl, .int .i64 x.mb, .slice A n c]) ∧ OwnI 2 w' w.heap.size A n c zs ∧ n ≤ 8200 ∧ Dr w g w'

set_option maxRecDepth 6000 in
set_option maxHeartbeats 8000000 in
theorem drawState_any (g : Nat) (w : World) (h : Src w g) :
    Calls Try.prog 247 #[.pointer (some ⟨g, 0, none⟩)] w (DrS w g) := by
  have hl := h.lt
  have hne_R : g ≠ w.heap.size := by omega
  go_enter Try.func247, Try.ntmps247
  go_wp2_with fail
  refine (next_any g 200 _ ((Dr.refl h).alloc _).src).mono ?_
  rintro e w1 ⟨a0, rfl, hx_a0, d⟩
  have K_R := Lib.hid (show BlkL w1 (w.heap.size) 31 [.int .i64 0, .int .i64 0, .int .i64 0, .int .i64 0, .int .i64 0] from BlkL.dr (BlkL.new _ 31 _ rfl) d hne_R)
  have D_1 := Lib.hid (d.next ((Dr.refl h).alloc _))
  have hb_a0 : a0 < 200 := by omega
  clear d
  go_wp2_with fail
  refine (next_any g 3 _ D_1.out.src).mono ?_
  rintro e w2 ⟨a1, rfl, hx_a1, d⟩
  replace K_R := Lib.hid (show BlkL w2 (w.heap.size) 31 [.int .i64 0, .int .i64 0, .int .i64 0, .int .i64 0, .int .i64 0] from BlkL.dr K_R.out d hne_R)
  have D_2 := Lib.hid (d.next D_1.out)
  have hb_a1 : a1 < 3 := by omega
  clear d
  go_wp2_with fail
  refine (next_any g 3 _ D_2.out.src).mono ?_
  rintro e w3 ⟨a2, rfl, hx_a2, d⟩
  replace K_R := Lib.hid (show BlkL w3 (w.heap.size) 31 [.int .i64 0, .int .i64 0, .int .i64 0, .int .i64 0, .int .i64 0] from BlkL.dr K_R.out d hne_R)
  have D_3 := Lib.hid (d.next D_2.out)
  have hb_a2 : a2 < 3 := by omega
  clear d
  go_wp2_with fail
  refine (next_any g 6 _ D_3.out.src).mono ?_
  rintro e w4 ⟨a3, rfl, hx_a3, d⟩
  replace K_R := Lib.hid (show BlkL w4 (w.heap.size) 31 [.int .i64 0, .int .i64 0, .int .i64 0, .int .i64 0, .int .i64 0] from BlkL.dr K_R.out d hne_R)
  have D_4 := Lib.hid (d.next D_3.out)
  have hb_a3 : a3 < 6 := by omega
  clear d
  go_wp2_with fail
  refine (next_any g 256 _ D_4.out.src).mono ?_
  rintro e w5 ⟨a4, rfl, hx_a4, d⟩
  replace K_R := Lib.hid (show BlkL w5 (w.heap.size) 31 [.int .i64 0, .int .i64 0, .int .i64 0, .int .i64 0, .int .i64 0] from BlkL.dr K_R.out d hne_R)
  have D_5 := Lib.hid (d.next D_4.out)
  have hb_a4 : a4 < 256 := by omega
  clear d
  have hne_F : g ≠ w5.heap.size := by have := D_5.out.lt; omega
  have ne_RF : ¬ w.heap.size = w5.heap.size := by have := K_R.out.lt; omega
  have ne_FR : ¬ w5.heap.size = w.heap.size := fun e => ne_RF e.symm
  go_wp2_with fail
  refine (next_any g 8 _ (D_5.out.alloc _).src).mono ?_
  rintro e w6 ⟨x, rfl, hx_x, d⟩
  replace K_R := Lib.hid (show BlkL w6 (w.heap.size) 31 [.int .i64 0, .int .i64 0, .int .i64 0, .int .i64 0, .int .i64 0] from BlkL.dr (K_R.out.alloc _) d hne_R)
  have K_F := Lib.hid (show BlkL w6 (w5.heap.size) 31 [.int .i64 a0, .int .i64 a1, .int .i64 a2, .int .i64 a3, .int .i64 a4] from BlkL.dr (BlkL.new _ 31 _ rfl) d hne_F)
  have D_6 := Lib.hid (d.next (D_5.out.alloc _))
  have hle_F : w.heap.size ≤ w5.heap.size := by have := D_5.out.size; omega
  have hb_x : x < 8 := by omega
  clear d
  by_cases h0 : x = 0
  case neg =>
    have b0 : ((x : Int) == 0) = false := by simp; omega
    have kR0_1 := K_R.out.c 0 rfl; have kR1_1 := K_R.out.c 1 rfl; have kR2_1 := K_R.out.c 2 rfl; have kR3_1 := K_R.out.c 3 rfl; have kR4_1 := K_R.out.c 4 rfl; have kfR_1 := K_R.out.free
    have kF0_2 := K_F.out.c 0 rfl; have kF1_2 := K_F.out.c 1 rfl; have kF2_2 := K_F.out.c 2 rfl; have kF3_2 := K_F.out.c 3 rfl; have kF4_2 := K_F.out.c 4 rfl; have kfF_2 := K_F.out.free
    go_wp2_with fail
    refine bp_forget (fun w' => BlkL w' w.heap.size 31 [.int .i64 a0, .int .i64 a1, .int .i64 a2, .int .i64 a3, .int .i64 a4] ∧ Dr w g w') ?_ ?_
    · exact ⟨(((((K_R.out.set 0 _).set 1 _).set 2 _).set 3 _).set 4 _), (((((D_6.out.set (p := ⟨w.heap.size, 0, none⟩) (Nat.le_refl _) hl _).set (p := ⟨w.heap.size, 1, none⟩) (Nat.le_refl _) hl _).set (p := ⟨w.heap.size, 2, none⟩) (Nat.le_refl _) hl _).set (p := ⟨w.heap.size, 3, none⟩) (Nat.le_refl _) hl _).set (p := ⟨w.heap.size, 4, none⟩) (Nat.le_refl _) hl _)⟩
    rintro wz ⟨kz, dz⟩
    have q0 := kz.c 0 rfl
    have q1 := kz.c 1 rfl
    have q2 := kz.c 2 rfl
    have q3 := kz.c 3 rfl
    have q4 := kz.c 4 rfl
    exact bodyPost_ret (v := .agg #[.int .i64 a0, .int .i64 a1, .int .i64 a2, .int .i64 a3, .int .i64 a4]) (by simp [results, Try.results247, go_sem, q0, q1, q2, q3, q4]) rfl ⟨_, _, _, _, _, rfl, dz⟩
  subst h0
  go_wp2_with fail
  refine (next_any g 9 _ D_6.out.src).mono ?_
  rintro e w7 ⟨c0, rfl, hx_c0, d⟩
  replace K_R := Lib.hid (show BlkL w7 (w.heap.size) 31 [.int .i64 0, .int .i64 0, .int .i64 0, .int .i64 0, .int .i64 0] from BlkL.dr K_R.out d hne_R)
  replace K_F := Lib.hid (show BlkL w7 (w5.heap.size) 31 [.int .i64 a0, .int .i64 a1, .int .i64 a2, .int .i64 a3, .int .i64 a4] from BlkL.dr K_F.out d hne_F)
  have D_7 := Lib.hid (d.next D_6.out)
  have hb1_c0 : (0 : Int) ≤ (c0 : Int) := by omega
  have hb2_c0 : (c0 : Int) < 9 := by omega
  clear hx_c0
  generalize (c0 : Int) = C0 at *
  clear d
  go_wp2_with fail
  refine (next_any g 16 _ D_7.out.src).mono ?_
  rintro e w8 ⟨c1, rfl, hx_c1, d⟩
  replace K_R := Lib.hid (show BlkL w8 (w.heap.size) 31 [.int .i64 0, .int .i64 0, .int .i64 0, .int .i64 0, .int .i64 0] from BlkL.dr K_R.out d hne_R)
  replace K_F := Lib.hid (show BlkL w8 (w5.heap.size) 31 [.int .i64 a0, .int .i64 a1, .int .i64 a2, .int .i64 a3, .int .i64 a4] from BlkL.dr K_F.out d hne_F)
  have D_8 := Lib.hid (d.next D_7.out)
  have hb_c1 : c1 < 16 := by omega
  clear d
  go_wp2_with fail
  refine (next_any g 16 _ D_8.out.src).mono ?_
  rintro e w9 ⟨c2, rfl, hx_c2, d⟩
  replace K_R := Lib.hid (show BlkL w9 (w.heap.size) 31 [.int .i64 0, .int .i64 0, .int .i64 0, .int .i64 0, .int .i64 0] from BlkL.dr K_R.out d hne_R)
  replace K_F := Lib.hid (show BlkL w9 (w5.heap.size) 31 [.int .i64 a0, .int .i64 a1, .int .i64 a2, .int .i64 a3, .int .i64 a4] from BlkL.dr K_F.out d hne_F)
  have D_9 := Lib.hid (d.next D_8.out)
  have hb_c2 : c2 < 16 := by omega
  clear d
  go_wp2_with fail
  refine (next_any g 256 _ D_9.out.src).mono ?_
  rintro e w10 ⟨c3, rfl, hx_c3, d⟩
  replace K_R := Lib.hid (show BlkL w10 (w.heap.size) 31 [.int .i64 0, .int .i64 0, .int .i64 0, .int .i64 0, .int .i64 0] from BlkL.dr K_R.out d hne_R)
  replace K_F := Lib.hid (show BlkL w10 (w5.heap.size) 31 [.int .i64 a0, .int .i64 a1, .int .i64 a2, .int .i64 a3, .int .i64 a4] from BlkL.dr K_F.out d hne_F)
  have D_10 := Lib.hid (d.next D_9.out)
  have hb_c3 : c3 < 256 := by omega
  clear d
  go_wp2_with fail
  refine (next_any g 99 _ D_10.out.src).mono ?_
  rintro e w11 ⟨c4, rfl, hx_c4, d⟩
  replace K_R := Lib.hid (show BlkL w11 (w.heap.size) 31 [.int .i64 0, .int .i64 0, .int .i64 0, .int .i64 0, .int .i64 0] from BlkL.dr K_R.out d hne_R)
  replace K_F := Lib.hid (show BlkL w11 (w5.heap.size) 31 [.int .i64 a0, .int .i64 a1, .int .i64 a2, .int .i64 a3, .int .i64 a4] from BlkL.dr K_F.out d hne_F)
  have D_11 := Lib.hid (d.next D_10.out)
  have hb1_c4 : (0 : Int) ≤ (c4 : Int) := by omega
  have hb2_c4 : (c4 : Int) < 99 := by omega
  clear hx_c4
  generalize (c4 : Int) = C4 at *
  clear d
  have kR0_1 := K_R.out.c 0 rfl; have kR1_1 := K_R.out.c 1 rfl; have kR2_1 := K_R.out.c 2 rfl; have kR3_1 := K_R.out.c 3 rfl; have kR4_1 := K_R.out.c 4 rfl; have kfR_1 := K_R.out.free
  have kF0_2 := K_F.out.c 0 rfl; have kF1_2 := K_F.out.c 1 rfl; have kF2_2 := K_F.out.c 2 rfl; have kF3_2 := K_F.out.c 3 rfl; have kF4_2 := K_F.out.c 4 rfl; have kfF_2 := K_F.out.free
  go_upto_region 4 with fail
  obtain ⟨wS, hwS⟩ : ∃ x, (((((w11.setCell ⟨w5.heap.size, 0, none⟩ (.int .i64 (65535 - C0))).setCell ⟨w5.heap.size, 1, none⟩ (.int .i64 c1)).setCell ⟨w5.heap.size, 2, none⟩ (.int .i64 c2)).setCell ⟨w5.heap.size, 3, none⟩ (.int .i64 c3)).setCell ⟨w5.heap.size, 4, none⟩ (.int .i64 (4294967295 - C4))) = x := ⟨_, rfl⟩
  clear kR0_1 kR1_1 kR2_1 kR3_1 kR4_1 kfR_1
  clear kF0_2 kF1_2 kF2_2 kF3_2 kF4_2 kfF_2
  replace K_R := Lib.hid (show BlkL wS (w.heap.size) 31 [.int .i64 0, .int .i64 0, .int .i64 0, .int .i64 0, .int .i64 0] from hwS ▸ (((((K_R.out.other (p := ⟨w5.heap.size, 0, none⟩) ne_FR _).other (p := ⟨w5.heap.size, 1, none⟩) ne_FR _).other (p := ⟨w5.heap.size, 2, none⟩) ne_FR _).other (p := ⟨w5.heap.size, 3, none⟩) ne_FR _).other (p := ⟨w5.heap.size, 4, none⟩) ne_FR _))
  replace K_F := Lib.hid (show BlkL wS (w5.heap.size) 31 [.int .i64 (65535 - C0), .int .i64 c1, .int .i64 c2, .int .i64 c3, .int .i64 (4294967295 - C4)] from hwS ▸ (((((K_F.out.set 0 _).set 1 _).set 2 _).set 3 _).set 4 _))
  have D_12 := Lib.hid (show Dr w g wS from hwS ▸ (((((D_11.out.set (p := ⟨w5.heap.size, 0, none⟩) hle_F hl _).set (p := ⟨w5.heap.size, 1, none⟩) hle_F hl _).set (p := ⟨w5.heap.size, 2, none⟩) hle_F hl _).set (p := ⟨w5.heap.size, 3, none⟩) hle_F hl _).set (p := ⟨w5.heap.size, 4, none⟩) hle_F hl _))
  rw [hwS]
  clear hwS
  have kR0_3 := K_R.out.c 0 rfl; have kR1_3 := K_R.out.c 1 rfl; have kR2_3 := K_R.out.c 2 rfl; have kR3_3 := K_R.out.c 3 rfl; have kR4_3 := K_R.out.c 4 rfl; have kfR_3 := K_R.out.free
  have kF0_4 := K_F.out.c 0 rfl; have kF1_4 := K_F.out.c 1 rfl; have kF2_4 := K_F.out.c 2 rfl; have kF3_4 := K_F.out.c 3 rfl; have kF4_4 := K_F.out.c 4 rfl; have kfF_4 := K_F.out.free
  go_wp2_with fail
  refine bp_forget (fun w' => BlkL w' w.heap.size 31 [.int .i64 (65535 - C0), .int .i64 c1, .int .i64 c2, .int .i64 c3, .int .i64 (4294967295 - C4)] ∧ Dr w g w') ?_ ?_
  · exact ⟨(((((K_R.out.set 0 _).set 1 _).set 2 _).set 3 _).set 4 _), (((((D_12.out.set (p := ⟨w.heap.size, 0, none⟩) (Nat.le_refl _) hl _).set (p := ⟨w.heap.size, 1, none⟩) (Nat.le_refl _) hl _).set (p := ⟨w.heap.size, 2, none⟩) (Nat.le_refl _) hl _).set (p := ⟨w.heap.size, 3, none⟩) (Nat.le_refl _) hl _).set (p := ⟨w.heap.size, 4, none⟩) (Nat.le_refl _) hl _)⟩
  rintro wz ⟨kz, dz⟩
  have q0 := kz.c 0 rfl
  have q1 := kz.c 1 rfl
  have q2 := kz.c 2 rfl
  have q3 := kz.c 3 rfl
  have q4 := kz.c 4 rfl
  exact bodyPost_ret (v := .agg #[.int .i64 (65535 - C0), .int .i64 c1, .int .i64 c2, .int .i64 c3, .int .i64 (4294967295 - C4)]) (by simp [results, Try.results247, go_sem, q0, q1, q2, q3, q4]) rfl ⟨_, _, _, _, _, rfl, dz⟩

set_option maxRecDepth 6000 in
set_option maxHeartbeats 8000000 in
theorem drawStateAny_any (g : Nat) (w : World) (h : Src w g) :
    Calls Try.prog 249 #[.pointer (some ⟨g, 0, none⟩)] w (DrS w g) := by
  have hl := h.lt
  have hne_R : g ≠ w.heap.size := by omega
  go_enter Try.func249, Try.ntmps249
  go_wp2_with fail
  refine (drawState_any g _ ((Dr.refl h).alloc _).src).mono ?_
  rintro e w1 ⟨t, m, dd, sl, b, rfl, d⟩
  have K_R := Lib.hid (show BlkL w1 (w.heap.size) 31 [.int .i64 0, .int .i64 0, .int .i64 0, .int .i64 0, .int .i64 0] from BlkL.dr (BlkL.new _ 31 _ rfl) d hne_R)
  have D_1 := Lib.hid (d.next ((Dr.refl h).alloc _))
  clear d
  have hne_F : g ≠ w1.heap.size := by have := D_1.out.lt; omega
  have ne_RF : ¬ w.heap.size = w1.heap.size := by have := K_R.out.lt; omega
  have ne_FR : ¬ w1.heap.size = w.heap.size := fun e => ne_RF e.symm
  go_wp2_with fail
  refine (next_any g 30 _ (D_1.out.alloc _).src).mono ?_
  rintro e w2 ⟨x, rfl, hx_x, d⟩
  replace K_R := Lib.hid (show BlkL w2 (w.heap.size) 31 [.int .i64 0, .int .i64 0, .int .i64 0, .int .i64 0, .int .i64 0] from BlkL.dr (K_R.out.alloc _) d hne_R)
  have K_F := Lib.hid (show BlkL w2 (w1.heap.size) 31 [.int .i64 t, .int .i64 m, .int .i64 dd, .int .i64 sl, .int .i64 b] from BlkL.dr (BlkL.new _ 31 _ rfl) d hne_F)
  have D_2 := Lib.hid (d.next (D_1.out.alloc _))
  have hle_F : w.heap.size ≤ w1.heap.size := by have := D_1.out.size; omega
  have hb_x : x < 30 := by omega
  clear d
  by_cases h0 : x = 0
  case pos =>
    subst h0
    go_wp2_with fail
    refine (next_any g 3 _ (D_2.out.alloc _).src).mono ?_
    rintro e w3 ⟨y, rfl, hx_y, d⟩
    replace K_R := Lib.hid (show BlkL w3 (w.heap.size) 31 [.int .i64 0, .int .i64 0, .int .i64 0, .int .i64 0, .int .i64 0] from BlkL.dr (K_R.out.alloc _) d hne_R)
    replace K_F := Lib.hid (show BlkL w3 (w1.heap.size) 31 [.int .i64 t, .int .i64 m, .int .i64 dd, .int .i64 sl, .int .i64 b] from BlkL.dr (K_F.out.alloc _) d hne_F)
    have D_3 := Lib.hid (d.next (D_2.out.alloc _))
    obtain ⟨u, _, hc⟩ := pick_cell (L := [-1, 65535, 65536]) d.gr D_2.out.lt (x := y) (by simp; omega)
    have hb_y : y < 3 := by omega
    clear d
    have kR0_1 := K_R.out.c 0 rfl; have kR1_1 := K_R.out.c 1 rfl; have kR2_1 := K_R.out.c 2 rfl; have kR3_1 := K_R.out.c 3 rfl; have kR4_1 := K_R.out.c 4 rfl; have kfR_1 := K_R.out.free
    have kF0_2 := K_F.out.c 0 rfl; have kF1_2 := K_F.out.c 1 rfl; have kF2_2 := K_F.out.c 2 rfl; have kF3_2 := K_F.out.c 3 rfl; have kF4_2 := K_F.out.c 4 rfl; have kfF_2 := K_F.out.free
    go_upto_region 13 with fail
    obtain ⟨wS, hwS⟩ : ∃ x, (w3.setCell ⟨w1.heap.size, 0, none⟩ (.int .i64 u)) = x := ⟨_, rfl⟩
    clear kR0_1 kR1_1 kR2_1 kR3_1 kR4_1 kfR_1
    clear kF0_2 kF1_2 kF2_2 kF3_2 kF4_2 kfF_2
    replace K_R := Lib.hid (show BlkL wS (w.heap.size) 31 [.int .i64 0, .int .i64 0, .int .i64 0, .int .i64 0, .int .i64 0] from hwS ▸ (K_R.out.other (p := ⟨w1.heap.size, 0, none⟩) ne_FR _))
    replace K_F := Lib.hid (show BlkL wS (w1.heap.size) 31 [.int .i64 u, .int .i64 m, .int .i64 dd, .int .i64 sl, .int .i64 b] from hwS ▸ (K_F.out.set 0 _))
    have D_4 := Lib.hid (show Dr w g wS from hwS ▸ (D_3.out.set (p := ⟨w1.heap.size, 0, none⟩) hle_F hl _))
    rw [hwS]
    clear hwS
    have kR0_3 := K_R.out.c 0 rfl; have kR1_3 := K_R.out.c 1 rfl; have kR2_3 := K_R.out.c 2 rfl; have kR3_3 := K_R.out.c 3 rfl; have kR4_3 := K_R.out.c 4 rfl; have kfR_3 := K_R.out.free
    have kF0_4 := K_F.out.c 0 rfl; have kF1_4 := K_F.out.c 1 rfl; have kF2_4 := K_F.out.c 2 rfl; have kF3_4 := K_F.out.c 3 rfl; have kF4_4 := K_F.out.c 4 rfl; have kfF_4 := K_F.out.free
    go_wp2_with fail
    refine bp_forget (fun w' => BlkL w' w.heap.size 31 [.int .i64 u, .int .i64 m, .int .i64 dd, .int .i64 sl, .int .i64 b] ∧ Dr w g w') ?_ ?_
    · exact ⟨(((((K_R.out.set 0 _).set 1 _).set 2 _).set 3 _).set 4 _), (((((D_4.out.set (p := ⟨w.heap.size, 0, none⟩) (Nat.le_refl _) hl _).set (p := ⟨w.heap.size, 1, none⟩) (Nat.le_refl _) hl _).set (p := ⟨w.heap.size, 2, none⟩) (Nat.le_refl _) hl _).set (p := ⟨w.heap.size, 3, none⟩) (Nat.le_refl _) hl _).set (p := ⟨w.heap.size, 4, none⟩) (Nat.le_refl _) hl _)⟩
    rintro wz ⟨kz, dz⟩
    have q0 := kz.c 0 rfl
    have q1 := kz.c 1 rfl
    have q2 := kz.c 2 rfl
    have q3 := kz.c 3 rfl
    have q4 := kz.c 4 rfl
    exact bodyPost_ret (v := .agg #[.int .i64 u, .int .i64 m, .int .i64 dd, .int .i64 sl, .int .i64 b]) (by simp [results, Try.results249, go_sem, q0, q1, q2, q3, q4]) rfl ⟨_, _, _, _, _, rfl, dz⟩
  have b0 : ((x : Int) == 0) = false := by simp; omega
  by_cases h1 : x = 1
  case pos =>
    subst h1
    go_wp2_with fail
    refine (next_any g 2 _ (D_2.out.alloc _).src).mono ?_
    rintro e w3 ⟨y, rfl, hx_y, d⟩
    replace K_R := Lib.hid (show BlkL w3 (w.heap.size) 31 [.int .i64 0, .int .i64 0, .int .i64 0, .int .i64 0, .int .i64 0] from BlkL.dr (K_R.out.alloc _) d hne_R)
    replace K_F := Lib.hid (show BlkL w3 (w1.heap.size) 31 [.int .i64 t, .int .i64 m, .int .i64 dd, .int .i64 sl, .int .i64 b] from BlkL.dr (K_F.out.alloc _) d hne_F)
    have D_3 := Lib.hid (d.next (D_2.out.alloc _))
    obtain ⟨u, _, hc⟩ := pick_cell (L := [-1, 16]) d.gr D_2.out.lt (x := y) (by simp; omega)
    have hb_y : y < 2 := by omega
    clear d
    have kR0_1 := K_R.out.c 0 rfl; have kR1_1 := K_R.out.c 1 rfl; have kR2_1 := K_R.out.c 2 rfl; have kR3_1 := K_R.out.c 3 rfl; have kR4_1 := K_R.out.c 4 rfl; have kfR_1 := K_R.out.free
    have kF0_2 := K_F.out.c 0 rfl; have kF1_2 := K_F.out.c 1 rfl; have kF2_2 := K_F.out.c 2 rfl; have kF3_2 := K_F.out.c 3 rfl; have kF4_2 := K_F.out.c 4 rfl; have kfF_2 := K_F.out.free
    go_upto_region 13 with fail
    obtain ⟨wS, hwS⟩ : ∃ x, (w3.setCell ⟨w1.heap.size, 1, none⟩ (.int .i64 u)) = x := ⟨_, rfl⟩
    clear kR0_1 kR1_1 kR2_1 kR3_1 kR4_1 kfR_1
    clear kF0_2 kF1_2 kF2_2 kF3_2 kF4_2 kfF_2
    replace K_R := Lib.hid (show BlkL wS (w.heap.size) 31 [.int .i64 0, .int .i64 0, .int .i64 0, .int .i64 0, .int .i64 0] from hwS ▸ (K_R.out.other (p := ⟨w1.heap.size, 1, none⟩) ne_FR _))
    replace K_F := Lib.hid (show BlkL wS (w1.heap.size) 31 [.int .i64 t, .int .i64 u, .int .i64 dd, .int .i64 sl, .int .i64 b] from hwS ▸ (K_F.out.set 1 _))
    have D_4 := Lib.hid (show Dr w g wS from hwS ▸ (D_3.out.set (p := ⟨w1.heap.size, 1, none⟩) hle_F hl _))
    rw [hwS]
    clear hwS
    have kR0_3 := K_R.out.c 0 rfl; have kR1_3 := K_R.out.c 1 rfl; have kR2_3 := K_R.out.c 2 rfl; have kR3_3 := K_R.out.c 3 rfl; have kR4_3 := K_R.out.c 4 rfl; have kfR_3 := K_R.out.free
    have kF0_4 := K_F.out.c 0 rfl; have kF1_4 := K_F.out.c 1 rfl; have kF2_4 := K_F.out.c 2 rfl; have kF3_4 := K_F.out.c 3 rfl; have kF4_4 := K_F.out.c 4 rfl; have kfF_4 := K_F.out.free
    go_wp2_with fail
    refine bp_forget (fun w' => BlkL w' w.heap.size 31 [.int .i64 t, .int .i64 u, .int .i64 dd, .int .i64 sl, .int .i64 b] ∧ Dr w g w') ?_ ?_
    · exact ⟨(((((K_R.out.set 0 _).set 1 _).set 2 _).set 3 _).set 4 _), (((((D_4.out.set (p := ⟨w.heap.size, 0, none⟩) (Nat.le_refl _) hl _).set (p := ⟨w.heap.size, 1, none⟩) (Nat.le_refl _) hl _).set (p := ⟨w.heap.size, 2, none⟩) (Nat.le_refl _) hl _).set (p := ⟨w.heap.size, 3, none⟩) (Nat.le_refl _) hl _).set (p := ⟨w.heap.size, 4, none⟩) (Nat.le_refl _) hl _)⟩
    rintro wz ⟨kz, dz⟩
    have q0 := kz.c 0 rfl
    have q1 := kz.c 1 rfl
    have q2 := kz.c 2 rfl
    have q3 := kz.c 3 rfl
    have q4 := kz.c 4 rfl
    exact bodyPost_ret (v := .agg #[.int .i64 t, .int .i64 u, .int .i64 dd, .int .i64 sl, .int .i64 b]) (by simp [results, Try.results249, go_sem, q0, q1, q2, q3, q4]) rfl ⟨_, _, _, _, _, rfl, dz⟩
  have b1 : ((x : Int) == 1) = false := by simp; omega
  by_cases h2 : x = 2
  case pos =>
    subst h2
    go_wp2_with fail
    refine (next_any g 2 _ (D_2.out.alloc _).src).mono ?_
    rintro e w3 ⟨y, rfl, hx_y, d⟩
    replace K_R := Lib.hid (show BlkL w3 (w.heap.size) 31 [.int .i64 0, .int .i64 0, .int .i64 0, .int .i64 0, .int .i64 0] from BlkL.dr (K_R.out.alloc _) d hne_R)
    replace K_F := Lib.hid (show BlkL w3 (w1.heap.size) 31 [.int .i64 t, .int .i64 m, .int .i64 dd, .int .i64 sl, .int .i64 b] from BlkL.dr (K_F.out.alloc _) d hne_F)
    have D_3 := Lib.hid (d.next (D_2.out.alloc _))
    obtain ⟨u, _, hc⟩ := pick_cell (L := [-1, 16]) d.gr D_2.out.lt (x := y) (by simp; omega)
    have hb_y : y < 2 := by omega
    clear d
    have kR0_1 := K_R.out.c 0 rfl; have kR1_1 := K_R.out.c 1 rfl; have kR2_1 := K_R.out.c 2 rfl; have kR3_1 := K_R.out.c 3 rfl; have kR4_1 := K_R.out.c 4 rfl; have kfR_1 := K_R.out.free
    have kF0_2 := K_F.out.c 0 rfl; have kF1_2 := K_F.out.c 1 rfl; have kF2_2 := K_F.out.c 2 rfl; have kF3_2 := K_F.out.c 3 rfl; have kF4_2 := K_F.out.c 4 rfl; have kfF_2 := K_F.out.free
    go_upto_region 13 with fail
    obtain ⟨wS, hwS⟩ : ∃ x, (w3.setCell ⟨w1.heap.size, 2, none⟩ (.int .i64 u)) = x := ⟨_, rfl⟩
    clear kR0_1 kR1_1 kR2_1 kR3_1 kR4_1 kfR_1
    clear kF0_2 kF1_2 kF2_2 kF3_2 kF4_2 kfF_2
    replace K_R := Lib.hid (show BlkL wS (w.heap.size) 31 [.int .i64 0, .int .i64 0, .int .i64 0, .int .i64 0, .int .i64 0] from hwS ▸ (K_R.out.other (p := ⟨w1.heap.size, 2, none⟩) ne_FR _))
    replace K_F := Lib.hid (show BlkL wS (w1.heap.size) 31 [.int .i64 t, .int .i64 m, .int .i64 u, .int .i64 sl, .int .i64 b] from hwS ▸ (K_F.out.set 2 _))
    have D_4 := Lib.hid (show Dr w g wS from hwS ▸ (D_3.out.set (p := ⟨w1.heap.size, 2, none⟩) hle_F hl _))
    rw [hwS]
    clear hwS
    have kR0_3 := K_R.out.c 0 rfl; have kR1_3 := K_R.out.c 1 rfl; have kR2_3 := K_R.out.c 2 rfl; have kR3_3 := K_R.out.c 3 rfl; have kR4_3 := K_R.out.c 4 rfl; have kfR_3 := K_R.out.free
    have kF0_4 := K_F.out.c 0 rfl; have kF1_4 := K_F.out.c 1 rfl; have kF2_4 := K_F.out.c 2 rfl; have kF3_4 := K_F.out.c 3 rfl; have kF4_4 := K_F.out.c 4 rfl; have kfF_4 := K_F.out.free
    go_wp2_with fail
    refine bp_forget (fun w' => BlkL w' w.heap.size 31 [.int .i64 t, .int .i64 m, .int .i64 u, .int .i64 sl, .int .i64 b] ∧ Dr w g w') ?_ ?_
    · exact ⟨(((((K_R.out.set 0 _).set 1 _).set 2 _).set 3 _).set 4 _), (((((D_4.out.set (p := ⟨w.heap.size, 0, none⟩) (Nat.le_refl _) hl _).set (p := ⟨w.heap.size, 1, none⟩) (Nat.le_refl _) hl _).set (p := ⟨w.heap.size, 2, none⟩) (Nat.le_refl _) hl _).set (p := ⟨w.heap.size, 3, none⟩) (Nat.le_refl _) hl _).set (p := ⟨w.heap.size, 4, none⟩) (Nat.le_refl _) hl _)⟩
    rintro wz ⟨kz, dz⟩
    have q0 := kz.c 0 rfl
    have q1 := kz.c 1 rfl
    have q2 := kz.c 2 rfl
    have q3 := kz.c 3 rfl
    have q4 := kz.c 4 rfl
    exact bodyPost_ret (v := .agg #[.int .i64 t, .int .i64 m, .int .i64 u, .int .i64 sl, .int .i64 b]) (by simp [results, Try.results249, go_sem, q0, q1, q2, q3, q4]) rfl ⟨_, _, _, _, _, rfl, dz⟩
  have b2 : ((x : Int) == 2) = false := by simp; omega
  by_cases h3 : x = 3
  case pos =>
    subst h3
    go_wp2_with fail
    refine (next_any g 2 _ (D_2.out.alloc _).src).mono ?_
    rintro e w3 ⟨y, rfl, hx_y, d⟩
    replace K_R := Lib.hid (show BlkL w3 (w.heap.size) 31 [.int .i64 0, .int .i64 0, .int .i64 0, .int .i64 0, .int .i64 0] from BlkL.dr (K_R.out.alloc _) d hne_R)
    replace K_F := Lib.hid (show BlkL w3 (w1.heap.size) 31 [.int .i64 t, .int .i64 m, .int .i64 dd, .int .i64 sl, .int .i64 b] from BlkL.dr (K_F.out.alloc _) d hne_F)
    have D_3 := Lib.hid (d.next (D_2.out.alloc _))
    obtain ⟨u, _, hc⟩ := pick_cell (L := [-1, 256]) d.gr D_2.out.lt (x := y) (by simp; omega)
    have hb_y : y < 2 := by omega
    clear d
    have kR0_1 := K_R.out.c 0 rfl; have kR1_1 := K_R.out.c 1 rfl; have kR2_1 := K_R.out.c 2 rfl; have kR3_1 := K_R.out.c 3 rfl; have kR4_1 := K_R.out.c 4 rfl; have kfR_1 := K_R.out.free
    have kF0_2 := K_F.out.c 0 rfl; have kF1_2 := K_F.out.c 1 rfl; have kF2_2 := K_F.out.c 2 rfl; have kF3_2 := K_F.out.c 3 rfl; have kF4_2 := K_F.out.c 4 rfl; have kfF_2 := K_F.out.free
    go_upto_region 13 with fail
    obtain ⟨wS, hwS⟩ : ∃ x, (w3.setCell ⟨w1.heap.size, 3, none⟩ (.int .i64 u)) = x := ⟨_, rfl⟩
    clear kR0_1 kR1_1 kR2_1 kR3_1 kR4_1 kfR_1
    clear kF0_2 kF1_2 kF2_2 kF3_2 kF4_2 kfF_2
    replace K_R := Lib.hid (show BlkL wS (w.heap.size) 31 [.int .i64 0, .int .i64 0, .int .i64 0, .int .i64 0, .int .i64 0] from hwS ▸ (K_R.out.other (p := ⟨w1.heap.size, 3, none⟩) ne_FR _))
    replace K_F := Lib.hid (show BlkL wS (w1.heap.size) 31 [.int .i64 t, .int .i64 m, .int .i64 dd, .int .i64 u, .int .i64 b] from hwS ▸ (K_F.out.set 3 _))
    have D_4 := Lib.hid (show Dr w g wS from hwS ▸ (D_3.out.set (p := ⟨w1.heap.size, 3, none⟩) hle_F hl _))
    rw [hwS]
    clear hwS
    have kR0_3 := K_R.out.c 0 rfl; have kR1_3 := K_R.out.c 1 rfl; have kR2_3 := K_R.out.c 2 rfl; have kR3_3 := K_R.out.c 3 rfl; have kR4_3 := K_R.out.c 4 rfl; have kfR_3 := K_R.out.free
    have kF0_4 := K_F.out.c 0 rfl; have kF1_4 := K_F.out.c 1 rfl; have kF2_4 := K_F.out.c 2 rfl; have kF3_4 := K_F.out.c 3 rfl; have kF4_4 := K_F.out.c 4 rfl; have kfF_4 := K_F.out.free
    go_wp2_with fail
    refine bp_forget (fun w' => BlkL w' w.heap.size 31 [.int .i64 t, .int .i64 m, .int .i64 dd, .int .i64 u, .int .i64 b] ∧ Dr w g w') ?_ ?_
    · exact ⟨(((((K_R.out.set 0 _).set 1 _).set 2 _).set 3 _).set 4 _), (((((D_4.out.set (p := ⟨w.heap.size, 0, none⟩) (Nat.le_refl _) hl _).set (p := ⟨w.heap.size, 1, none⟩) (Nat.le_refl _) hl _).set (p := ⟨w.heap.size, 2, none⟩) (Nat.le_refl _) hl _).set (p := ⟨w.heap.size, 3, none⟩) (Nat.le_refl _) hl _).set (p := ⟨w.heap.size, 4, none⟩) (Nat.le_refl _) hl _)⟩
    rintro wz ⟨kz, dz⟩
    have q0 := kz.c 0 rfl
    have q1 := kz.c 1 rfl
    have q2 := kz.c 2 rfl
    have q3 := kz.c 3 rfl
    have q4 := kz.c 4 rfl
    exact bodyPost_ret (v := .agg #[.int .i64 t, .int .i64 m, .int .i64 dd, .int .i64 u, .int .i64 b]) (by simp [results, Try.results249, go_sem, q0, q1, q2, q3, q4]) rfl ⟨_, _, _, _, _, rfl, dz⟩
  have b3 : ((x : Int) == 3) = false := by simp; omega
  by_cases h4 : x = 4
  case pos =>
    subst h4
    go_wp2_with fail
    refine (next_any g 2 _ (D_2.out.alloc _).src).mono ?_
    rintro e w3 ⟨y, rfl, hx_y, d⟩
    replace K_R := Lib.hid (show BlkL w3 (w.heap.size) 31 [.int .i64 0, .int .i64 0, .int .i64 0, .int .i64 0, .int .i64 0] from BlkL.dr (K_R.out.alloc _) d hne_R)
    replace K_F := Lib.hid (show BlkL w3 (w1.heap.size) 31 [.int .i64 t, .int .i64 m, .int .i64 dd, .int .i64 sl, .int .i64 b] from BlkL.dr (K_F.out.alloc _) d hne_F)
    have D_3 := Lib.hid (d.next (D_2.out.alloc _))
    obtain ⟨u, _, hc⟩ := pick_cell (L := [-1, 4294967296]) d.gr D_2.out.lt (x := y) (by simp; omega)
    have hb_y : y < 2 := by omega
    clear d
    have kR0_1 := K_R.out.c 0 rfl; have kR1_1 := K_R.out.c 1 rfl; have kR2_1 := K_R.out.c 2 rfl; have kR3_1 := K_R.out.c 3 rfl; have kR4_1 := K_R.out.c 4 rfl; have kfR_1 := K_R.out.free
    have kF0_2 := K_F.out.c 0 rfl; have kF1_2 := K_F.out.c 1 rfl; have kF2_2 := K_F.out.c 2 rfl; have kF3_2 := K_F.out.c 3 rfl; have kF4_2 := K_F.out.c 4 rfl; have kfF_2 := K_F.out.free
    go_upto_region 13 with fail
    obtain ⟨wS, hwS⟩ : ∃ x, (w3.setCell ⟨w1.heap.size, 4, none⟩ (.int .i64 u)) = x := ⟨_, rfl⟩
    clear kR0_1 kR1_1 kR2_1 kR3_1 kR4_1 kfR_1
    clear kF0_2 kF1_2 kF2_2 kF3_2 kF4_2 kfF_2
    replace K_R := Lib.hid (show BlkL wS (w.heap.size) 31 [.int .i64 0, .int .i64 0, .int .i64 0, .int .i64 0, .int .i64 0] from hwS ▸ (K_R.out.other (p := ⟨w1.heap.size, 4, none⟩) ne_FR _))
    replace K_F := Lib.hid (show BlkL wS (w1.heap.size) 31 [.int .i64 t, .int .i64 m, .int .i64 dd, .int .i64 sl, .int .i64 u] from hwS ▸ (K_F.out.set 4 _))
    have D_4 := Lib.hid (show Dr w g wS from hwS ▸ (D_3.out.set (p := ⟨w1.heap.size, 4, none⟩) hle_F hl _))
    rw [hwS]
    clear hwS
    have kR0_3 := K_R.out.c 0 rfl; have kR1_3 := K_R.out.c 1 rfl; have kR2_3 := K_R.out.c 2 rfl; have kR3_3 := K_R.out.c 3 rfl; have kR4_3 := K_R.out.c 4 rfl; have kfR_3 := K_R.out.free
    have kF0_4 := K_F.out.c 0 rfl; have kF1_4 := K_F.out.c 1 rfl; have kF2_4 := K_F.out.c 2 rfl; have kF3_4 := K_F.out.c 3 rfl; have kF4_4 := K_F.out.c 4 rfl; have kfF_4 := K_F.out.free
    go_wp2_with fail
    refine bp_forget (fun w' => BlkL w' w.heap.size 31 [.int .i64 t, .int .i64 m, .int .i64 dd, .int .i64 sl, .int .i64 u] ∧ Dr w g w') ?_ ?_
    · exact ⟨(((((K_R.out.set 0 _).set 1 _).set 2 _).set 3 _).set 4 _), (((((D_4.out.set (p := ⟨w.heap.size, 0, none⟩) (Nat.le_refl _) hl _).set (p := ⟨w.heap.size, 1, none⟩) (Nat.le_refl _) hl _).set (p := ⟨w.heap.size, 2, none⟩) (Nat.le_refl _) hl _).set (p := ⟨w.heap.size, 3, none⟩) (Nat.le_refl _) hl _).set (p := ⟨w.heap.size, 4, none⟩) (Nat.le_refl _) hl _)⟩
    rintro wz ⟨kz, dz⟩
    have q0 := kz.c 0 rfl
    have q1 := kz.c 1 rfl
    have q2 := kz.c 2 rfl
    have q3 := kz.c 3 rfl
    have q4 := kz.c 4 rfl
    exact bodyPost_ret (v := .agg #[.int .i64 t, .int .i64 m, .int .i64 dd, .int .i64 sl, .int .i64 u]) (by simp [results, Try.results249, go_sem, q0, q1, q2, q3, q4]) rfl ⟨_, _, _, _, _, rfl, dz⟩
  have b4 : ((x : Int) == 4) = false := by simp; omega
  have kR0_1 := K_R.out.c 0 rfl; have kR1_1 := K_R.out.c 1 rfl; have kR2_1 := K_R.out.c 2 rfl; have kR3_1 := K_R.out.c 3 rfl; have kR4_1 := K_R.out.c 4 rfl; have kfR_1 := K_R.out.free
  have kF0_2 := K_F.out.c 0 rfl; have kF1_2 := K_F.out.c 1 rfl; have kF2_2 := K_F.out.c 2 rfl; have kF3_2 := K_F.out.c 3 rfl; have kF4_2 := K_F.out.c 4 rfl; have kfF_2 := K_F.out.free
  go_wp2_with fail
  refine bp_forget (fun w' => BlkL w' w.heap.size 31 [.int .i64 t, .int .i64 m, .int .i64 dd, .int .i64 sl, .int .i64 b] ∧ Dr w g w') ?_ ?_
  · exact ⟨(((((K_R.out.set 0 _).set 1 _).set 2 _).set 3 _).set 4 _), (((((D_2.out.set (p := ⟨w.heap.size, 0, none⟩) (Nat.le_refl _) hl _).set (p := ⟨w.heap.size, 1, none⟩) (Nat.le_refl _) hl _).set (p := ⟨w.heap.size, 2, none⟩) (Nat.le_refl _) hl _).set (p := ⟨w.heap.size, 3, none⟩) (Nat.le_refl _) hl _).set (p := ⟨w.heap.size, 4, none⟩) (Nat.le_refl _) hl _)⟩
  rintro wz ⟨kz, dz⟩
  have q0 := kz.c 0 rfl
  have q1 := kz.c 1 rfl
  have q2 := kz.c 2 rfl
  have q3 := kz.c 3 rfl
  have q4 := kz.c 4 rfl
  exact bodyPost_ret (v := .agg #[.int .i64 t, .int .i64 m, .int .i64 dd, .int .i64 sl, .int .i64 b]) (by simp [results, Try.results249, go_sem, q0, q1, q2, q3, q4]) rfl ⟨_, _, _, _, _, rfl, dz⟩

end Go.Proofs.Ytjehkjdehkdjcaa
