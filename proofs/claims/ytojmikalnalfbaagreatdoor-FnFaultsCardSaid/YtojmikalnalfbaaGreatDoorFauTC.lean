/- FnFaults: a fault is recovered from its text, and undone faults leave the samples as they were, for every code. Conditions: the card's listed variables, as it ties them. -/
import Derived.Test.YtojmikalnalfbaaGreatDoorLzC
import Derived.Test.YtojmikalnalfbaaGreatDoorB9
import Derived.Test.YtojmikalnalfbaaGreatDoorDrwMC
import Derived.Test.YtojmikalnalfbaaGreatDoorFauSC
import Derived.Test.YtojmikalnalfbaaGreatDoorUndPC
import Derived.Test.YtojmikalnalfbaaGreatDoorClsC
import Derived.Deep.RegionHeldLaw
namespace Go.Proofs.YtojmikalnalfbaaGreatDoor
open Go.ChangeShapes Go.WideShapes Go.ChangeAt Go.RowKit
namespace FnFaults
theorem likeX {A2 A3 : Option Addr} {n2 n3 c2 c3 : Nat} {X : List Int} {w : World} (h2 : RI w w.heap.size A2 n2 X) (h3 : RI w w.heap.size A3 n3 X) (hn2 : n2 ≤ 8192) (hn3 : n3 ≤ 8192) : Calls Tryz.prog 15 #[.slice A2 n2 c2, .slice A3 n3 c3] w (RetV w (.bool true)) := by
  have k := likeIntsV A2 A3 n2 n3 c2 c3 X X w h2 h3 (by omega) (by omega)
  rw [eqI_self] at k
  exact k
theorem undo_bits {n : Nat} {b : Bool} {f u : Flt} (h : UndoFault.undo n b f = ⟨u, true⟩) : b = true := by
  cases b
  · unfold UndoFault.undo at h; rw [if_neg (by simp)] at h; cases h
  · rfl
set_option maxRecDepth 100000 in
set_option maxHeartbeats 32000000 in
theorem walk (w : World) (A : Option Addr) (n c : Nat) (bs : List Int) (h : RB w w.heap.size A n bs) (hn : n ≤ maxLen) (hl : LF w) :
    Calls Tryz.prog 3 #[.slice A n c] w fun e w' => e = .returned (.bool true) ∧ Below w.heap.size w w' := by
  rcases bool_cases (decide (4096 < n)) with hbig | hbig
  · clear hl
    go_enter Tryz.func3, Tryz.ntmps3
    go_wp2_with (go_at_call 5; refine (big_any _ _ _ _ hn).mono ?_; rw [hbig]; rintro e w' ⟨rfl, rfl⟩)
    go_ret
    exact ⟨rfl, Below.refl _ _⟩
  have hn4 : n ≤ 4096 := by simpa using hbig
  have B := Lib.hid (Below.refl w.heap.size w)
  have HL := Lib.hid hl
  clear hl
  go_enter Tryz.func3, Tryz.ntmps3
  go_wp2_with (go_at_call 5; refine (big_any _ _ _ _ hn).mono ?_; rw [hbig]; rintro e w' ⟨rfl, rfl⟩)
  clear hbig hn
  refine (drawApplyFault_any A n c bs _ h (by omega)).mono ?_
  rintro e w1 ⟨A_s, n_s, c_s, z_s, f, rfl, o_s, hn_s, hb⟩
  replace B := Lib.hid (below_next hb B.out (Nat.le_refl _))
  replace HL := Lib.hid (HL.out.up hb)
  have r_s := o_s.reads
  have L_s := Lib.hid o_s.len
  have non_s := Lib.hid (own_none o_s)
  have cap_s := o_s.cap
  have pl_s := Lib.hid o_s.pl
  clear hb o_s
  obtain ⟨wz, hz⟩ : ∃ x, w1.alloc (.cells #[.int .i64 0, .int .i64 0, .int .i64 0, .int .i64 0] 26) = x := ⟨_, rfl⟩
  have hK := Blk4.new w1 26 (.int .i64 0) (.int .i64 0) (.int .i64 0) (.int .i64 0)
  have hba := (Below.refl w1.heap.size w1).alloc (Nat.le_refl _) (o := .cells #[.int .i64 0, .int .i64 0, .int .i64 0, .int .i64 0] 26)
  rw [hz] at hK hba
  have k0 := hK.c0; have k1 := hK.c1; have k2 := hK.c2; have k3 := hK.c3; have kf := hK.free
  go_upto_region 4 with (rw [hz])
  obtain ⟨uf, hu⟩ : ∃ x, ((((wz.setCell ⟨w1.heap.size, 0, none⟩ (.int .i64 f.kd)).setCell ⟨w1.heap.size, 1, none⟩ (.int .i64 f.pos)).setCell ⟨w1.heap.size, 2, none⟩ (.int .i64 f.len)).setCell ⟨w1.heap.size, 3, none⟩ (.int .i64 f.val)) = x := ⟨_, rfl⟩
  have Kf := Lib.hid (hu ▸ hK.all : Blk4 uf w1.heap.size 26 (.int .i64 f.kd) (.int .i64 f.pos) (.int .i64 f.len) (.int .i64 f.val))
  have hb := ((((hba.setCell (p := ⟨w1.heap.size, 0, none⟩) (Nat.le_refl _) (.int .i64 f.kd)).setCell (p := ⟨w1.heap.size, 1, none⟩) (Nat.le_refl _) (.int .i64 f.pos)).setCell (p := ⟨w1.heap.size, 2, none⟩) (Nat.le_refl _) (.int .i64 f.len)).setCell (p := ⟨w1.heap.size, 3, none⟩) (Nat.le_refl _) (.int .i64 f.val))
  rw [hu] at hb ⊢
  replace B := Lib.hid (below_next hb B.out (Nat.le_refl _))
  replace HL := Lib.hid (HL.out.up hb)
  replace r_s := r_s.up hb
  clear hb hu hK hba hz k0 k1 k2 k3 kf
  obtain ⟨X, hX⟩ : ∃ x, ApplyFault.res z_s f = x := ⟨_, rfl⟩
  obtain ⟨q, hq⟩ : ∃ x, ApplyFault.cod z_s f = x := ⟨_, rfl⟩
  have HX := Lib.hid hX
  have HQ := Lib.hid hq
  have HXL := Lib.hid (show X.length ≤ 8192 by rw [← hX]; exact ApplyFault.res_len _ _)
  clear hX hq
  obtain ⟨⟨u, ok⟩, hU⟩ : ∃ x, UndoFault.undo n_s (isBits z_s) f = x := ⟨_, rfl⟩
  have HU := Lib.hid hU
  clear hU
  obtain ⟨T, hT⟩ : ∃ T : ByteArray, (⟨(ftxt f).toArray⟩ : ByteArray) = T := ⟨_, rfl⟩
  have HT := Lib.hid hT
  have hTs : T.size ≤ 46 := by rw [← hT, mk_size]; exact ftxt_len f
  have HTD := Lib.hid (show T.data.toList = ftxt f by rw [← hT])
  clear hT
  obtain ⟨y, rd, hY⟩ : ∃ y r, rdF (ftxt f) = (y, r) := ⟨_, _, rfl⟩
  have HY := Lib.hid hY
  clear hY
  have cf0 := Kf.out.c0; have cf1 := Kf.out.c1; have cf2 := Kf.out.c2; have cf3 := Kf.out.c3
  go_wp2_with fail
  refine (apI A_s n_s c_s z_s f _ r_s (by omega) non_s.out).mono ?_
  rw [HX.out, HQ.out]
  rintro e w2 ⟨A_x, n_x, c_x, rfl, o_x, hb⟩
  replace B := Lib.hid (below_next hb B.out (Nat.le_refl _))
  replace HL := Lib.hid (HL.out.up hb)
  replace Kf := Lib.hid (Blk4.next hb Kf.out)
  replace r_s := r_s.up hb
  have r_x := o_x.reads
  have L_x := Lib.hid o_x.len
  have non_x := Lib.hid (own_none o_x)
  clear hb o_x
  clear cf0 cf1 cf2 cf3
  have cf0 := Kf.out.c0; have cf1 := Kf.out.c1; have cf2 := Kf.out.c2; have cf3 := Kf.out.c3
  go_wp2_with fail
  refine (apS A_s n_s c_s z_s f _ r_s (by omega) pl_s.out cap_s.1 cap_s.2).mono ?_
  rw [HX.out, HQ.out]
  rintro e w3 ⟨A_m, n_m, c_m, rfl, o_m, hb⟩
  replace B := Lib.hid (below_next hb B.out (Nat.le_refl _))
  replace HL := Lib.hid (HL.out.up hb)
  replace Kf := Lib.hid (Blk4.next hb Kf.out)
  replace r_s := r_s.up hb
  replace r_x := r_x.up hb
  have r_m := o_m.reads
  have L_m := Lib.hid o_m.len
  have non_m := Lib.hid (own_none o_m)
  clear hb o_m
  clear cf0 cf1 cf2 cf3
  have cf0 := Kf.out.c0; have cf1 := Kf.out.c1; have cf2 := Kf.out.c2; have cf3 := Kf.out.c3
  go_wp2_with fail
  refine (unI A_s n_s c_s z_s f u ok _ r_s (by omega) HU.out).mono ?_
  rintro e w4 ⟨rfl, hb⟩
  replace B := Lib.hid (below_next hb B.out (Nat.le_refl _))
  replace HL := Lib.hid (HL.out.up hb)
  replace Kf := Lib.hid (Blk4.next hb Kf.out)
  replace r_s := r_s.up hb
  replace r_x := r_x.up hb
  replace r_m := r_m.up hb
  clear hb 
  clear cf0 cf1 cf2 cf3
  obtain ⟨wz, hz⟩ : ∃ x, w4.alloc (.cells #[.int .i64 0, .int .i64 0, .int .i64 0, .int .i64 0] 26) = x := ⟨_, rfl⟩
  have hK := Blk4.new w4 26 (.int .i64 0) (.int .i64 0) (.int .i64 0) (.int .i64 0)
  have hba := (Below.refl w4.heap.size w4).alloc (Nat.le_refl _) (o := .cells #[.int .i64 0, .int .i64 0, .int .i64 0, .int .i64 0] 26)
  rw [hz] at hK hba
  have k0 := hK.c0; have k1 := hK.c1; have k2 := hK.c2; have k3 := hK.c3; have kf := hK.free
  go_upto_region 7 with (rw [hz])
  obtain ⟨uu, hu⟩ : ∃ x, ((((wz.setCell ⟨w4.heap.size, 0, none⟩ (.int .i64 u.kd)).setCell ⟨w4.heap.size, 1, none⟩ (.int .i64 u.pos)).setCell ⟨w4.heap.size, 2, none⟩ (.int .i64 u.len)).setCell ⟨w4.heap.size, 3, none⟩ (.int .i64 u.val)) = x := ⟨_, rfl⟩
  have Ku := Lib.hid (hu ▸ hK.all : Blk4 uu w4.heap.size 26 (.int .i64 u.kd) (.int .i64 u.pos) (.int .i64 u.len) (.int .i64 u.val))
  have hb := ((((hba.setCell (p := ⟨w4.heap.size, 0, none⟩) (Nat.le_refl _) (.int .i64 u.kd)).setCell (p := ⟨w4.heap.size, 1, none⟩) (Nat.le_refl _) (.int .i64 u.pos)).setCell (p := ⟨w4.heap.size, 2, none⟩) (Nat.le_refl _) (.int .i64 u.len)).setCell (p := ⟨w4.heap.size, 3, none⟩) (Nat.le_refl _) (.int .i64 u.val))
  rw [hu] at hb ⊢
  replace B := Lib.hid (below_next hb B.out (Nat.le_refl _))
  replace HL := Lib.hid (HL.out.up hb)
  replace Kf := Lib.hid (Blk4.next hb Kf.out)
  replace r_s := r_s.up hb
  replace r_x := r_x.up hb
  replace r_m := r_m.up hb
  clear hb hu hK hba hz k0 k1 k2 k3 kf
  have cf0 := Kf.out.c0; have cf1 := Kf.out.c1; have cf2 := Kf.out.c2; have cf3 := Kf.out.c3
  go_wp2_with fail
  refine (unS A_s n_s c_s z_s f u ok _ r_s (by omega) HU.out).mono ?_
  rintro e w5 ⟨rfl, hb⟩
  replace B := Lib.hid (below_next hb B.out (Nat.le_refl _))
  replace HL := Lib.hid (HL.out.up hb)
  replace Kf := Lib.hid (Blk4.next hb Kf.out)
  replace Ku := Lib.hid (Blk4.next hb Ku.out)
  replace r_s := r_s.up hb
  replace r_x := r_x.up hb
  replace r_m := r_m.up hb
  clear hb 
  clear cf0 cf1 cf2 cf3
  obtain ⟨wz, hz⟩ : ∃ x, w5.alloc (.cells #[.int .i64 0, .int .i64 0, .int .i64 0, .int .i64 0] 26) = x := ⟨_, rfl⟩
  have hK := Blk4.new w5 26 (.int .i64 0) (.int .i64 0) (.int .i64 0) (.int .i64 0)
  have hba := (Below.refl w5.heap.size w5).alloc (Nat.le_refl _) (o := .cells #[.int .i64 0, .int .i64 0, .int .i64 0, .int .i64 0] 26)
  rw [hz] at hK hba
  have k0 := hK.c0; have k1 := hK.c1; have k2 := hK.c2; have k3 := hK.c3; have kf := hK.free
  go_upto_region 8 with (rw [hz])
  obtain ⟨ud, hu⟩ : ∃ x, ((((wz.setCell ⟨w5.heap.size, 0, none⟩ (.int .i64 u.kd)).setCell ⟨w5.heap.size, 1, none⟩ (.int .i64 u.pos)).setCell ⟨w5.heap.size, 2, none⟩ (.int .i64 u.len)).setCell ⟨w5.heap.size, 3, none⟩ (.int .i64 u.val)) = x := ⟨_, rfl⟩
  have Kd := Lib.hid (hu ▸ hK.all : Blk4 ud w5.heap.size 26 (.int .i64 u.kd) (.int .i64 u.pos) (.int .i64 u.len) (.int .i64 u.val))
  have hb := ((((hba.setCell (p := ⟨w5.heap.size, 0, none⟩) (Nat.le_refl _) (.int .i64 u.kd)).setCell (p := ⟨w5.heap.size, 1, none⟩) (Nat.le_refl _) (.int .i64 u.pos)).setCell (p := ⟨w5.heap.size, 2, none⟩) (Nat.le_refl _) (.int .i64 u.len)).setCell (p := ⟨w5.heap.size, 3, none⟩) (Nat.le_refl _) (.int .i64 u.val))
  rw [hu] at hb ⊢
  replace B := Lib.hid (below_next hb B.out (Nat.le_refl _))
  replace HL := Lib.hid (HL.out.up hb)
  replace Kf := Lib.hid (Blk4.next hb Kf.out)
  replace Ku := Lib.hid (Blk4.next hb Ku.out)
  replace r_s := r_s.up hb
  replace r_x := r_x.up hb
  replace r_m := r_m.up hb
  clear hb hu hK hba hz k0 k1 k2 k3 kf
  have cf0 := Kf.out.c0; have cf1 := Kf.out.c1; have cf2 := Kf.out.c2; have cf3 := Kf.out.c3
  go_wp2_with fail
  refine (ftI f T _ HL.out.tb HT.out).mono ?_
  rintro e w6 ⟨rfl, hb⟩
  replace B := Lib.hid (below_next hb B.out (Nat.le_refl _))
  replace HL := Lib.hid (HL.out.up hb)
  replace Kf := Lib.hid (Blk4.next hb Kf.out)
  replace Ku := Lib.hid (Blk4.next hb Ku.out)
  replace Kd := Lib.hid (Blk4.next hb Kd.out)
  replace r_s := r_s.up hb
  replace r_x := r_x.up hb
  replace r_m := r_m.up hb
  clear hb 
  clear cf0 cf1 cf2 cf3
  go_wp2_with fail
  refine (rdI T y rd _ (by omega) HL.out (by rw [HTD.out]; exact HY.out)).mono ?_
  rintro e w7 ⟨rfl, hb⟩
  replace B := Lib.hid (below_next hb B.out (Nat.le_refl _))
  replace HL := Lib.hid (HL.out.up hb)
  replace Kf := Lib.hid (Blk4.next hb Kf.out)
  replace Ku := Lib.hid (Blk4.next hb Ku.out)
  replace Kd := Lib.hid (Blk4.next hb Kd.out)
  replace r_s := r_s.up hb
  replace r_x := r_x.up hb
  replace r_m := r_m.up hb
  clear hb 
  obtain ⟨wz, hz⟩ : ∃ x, w7.alloc (.cells #[.int .i64 0, .int .i64 0, .int .i64 0, .int .i64 0] 26) = x := ⟨_, rfl⟩
  have hK := Blk4.new w7 26 (.int .i64 0) (.int .i64 0) (.int .i64 0) (.int .i64 0)
  have hba := (Below.refl w7.heap.size w7).alloc (Nat.le_refl _) (o := .cells #[.int .i64 0, .int .i64 0, .int .i64 0, .int .i64 0] 26)
  rw [hz] at hK hba
  have k0 := hK.c0; have k1 := hK.c1; have k2 := hK.c2; have k3 := hK.c3; have kf := hK.free
  go_upto_region 10 with (rw [hz])
  obtain ⟨uy, hu⟩ : ∃ x, ((((wz.setCell ⟨w7.heap.size, 0, none⟩ (.int .i64 y.kd)).setCell ⟨w7.heap.size, 1, none⟩ (.int .i64 y.pos)).setCell ⟨w7.heap.size, 2, none⟩ (.int .i64 y.len)).setCell ⟨w7.heap.size, 3, none⟩ (.int .i64 y.val)) = x := ⟨_, rfl⟩
  have Ky := Lib.hid (hu ▸ hK.all : Blk4 uy w7.heap.size 26 (.int .i64 y.kd) (.int .i64 y.pos) (.int .i64 y.len) (.int .i64 y.val))
  have hb := ((((hba.setCell (p := ⟨w7.heap.size, 0, none⟩) (Nat.le_refl _) (.int .i64 y.kd)).setCell (p := ⟨w7.heap.size, 1, none⟩) (Nat.le_refl _) (.int .i64 y.pos)).setCell (p := ⟨w7.heap.size, 2, none⟩) (Nat.le_refl _) (.int .i64 y.len)).setCell (p := ⟨w7.heap.size, 3, none⟩) (Nat.le_refl _) (.int .i64 y.val))
  rw [hu] at hb ⊢
  replace B := Lib.hid (below_next hb B.out (Nat.le_refl _))
  replace HL := Lib.hid (HL.out.up hb)
  replace Kf := Lib.hid (Blk4.next hb Kf.out)
  replace Ku := Lib.hid (Blk4.next hb Ku.out)
  replace Kd := Lib.hid (Blk4.next hb Kd.out)
  replace r_s := r_s.up hb
  replace r_x := r_x.up hb
  replace r_m := r_m.up hb
  clear hb hu hK hba hz k0 k1 k2 k3 kf
  go_wp2_with fail
  refine (drawReadFault_any A n c bs _ ((h.below B.out (Nat.le_refl _)).more B.out.size) (by omega)).mono ?_
  rintro e w8 ⟨W, rfl, hW, hb⟩
  replace B := Lib.hid (below_next hb B.out (Nat.le_refl _))
  replace HL := Lib.hid (HL.out.up hb)
  replace Kf := Lib.hid (Blk4.next hb Kf.out)
  replace Ku := Lib.hid (Blk4.next hb Ku.out)
  replace Kd := Lib.hid (Blk4.next hb Kd.out)
  replace Ky := Lib.hid (Blk4.next hb Ky.out)
  replace r_s := r_s.up hb
  replace r_x := r_x.up hb
  replace r_m := r_m.up hb
  clear hb 
  obtain ⟨z, two, hZ⟩ : ∃ z r, rdF W.data.toList = (z, r) := ⟨_, _, rfl⟩
  have HZ := Lib.hid hZ
  clear hZ
  go_wp2_with fail
  refine (rdI W z two _ hW HL.out HZ.out).mono ?_
  rintro e w9 ⟨rfl, hb⟩
  replace B := Lib.hid (below_next hb B.out (Nat.le_refl _))
  replace HL := Lib.hid (HL.out.up hb)
  replace Kf := Lib.hid (Blk4.next hb Kf.out)
  replace Ku := Lib.hid (Blk4.next hb Ku.out)
  replace Kd := Lib.hid (Blk4.next hb Kd.out)
  replace Ky := Lib.hid (Blk4.next hb Ky.out)
  replace r_s := r_s.up hb
  replace r_x := r_x.up hb
  replace r_m := r_m.up hb
  clear hb 
  obtain ⟨wz, hz⟩ : ∃ x, w9.alloc (.cells #[.int .i64 0, .int .i64 0, .int .i64 0, .int .i64 0] 26) = x := ⟨_, rfl⟩
  have hK := Blk4.new w9 26 (.int .i64 0) (.int .i64 0) (.int .i64 0) (.int .i64 0)
  have hba := (Below.refl w9.heap.size w9).alloc (Nat.le_refl _) (o := .cells #[.int .i64 0, .int .i64 0, .int .i64 0, .int .i64 0] 26)
  rw [hz] at hK hba
  have k0 := hK.c0; have k1 := hK.c1; have k2 := hK.c2; have k3 := hK.c3; have kf := hK.free
  go_upto_region 12 with (rw [hz])
  obtain ⟨uz, hu⟩ : ∃ x, ((((wz.setCell ⟨w9.heap.size, 0, none⟩ (.int .i64 z.kd)).setCell ⟨w9.heap.size, 1, none⟩ (.int .i64 z.pos)).setCell ⟨w9.heap.size, 2, none⟩ (.int .i64 z.len)).setCell ⟨w9.heap.size, 3, none⟩ (.int .i64 z.val)) = x := ⟨_, rfl⟩
  have Kz := Lib.hid (hu ▸ hK.all : Blk4 uz w9.heap.size 26 (.int .i64 z.kd) (.int .i64 z.pos) (.int .i64 z.len) (.int .i64 z.val))
  have hb := ((((hba.setCell (p := ⟨w9.heap.size, 0, none⟩) (Nat.le_refl _) (.int .i64 z.kd)).setCell (p := ⟨w9.heap.size, 1, none⟩) (Nat.le_refl _) (.int .i64 z.pos)).setCell (p := ⟨w9.heap.size, 2, none⟩) (Nat.le_refl _) (.int .i64 z.len)).setCell (p := ⟨w9.heap.size, 3, none⟩) (Nat.le_refl _) (.int .i64 z.val))
  rw [hu] at hb ⊢
  replace B := Lib.hid (below_next hb B.out (Nat.le_refl _))
  replace HL := Lib.hid (HL.out.up hb)
  replace Kf := Lib.hid (Blk4.next hb Kf.out)
  replace Ku := Lib.hid (Blk4.next hb Ku.out)
  replace Kd := Lib.hid (Blk4.next hb Kd.out)
  replace Ky := Lib.hid (Blk4.next hb Ky.out)
  replace r_s := r_s.up hb
  replace r_x := r_x.up hb
  replace r_m := r_m.up hb
  clear hb hu hK hba hz k0 k1 k2 k3 kf
  go_wp2_with fail
  refine (rdS' W z two _ hW HZ.out).mono ?_
  rintro e w10 ⟨rfl, hb⟩
  replace B := Lib.hid (below_next hb B.out (Nat.le_refl _))
  replace HL := Lib.hid (HL.out.up hb)
  replace Kf := Lib.hid (Blk4.next hb Kf.out)
  replace Ku := Lib.hid (Blk4.next hb Ku.out)
  replace Kd := Lib.hid (Blk4.next hb Kd.out)
  replace Ky := Lib.hid (Blk4.next hb Ky.out)
  replace Kz := Lib.hid (Blk4.next hb Kz.out)
  replace r_s := r_s.up hb
  replace r_x := r_x.up hb
  replace r_m := r_m.up hb
  clear hb 
  obtain ⟨wz, hz⟩ : ∃ x, w10.alloc (.cells #[.int .i64 0, .int .i64 0, .int .i64 0, .int .i64 0] 26) = x := ⟨_, rfl⟩
  have hK := Blk4.new w10 26 (.int .i64 0) (.int .i64 0) (.int .i64 0) (.int .i64 0)
  have hba := (Below.refl w10.heap.size w10).alloc (Nat.le_refl _) (o := .cells #[.int .i64 0, .int .i64 0, .int .i64 0, .int .i64 0] 26)
  rw [hz] at hK hba
  have k0 := hK.c0; have k1 := hK.c1; have k2 := hK.c2; have k3 := hK.c3; have kf := hK.free
  go_upto_region 13 with (rw [hz])
  obtain ⟨uw, hu⟩ : ∃ x, ((((wz.setCell ⟨w10.heap.size, 0, none⟩ (.int .i64 z.kd)).setCell ⟨w10.heap.size, 1, none⟩ (.int .i64 z.pos)).setCell ⟨w10.heap.size, 2, none⟩ (.int .i64 z.len)).setCell ⟨w10.heap.size, 3, none⟩ (.int .i64 z.val)) = x := ⟨_, rfl⟩
  have Kw := Lib.hid (hu ▸ hK.all : Blk4 uw w10.heap.size 26 (.int .i64 z.kd) (.int .i64 z.pos) (.int .i64 z.len) (.int .i64 z.val))
  have hb := ((((hba.setCell (p := ⟨w10.heap.size, 0, none⟩) (Nat.le_refl _) (.int .i64 z.kd)).setCell (p := ⟨w10.heap.size, 1, none⟩) (Nat.le_refl _) (.int .i64 z.pos)).setCell (p := ⟨w10.heap.size, 2, none⟩) (Nat.le_refl _) (.int .i64 z.len)).setCell (p := ⟨w10.heap.size, 3, none⟩) (Nat.le_refl _) (.int .i64 z.val))
  rw [hu] at hb ⊢
  replace B := Lib.hid (below_next hb B.out (Nat.le_refl _))
  replace HL := Lib.hid (HL.out.up hb)
  replace Kf := Lib.hid (Blk4.next hb Kf.out)
  replace Ku := Lib.hid (Blk4.next hb Ku.out)
  replace Kd := Lib.hid (Blk4.next hb Kd.out)
  replace Ky := Lib.hid (Blk4.next hb Ky.out)
  replace Kz := Lib.hid (Blk4.next hb Kz.out)
  replace r_s := r_s.up hb
  replace r_x := r_x.up hb
  replace r_m := r_m.up hb
  clear hb hu hK hba hz k0 k1 k2 k3 kf
  have hVS : FSt w w.heap.size w1.heap.size w4.heap.size w5.heap.size w7.heap.size w9.heap.size w10.heap.size f u y z A_s A_x A_m n_s c_s n_x c_x n_m c_m z_s X uw := ⟨B.out, Kf.out, Ku.out, Kd.out, Ky.out, Kz.out, Kw.out, r_s, r_x, r_m, Nat.le_refl _⟩
  clear B Kf Ku Kd Ky Kz Kw r_s r_x r_m hW HZ
  obtain ⟨I, hI⟩ : ∃ v, isFault f = v := ⟨_, rfl⟩
  have HI := Lib.hid hI
  clear hI
  have hXl := HXL.out
  have hxl := L_x.out
  have hml := L_m.out
  have hnx : n_x ≤ 8192 := by omega
  have hnm : n_m ≤ 8192 := by omega
  have hk := ftxt_cases f
  rw [HT.out, HY.out] at hk
  go_cut [128] (fun v wz => v = .bool false ∧ FSt w w.heap.size w1.heap.size w4.heap.size w5.heap.size w7.heap.size w9.heap.size w10.heap.size f u y z A_s A_x A_m n_s c_s n_x c_x n_m c_m z_s X wz)
  case first =>
    rcases hk with ⟨t0, tl, rfl, hrd⟩ | ⟨rfl, y0, hrd⟩
    case inl =>
      have ey := (Prod.mk.inj hrd).1.symm
      have er := (Prod.mk.inj hrd).2
      subst ey
      subst er
      clear hrd hTs
      have hV0 := FSt.drew hVS
      have kbf0 : ∀ x : Cls (fun v => FSt w w.heap.size w1.heap.size w4.heap.size w5.heap.size w7.heap.size w9.heap.size w10.heap.size f u f z A_s A_x A_m n_s c_s n_x c_x n_m c_m z_s X v), x.w.cell? ⟨w1.heap.size, 0, none⟩ = some (.int .i64 f.kd) := fun x => x.h.kbf.c 0 rfl
      have kbf1 : ∀ x : Cls (fun v => FSt w w.heap.size w1.heap.size w4.heap.size w5.heap.size w7.heap.size w9.heap.size w10.heap.size f u f z A_s A_x A_m n_s c_s n_x c_x n_m c_m z_s X v), x.w.cell? ⟨w1.heap.size, 1, none⟩ = some (.int .i64 f.pos) := fun x => x.h.kbf.c 1 rfl
      have kbf2 : ∀ x : Cls (fun v => FSt w w.heap.size w1.heap.size w4.heap.size w5.heap.size w7.heap.size w9.heap.size w10.heap.size f u f z A_s A_x A_m n_s c_s n_x c_x n_m c_m z_s X v), x.w.cell? ⟨w1.heap.size, 2, none⟩ = some (.int .i64 f.len) := fun x => x.h.kbf.c 2 rfl
      have kbf3 : ∀ x : Cls (fun v => FSt w w.heap.size w1.heap.size w4.heap.size w5.heap.size w7.heap.size w9.heap.size w10.heap.size f u f z A_s A_x A_m n_s c_s n_x c_x n_m c_m z_s X v), x.w.cell? ⟨w1.heap.size, 3, none⟩ = some (.int .i64 f.val) := fun x => x.h.kbf.c 3 rfl
      have kbu0 : ∀ x : Cls (fun v => FSt w w.heap.size w1.heap.size w4.heap.size w5.heap.size w7.heap.size w9.heap.size w10.heap.size f u f z A_s A_x A_m n_s c_s n_x c_x n_m c_m z_s X v), x.w.cell? ⟨w4.heap.size, 0, none⟩ = some (.int .i64 u.kd) := fun x => x.h.kbu.c 0 rfl
      have kbu1 : ∀ x : Cls (fun v => FSt w w.heap.size w1.heap.size w4.heap.size w5.heap.size w7.heap.size w9.heap.size w10.heap.size f u f z A_s A_x A_m n_s c_s n_x c_x n_m c_m z_s X v), x.w.cell? ⟨w4.heap.size, 1, none⟩ = some (.int .i64 u.pos) := fun x => x.h.kbu.c 1 rfl
      have kbu2 : ∀ x : Cls (fun v => FSt w w.heap.size w1.heap.size w4.heap.size w5.heap.size w7.heap.size w9.heap.size w10.heap.size f u f z A_s A_x A_m n_s c_s n_x c_x n_m c_m z_s X v), x.w.cell? ⟨w4.heap.size, 2, none⟩ = some (.int .i64 u.len) := fun x => x.h.kbu.c 2 rfl
      have kbu3 : ∀ x : Cls (fun v => FSt w w.heap.size w1.heap.size w4.heap.size w5.heap.size w7.heap.size w9.heap.size w10.heap.size f u f z A_s A_x A_m n_s c_s n_x c_x n_m c_m z_s X v), x.w.cell? ⟨w4.heap.size, 3, none⟩ = some (.int .i64 u.val) := fun x => x.h.kbu.c 3 rfl
      have kbd0 : ∀ x : Cls (fun v => FSt w w.heap.size w1.heap.size w4.heap.size w5.heap.size w7.heap.size w9.heap.size w10.heap.size f u f z A_s A_x A_m n_s c_s n_x c_x n_m c_m z_s X v), x.w.cell? ⟨w5.heap.size, 0, none⟩ = some (.int .i64 u.kd) := fun x => x.h.kbd.c 0 rfl
      have kbd1 : ∀ x : Cls (fun v => FSt w w.heap.size w1.heap.size w4.heap.size w5.heap.size w7.heap.size w9.heap.size w10.heap.size f u f z A_s A_x A_m n_s c_s n_x c_x n_m c_m z_s X v), x.w.cell? ⟨w5.heap.size, 1, none⟩ = some (.int .i64 u.pos) := fun x => x.h.kbd.c 1 rfl
      have kbd2 : ∀ x : Cls (fun v => FSt w w.heap.size w1.heap.size w4.heap.size w5.heap.size w7.heap.size w9.heap.size w10.heap.size f u f z A_s A_x A_m n_s c_s n_x c_x n_m c_m z_s X v), x.w.cell? ⟨w5.heap.size, 2, none⟩ = some (.int .i64 u.len) := fun x => x.h.kbd.c 2 rfl
      have kbd3 : ∀ x : Cls (fun v => FSt w w.heap.size w1.heap.size w4.heap.size w5.heap.size w7.heap.size w9.heap.size w10.heap.size f u f z A_s A_x A_m n_s c_s n_x c_x n_m c_m z_s X v), x.w.cell? ⟨w5.heap.size, 3, none⟩ = some (.int .i64 u.val) := fun x => x.h.kbd.c 3 rfl
      have kby_0 : ∀ x : Cls (fun v => FSt w w.heap.size w1.heap.size w4.heap.size w5.heap.size w7.heap.size w9.heap.size w10.heap.size f u f z A_s A_x A_m n_s c_s n_x c_x n_m c_m z_s X v), x.w.cell? ⟨w7.heap.size, 0, none⟩ = some (.int .i64 f.kd) := fun x => x.h.kby_.c 0 rfl
      have kby_1 : ∀ x : Cls (fun v => FSt w w.heap.size w1.heap.size w4.heap.size w5.heap.size w7.heap.size w9.heap.size w10.heap.size f u f z A_s A_x A_m n_s c_s n_x c_x n_m c_m z_s X v), x.w.cell? ⟨w7.heap.size, 1, none⟩ = some (.int .i64 f.pos) := fun x => x.h.kby_.c 1 rfl
      have kby_2 : ∀ x : Cls (fun v => FSt w w.heap.size w1.heap.size w4.heap.size w5.heap.size w7.heap.size w9.heap.size w10.heap.size f u f z A_s A_x A_m n_s c_s n_x c_x n_m c_m z_s X v), x.w.cell? ⟨w7.heap.size, 2, none⟩ = some (.int .i64 f.len) := fun x => x.h.kby_.c 2 rfl
      have kby_3 : ∀ x : Cls (fun v => FSt w w.heap.size w1.heap.size w4.heap.size w5.heap.size w7.heap.size w9.heap.size w10.heap.size f u f z A_s A_x A_m n_s c_s n_x c_x n_m c_m z_s X v), x.w.cell? ⟨w7.heap.size, 3, none⟩ = some (.int .i64 f.val) := fun x => x.h.kby_.c 3 rfl
      have kbz0 : ∀ x : Cls (fun v => FSt w w.heap.size w1.heap.size w4.heap.size w5.heap.size w7.heap.size w9.heap.size w10.heap.size f u f z A_s A_x A_m n_s c_s n_x c_x n_m c_m z_s X v), x.w.cell? ⟨w9.heap.size, 0, none⟩ = some (.int .i64 z.kd) := fun x => x.h.kbz.c 0 rfl
      have kbz1 : ∀ x : Cls (fun v => FSt w w.heap.size w1.heap.size w4.heap.size w5.heap.size w7.heap.size w9.heap.size w10.heap.size f u f z A_s A_x A_m n_s c_s n_x c_x n_m c_m z_s X v), x.w.cell? ⟨w9.heap.size, 1, none⟩ = some (.int .i64 z.pos) := fun x => x.h.kbz.c 1 rfl
      have kbz2 : ∀ x : Cls (fun v => FSt w w.heap.size w1.heap.size w4.heap.size w5.heap.size w7.heap.size w9.heap.size w10.heap.size f u f z A_s A_x A_m n_s c_s n_x c_x n_m c_m z_s X v), x.w.cell? ⟨w9.heap.size, 2, none⟩ = some (.int .i64 z.len) := fun x => x.h.kbz.c 2 rfl
      have kbz3 : ∀ x : Cls (fun v => FSt w w.heap.size w1.heap.size w4.heap.size w5.heap.size w7.heap.size w9.heap.size w10.heap.size f u f z A_s A_x A_m n_s c_s n_x c_x n_m c_m z_s X v), x.w.cell? ⟨w9.heap.size, 3, none⟩ = some (.int .i64 z.val) := fun x => x.h.kbz.c 3 rfl
      have kbw0 : ∀ x : Cls (fun v => FSt w w.heap.size w1.heap.size w4.heap.size w5.heap.size w7.heap.size w9.heap.size w10.heap.size f u f z A_s A_x A_m n_s c_s n_x c_x n_m c_m z_s X v), x.w.cell? ⟨w10.heap.size, 0, none⟩ = some (.int .i64 z.kd) := fun x => x.h.kbw.c 0 rfl
      have kbw1 : ∀ x : Cls (fun v => FSt w w.heap.size w1.heap.size w4.heap.size w5.heap.size w7.heap.size w9.heap.size w10.heap.size f u f z A_s A_x A_m n_s c_s n_x c_x n_m c_m z_s X v), x.w.cell? ⟨w10.heap.size, 1, none⟩ = some (.int .i64 z.pos) := fun x => x.h.kbw.c 1 rfl
      have kbw2 : ∀ x : Cls (fun v => FSt w w.heap.size w1.heap.size w4.heap.size w5.heap.size w7.heap.size w9.heap.size w10.heap.size f u f z A_s A_x A_m n_s c_s n_x c_x n_m c_m z_s X v), x.w.cell? ⟨w10.heap.size, 2, none⟩ = some (.int .i64 z.len) := fun x => x.h.kbw.c 2 rfl
      have kbw3 : ∀ x : Cls (fun v => FSt w w.heap.size w1.heap.size w4.heap.size w5.heap.size w7.heap.size w9.heap.size w10.heap.size f u f z A_s A_x A_m n_s c_s n_x c_x n_m c_m z_s X v), x.w.cell? ⟨w10.heap.size, 3, none⟩ = some (.int .i64 z.val) := fun x => x.h.kbw.c 3 rfl
      haveI hne : Nonempty (Cls (fun v => FSt w w.heap.size w1.heap.size w4.heap.size w5.heap.size w7.heap.size w9.heap.size w10.heap.size f u f z A_s A_x A_m n_s c_s n_x c_x n_m c_m z_s X v)) := ⟨⟨_, hV0⟩⟩
      refine wp_region_cls (fun v => FSt w w.heap.size w1.heap.size w4.heap.size w5.heap.size w7.heap.size w9.heap.size w10.heap.size f u f z A_s A_x A_m n_s c_s n_x c_x n_m c_m z_s X v) (by kernel_rfl) (by kernel_rfl) hV0 ?_
      repeat (go_big_quiet_step (first | (go_at_call 16; rename_i x; exact cls_call (fun h1 h2 => FSt.next h1 h2) (ftS f _ _ HT.out)) | (go_at_call 15; rename_i x; exact cls_call (fun h1 h2 => FSt.next h1 h2) (likeX x.h.r2 x.h.r3 (by omega) (by omega))) | (go_at_call 17; rename_i x; exact cls_call (fun h1 h2 => FSt.next h1 h2) (isI f I _ HI.out)) | (go_at_call 18; rename_i x; exact cls_call (fun h1 h2 => FSt.next h1 h2) (isS f I _ HI.out))))
      refine wpQuiet_nil ?_
      rintro _ ⟨x, rfl⟩
      have hv := x.h
      go_wp2_with fail
      go_meet
      exact ⟨rfl, hv⟩
    case inr =>
      have er := (Prod.mk.inj hrd).2
      subst er
      clear hrd hTs
      have hV0 := FSt.drew hVS
      have kbf0 : ∀ x : Cls (fun v => FSt w w.heap.size w1.heap.size w4.heap.size w5.heap.size w7.heap.size w9.heap.size w10.heap.size f u y z A_s A_x A_m n_s c_s n_x c_x n_m c_m z_s X v), x.w.cell? ⟨w1.heap.size, 0, none⟩ = some (.int .i64 f.kd) := fun x => x.h.kbf.c 0 rfl
      have kbf1 : ∀ x : Cls (fun v => FSt w w.heap.size w1.heap.size w4.heap.size w5.heap.size w7.heap.size w9.heap.size w10.heap.size f u y z A_s A_x A_m n_s c_s n_x c_x n_m c_m z_s X v), x.w.cell? ⟨w1.heap.size, 1, none⟩ = some (.int .i64 f.pos) := fun x => x.h.kbf.c 1 rfl
      have kbf2 : ∀ x : Cls (fun v => FSt w w.heap.size w1.heap.size w4.heap.size w5.heap.size w7.heap.size w9.heap.size w10.heap.size f u y z A_s A_x A_m n_s c_s n_x c_x n_m c_m z_s X v), x.w.cell? ⟨w1.heap.size, 2, none⟩ = some (.int .i64 f.len) := fun x => x.h.kbf.c 2 rfl
      have kbf3 : ∀ x : Cls (fun v => FSt w w.heap.size w1.heap.size w4.heap.size w5.heap.size w7.heap.size w9.heap.size w10.heap.size f u y z A_s A_x A_m n_s c_s n_x c_x n_m c_m z_s X v), x.w.cell? ⟨w1.heap.size, 3, none⟩ = some (.int .i64 f.val) := fun x => x.h.kbf.c 3 rfl
      have kbu0 : ∀ x : Cls (fun v => FSt w w.heap.size w1.heap.size w4.heap.size w5.heap.size w7.heap.size w9.heap.size w10.heap.size f u y z A_s A_x A_m n_s c_s n_x c_x n_m c_m z_s X v), x.w.cell? ⟨w4.heap.size, 0, none⟩ = some (.int .i64 u.kd) := fun x => x.h.kbu.c 0 rfl
      have kbu1 : ∀ x : Cls (fun v => FSt w w.heap.size w1.heap.size w4.heap.size w5.heap.size w7.heap.size w9.heap.size w10.heap.size f u y z A_s A_x A_m n_s c_s n_x c_x n_m c_m z_s X v), x.w.cell? ⟨w4.heap.size, 1, none⟩ = some (.int .i64 u.pos) := fun x => x.h.kbu.c 1 rfl
      have kbu2 : ∀ x : Cls (fun v => FSt w w.heap.size w1.heap.size w4.heap.size w5.heap.size w7.heap.size w9.heap.size w10.heap.size f u y z A_s A_x A_m n_s c_s n_x c_x n_m c_m z_s X v), x.w.cell? ⟨w4.heap.size, 2, none⟩ = some (.int .i64 u.len) := fun x => x.h.kbu.c 2 rfl
      have kbu3 : ∀ x : Cls (fun v => FSt w w.heap.size w1.heap.size w4.heap.size w5.heap.size w7.heap.size w9.heap.size w10.heap.size f u y z A_s A_x A_m n_s c_s n_x c_x n_m c_m z_s X v), x.w.cell? ⟨w4.heap.size, 3, none⟩ = some (.int .i64 u.val) := fun x => x.h.kbu.c 3 rfl
      have kbd0 : ∀ x : Cls (fun v => FSt w w.heap.size w1.heap.size w4.heap.size w5.heap.size w7.heap.size w9.heap.size w10.heap.size f u y z A_s A_x A_m n_s c_s n_x c_x n_m c_m z_s X v), x.w.cell? ⟨w5.heap.size, 0, none⟩ = some (.int .i64 u.kd) := fun x => x.h.kbd.c 0 rfl
      have kbd1 : ∀ x : Cls (fun v => FSt w w.heap.size w1.heap.size w4.heap.size w5.heap.size w7.heap.size w9.heap.size w10.heap.size f u y z A_s A_x A_m n_s c_s n_x c_x n_m c_m z_s X v), x.w.cell? ⟨w5.heap.size, 1, none⟩ = some (.int .i64 u.pos) := fun x => x.h.kbd.c 1 rfl
      have kbd2 : ∀ x : Cls (fun v => FSt w w.heap.size w1.heap.size w4.heap.size w5.heap.size w7.heap.size w9.heap.size w10.heap.size f u y z A_s A_x A_m n_s c_s n_x c_x n_m c_m z_s X v), x.w.cell? ⟨w5.heap.size, 2, none⟩ = some (.int .i64 u.len) := fun x => x.h.kbd.c 2 rfl
      have kbd3 : ∀ x : Cls (fun v => FSt w w.heap.size w1.heap.size w4.heap.size w5.heap.size w7.heap.size w9.heap.size w10.heap.size f u y z A_s A_x A_m n_s c_s n_x c_x n_m c_m z_s X v), x.w.cell? ⟨w5.heap.size, 3, none⟩ = some (.int .i64 u.val) := fun x => x.h.kbd.c 3 rfl
      have kby_0 : ∀ x : Cls (fun v => FSt w w.heap.size w1.heap.size w4.heap.size w5.heap.size w7.heap.size w9.heap.size w10.heap.size f u y z A_s A_x A_m n_s c_s n_x c_x n_m c_m z_s X v), x.w.cell? ⟨w7.heap.size, 0, none⟩ = some (.int .i64 y.kd) := fun x => x.h.kby_.c 0 rfl
      have kby_1 : ∀ x : Cls (fun v => FSt w w.heap.size w1.heap.size w4.heap.size w5.heap.size w7.heap.size w9.heap.size w10.heap.size f u y z A_s A_x A_m n_s c_s n_x c_x n_m c_m z_s X v), x.w.cell? ⟨w7.heap.size, 1, none⟩ = some (.int .i64 y.pos) := fun x => x.h.kby_.c 1 rfl
      have kby_2 : ∀ x : Cls (fun v => FSt w w.heap.size w1.heap.size w4.heap.size w5.heap.size w7.heap.size w9.heap.size w10.heap.size f u y z A_s A_x A_m n_s c_s n_x c_x n_m c_m z_s X v), x.w.cell? ⟨w7.heap.size, 2, none⟩ = some (.int .i64 y.len) := fun x => x.h.kby_.c 2 rfl
      have kby_3 : ∀ x : Cls (fun v => FSt w w.heap.size w1.heap.size w4.heap.size w5.heap.size w7.heap.size w9.heap.size w10.heap.size f u y z A_s A_x A_m n_s c_s n_x c_x n_m c_m z_s X v), x.w.cell? ⟨w7.heap.size, 3, none⟩ = some (.int .i64 y.val) := fun x => x.h.kby_.c 3 rfl
      have kbz0 : ∀ x : Cls (fun v => FSt w w.heap.size w1.heap.size w4.heap.size w5.heap.size w7.heap.size w9.heap.size w10.heap.size f u y z A_s A_x A_m n_s c_s n_x c_x n_m c_m z_s X v), x.w.cell? ⟨w9.heap.size, 0, none⟩ = some (.int .i64 z.kd) := fun x => x.h.kbz.c 0 rfl
      have kbz1 : ∀ x : Cls (fun v => FSt w w.heap.size w1.heap.size w4.heap.size w5.heap.size w7.heap.size w9.heap.size w10.heap.size f u y z A_s A_x A_m n_s c_s n_x c_x n_m c_m z_s X v), x.w.cell? ⟨w9.heap.size, 1, none⟩ = some (.int .i64 z.pos) := fun x => x.h.kbz.c 1 rfl
      have kbz2 : ∀ x : Cls (fun v => FSt w w.heap.size w1.heap.size w4.heap.size w5.heap.size w7.heap.size w9.heap.size w10.heap.size f u y z A_s A_x A_m n_s c_s n_x c_x n_m c_m z_s X v), x.w.cell? ⟨w9.heap.size, 2, none⟩ = some (.int .i64 z.len) := fun x => x.h.kbz.c 2 rfl
      have kbz3 : ∀ x : Cls (fun v => FSt w w.heap.size w1.heap.size w4.heap.size w5.heap.size w7.heap.size w9.heap.size w10.heap.size f u y z A_s A_x A_m n_s c_s n_x c_x n_m c_m z_s X v), x.w.cell? ⟨w9.heap.size, 3, none⟩ = some (.int .i64 z.val) := fun x => x.h.kbz.c 3 rfl
      have kbw0 : ∀ x : Cls (fun v => FSt w w.heap.size w1.heap.size w4.heap.size w5.heap.size w7.heap.size w9.heap.size w10.heap.size f u y z A_s A_x A_m n_s c_s n_x c_x n_m c_m z_s X v), x.w.cell? ⟨w10.heap.size, 0, none⟩ = some (.int .i64 z.kd) := fun x => x.h.kbw.c 0 rfl
      have kbw1 : ∀ x : Cls (fun v => FSt w w.heap.size w1.heap.size w4.heap.size w5.heap.size w7.heap.size w9.heap.size w10.heap.size f u y z A_s A_x A_m n_s c_s n_x c_x n_m c_m z_s X v), x.w.cell? ⟨w10.heap.size, 1, none⟩ = some (.int .i64 z.pos) := fun x => x.h.kbw.c 1 rfl
      have kbw2 : ∀ x : Cls (fun v => FSt w w.heap.size w1.heap.size w4.heap.size w5.heap.size w7.heap.size w9.heap.size w10.heap.size f u y z A_s A_x A_m n_s c_s n_x c_x n_m c_m z_s X v), x.w.cell? ⟨w10.heap.size, 2, none⟩ = some (.int .i64 z.len) := fun x => x.h.kbw.c 2 rfl
      have kbw3 : ∀ x : Cls (fun v => FSt w w.heap.size w1.heap.size w4.heap.size w5.heap.size w7.heap.size w9.heap.size w10.heap.size f u y z A_s A_x A_m n_s c_s n_x c_x n_m c_m z_s X v), x.w.cell? ⟨w10.heap.size, 3, none⟩ = some (.int .i64 z.val) := fun x => x.h.kbw.c 3 rfl
      haveI hne : Nonempty (Cls (fun v => FSt w w.heap.size w1.heap.size w4.heap.size w5.heap.size w7.heap.size w9.heap.size w10.heap.size f u y z A_s A_x A_m n_s c_s n_x c_x n_m c_m z_s X v)) := ⟨⟨_, hV0⟩⟩
      refine wp_region_cls (fun v => FSt w w.heap.size w1.heap.size w4.heap.size w5.heap.size w7.heap.size w9.heap.size w10.heap.size f u y z A_s A_x A_m n_s c_s n_x c_x n_m c_m z_s X v) (by kernel_rfl) (by kernel_rfl) hV0 ?_
      repeat (go_big_quiet_step (first | (go_at_call 16; rename_i x; exact cls_call (fun h1 h2 => FSt.next h1 h2) (ftS f _ _ HT.out)) | (go_at_call 15; rename_i x; exact cls_call (fun h1 h2 => FSt.next h1 h2) (likeX x.h.r2 x.h.r3 (by omega) (by omega))) | (go_at_call 17; rename_i x; exact cls_call (fun h1 h2 => FSt.next h1 h2) (isI f I _ HI.out)) | (go_at_call 18; rename_i x; exact cls_call (fun h1 h2 => FSt.next h1 h2) (isS f I _ HI.out))))
      refine wpQuiet_nil ?_
      rintro _ ⟨x, rfl⟩
      have hv := x.h
      go_wp2_with fail
      go_meet
      exact ⟨rfl, hv⟩
  case rest =>
    obtain ⟨rfl, hvs⟩ := hcut
    clear hVS HT HTD HY HI hk hTs
    rcases (show q = 0 ∨ ((q == 0) = false ∧ (q != 0) = true) by by_cases h : q = 0; {exact Or.inl h}; {exact Or.inr ⟨by simp [h], by simp [h]⟩}) with rfl | ⟨h1, h2⟩
    case inr =>
      go_wp2
      go_ret
      exact ⟨rfl, hvs.bel⟩
    cases ok
    case false =>
      go_wp2
      go_ret
      exact ⟨rfl, hvs.bel⟩
    have hz := undo_bits HU.out
    have hu : UndoFault.undo z_s.length (isBits z_s) f = ⟨u, true⟩ := by rw [L_s.out]; exact HU.out
    obtain ⟨f1, f2, f3⟩ := undo_law hu
    have eX : X = appF z_s f := by rw [← HX.out]; unfold ApplyFault.res; rw [if_pos ⟨hz, f1⟩]
    have bX : isBits X = true := by rw [eX]; exact appF_bits hz f1
    have R1 : ApplyFault.res X u = z_s := by unfold ApplyFault.res; rw [if_pos ⟨bX, f2⟩, eX, f3]
    have R2 : ApplyFault.cod X u = 0 := by unfold ApplyFault.cod; rw [if_pos bX, if_pos f2]
    have hs8 : n_s ≤ 8192 := by have := isBits_len hz; have := L_s.out; omega
    have R1 := Lib.hid R1; have R2 := Lib.hid R2
    clear hu f1 f2 f3 eX bX hz HU HX HQ
    have c0 := hvs.kbu.c 0 rfl; have c1 := hvs.kbu.c 1 rfl; have c2 := hvs.kbu.c 2 rfl; have c3 := hvs.kbu.c 3 rfl
    go_wp2_with fail
    refine (apI A_x n_x c_x X u _ hvs.r2 (by omega) non_x.out).mono ?_
    rw [R1.out, R2.out]
    rintro e wd ⟨A_b, n_b, c_b, rfl, o_b, hb⟩
    clear c0 c1 c2 c3
    replace hvs := FSt.next hvs hb
    have r_b := o_b.reads
    have L_b := o_b.len
    clear hb o_b
    go_wp2_with fail
    refine (likeX r_b hvs.r1 (by have := L_s.out; omega) hs8).mono ?_
    rintro e we ⟨rfl, hb⟩
    replace hvs := FSt.next hvs hb
    go_wp2_with fail
    go_ret
    exact ⟨rfl, hvs.bel⟩

set_option maxRecDepth 100000 in
theorem contract (H : Type) (enc : TypeId × Value → H) (W : World) (base : Nat) (args : Array Value) (ds gs : List (DataW H)) (before : List MemPlace)
    (hval : ∀ (j : Nat) t v, Tryz.f3.params[j]? = some t → args[j]? = some v → Value.okWide Tryz.prog W .any base t v)
    (hW : DataW.Whole enc Tryz.prog Tryz.f3.params.toList Rows.fnFaultsSpec.vars false W args.toList ds gs before) (hL : laidMetH Tryz.prog Rows.fnFaultsRow.laid W) (hsh : W.ShapedOpen Tryz.prog) :
    Calls Tryz.prog 3 args W fun e W' => ∃ v, e = .returned v ∧ Rows.fnFaultsSpec.post enc Tryz.prog Tryz.f3 false true false false W args v W' := by
  have hW' := hW
  obtain ⟨p, q, hA0, hV, rfl, hfz, hnd⟩ := hW
  have hA : DataW.TrodAll enc Tryz.prog W 0 (fun _ => true) true Tryz.f3.params.toList args.toList ds p := hA0
  rw [Tryz.params3] at hA hval
  obtain ⟨v0, vs0, d0, ds0, p0, q0, hargs, rfl, rfl, h0, r0⟩ := trodAll_cons hA
  obtain ⟨rfl, rfl, rfl⟩ := trodAll_nil r0
  obtain rfl : args = #[v0] := by cases args; simp_all
  obtain ⟨A0, n0, c0, bs0, rfl, hr0, hn0⟩ := arg_bytes Tryz.underlying22 Tryz.underlying5 (by kernel_rfl) (hval 0 22 v0 rfl rfl) h0
  refine (walk W A0 n0 c0 bs0 hr0 hn0 (Lz_table hL hsh)).mono fun e W' ⟨he, hb⟩ => ?_
  subst he
  exact ⟨_, rfl, law_post laidOut (by
    rw [show Tryz.f3.params.toList = [22] from rfl]
    intro t ht
    rw [List.mem_singleton.1 ht]; exact ⟨by kernel_rfl, of_decide_eq_true (by kernel_rfl)⟩) rfl Tryz.underlying4 rfl rfl hW' hb⟩

theorem laid_met (os : Os) : laidMetH Tryz.prog Rows.fnFaultsRow.laid ((LzWorld os).forCall (fun _ _ => 0) ⟨#[], #[.slice none 0 0], []⟩).memory :=
  Lz_met os _
theorem reads (os : Os) {H : Type} (enc : TypeId × Value → H) : ∃ places, DataW.whole enc Tryz.prog ((LzWorld os).forCall (fun _ _ => 0) ⟨#[], #[.slice none 0 0], []⟩).memory Tryz.f3.params.toList Rows.fnFaultsSpec.vars false #[(.slice none 0 0 : Value)].toList 8 = some ([.nil], [], places) :=
  ⟨[], by kernel_rfl⟩

set_option maxRecDepth 100000 in
theorem lifted (os : Os) (started : os.Started) (H : Type) (enc : TypeId × Value → H) (F : Stop.Interp) :
    ReturnsInHanded {} Tryz.checked os 3 .any ((OpenSpec.ofChange Rows.fnFaultsSpec).preRow enc Tryz.prog Tryz.f3 Rows.fnFaultsRow.domain false Rows.fnFaultsRow.laid) (((OpenSpec.ofChange Rows.fnFaultsSpec).at F).post enc Tryz.prog Tryz.f3 false true false false) := by
  obtain ⟨places, hx⟩ := reads os enc
  refine returnsInHanded_of_row (C := Tryz.checked) (s := OpenSpec.ofChange Rows.fnFaultsSpec) own started (by kernel_rfl) Tryz.func3
    (Lz_witness (enc := enc) (C := Tryz.checked) false (LzWorld os) #[.slice none 0 0] rfl (by kernel_rfl) (by kernel_rfl) (by kernel_rfl)
      (OpenSpec.preRow_of_cond 8 hx (by kernel_rfl) (fun k hk => by cases hk) (by kernel_rfl) (laid_met os))) ?_
  intro W base args ds gs before hval hW _ _ _ hL hsh _
  exact contract H enc W base args ds gs before hval hW hL hsh

theorem said : Rows.FnFaultsSaid :=
  OpenClaim.holds_of_cond 3 Tryz.f3 rfl rfl rfl rfl rfl rfl rfl ⟨rfl, rfl, rfl, rfl, rfl⟩ rfl rfl rfl rfl rfl (by kernel_rfl) Tryz.func3 (by kernel_rfl)
    (of_decide_eq_true (by kernel_rfl)) (by unfold Func.isWrapper; first | (rw [if_pos (by decide +kernel)]; kernel_rfl) | (rw [if_neg (by decide +kernel)]; exact ⟨rfl, rfl⟩))
    (fun os started H enc _ F => by rw [OpenClaim.pre_eq_preRow]; exact lifted os started H enc F)

theorem plain (f : FuncId) (fn : Func) (hf : Tryz.pinned.checked.prog.funcNamed Rows.fnFaultsRow.func = some f) (hfn : Tryz.pinned.checked.prog.funcs[f]? = some fn) :
    true = Tryz.pinned.checked.prog.looks [] ∧ ∀ (j : Nat) t, fn.params[j]? = some t → Tryz.pinned.checked.prog.wantsStandIn t = false := by
  obtain rfl : f = 3 := Option.some.inj ((show Tryz.prog.funcNamed Rows.fnFaultsRow.func = some 3 by kernel_rfl).symm.trans hf) |>.symm
  obtain rfl : fn = Tryz.f3 := (Option.some.inj (Tryz.func3.symm.trans hfn)).symm
  refine ⟨by kernel_rfl, fun j t ht => ?_⟩
  rw [Tryz.params3] at ht
  obtain rfl : t = 22 := by simpa using Array.mem_of_getElem? ht
  exact (show Tryz.prog.wantsStandIn 22 = false by kernel_rfl)

theorem card : Rows.FnFaultsCardSaid :=
  Claim7.holds_tied_plain_at .later [] _ _ _ _ said (fun _ h => by cases h) (by kernel_rfl) (fun _ h => by cases h) fnFaults_row_tie rfl ⟨rfl, rfl⟩ (by kernel_rfl) rfl plain (by kernel_rfl)
end FnFaults
end Go.Proofs.YtojmikalnalfbaaGreatDoor
