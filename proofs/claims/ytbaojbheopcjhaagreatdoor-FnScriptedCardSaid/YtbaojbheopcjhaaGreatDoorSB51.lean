/- Walks, laws and small notions for the claims of this seat, several texts as one (DrwF, DrwG). Conditions: as each theorem states them. -/
import Derived.Test.YtbaojbheopcjhaaGreatDoorB48
import Derived.Test.YtbaojbheopcjhaaGreatDoorB1
import Derived.Test.YtbaojbheopcjhaaGreatDoorB2
import Derived.Test.YtbaojbheopcjhaaGreatDoorSB24
namespace Go.Proofs.YtbaojbheopcjhaaGreatDoor
open Go.RowKit

theorem Blk4.dr {w w' : World} {b g : Nat} {t : TypeId} {u0 u1 u2 u3 : Value} (h : Blk4 w b t u0 u1 u2 u3) (d : Dr w g w') (hne : g ≠ b) : Blk4 w' b t u0 u1 u2 u3 :=
  (d.gr.block b h.lt (fun e => by injection e with e; exact hne e.symm)).trans h
theorem Blk4.other {w : World} {b : Nat} {t : TypeId} {u0 u1 u2 u3 : Value} (h : Blk4 w b t u0 u1 u2 u3) {p : Addr} (hp : p.block ≠ b) (u : Value) : Blk4 (w.setCell p u) b t u0 u1 u2 u3 := by
  unfold Blk4 at h ⊢
  show (w.heap.modify p.block _)[b]? = _
  rw [Array.getElem?_modify, if_neg hp]; exact h
theorem Blk4.free {w : World} {b : Nat} {t : TypeId} {u0 u1 u2 u3 : Value} (h : Blk4 w b t u0 u1 u2 u3) (j : Nat) : w.frozen? ⟨b, j, none⟩ = false := by unfold Blk4 at h; simp [World.frozen?, h]

set_option maxHeartbeats 1000000 in
theorem fields_any (k : Int) (w : World) :
    Calls Tryz.prog 90 #[.int .i64 k] w fun e w' => e = .returned (.tuple #[.bool (hasLen k), .bool (hasVal k)]) ∧ w = w' := by
  rcases (show k = 2 ∨ k = 3 ∨ k = 4 ∨ k = 6 ∨ ((k == 2) = false ∧ (k == 3) = false ∧ (k == 4) = false ∧ (k == 6) = false ∧ hasLen k = false ∧ hasVal k = false) by
    by_cases h2 : k = 2
    · exact .inl h2
    by_cases h3 : k = 3
    · exact .inr (.inl h3)
    by_cases h4 : k = 4
    · exact .inr (.inr (.inl h4))
    by_cases h6 : k = 6
    · exact .inr (.inr (.inr (.inl h6)))
    exact .inr (.inr (.inr (.inr (by simp [hasLen, hasVal, h2, h3, h4, h6]))))) with rfl | rfl | rfl | rfl | ⟨b2, b3, b4, b6, hl, hv⟩
  case inr.inr.inr.inr =>
    have HL := Lib.hid hl
    have HV := Lib.hid hv
    clear hl hv
    go_enter Tryz.func90, Tryz.ntmps90
    go_wp2
    go_ret2
    exact ⟨by rw [HL.out, HV.out]; rfl, rfl⟩
  all_goals
    go_enter Tryz.func90, Tryz.ntmps90
    go_wp2
    go_ret2
    exact ⟨rfl, rfl⟩

/-- a drawn fault -/
def DrFt (w : World) (g : Nat) (e : Ending) (w' : World) : Prop :=
  ∃ f : Flt, e = .returned (.agg #[.int .i64 f.kd, .int .i64 f.pos, .int .i64 f.len, .int .i64 f.val]) ∧ Dr w g w'

set_option maxRecDepth 20000 in
set_option maxHeartbeats 8000000 in
theorem drawFaultAt_any (g n : Nat) (w : World) (h : Src w g) (hn : n ≤ 1099511627776) :
    Calls Tryz.prog 89 #[.pointer (some ⟨g, 0, none⟩), .int .i64 n] w (DrFt w g) := by
  have hl := h.lt
  have hne : g ≠ w.heap.size := by omega
  go_enter Tryz.func89, Tryz.ntmps89
  go_wp2_with fail
  refine (next_any g _ _ ((Dr.refl h).alloc _).src).mono ?_
  rintro e w1 ⟨x, rfl, hx, d1⟩
  have K1 := Lib.hid ((Blk4.new w _ _ _ _ _).dr d1 hne)
  have D1 := Lib.hid (d1.next ((Dr.refl h).alloc _))
  clear d1
  go_wp2_with fail
  refine (next_any g _ _ D1.out.src).mono ?_
  rintro e w2 ⟨y, rfl, hy, d2⟩
  have K2 := Lib.hid (K1.out.dr d2 hne)
  have D2 := Lib.hid (d2.next D1.out)
  have hg2 := D2.out.lt
  have hk2 := K2.out.lt
  have hne2 : g ≠ w2.heap.size := by omega
  have hne3 : ¬ w.heap.size = w2.heap.size := by omega
  clear d2 hx hy
  generalize (y : Int) = Y
  by_cases hy : Y < 8192
  · go_wp2_with fail
    refine (fields_any _ _).mono ?_
    rintro e w3 ⟨rfl, rfl⟩
    rcases bool_cases (hasLen (1 + x)) with hL | hL <;> rcases bool_cases (hasVal (1 + x)) with hV | hV <;> rw [hL, hV] <;> clear hL hV
    · go_wp2_with fail
      refine (next_any g _ _ (D2.out.alloc _).src).mono ?_
      rintro e w3 ⟨z3, rfl, hz3, d3⟩
      have F3 := Lib.hid ((Blk4.new w2 _ _ _ _ _).dr d3 hne2)
      have K3 := Lib.hid ((K2.out.alloc _).dr d3 hne)
      have D3 := Lib.hid (d3.next (D2.out.alloc _))
      have hz3b : z3 ≤ 12 := by omega
      clear d3 hz3
      have f0 := F3.out.c0; have f1 := F3.out.c1; have f2 := F3.out.c2; have f3 := F3.out.c3; have ff := F3.out.free
      go_wp2_with fail
      clear f0 f1 f2 f3 ff
      have D3s := Lib.hid (D3.out.set (p := ⟨w2.heap.size, 2, none⟩) (Nat.le_of_lt hk2) hl (.int .i64 (1 + z3)))
      have F3s := Lib.hid (show Blk4 (w3.setCell ⟨w2.heap.size, 2, none⟩ (.int .i64 (1 + z3))) w2.heap.size _ _ _ _ _ from F3.out.set 2 (.int .i64 (1 + z3)))
      have K3s := Lib.hid (K3.out.other (p := ⟨w2.heap.size, 2, none⟩) (fun e => hne3 e.symm) (.int .i64 (1 + z3)))
      refine (next_any g _ _ D3s.out.src).mono ?_
      rintro e w4 ⟨z4, rfl, hz4, d4⟩
      have F4 := Lib.hid (F3s.out.dr d4 hne2)
      have K4 := Lib.hid (K3s.out.dr d4 hne)
      have D4 := Lib.hid (d4.next D3s.out)
      clear d4 hz4
      have f0 := F4.out.c0; have f1 := F4.out.c1; have f2 := F4.out.c2; have f3 := F4.out.c3; have ff := F4.out.free
      have k0 := K4.out.c0; have k1 := K4.out.c1; have k2 := K4.out.c2; have k3 := K4.out.c3; have fk := K4.out.free
      go_wp2_with fail
      refine bp_forget (fun w' => Blk4 w' w.heap.size 87 (.int .i64 (1 + (x : Int))) (.int .i64 Y) (.int .i64 (1 + (z3 : Int))) (.int .i64 (z4 : Int)) ∧ Dr w g w') ?_ ?_
      · have e := ((K4.out.other (p := ⟨w2.heap.size, 3, none⟩) (fun e => hne3 e.symm) (.int .i64 (z4 : Int)))).all (x0 := .int .i64 (1 + (x : Int))) (x1 := .int .i64 Y) (x2 := .int .i64 (1 + (z3 : Int))) (x3 := .int .i64 (z4 : Int))
        exact ⟨e, (((((D4.out.set (p := ⟨w2.heap.size, 3, none⟩) (Nat.le_of_lt hk2) hl _).set (p := ⟨w.heap.size, 0, none⟩) (Nat.le_refl _) hl _).set (p := ⟨w.heap.size, 1, none⟩) (Nat.le_refl _) hl _).set (p := ⟨w.heap.size, 2, none⟩) (Nat.le_refl _) hl _).set (p := ⟨w.heap.size, 3, none⟩) (Nat.le_refl _) hl _)⟩
      rintro wz ⟨kz, dz⟩
      have q0 := kz.c0
      have q1 := kz.c1
      have q2 := kz.c2
      have q3 := kz.c3
      exact bodyPost_ret (v := .agg #[.int .i64 (1 + (x : Int)), .int .i64 Y, .int .i64 (1 + (z3 : Int)), .int .i64 (z4 : Int)]) (by simp [results, Tryz.results89, go_sem, q0, q1, q2, q3]) rfl ⟨⟨1 + (x : Int), Y, (1 + (z3 : Int)), (z4 : Int)⟩, rfl, dz⟩
    · go_wp2_with fail
      refine (next_any g _ _ (D2.out.alloc _).src).mono ?_
      rintro e w3 ⟨z3, rfl, hz3, d3⟩
      have F3 := Lib.hid ((Blk4.new w2 _ _ _ _ _).dr d3 hne2)
      have K3 := Lib.hid ((K2.out.alloc _).dr d3 hne)
      have D3 := Lib.hid (d3.next (D2.out.alloc _))
      have hz3b : z3 ≤ 12 := by omega
      clear d3 hz3
      have f0 := F3.out.c0; have f1 := F3.out.c1; have f2 := F3.out.c2; have f3 := F3.out.c3; have ff := F3.out.free
      have k0 := K3.out.c0; have k1 := K3.out.c1; have k2 := K3.out.c2; have k3 := K3.out.c3; have fk := K3.out.free
      go_wp2_with fail
      refine bp_forget (fun w' => Blk4 w' w.heap.size 87 (.int .i64 (1 + (x : Int))) (.int .i64 Y) (.int .i64 (1 + (z3 : Int))) (.int .i64 0) ∧ Dr w g w') ?_ ?_
      · have e := ((K3.out.other (p := ⟨w2.heap.size, 2, none⟩) (fun e => hne3 e.symm) (.int .i64 (1 + (z3 : Int))))).all (x0 := .int .i64 (1 + (x : Int))) (x1 := .int .i64 Y) (x2 := .int .i64 (1 + (z3 : Int))) (x3 := .int .i64 0)
        exact ⟨e, (((((D3.out.set (p := ⟨w2.heap.size, 2, none⟩) (Nat.le_of_lt hk2) hl _).set (p := ⟨w.heap.size, 0, none⟩) (Nat.le_refl _) hl _).set (p := ⟨w.heap.size, 1, none⟩) (Nat.le_refl _) hl _).set (p := ⟨w.heap.size, 2, none⟩) (Nat.le_refl _) hl _).set (p := ⟨w.heap.size, 3, none⟩) (Nat.le_refl _) hl _)⟩
      rintro wz ⟨kz, dz⟩
      have q0 := kz.c0
      have q1 := kz.c1
      have q2 := kz.c2
      have q3 := kz.c3
      exact bodyPost_ret (v := .agg #[.int .i64 (1 + (x : Int)), .int .i64 Y, .int .i64 (1 + (z3 : Int)), .int .i64 0]) (by simp [results, Tryz.results89, go_sem, q0, q1, q2, q3]) rfl ⟨⟨1 + (x : Int), Y, (1 + (z3 : Int)), 0⟩, rfl, dz⟩
    · go_wp2_with fail
      refine (next_any g _ _ (D2.out.alloc _).src).mono ?_
      rintro e w3 ⟨z3, rfl, hz3, d3⟩
      have F3 := Lib.hid ((Blk4.new w2 _ _ _ _ _).dr d3 hne2)
      have K3 := Lib.hid ((K2.out.alloc _).dr d3 hne)
      have D3 := Lib.hid (d3.next (D2.out.alloc _))
      have hz3b : z3 ≤ 12 := by omega
      clear d3 hz3
      have f0 := F3.out.c0; have f1 := F3.out.c1; have f2 := F3.out.c2; have f3 := F3.out.c3; have ff := F3.out.free
      have k0 := K3.out.c0; have k1 := K3.out.c1; have k2 := K3.out.c2; have k3 := K3.out.c3; have fk := K3.out.free
      go_wp2_with fail
      refine bp_forget (fun w' => Blk4 w' w.heap.size 87 (.int .i64 (1 + (x : Int))) (.int .i64 Y) (.int .i64 0) (.int .i64 (z3 : Int)) ∧ Dr w g w') ?_ ?_
      · have e := ((K3.out.other (p := ⟨w2.heap.size, 3, none⟩) (fun e => hne3 e.symm) (.int .i64 (z3 : Int)))).all (x0 := .int .i64 (1 + (x : Int))) (x1 := .int .i64 Y) (x2 := .int .i64 0) (x3 := .int .i64 (z3 : Int))
        exact ⟨e, (((((D3.out.set (p := ⟨w2.heap.size, 3, none⟩) (Nat.le_of_lt hk2) hl _).set (p := ⟨w.heap.size, 0, none⟩) (Nat.le_refl _) hl _).set (p := ⟨w.heap.size, 1, none⟩) (Nat.le_refl _) hl _).set (p := ⟨w.heap.size, 2, none⟩) (Nat.le_refl _) hl _).set (p := ⟨w.heap.size, 3, none⟩) (Nat.le_refl _) hl _)⟩
      rintro wz ⟨kz, dz⟩
      have q0 := kz.c0
      have q1 := kz.c1
      have q2 := kz.c2
      have q3 := kz.c3
      exact bodyPost_ret (v := .agg #[.int .i64 (1 + (x : Int)), .int .i64 Y, .int .i64 0, .int .i64 (z3 : Int)]) (by simp [results, Tryz.results89, go_sem, q0, q1, q2, q3]) rfl ⟨⟨1 + (x : Int), Y, 0, (z3 : Int)⟩, rfl, dz⟩
    · have k0 := K2.out.c0; have k1 := K2.out.c1; have k2 := K2.out.c2; have k3 := K2.out.c3; have fk := K2.out.free
      go_wp2_with fail
      refine bp_forget (fun w' => Blk4 w' w.heap.size 87 (.int .i64 (1 + (x : Int))) (.int .i64 Y) (.int .i64 0) (.int .i64 0) ∧ Dr w g w') ?_ ?_
      · have e := ((K2.out).all (x0 := .int .i64 (1 + (x : Int))) (x1 := .int .i64 Y) (x2 := .int .i64 0) (x3 := .int .i64 0)).alloc (.cells #[.int .i64 (1 + (x : Int)), .int .i64 Y, .int .i64 0, .int .i64 0] 87)
        exact ⟨e, (((((D2.out.set (p := ⟨w.heap.size, 0, none⟩) (Nat.le_refl _) hl _).set (p := ⟨w.heap.size, 1, none⟩) (Nat.le_refl _) hl _).set (p := ⟨w.heap.size, 2, none⟩) (Nat.le_refl _) hl _).set (p := ⟨w.heap.size, 3, none⟩) (Nat.le_refl _) hl _).alloc _)⟩
      rintro wz ⟨kz, dz⟩
      have q0 := kz.c0
      have q1 := kz.c1
      have q2 := kz.c2
      have q3 := kz.c3
      exact bodyPost_ret (v := .agg #[.int .i64 (1 + (x : Int)), .int .i64 Y, .int .i64 0, .int .i64 0]) (by simp [results, Tryz.results89, go_sem, q0, q1, q2, q3]) rfl ⟨⟨1 + (x : Int), Y, 0, 0⟩, rfl, dz⟩
  · go_wp2_with fail
    refine (fields_any _ _).mono ?_
    rintro e w3 ⟨rfl, rfl⟩
    rcases bool_cases (hasLen (1 + x)) with hL | hL <;> rcases bool_cases (hasVal (1 + x)) with hV | hV <;> rw [hL, hV] <;> clear hL hV
    · go_wp2_with fail
      refine (next_any g _ _ (D2.out.alloc _).src).mono ?_
      rintro e w3 ⟨z3, rfl, hz3, d3⟩
      have F3 := Lib.hid ((Blk4.new w2 _ _ _ _ _).dr d3 hne2)
      have K3 := Lib.hid ((K2.out.alloc _).dr d3 hne)
      have D3 := Lib.hid (d3.next (D2.out.alloc _))
      have hz3b : z3 ≤ 12 := by omega
      clear d3 hz3
      have f0 := F3.out.c0; have f1 := F3.out.c1; have f2 := F3.out.c2; have f3 := F3.out.c3; have ff := F3.out.free
      go_wp2_with fail
      clear f0 f1 f2 f3 ff
      have D3s := Lib.hid (D3.out.set (p := ⟨w2.heap.size, 2, none⟩) (Nat.le_of_lt hk2) hl (.int .i64 (1 + z3)))
      have F3s := Lib.hid (show Blk4 (w3.setCell ⟨w2.heap.size, 2, none⟩ (.int .i64 (1 + z3))) w2.heap.size _ _ _ _ _ from F3.out.set 2 (.int .i64 (1 + z3)))
      have K3s := Lib.hid (K3.out.other (p := ⟨w2.heap.size, 2, none⟩) (fun e => hne3 e.symm) (.int .i64 (1 + z3)))
      refine (next_any g _ _ D3s.out.src).mono ?_
      rintro e w4 ⟨z4, rfl, hz4, d4⟩
      have F4 := Lib.hid (F3s.out.dr d4 hne2)
      have K4 := Lib.hid (K3s.out.dr d4 hne)
      have D4 := Lib.hid (d4.next D3s.out)
      clear d4 hz4
      have f0 := F4.out.c0; have f1 := F4.out.c1; have f2 := F4.out.c2; have f3 := F4.out.c3; have ff := F4.out.free
      have k0 := K4.out.c0; have k1 := K4.out.c1; have k2 := K4.out.c2; have k3 := K4.out.c3; have fk := K4.out.free
      go_wp2_with fail
      refine bp_forget (fun w' => Blk4 w' w.heap.size 87 (.int .i64 (1 + (x : Int))) (.int .i64 8192) (.int .i64 (1 + (z3 : Int))) (.int .i64 (z4 : Int)) ∧ Dr w g w') ?_ ?_
      · have e := ((K4.out.other (p := ⟨w2.heap.size, 3, none⟩) (fun e => hne3 e.symm) (.int .i64 (z4 : Int)))).all (x0 := .int .i64 (1 + (x : Int))) (x1 := .int .i64 8192) (x2 := .int .i64 (1 + (z3 : Int))) (x3 := .int .i64 (z4 : Int))
        exact ⟨e, (((((D4.out.set (p := ⟨w2.heap.size, 3, none⟩) (Nat.le_of_lt hk2) hl _).set (p := ⟨w.heap.size, 0, none⟩) (Nat.le_refl _) hl _).set (p := ⟨w.heap.size, 1, none⟩) (Nat.le_refl _) hl _).set (p := ⟨w.heap.size, 2, none⟩) (Nat.le_refl _) hl _).set (p := ⟨w.heap.size, 3, none⟩) (Nat.le_refl _) hl _)⟩
      rintro wz ⟨kz, dz⟩
      have q0 := kz.c0
      have q1 := kz.c1
      have q2 := kz.c2
      have q3 := kz.c3
      exact bodyPost_ret (v := .agg #[.int .i64 (1 + (x : Int)), .int .i64 8192, .int .i64 (1 + (z3 : Int)), .int .i64 (z4 : Int)]) (by simp [results, Tryz.results89, go_sem, q0, q1, q2, q3]) rfl ⟨⟨1 + (x : Int), 8192, (1 + (z3 : Int)), (z4 : Int)⟩, rfl, dz⟩
    · go_wp2_with fail
      refine (next_any g _ _ (D2.out.alloc _).src).mono ?_
      rintro e w3 ⟨z3, rfl, hz3, d3⟩
      have F3 := Lib.hid ((Blk4.new w2 _ _ _ _ _).dr d3 hne2)
      have K3 := Lib.hid ((K2.out.alloc _).dr d3 hne)
      have D3 := Lib.hid (d3.next (D2.out.alloc _))
      have hz3b : z3 ≤ 12 := by omega
      clear d3 hz3
      have f0 := F3.out.c0; have f1 := F3.out.c1; have f2 := F3.out.c2; have f3 := F3.out.c3; have ff := F3.out.free
      have k0 := K3.out.c0; have k1 := K3.out.c1; have k2 := K3.out.c2; have k3 := K3.out.c3; have fk := K3.out.free
      go_wp2_with fail
      refine bp_forget (fun w' => Blk4 w' w.heap.size 87 (.int .i64 (1 + (x : Int))) (.int .i64 8192) (.int .i64 (1 + (z3 : Int))) (.int .i64 0) ∧ Dr w g w') ?_ ?_
      · have e := ((K3.out.other (p := ⟨w2.heap.size, 2, none⟩) (fun e => hne3 e.symm) (.int .i64 (1 + (z3 : Int))))).all (x0 := .int .i64 (1 + (x : Int))) (x1 := .int .i64 8192) (x2 := .int .i64 (1 + (z3 : Int))) (x3 := .int .i64 0)
        exact ⟨e, (((((D3.out.set (p := ⟨w2.heap.size, 2, none⟩) (Nat.le_of_lt hk2) hl _).set (p := ⟨w.heap.size, 0, none⟩) (Nat.le_refl _) hl _).set (p := ⟨w.heap.size, 1, none⟩) (Nat.le_refl _) hl _).set (p := ⟨w.heap.size, 2, none⟩) (Nat.le_refl _) hl _).set (p := ⟨w.heap.size, 3, none⟩) (Nat.le_refl _) hl _)⟩
      rintro wz ⟨kz, dz⟩
      have q0 := kz.c0
      have q1 := kz.c1
      have q2 := kz.c2
      have q3 := kz.c3
      exact bodyPost_ret (v := .agg #[.int .i64 (1 + (x : Int)), .int .i64 8192, .int .i64 (1 + (z3 : Int)), .int .i64 0]) (by simp [results, Tryz.results89, go_sem, q0, q1, q2, q3]) rfl ⟨⟨1 + (x : Int), 8192, (1 + (z3 : Int)), 0⟩, rfl, dz⟩
    · go_wp2_with fail
      refine (next_any g _ _ (D2.out.alloc _).src).mono ?_
      rintro e w3 ⟨z3, rfl, hz3, d3⟩
      have F3 := Lib.hid ((Blk4.new w2 _ _ _ _ _).dr d3 hne2)
      have K3 := Lib.hid ((K2.out.alloc _).dr d3 hne)
      have D3 := Lib.hid (d3.next (D2.out.alloc _))
      have hz3b : z3 ≤ 12 := by omega
      clear d3 hz3
      have f0 := F3.out.c0; have f1 := F3.out.c1; have f2 := F3.out.c2; have f3 := F3.out.c3; have ff := F3.out.free
      have k0 := K3.out.c0; have k1 := K3.out.c1; have k2 := K3.out.c2; have k3 := K3.out.c3; have fk := K3.out.free
      go_wp2_with fail
      refine bp_forget (fun w' => Blk4 w' w.heap.size 87 (.int .i64 (1 + (x : Int))) (.int .i64 8192) (.int .i64 0) (.int .i64 (z3 : Int)) ∧ Dr w g w') ?_ ?_
      · have e := ((K3.out.other (p := ⟨w2.heap.size, 3, none⟩) (fun e => hne3 e.symm) (.int .i64 (z3 : Int)))).all (x0 := .int .i64 (1 + (x : Int))) (x1 := .int .i64 8192) (x2 := .int .i64 0) (x3 := .int .i64 (z3 : Int))
        exact ⟨e, (((((D3.out.set (p := ⟨w2.heap.size, 3, none⟩) (Nat.le_of_lt hk2) hl _).set (p := ⟨w.heap.size, 0, none⟩) (Nat.le_refl _) hl _).set (p := ⟨w.heap.size, 1, none⟩) (Nat.le_refl _) hl _).set (p := ⟨w.heap.size, 2, none⟩) (Nat.le_refl _) hl _).set (p := ⟨w.heap.size, 3, none⟩) (Nat.le_refl _) hl _)⟩
      rintro wz ⟨kz, dz⟩
      have q0 := kz.c0
      have q1 := kz.c1
      have q2 := kz.c2
      have q3 := kz.c3
      exact bodyPost_ret (v := .agg #[.int .i64 (1 + (x : Int)), .int .i64 8192, .int .i64 0, .int .i64 (z3 : Int)]) (by simp [results, Tryz.results89, go_sem, q0, q1, q2, q3]) rfl ⟨⟨1 + (x : Int), 8192, 0, (z3 : Int)⟩, rfl, dz⟩
    · have k0 := K2.out.c0; have k1 := K2.out.c1; have k2 := K2.out.c2; have k3 := K2.out.c3; have fk := K2.out.free
      go_wp2_with fail
      refine bp_forget (fun w' => Blk4 w' w.heap.size 87 (.int .i64 (1 + (x : Int))) (.int .i64 8192) (.int .i64 0) (.int .i64 0) ∧ Dr w g w') ?_ ?_
      · have e := ((K2.out).all (x0 := .int .i64 (1 + (x : Int))) (x1 := .int .i64 8192) (x2 := .int .i64 0) (x3 := .int .i64 0)).alloc (.cells #[.int .i64 (1 + (x : Int)), .int .i64 8192, .int .i64 0, .int .i64 0] 87)
        exact ⟨e, (((((D2.out.set (p := ⟨w.heap.size, 0, none⟩) (Nat.le_refl _) hl _).set (p := ⟨w.heap.size, 1, none⟩) (Nat.le_refl _) hl _).set (p := ⟨w.heap.size, 2, none⟩) (Nat.le_refl _) hl _).set (p := ⟨w.heap.size, 3, none⟩) (Nat.le_refl _) hl _).alloc _)⟩
      rintro wz ⟨kz, dz⟩
      have q0 := kz.c0
      have q1 := kz.c1
      have q2 := kz.c2
      have q3 := kz.c3
      exact bodyPost_ret (v := .agg #[.int .i64 (1 + (x : Int)), .int .i64 8192, .int .i64 0, .int .i64 0]) (by simp [results, Tryz.results89, go_sem, q0, q1, q2, q3]) rfl ⟨⟨1 + (x : Int), 8192, 0, 0⟩, rfl, dz⟩
end Go.Proofs.YtbaojbheopcjhaaGreatDoor

namespace Go.Proofs.YtbaojbheopcjhaaGreatDoor
open Go.RowKit

set_option maxRecDepth 20000 in
set_option maxHeartbeats 8000000 in
theorem drawFault_any (g n : Nat) (w : World) (h : Src w g) (hn : n ≤ 1099511627776) :
    Calls Tryz.prog 53 #[.pointer (some ⟨g, 0, none⟩), .int .i64 n] w (DrFt w g) := by
  have hl := h.lt
  have hne : g ≠ w.heap.size := by omega
  go_enter Tryz.func53, Tryz.ntmps53
  go_wp2_with fail
  refine (drawFaultAt_any g n _ ((Dr.refl h).alloc _).src hn).mono ?_
  rintro e w1 ⟨⟨k, p, l, v⟩, rfl, d1⟩
  have K1 := Lib.hid ((Blk4.new w _ _ _ _ _).dr d1 hne)
  have D1 := Lib.hid (d1.next ((Dr.refl h).alloc _))
  have hg1 := D1.out.lt
  have hk1 := K1.out.lt
  have hne2 : g ≠ w1.heap.size := by omega
  have hne3 : ¬ w.heap.size = w1.heap.size := by omega
  clear d1
  dsimp only
  go_wp2_with fail
  refine (next_any g 30 _ (D1.out.alloc _).src).mono ?_
  rintro e w2 ⟨x, rfl, hx, d2⟩
  have F2 := Lib.hid ((Blk4.new w1 _ _ _ _ _).dr d2 hne2)
  have K2 := Lib.hid ((K1.out.alloc _).dr d2 hne)
  have D2 := Lib.hid (d2.next (D1.out.alloc _))
  have hg2 := D2.out.lt
  have hk2 := K2.out.lt
  have hf2 := F2.out.lt
  have hne4 : g ≠ w2.heap.size := by omega
  clear d2
  by_cases h0 : x = 0
  · subst h0
    go_wp2_with fail
    refine (next_any g 2 _ (D2.out.alloc _).src).mono ?_
    rintro e w3 ⟨y, rfl, hy, d3⟩
    obtain ⟨u, _, hc⟩ := pick_cell (L := [0, 7]) d3.gr D2.out.lt (x := y) (by simp; omega)
    have hy2 : y < 2 := by omega
    have F3 := Lib.hid ((F2.out.alloc _).dr d3 hne2)
    have K3 := Lib.hid ((K2.out.alloc _).dr d3 hne)
    have D3 := Lib.hid (d3.next (D2.out.alloc _))
    clear d3 hy hx
    have f0 := F3.out.c0; have f1 := F3.out.c1; have f2 := F3.out.c2; have f3 := F3.out.c3; have ff := F3.out.free
    have k0 := K3.out.c0; have k1 := K3.out.c1; have k2 := K3.out.c2; have k3 := K3.out.c3; have fk := K3.out.free
    go_wp2_with fail
    refine bp_forget (fun w' => Blk4 w' w.heap.size 87 (.int .i64 (u)) (.int .i64 (p)) (.int .i64 (l)) (.int .i64 (v)) ∧ Dr w g w') ?_ ?_
    · have e := (K3.out.other (p := ⟨w1.heap.size, 0, none⟩) (fun e => hne3 e.symm) (.int .i64 u)).all (x0 := .int .i64 (u)) (x1 := .int .i64 (p)) (x2 := .int .i64 (l)) (x3 := .int .i64 (v))
      exact ⟨e, (((((D3.out.set (p := ⟨w1.heap.size, 0, none⟩) (Nat.le_of_lt hk1) hl _).set (p := ⟨w.heap.size, 0, none⟩) (Nat.le_refl _) hl _).set (p := ⟨w.heap.size, 1, none⟩) (Nat.le_refl _) hl _).set (p := ⟨w.heap.size, 2, none⟩) (Nat.le_refl _) hl _).set (p := ⟨w.heap.size, 3, none⟩) (Nat.le_refl _) hl _)⟩
    rintro wz ⟨kz, dz⟩
    have q0 := kz.c0
    have q1 := kz.c1
    have q2 := kz.c2
    have q3 := kz.c3
    exact bodyPost_ret (v := .agg #[.int .i64 (u), .int .i64 (p), .int .i64 (l), .int .i64 (v)]) (by simp [results, Tryz.results53, go_sem, q0, q1, q2, q3]) rfl ⟨⟨u, p, l, v⟩, rfl, dz⟩
  have b0 : ((x : Int) == 0) = false := by simp; omega
  by_cases h1 : x = 1
  · subst h1
    go_wp2_with fail
    refine (next_any g 3 _ (D2.out.alloc _).src).mono ?_
    rintro e w3 ⟨y, rfl, hy, d3⟩
    obtain ⟨u, _, hc⟩ := pick_cell (L := [-1, 8192, 8193]) d3.gr D2.out.lt (x := y) (by simp; omega)
    have hy2 : y < 3 := by omega
    have F3 := Lib.hid ((F2.out.alloc _).dr d3 hne2)
    have K3 := Lib.hid ((K2.out.alloc _).dr d3 hne)
    have D3 := Lib.hid (d3.next (D2.out.alloc _))
    clear d3 hy hx
    have f0 := F3.out.c0; have f1 := F3.out.c1; have f2 := F3.out.c2; have f3 := F3.out.c3; have ff := F3.out.free
    have k0 := K3.out.c0; have k1 := K3.out.c1; have k2 := K3.out.c2; have k3 := K3.out.c3; have fk := K3.out.free
    go_wp2_with fail
    refine bp_forget (fun w' => Blk4 w' w.heap.size 87 (.int .i64 (k)) (.int .i64 (u)) (.int .i64 (l)) (.int .i64 (v)) ∧ Dr w g w') ?_ ?_
    · have e := (K3.out.other (p := ⟨w1.heap.size, 1, none⟩) (fun e => hne3 e.symm) (.int .i64 u)).all (x0 := .int .i64 (k)) (x1 := .int .i64 (u)) (x2 := .int .i64 (l)) (x3 := .int .i64 (v))
      exact ⟨e, (((((D3.out.set (p := ⟨w1.heap.size, 1, none⟩) (Nat.le_of_lt hk1) hl _).set (p := ⟨w.heap.size, 0, none⟩) (Nat.le_refl _) hl _).set (p := ⟨w.heap.size, 1, none⟩) (Nat.le_refl _) hl _).set (p := ⟨w.heap.size, 2, none⟩) (Nat.le_refl _) hl _).set (p := ⟨w.heap.size, 3, none⟩) (Nat.le_refl _) hl _)⟩
    rintro wz ⟨kz, dz⟩
    have q0 := kz.c0
    have q1 := kz.c1
    have q2 := kz.c2
    have q3 := kz.c3
    exact bodyPost_ret (v := .agg #[.int .i64 (k), .int .i64 (u), .int .i64 (l), .int .i64 (v)]) (by simp [results, Tryz.results53, go_sem, q0, q1, q2, q3]) rfl ⟨⟨k, u, l, v⟩, rfl, dz⟩
  have b1 : ((x : Int) == 1) = false := by simp; omega
  by_cases h2 : x = 2
  · subst h2
    go_wp2_with fail
    refine (next_any g 4 _ (D2.out.alloc _).src).mono ?_
    rintro e w3 ⟨y, rfl, hy, d3⟩
    obtain ⟨u, _, hc⟩ := pick_cell (L := [-1, 0, 8192, 8193]) d3.gr D2.out.lt (x := y) (by simp; omega)
    have hy2 : y < 4 := by omega
    have F3 := Lib.hid ((F2.out.alloc _).dr d3 hne2)
    have K3 := Lib.hid ((K2.out.alloc _).dr d3 hne)
    have D3 := Lib.hid (d3.next (D2.out.alloc _))
    clear d3 hy hx
    have f0 := F3.out.c0; have f1 := F3.out.c1; have f2 := F3.out.c2; have f3 := F3.out.c3; have ff := F3.out.free
    have k0 := K3.out.c0; have k1 := K3.out.c1; have k2 := K3.out.c2; have k3 := K3.out.c3; have fk := K3.out.free
    go_wp2_with fail
    refine bp_forget (fun w' => Blk4 w' w.heap.size 87 (.int .i64 (k)) (.int .i64 (p)) (.int .i64 (u)) (.int .i64 (v)) ∧ Dr w g w') ?_ ?_
    · have e := (K3.out.other (p := ⟨w1.heap.size, 2, none⟩) (fun e => hne3 e.symm) (.int .i64 u)).all (x0 := .int .i64 (k)) (x1 := .int .i64 (p)) (x2 := .int .i64 (u)) (x3 := .int .i64 (v))
      exact ⟨e, (((((D3.out.set (p := ⟨w1.heap.size, 2, none⟩) (Nat.le_of_lt hk1) hl _).set (p := ⟨w.heap.size, 0, none⟩) (Nat.le_refl _) hl _).set (p := ⟨w.heap.size, 1, none⟩) (Nat.le_refl _) hl _).set (p := ⟨w.heap.size, 2, none⟩) (Nat.le_refl _) hl _).set (p := ⟨w.heap.size, 3, none⟩) (Nat.le_refl _) hl _)⟩
    rintro wz ⟨kz, dz⟩
    have q0 := kz.c0
    have q1 := kz.c1
    have q2 := kz.c2
    have q3 := kz.c3
    exact bodyPost_ret (v := .agg #[.int .i64 (k), .int .i64 (p), .int .i64 (u), .int .i64 (v)]) (by simp [results, Tryz.results53, go_sem, q0, q1, q2, q3]) rfl ⟨⟨k, p, u, v⟩, rfl, dz⟩
  have b2 : ((x : Int) == 2) = false := by simp; omega
  by_cases h3 : x = 3
  · subst h3
    go_wp2_with fail
    refine (next_any g 3 _ (D2.out.alloc _).src).mono ?_
    rintro e w3 ⟨y, rfl, hy, d3⟩
    obtain ⟨u, _, hc⟩ := pick_cell (L := [-1, 1, 2]) d3.gr D2.out.lt (x := y) (by simp; omega)
    have hy2 : y < 3 := by omega
    have F3 := Lib.hid ((F2.out.alloc _).dr d3 hne2)
    have K3 := Lib.hid ((K2.out.alloc _).dr d3 hne)
    have D3 := Lib.hid (d3.next (D2.out.alloc _))
    clear d3 hy hx
    have f0 := F3.out.c0; have f1 := F3.out.c1; have f2 := F3.out.c2; have f3 := F3.out.c3; have ff := F3.out.free
    have k0 := K3.out.c0; have k1 := K3.out.c1; have k2 := K3.out.c2; have k3 := K3.out.c3; have fk := K3.out.free
    go_wp2_with fail
    refine bp_forget (fun w' => Blk4 w' w.heap.size 87 (.int .i64 (k)) (.int .i64 (p)) (.int .i64 (l)) (.int .i64 (u)) ∧ Dr w g w') ?_ ?_
    · have e := (K3.out.other (p := ⟨w1.heap.size, 3, none⟩) (fun e => hne3 e.symm) (.int .i64 u)).all (x0 := .int .i64 (k)) (x1 := .int .i64 (p)) (x2 := .int .i64 (l)) (x3 := .int .i64 (u))
      exact ⟨e, (((((D3.out.set (p := ⟨w1.heap.size, 3, none⟩) (Nat.le_of_lt hk1) hl _).set (p := ⟨w.heap.size, 0, none⟩) (Nat.le_refl _) hl _).set (p := ⟨w.heap.size, 1, none⟩) (Nat.le_refl _) hl _).set (p := ⟨w.heap.size, 2, none⟩) (Nat.le_refl _) hl _).set (p := ⟨w.heap.size, 3, none⟩) (Nat.le_refl _) hl _)⟩
    rintro wz ⟨kz, dz⟩
    have q0 := kz.c0
    have q1 := kz.c1
    have q2 := kz.c2
    have q3 := kz.c3
    exact bodyPost_ret (v := .agg #[.int .i64 (k), .int .i64 (p), .int .i64 (l), .int .i64 (u)]) (by simp [results, Tryz.results53, go_sem, q0, q1, q2, q3]) rfl ⟨⟨k, p, l, u⟩, rfl, dz⟩
  have b3 : ((x : Int) == 3) = false := by simp; omega
  have f0 := F2.out.c0; have f1 := F2.out.c1; have f2 := F2.out.c2; have f3 := F2.out.c3; have ff := F2.out.free
  have k0 := K2.out.c0; have k1 := K2.out.c1; have k2 := K2.out.c2; have k3 := K2.out.c3; have fk := K2.out.free
  go_wp2_with fail
  refine bp_forget (fun w' => Blk4 w' w.heap.size 87 (.int .i64 (k)) (.int .i64 (p)) (.int .i64 (l)) (.int .i64 (v)) ∧ Dr w g w') ?_ ?_
  · have e := K2.out.all (x0 := .int .i64 (k)) (x1 := .int .i64 (p)) (x2 := .int .i64 (l)) (x3 := .int .i64 (v))
    exact ⟨e, ((((D2.out.set (p := ⟨w.heap.size, 0, none⟩) (Nat.le_refl _) hl _).set (p := ⟨w.heap.size, 1, none⟩) (Nat.le_refl _) hl _).set (p := ⟨w.heap.size, 2, none⟩) (Nat.le_refl _) hl _).set (p := ⟨w.heap.size, 3, none⟩) (Nat.le_refl _) hl _)⟩
  rintro wz ⟨kz, dz⟩
  have q0 := kz.c0
  have q1 := kz.c1
  have q2 := kz.c2
  have q3 := kz.c3
  exact bodyPost_ret (v := .agg #[.int .i64 (k), .int .i64 (p), .int .i64 (l), .int .i64 (v)]) (by simp [results, Tryz.results53, go_sem, q0, q1, q2, q3]) rfl ⟨⟨k, p, l, v⟩, rfl, dz⟩

/-- a drawn list of at most N faults -/
def DrE (w : World) (g N : Nat) (e : Ending) (w' : World) : Prop :=
  ∃ A n c fs, e = .returned (.slice A n c) ∧ OwnE encF 4 87 w' w.heap.size A n c fs ∧ n ≤ N ∧ Dr w g w'
theorem Dr.appE {T : TypeId} {A : Option Addr} {n c : Nat} {fs : List Flt} {w0 w w' : World} {g : Nat} (h : Dr w0 g w) (hown : OwnE encF 4 T w w0.heap.size A n c fs) (hg : w.grownBy w' (Value.slice A n c).ownBlock) (hl : g < w0.heap.size) : Dr w0 g w' :=
  h.own hg (fun j e => (hown.row j e).1) hl

set_option maxRecDepth 20000 in
set_option maxHeartbeats 8000000 in
theorem drawScript_any (g n : Nat) (w : World) (h : Src w g) (hn : n ≤ 1099511627776) :
    Calls Tryz.prog 23 #[.pointer (some ⟨g, 0, none⟩), .int .i64 n] w (DrE w g 40) := by
  have hl := h.lt
  go_enter Tryz.func23, Tryz.ntmps23
  go_wp2_with fail
  refine (next_any g _ _ ((Dr.refl h).alloc _).src).mono ?_
  rintro e w1 ⟨x, rfl, hx, d1⟩
  have hown1 := (OwnE.empty (enc := encF) (sz := 4) (T := 87) w (base := w.heap.size) (Nat.le_refl _)).dr d1 hl
  have d1' := d1.next ((Dr.refl h).alloc _)
  have hx5 : x ≤ 5 := by omega
  clear d1 hx
  go_wp2_with fail
  go_loopw [5, 6] (fun o i wr => ∃ (m q : Nat) (A' : Option Addr) (c' : Nat) (fs : List Flt), m + q ≤ 5 ∧ o = .slice A' m c' ∧ i = .int .i64 q ∧ OwnE encF 4 87 wr w.heap.size A' m c' fs ∧ Dr w g wr) (fun _ i _ => (intOf i).toNat)
  case atStart => exact ⟨0, x, _, _, _, by omega, rfl, rfl, hown1, d1'⟩
  case round =>
    obtain ⟨m, q, A', c', fs, hmq, rfl, rfl, hown, d⟩ := hrel
    by_cases hq : 0 < q
    · go_wp2_with fail
      refine (drawFault_any g n _ d.src hn).mono ?_
      rintro e w2 ⟨⟨k, p, l, v⟩, rfl, d2⟩
      have hown2 := hown.dr d2 hl
      have d2' := d2.next d
      have hg2 := d2'.lt
      have hne2 : g ≠ w2.heap.size := by omega
      clear d2 hown d
      dsimp only
      go_wp2_with fail
      refine (sIsFault_any k p l v _).mono ?_
      obtain ⟨b, hb⟩ : ∃ b, isFault ⟨k, p, l, v⟩ = b := ⟨_, rfl⟩
      rw [hb]
      clear hb
      rintro e w3 ⟨rfl, hb3⟩
      have F3 := Lib.hid ((Blk4.new w2 87 (.int .i64 k) (.int .i64 p) (.int .i64 l) (.int .i64 v)).next hb3)
      have hown3 := (hown2.alloc (.cells #[.int .i64 k, .int .i64 p, .int .i64 l, .int .i64 v] 87)).below hb3
      have d3 := (d2'.alloc (.cells #[.int .i64 k, .int .i64 p, .int .i64 l, .int .i64 v] 87)).below hb3
      clear hb3 hown2 d2'
      cases b
      case true =>
        have f0 := F3.out.c0; have f1 := F3.out.c1; have f2 := F3.out.c2; have f3 := F3.out.c3
        go_wp2_with (at_builtin; refine wpl_appF _ _ Tryz.underlying34 infoFault rfl _ _ rfl w.heap.size _ m _ _ rfl hown3 ⟨k, p, l, v⟩ rfl (by omega) d3.size ?_; intro A4 c4 w4 hown4 hB4 hg4)
        go_roundw
        case rel => exact ⟨m + 1, q - 1, A4, c4, _, by omega, rfl, by congr 1; omega, hown4, d3.appE hown3 hg4 hl⟩
        case measure => simp [intOf]; omega
      case false =>
        go_wp2_with fail
        refine (next_any g 4 _ d3.src).mono ?_
        rintro e w4 ⟨y, rfl, hy, d4⟩
        have F4 := Lib.hid (F3.out.dr d4 hne2)
        have hown4 := hown3.dr d4 hl
        have d4' := d4.next d3
        clear d4 hown3 d3
        by_cases h0 : y = 0
        · subst h0
          have f0 := F4.out.c0; have f1 := F4.out.c1; have f2 := F4.out.c2; have f3 := F4.out.c3
          go_wp2_with (at_builtin; refine wpl_appF _ _ Tryz.underlying34 infoFault rfl _ _ rfl w.heap.size _ m _ _ rfl hown4 ⟨k, p, l, v⟩ rfl (by omega) d4'.size ?_; intro A5 c5 w5 hown5 hB5 hg5)
          go_roundw
          case rel => exact ⟨m + 1, q - 1, A5, c5, _, by omega, rfl, by congr 1; omega, hown5, d4'.appE hown4 hg5 hl⟩
          case measure => simp [intOf]; omega
        · have b0 : ((y : Int) == 0) = false := by simp; omega
          go_wp2
          go_roundw
          case rel => exact ⟨m, q - 1, A', c', fs, by omega, rfl, by congr 1; omega, hown4, d4'⟩
          case measure => simp [intOf]; omega
    · obtain rfl : q = 0 := by omega
      go_wp2_with fail
      refine (next_any g 40 _ d.src).mono ?_
      rintro e w2 ⟨y, rfl, hy, d2⟩
      have hown2 := hown.dr d2 hl
      have d2' := d2.next d
      clear d2 hown d
      by_cases h0 : y = 0
      · subst h0
        go_wp2
        go_loopw [5] (fun o wr => ∃ (m : Nat) (A' : Option Addr) (c' : Nat) (fs : List Flt), m ≤ 31 ∧ o = .slice A' m c' ∧ OwnE encF 4 87 wr w.heap.size A' m c' fs ∧ Dr w g wr) (fun o _ => 32 - (match o with | .slice _ m _ => m | _ => 0))
        case atStart => exact ⟨m, A', c', fs, by omega, rfl, hown2, d2'⟩
        case round =>
          obtain ⟨m, A', c', fs, hm31, rfl, hown, d⟩ := hrel
          go_wp2_with fail
          refine (next_any g 2 _ d.src).mono ?_
          rintro e w3 ⟨y, rfl, hy, d3⟩
          have hown3 := hown.dr d3 hl
          have d3' := d3.next d
          have hy2 : y < 2 := by omega
          clear d3 hown d hy
          by_cases hlt : (m : Int) < 30 + (y : Int)
          · go_wp2_with (at_builtin; refine wpl_appF _ _ Tryz.underlying34 infoFault rfl _ _ rfl w.heap.size _ m _ _ rfl hown3 ⟨1, 3, 0, 0⟩ rfl (by omega) d3'.size ?_; intro A5 c5 w5 hown5 hB5 hg5)
            go_roundw
            case rel => exact ⟨m + 1, A5, c5, _, by omega, rfl, hown5, d3'.appE hown3 hg5 hl⟩
            case measure => simp; omega
          · go_wp2
            go_ret
            exact ⟨A', m, c', fs, rfl, hown3, by omega, d3'⟩
      · have b0 : ((y : Int) == 0) = false := by simp; omega
        go_wp2
        go_ret
        exact ⟨A', m, c', fs, rfl, hown2, by omega, d2'⟩
end Go.Proofs.YtbaojbheopcjhaaGreatDoor
