/- The walks of the laws' functions on verdicts. Conditions: lists of at most 2^40 numbers. -/
import Derived.Test.YtlfbmedgkkfalaaVerC
import Derived.Test.YtlfbmedgkkfalaaKit12
import Derived.Deep.DeepCutAuto
namespace Go.Proofs.Ytlfbmedgkkfalaa
open Go.RowKit
set_option maxRecDepth 20000 in
set_option maxHeartbeats 8000000 in
theorem toVerdict_any (x : Vdt) (A : Option Addr) (n c : Nat) (zs : List Int) (w : World) (h : RI w w.heap.size A n zs) (hn : n ≤ 1099511627776) :
    Calls Try.prog 26 #[aggV x A n c] w fun e w' => ∃ A' c', e = .returned (aggV x A' n c') ∧ OwnI 2 w' w.heap.size A' n c' zs ∧ Below w.heap.size w w' := by
  obtain ⟨st, kd, rq, tm, md, rd, sl, mb⟩ := x
  unfold aggV
  dsimp only
  go_enter Try.func26, Try.ntmps26
  go_wp2_with fail
  have hB : Below w.heap.size w (((w.alloc (.cells #[.int .i64 st, .int .i64 kd, .int .i64 rq, .int .i64 tm, .int .i64 md, .int .i64 rd, .int .i64 sl, .int .i64 mb, .slice A n c] 28)).alloc (.cells #[.int .i64 0, .int .i64 0, .int .i64 0, .int .i64 0, .int .i64 0, .int .i64 0, .int .i64 0, .int .i64 0, .slice none 0 0] 35)).alloc (.cells #[.int .i64 st, .int .i64 0, .int .i64 0, .int .i64 0, .int .i64 0, .int .i64 0, .int .i64 0, .int .i64 0, .slice none 0 0] 35)) := below_alloc (below_alloc (below_alloc (Below.refl _ _) (Nat.le_refl _) _) (Nat.le_refl _) _) (Nat.le_refl _) _
  refine (toFrame_any _ _ _ _ _ _ _ A n c zs _ (h.up hB) hn).mono ?_
  rintro e w2 ⟨A2, c2, rfl, hown2, hb2⟩
  have k2 : BlkL w2 (w.heap.size + 1) 35 [.int .i64 0, .int .i64 0, .int .i64 0, .int .i64 0, .int .i64 0, .int .i64 0, .int .i64 0, .int .i64 0, .slice none 0 0] := BlkL.next hb2 ((BlkL.new (w.alloc (.cells #[.int .i64 st, .int .i64 kd, .int .i64 rq, .int .i64 tm, .int .i64 md, .int .i64 rd, .int .i64 sl, .int .i64 mb, .slice A n c] 28)) _ _ (by simp)).alloc _)
  have k3 : BlkL w2 (w.heap.size + 1 + 1) 35 [.int .i64 st, .int .i64 0, .int .i64 0, .int .i64 0, .int .i64 0, .int .i64 0, .int .i64 0, .int .i64 0, .slice none 0 0] := BlkL.next hb2 (BlkL.new ((w.alloc (.cells #[.int .i64 st, .int .i64 kd, .int .i64 rq, .int .i64 tm, .int .i64 md, .int .i64 rd, .int .i64 sl, .int .i64 mb, .slice A n c] 28)).alloc (.cells #[.int .i64 0, .int .i64 0, .int .i64 0, .int .i64 0, .int .i64 0, .int .i64 0, .int .i64 0, .int .i64 0, .slice none 0 0] 35)) _ _ (by simp))
  have hbT := below_next hb2 hB (Nat.le_refl _)
  have hwb : w.heap.size + 1 + 1 + 1 ≤ w2.heap.size := by have := hb2.size; simpa using this
  have hown2' : OwnI 2 w2 (w.heap.size + 1 + 1 + 1) A2 n c2 zs := hown2.weaken (by simp)
  have hfr : ∀ j, w2.frozen? ⟨w.heap.size + 1 + 1, j, none⟩ = false := k3.free
  have r1 := k3.c 1 rfl
  have r2 := k3.c 2 rfl
  have r3 := k3.c 3 rfl
  have r4 := k3.c 4 rfl
  have r5 := k3.c 5 rfl
  have r6 := k3.c 6 rfl
  have r7 := k3.c 7 rfl
  have r8 := k3.c 8 rfl
  have K2 := Lib.hid k2
  have K3 := Lib.hid k3
  have HO := Lib.hid hown2'
  have HBT := Lib.hid hbT
  clear k2 k3 hown2 hown2' hbT hb2 hB
  go_upto_region 4 with fail
  refine wp_forget (fun wc => BlkL wc (w.heap.size + 1) 35 [.int .i64 0, .int .i64 0, .int .i64 0, .int .i64 0, .int .i64 0, .int .i64 0, .int .i64 0, .int .i64 0, .slice none 0 0] ∧ BlkL wc (w.heap.size + 1 + 1) 35 [.int .i64 st, .int .i64 kd, .int .i64 rq, .int .i64 tm, .int .i64 md, .int .i64 rd, .int .i64 sl, .int .i64 mb, .slice A2 n c2] ∧ OwnI 2 wc (w.heap.size + 1 + 1 + 1) A2 n c2 zs ∧ Below w.heap.size w wc) ?_ ?_
  · refine ⟨?_, ?_, ?_, ?_⟩
    · repeat (refine BlkL.other ?_ (by simp) _)
      exact K2.out
    · exact (((((((K3.out.set 1 _).set 2 _).set 3 _).set 4 _).set 5 _).set 6 _).set 7 _).set 8 _
    · repeat (refine OwnI.other ?_ (by simp) _)
      exact HO.out
    · repeat (refine Below.setCell ?_ (by simp; omega) _)
      exact HBT.out
  · rintro wc ⟨k2, k3, hown3, hb3⟩
    have hf2 : ∀ j, wc.frozen? ⟨w.heap.size + 1, j, none⟩ = false := k2.free
    have s0 := k3.c 0 rfl
    have s1 := k3.c 1 rfl
    have s2 := k3.c 2 rfl
    have s3 := k3.c 3 rfl
    have s4 := k3.c 4 rfl
    have s5 := k3.c 5 rfl
    have s6 := k3.c 6 rfl
    have s7 := k3.c 7 rfl
    have s8 := k3.c 8 rfl
    have q0 := k2.c 0 rfl
    have q1 := k2.c 1 rfl
    have q2 := k2.c 2 rfl
    have q3 := k2.c 3 rfl
    have q4 := k2.c 4 rfl
    have q5 := k2.c 5 rfl
    have q6 := k2.c 6 rfl
    have q7 := k2.c 7 rfl
    have q8 := k2.c 8 rfl
    have K2' := Lib.hid k2
    have HO3 := Lib.hid hown3
    have HB3 := Lib.hid hb3
    clear k2 k3 hown3 hb3 hfr r1 r2 r3 r4 r5 r6 r7 r8
    go_wp2
    refine bp_forget (fun w4 => BlkL w4 (w.heap.size + 1) 35 [.int .i64 st, .int .i64 kd, .int .i64 rq, .int .i64 tm, .int .i64 md, .int .i64 rd, .int .i64 sl, .int .i64 mb, .slice A2 n c2] ∧ OwnI 2 w4 (w.heap.size + 1 + 1 + 1) A2 n c2 zs ∧ Below w.heap.size w w4) ?_ ?_
    · refine ⟨?_, ?_, ?_⟩
      · exact ((((((((K2'.out.set 0 _).set 1 _).set 2 _).set 3 _).set 4 _).set 5 _).set 6 _).set 7 _).set 8 _
      · repeat (refine OwnI.other ?_ (by simp) _)
        exact HO3.out
      · repeat (refine Below.setCell ?_ (by simp) _)
        exact HB3.out
    · rintro w4 ⟨k4, hown4, hb4⟩
      have t0 := k4.c 0 rfl
      have t1 := k4.c 1 rfl
      have t2 := k4.c 2 rfl
      have t3 := k4.c 3 rfl
      have t4 := k4.c 4 rfl
      have t5 := k4.c 5 rfl
      have t6 := k4.c 6 rfl
      have t7 := k4.c 7 rfl
      have t8 := k4.c 8 rfl
      refine bodyPost_ret (v := .agg #[.int .i64 st, .int .i64 kd, .int .i64 rq, .int .i64 tm, .int .i64 md, .int .i64 rd, .int .i64 sl, .int .i64 mb, .slice A2 n c2]) (by simp [results, Try.results26, go_sem, t0, t1, t2, t3, t4, t5, t6, t7, t8]) rfl ⟨A2, c2, rfl, ?_, hb4⟩
      exact hown4.weaken (by omega)
end Go.Proofs.Ytlfbmedgkkfalaa
