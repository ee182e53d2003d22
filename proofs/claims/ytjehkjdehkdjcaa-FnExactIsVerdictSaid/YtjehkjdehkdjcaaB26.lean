/- Walks, laws and small notions for the claims of this seat, several texts as one (VerB, VerC, VerD). Conditions: as each theorem states them. -/
import Derived.Test.YtjehkjdehkdjcaaB10
import Derived.Test.YtjehkjdehkdjcaaB1
import Derived.Deep.DeepCutAuto
namespace Go.Proofs.Ytjehkjdehkdjcaa
open Go.RowKit
set_option maxHeartbeats 4000000 in
theorem toFrame_any (k r t m d s b : Int) (A : Option Addr) (n c : Nat) (zs : List Int) (w : World) (h : RI w w.heap.size A n zs) (hn : n ≤ 1099511627776) :
    Calls Try.prog 118 #[.agg #[.int .i64 k, .int .i64 r, .int .i64 t, .int .i64 m, .int .i64 d, .int .i64 s, .int .i64 b, .slice A n c]] w fun e w' => ∃ A' c', e = .returned (.agg #[.int .i64 k, .int .i64 r, .int .i64 t, .int .i64 m, .int .i64 d, .int .i64 s, .int .i64 b, .slice A' n c']) ∧ OwnI 2 w' w.heap.size A' n c' zs ∧ Below w.heap.size w w' := by
  go_enter Try.func118, Try.ntmps118
  go_wp2_with fail
  refine (toState_any _ _ _ _ _ _).mono ?_
  rintro e w1 ⟨rfl, hb1⟩
  obtain ⟨hc1, hf1⟩ := bcell hb1
  have hs1 := hb1.size
  simp at hs1
  have hz0 : w.heap.size < w1.heap.size := by omega
  have hz1 : w.heap.size + 1 < w1.heap.size := by omega
  have hz2 : w.heap.size + 2 < w1.heap.size := by omega
  go_wp2_with fail
  refine (toInt64S_any A n c zs _ (h.up ?_) hn).mono ?_
  · exact (by repeat with_reducible (first | exact Below.refl _ _ | refine below_next (by assumption) ?_ (by simp) | refine Below.setCell ?_ (by first | (simp; done) | (simp; omega)) _ | refine Below.drew ?_ | refine below_alloc ?_ (by simp) _))
  rintro e w2 ⟨A2, c2, rfl, hown2, hb2⟩
  obtain ⟨hc2, hf2⟩ := bcell hb2
  have hs2 := hb2.size
  simp at hs2
  have hy1 : w.heap.size + 1 < w2.heap.size := by omega
  have hy2 : w.heap.size + 2 < w2.heap.size := by omega
  go_wp2
  refine bodyPost_ret (v := .agg #[.int .i64 k, .int .i64 r, .int .i64 t, .int .i64 m, .int .i64 d, .int .i64 s, .int .i64 b, .slice A2 n c2]) (by simp [results, Try.results118, go_sem, hc1, hc2, hz1]) rfl ⟨A2, c2, rfl, ?_, ?_⟩
  · refine OwnI.weaken (base := w.heap.size + 3) ?_ (by omega)
    repeat with_reducible (first | exact hown2.weaken (by first | (simp; done) | (simp; omega)) | refine OwnI.other ?_ (by first | (simp; done) | (simp; omega)) _)
  · exact (by repeat with_reducible (first | exact Below.refl _ _ | refine below_next (by assumption) ?_ (by simp) | refine Below.setCell ?_ (by first | (simp; done) | (simp; omega)) _ | refine Below.drew ?_ | refine below_alloc ?_ (by simp) _))

end Go.Proofs.Ytjehkjdehkdjcaa

namespace Go.Proofs.Ytjehkjdehkdjcaa
open Go.RowKit
set_option maxHeartbeats 4000000 in
theorem eqFrame_self (k r t m d s b : Int) (A A' : Option Addr) (n c c' : Nat) (zs : List Int) (w : World) (h : RI w w.heap.size A n zs) (h' : RI w w.heap.size A' n zs) (hn : n ≤ 1099511627776) :
    Calls Try.prog 122 #[.agg #[.int .i64 k, .int .i64 r, .int .i64 t, .int .i64 m, .int .i64 d, .int .i64 s, .int .i64 b, .slice A n c], .agg #[.int .i64 k, .int .i64 r, .int .i64 t, .int .i64 m, .int .i64 d, .int .i64 s, .int .i64 b, .slice A' n c']] w (RetV w (.bool true)) := by
  go_enter Try.func122, Try.ntmps122
  go_wp2_with fail
  refine (eqState_self _ _ _ _ _ _).mono ?_
  rintro e w1 ⟨rfl, hb1⟩
  obtain ⟨hc1, hf1⟩ := bcell hb1
  go_wp2_with fail
  refine (eqInt64S_any A A' n n c c' zs zs _ (h.up ?_) (h'.up ?_) hn hn).mono ?_
  · exact (by repeat with_reducible (first | exact Below.refl _ _ | refine below_next (by assumption) ?_ (by simp) | refine Below.setCell ?_ (by first | (simp; done) | (simp; omega)) _ | refine Below.drew ?_ | refine below_alloc ?_ (by simp) _))
  · exact (by repeat with_reducible (first | exact Below.refl _ _ | refine below_next (by assumption) ?_ (by simp) | refine Below.setCell ?_ (by first | (simp; done) | (simp; omega)) _ | refine Below.drew ?_ | refine below_alloc ?_ (by simp) _))
  rw [eqI_self]
  rintro e w2 ⟨rfl, hb2⟩
  go_wp2
  go_ret
  exact ⟨rfl, (by repeat with_reducible (first | exact Below.refl _ _ | refine below_next (by assumption) ?_ (by simp) | refine Below.setCell ?_ (by first | (simp; done) | (simp; omega)) _ | refine Below.drew ?_ | refine below_alloc ?_ (by simp) _))⟩

set_option maxHeartbeats 4000000 in
theorem eqVerdict_self (x : Vdt) (A A' : Option Addr) (n c c' : Nat) (zs : List Int) (w : World) (h : RI w w.heap.size A n zs) (h' : RI w w.heap.size A' n zs) (hn : n ≤ 1099511627776) :
    Calls Try.prog 20 #[aggV x A n c, aggV x A' n c'] w (RetV w (.bool true)) := by
  unfold aggV
  go_enter Try.func20, Try.ntmps20
  go_wp2_with fail
  refine (eqFrame_self _ _ _ _ _ _ _ A A' n c c' zs _ (h.up ?_) (h'.up ?_) hn).mono ?_
  · exact (by repeat with_reducible (first | exact Below.refl _ _ | refine below_next (by assumption) ?_ (by simp) | refine Below.setCell ?_ (by first | (simp; done) | (simp; omega)) _ | refine Below.drew ?_ | refine below_alloc ?_ (by simp) _))
  · exact (by repeat with_reducible (first | exact Below.refl _ _ | refine below_next (by assumption) ?_ (by simp) | refine Below.setCell ?_ (by first | (simp; done) | (simp; omega)) _ | refine Below.drew ?_ | refine below_alloc ?_ (by simp) _))
  rintro e w2 ⟨rfl, hb2⟩
  go_wp2
  go_ret
  exact ⟨rfl, (by repeat with_reducible (first | exact Below.refl _ _ | refine below_next (by assumption) ?_ (by simp) | refine Below.setCell ?_ (by first | (simp; done) | (simp; omega)) _ | refine Below.drew ?_ | refine below_alloc ?_ (by simp) _))⟩
end Go.Proofs.Ytjehkjdehkdjcaa

namespace Go.Proofs.Ytjehkjdehkdjcaa
open Go.RowKit
set_option maxRecDepth 20000 in
set_option maxHeartbeats 8000000 in
theorem toVerdict_any (x : Vdt) (A : Option Addr) (n c : Nat) (zs : List Int) (w : World) (h : RI w w.heap.size A n zs) (hn : n ≤ 1099511627776) :
    Calls Try.prog 18 #[aggV x A n c] w fun e w' => ∃ A' c', e = .returned (aggV x A' n c') ∧ OwnI 2 w' w.heap.size A' n c' zs ∧ Below w.heap.size w w' := by
  obtain ⟨st, kd, rq, tm, md, rd, sl, mb⟩ := x
  unfold aggV
  dsimp only
  go_enter Try.func18, Try.ntmps18
  go_wp2_with fail
  have hB : Below w.heap.size w (((w.alloc (.cells #[.int .i64 st, .int .i64 kd, .int .i64 rq, .int .i64 tm, .int .i64 md, .int .i64 rd, .int .i64 sl, .int .i64 mb, .slice A n c] 28)).alloc (.cells #[.int .i64 0, .int .i64 0, .int .i64 0, .int .i64 0, .int .i64 0, .int .i64 0, .int .i64 0, .int .i64 0, .slice none 0 0] 35)).alloc (.cells #[.int .i64 st, .int .i64 0, .int .i64 0, .int .i64 0, .int .i64 0, .int .i64 0, .int .i64 0, .int .i64 0, .slice none 0 0] 35)) := below_alloc (below_alloc (below_alloc (Below.refl _ _) (Nat.le_refl _) _) (Nat.le_refl _) _) (Nat.le_refl _) _
  refine (toFrame_any _ _ _ _ _ _ _ A n c zs _ (h.up hB) hn).mono ?_
  rintro e w2 ⟨A2, c2, rfl, hown2, hb2⟩
  have k2 : BlkL w2 (w.heap.size + 1) 35 [.int .i64 0, .int .i64 0, .int .i64 0, .int .i64 0, .int .i64 0, .int .i64 0, .int .i64 0, .int .i64 0, .slice none 0 0] := BlkL.next hb2 ((BlkL.new (w.alloc (.cells #[.int .i64 st, .int .i64 kd, .int .i64 rq, .int .i64 tm, .int .i64 md, .int .i64 rd, .int .i64 sl, .int .i64 mb, .slice A n c] 28)) _ _ (by simp)).alloc _)
  have k3 : BlkL w2 (w.heap.size + 1 + 1) 35 [.int .i64 st, .int .i64 0, .int .i64 0, .int .i64 0, .int .i64 0, .int .i64 0, .int .i64 0, .int .i64 0, .slice none 0 0] := BlkL.next hb2 (BlkL.new ((w.alloc (.cells #[.int .i64 st, .int .i64 kd, .int .i64 rq, .int .i64 tm, .int .i64 md, .int .i64 rd, .int .i64 sl, .int .i64 mb, .slice A n c] 28)).alloc (.cells #[.int .i64 0, .int .i64 0, .int .i64 0, .int .i64 0, .int .i64 0, .int .i64 0, .int .i64 0, .int .i64 0, .slice none 0 0] 35)) _ _ (by simp))
  have hbT := below_next hb2 hB (Nat.le_refl _)
  have hwb : w.heap.size + 1 + 1 + 1 ≤ w2.heap.size := by have := hb2.size; simpa using this
  have hown2' : OwnI 2 w2 (w.heap.size + 1 + 1 + 1) A2 n c2 zs := hown2.weaken (by simp)
  have hfr : ∀ j, w2.frozen? ⟨w.heap.size + 1 + 1, j, none⟩ = false := k3.free
  have r1 := k3.c 1 rfl
  have r2 := k3.c 2 rfl
  have r3 := k3.c 3 rfl
  have r4 := k3.c 4 rfl
  have r5 := k3.c 5 rfl
  have r6 := k3.c 6 rfl
  have r7 := k3.c 7 rfl
  have r8 := k3.c 8 rfl
  have K2 := Lib.hid k2
  have K3 := Lib.hid k3
  have HO := Lib.hid hown2'
  have HBT := Lib.hid hbT
  clear k2 k3 hown2 hown2' hbT hb2 hB
  go_upto_region 4 with fail
  refine wp_forget (fun wc => BlkL wc (w.heap.size + 1) 35 [.int .i64 0, .int .i64 0, .int .i64 0, .int .i64 0, .int .i64 0, .int .i64 0, .int .i64 0, .int .i64 0, .slice none 0 0] ∧ BlkL wc (w.heap.size + 1 + 1) 35 [.int .i64 st, .int .i64 kd, .int .i64 rq, .int .i64 tm, .int .i64 md, .int .i64 rd, .int .i64 sl, .int .i64 mb, .slice A2 n c2] ∧ OwnI 2 wc (w.heap.size + 1 + 1 + 1) A2 n c2 zs ∧ Below w.heap.size w wc) ?_ ?_
  · refine ⟨?_, ?_, ?_, ?_⟩
    · repeat (refine BlkL.other ?_ (by simp) _)
      exact K2.out
    · exact (((((((K3.out.set 1 _).set 2 _).set 3 _).set 4 _).set 5 _).set 6 _).set 7 _).set 8 _
    · repeat (refine OwnI.other ?_ (by simp) _)
      exact HO.out
    · repeat (refine Below.setCell ?_ (by simp; omega) _)
      exact HBT.out
  · rintro wc ⟨k2, k3, hown3, hb3⟩
    have hf2 : ∀ j, wc.frozen? ⟨w.heap.size + 1, j, none⟩ = false := k2.free
    have s0 := k3.c 0 rfl
    have s1 := k3.c 1 rfl
    have s2 := k3.c 2 rfl
    have s3 := k3.c 3 rfl
    have s4 := k3.c 4 rfl
    have s5 := k3.c 5 rfl
    have s6 := k3.c 6 rfl
    have s7 := k3.c 7 rfl
    have s8 := k3.c 8 rfl
    have q0 := k2.c 0 rfl
    have q1 := k2.c 1 rfl
    have q2 := k2.c 2 rfl
    have q3 := k2.c 3 rfl
    have q4 := k2.c 4 rfl
    have q5 := k2.c 5 rfl
    have q6 := k2.c 6 rfl
    have q7 := k2.c 7 rfl
    have q8 := k2.c 8 rfl
    have K2' := Lib.hid k2
    have HO3 := Lib.hid hown3
    have HB3 := Lib.hid hb3
    clear k2 k3 hown3 hb3 hfr r1 r2 r3 r4 r5 r6 r7 r8
    go_wp2
    refine bp_forget (fun w4 => BlkL w4 (w.heap.size + 1) 35 [.int .i64 st, .int .i64 kd, .int .i64 rq, .int .i64 tm, .int .i64 md, .int .i64 rd, .int .i64 sl, .int .i64 mb, .slice A2 n c2] ∧ OwnI 2 w4 (w.heap.size + 1 + 1 + 1) A2 n c2 zs ∧ Below w.heap.size w w4) ?_ ?_
    · refine ⟨?_, ?_, ?_⟩
      · exact ((((((((K2'.out.set 0 _).set 1 _).set 2 _).set 3 _).set 4 _).set 5 _).set 6 _).set 7 _).set 8 _
      · repeat (refine OwnI.other ?_ (by simp) _)
        exact HO3.out
      · repeat (refine Below.setCell ?_ (by simp) _)
        exact HB3.out
    · rintro w4 ⟨k4, hown4, hb4⟩
      have t0 := k4.c 0 rfl
      have t1 := k4.c 1 rfl
      have t2 := k4.c 2 rfl
      have t3 := k4.c 3 rfl
      have t4 := k4.c 4 rfl
      have t5 := k4.c 5 rfl
      have t6 := k4.c 6 rfl
      have t7 := k4.c 7 rfl
      have t8 := k4.c 8 rfl
      refine bodyPost_ret (v := .agg #[.int .i64 st, .int .i64 kd, .int .i64 rq, .int .i64 tm, .int .i64 md, .int .i64 rd, .int .i64 sl, .int .i64 mb, .slice A2 n c2]) (by simp [results, Try.results18, go_sem, t0, t1, t2, t3, t4, t5, t6, t7, t8]) rfl ⟨A2, c2, rfl, ?_, hb4⟩
      exact hown4.weaken (by omega)
end Go.Proofs.Ytjehkjdehkdjcaa
