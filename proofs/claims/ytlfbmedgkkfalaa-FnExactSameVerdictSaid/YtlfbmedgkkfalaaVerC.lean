/- The walks of the laws' functions on verdicts. Conditions: lists of at most 2^40 numbers. -/
import Derived.Test.YtlfbmedgkkfalaaVerB
namespace Go.Proofs.Ytlfbmedgkkfalaa
open Go.RowKit
set_option maxHeartbeats 4000000 in
theorem eqFrame_self (k r t m d s b : Int) (A A' : Option Addr) (n c c' : Nat) (zs : List Int) (w : World) (h : RI w w.heap.size A n zs) (h' : RI w w.heap.size A' n zs) (hn : n ≤ 1099511627776) :
    Calls Try.prog 139 #[.agg #[.int .i64 k, .int .i64 r, .int .i64 t, .int .i64 m, .int .i64 d, .int .i64 s, .int .i64 b, .slice A n c], .agg #[.int .i64 k, .int .i64 r, .int .i64 t, .int .i64 m, .int .i64 d, .int .i64 s, .int .i64 b, .slice A' n c']] w (RetV w (.bool true)) := by
  go_enter Try.func139, Try.ntmps139
  go_wp2_with fail
  refine (eqState_self _ _ _ _ _ _).mono ?_
  rintro e w1 ⟨rfl, hb1⟩
  obtain ⟨hc1, hf1⟩ := bcell hb1
  go_wp2_with fail
  refine (eqInt64S_any A A' n n c c' zs zs _ (h.up ?_) (h'.up ?_) hn hn).mono ?_
  · exact (by repeat with_reducible (first | exact Below.refl _ _ | refine below_next (by assumption) ?_ (by simp) | refine Below.setCell ?_ (by first | (simp; done) | (simp; omega)) _ | refine Below.drew ?_ | refine below_alloc ?_ (by simp) _))
  · exact (by repeat with_reducible (first | exact Below.refl _ _ | refine below_next (by assumption) ?_ (by simp) | refine Below.setCell ?_ (by first | (simp; done) | (simp; omega)) _ | refine Below.drew ?_ | refine below_alloc ?_ (by simp) _))
  rw [eqI_self]
  rintro e w2 ⟨rfl, hb2⟩
  go_wp2
  go_ret
  exact ⟨rfl, (by repeat with_reducible (first | exact Below.refl _ _ | refine below_next (by assumption) ?_ (by simp) | refine Below.setCell ?_ (by first | (simp; done) | (simp; omega)) _ | refine Below.drew ?_ | refine below_alloc ?_ (by simp) _))⟩

set_option maxHeartbeats 4000000 in
theorem eqVerdict_self (x : Vdt) (A A' : Option Addr) (n c c' : Nat) (zs : List Int) (w : World) (h : RI w w.heap.size A n zs) (h' : RI w w.heap.size A' n zs) (hn : n ≤ 1099511627776) :
    Calls Try.prog 28 #[aggV x A n c, aggV x A' n c'] w (RetV w (.bool true)) := by
  unfold aggV
  go_enter Try.func28, Try.ntmps28
  go_wp2_with fail
  refine (eqFrame_self _ _ _ _ _ _ _ A A' n c c' zs _ (h.up ?_) (h'.up ?_) hn).mono ?_
  · exact (by repeat with_reducible (first | exact Below.refl _ _ | refine below_next (by assumption) ?_ (by simp) | refine Below.setCell ?_ (by first | (simp; done) | (simp; omega)) _ | refine Below.drew ?_ | refine below_alloc ?_ (by simp) _))
  · exact (by repeat with_reducible (first | exact Below.refl _ _ | refine below_next (by assumption) ?_ (by simp) | refine Below.setCell ?_ (by first | (simp; done) | (simp; omega)) _ | refine Below.drew ?_ | refine below_alloc ?_ (by simp) _))
  rintro e w2 ⟨rfl, hb2⟩
  go_wp2
  go_ret
  exact ⟨rfl, (by repeat with_reducible (first | exact Below.refl _ _ | refine below_next (by assumption) ?_ (by simp) | refine Below.setCell ?_ (by first | (simp; done) | (simp; omega)) _ | refine Below.drew ?_ | refine below_alloc ?_ (by simp) _))⟩
end Go.Proofs.Ytlfbmedgkkfalaa
