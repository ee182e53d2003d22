/- The walks of the laws' functions on frames and verdicts. Conditions: lists of at most 2^40 numbers. -/
import Derived.Test.YtlfbmedgkkfalaaVer
namespace Go.Proofs.Ytlfbmedgkkfalaa
open Go.RowKit
set_option maxHeartbeats 4000000 in
theorem toFrame_any (k r t m d s b : Int) (A : Option Addr) (n c : Nat) (zs : List Int) (w : World) (h : RI w w.heap.size A n zs) (hn : n ≤ 1099511627776) :
    Calls Try.prog 137 #[.agg #[.int .i64 k, .int .i64 r, .int .i64 t, .int .i64 m, .int .i64 d, .int .i64 s, .int .i64 b, .slice A n c]] w fun e w' => ∃ A' c', e = .returned (.agg #[.int .i64 k, .int .i64 r, .int .i64 t, .int .i64 m, .int .i64 d, .int .i64 s, .int .i64 b, .slice A' n c']) ∧ OwnI 2 w' w.heap.size A' n c' zs ∧ Below w.heap.size w w' := by
  go_enter Try.func137, Try.ntmps137
  go_wp2_with fail
  refine (toState_any _ _ _ _ _ _).mono ?_
  rintro e w1 ⟨rfl, hb1⟩
  obtain ⟨hc1, hf1⟩ := bcell hb1
  have hs1 := hb1.size
  simp at hs1
  have hz0 : w.heap.size < w1.heap.size := by omega
  have hz1 : w.heap.size + 1 < w1.heap.size := by omega
  have hz2 : w.heap.size + 2 < w1.heap.size := by omega
  go_wp2_with fail
  refine (toInt64S_any A n c zs _ (h.up ?_) hn).mono ?_
  · exact (by repeat with_reducible (first | exact Below.refl _ _ | refine below_next (by assumption) ?_ (by simp) | refine Below.setCell ?_ (by first | (simp; done) | (simp; omega)) _ | refine Below.drew ?_ | refine below_alloc ?_ (by simp) _))
  rintro e w2 ⟨A2, c2, rfl, hown2, hb2⟩
  obtain ⟨hc2, hf2⟩ := bcell hb2
  have hs2 := hb2.size
  simp at hs2
  have hy1 : w.heap.size + 1 < w2.heap.size := by omega
  have hy2 : w.heap.size + 2 < w2.heap.size := by omega
  go_wp2
  refine bodyPost_ret (v := .agg #[.int .i64 k, .int .i64 r, .int .i64 t, .int .i64 m, .int .i64 d, .int .i64 s, .int .i64 b, .slice A2 n c2]) (by simp [results, Try.results137, go_sem, hc1, hc2, hz1]) rfl ⟨A2, c2, rfl, ?_, ?_⟩
  · refine OwnI.weaken (base := w.heap.size + 3) ?_ (by omega)
    repeat with_reducible (first | exact hown2.weaken (by first | (simp; done) | (simp; omega)) | refine OwnI.other ?_ (by first | (simp; done) | (simp; omega)) _)
  · exact (by repeat with_reducible (first | exact Below.refl _ _ | refine below_next (by assumption) ?_ (by simp) | refine Below.setCell ?_ (by first | (simp; done) | (simp; omega)) _ | refine Below.drew ?_ | refine below_alloc ?_ (by simp) _))

end Go.Proofs.Ytlfbmedgkkfalaa
