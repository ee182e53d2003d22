/- FnExactStatusNamed: the program's StatusNamed returns what the reference's returns, for all strings. Conditions: none. -/
import Derived.Test.YtdbfnldjibjbkaaRow
import Derived.Test.YtdbfnldjibjbkaaHold
import Derived.Test.YtdbfnldjibjbkaaNamed
namespace Go.Proofs.Ytdbfnldjibjbkaa
open Go.ChangeShapes Go.WideShapes Go.ChangeAt Go.RowKit
namespace StatusNamed
set_option maxHeartbeats 1000000 in
theorem walk (w : World) (s : ByteArray) (hs : s.size ≤ maxLen) :
    Calls Try.prog 3 #[.string s] w fun e w' => e = .returned (.bool true) ∧ Below w.heap.size w w' := by
  unfold maxLen at hs
  by_cases hz : s.size ≤ 1048576
  case neg => go_enter Try.func3, Try.ntmps3; go_wp2; go_ret; exact ⟨rfl, by go_grown⟩
  obtain ⟨V, hV⟩ : ∃ x, val s = x := ⟨_, rfl⟩
  obtain ⟨C, hC⟩ : ∃ x, cod s = x := ⟨_, rfl⟩
  have HV := Lib.hid hV
  have HC := Lib.hid hC
  clear hV hC
  go_enter Try.func3, Try.ntmps3
  go_wp2_with fail
  refine (spec_any s w).mono ?_
  rw [HV.out, HC.out]
  rintro e w1 ⟨rfl, hb1⟩
  go_wp2_with fail
  refine (impl_any s w1).mono ?_
  rw [HV.out, HC.out]
  rintro e w2 ⟨rfl, hb2⟩
  go_wp2
  go_ret
  exact ⟨rfl, below_next hb2 hb1 (Nat.le_refl _)⟩

set_option maxRecDepth 100000 in
theorem lifted (os : Os) (started : os.Started) (H : Type) (enc : TypeId × Value → H) :
    ReturnsInHanded {} Try.checked os 3 .any (Rows.fnExactStatusNamedSpec.pre6 enc Try.prog Try.f3 Rows.fnExactStatusNamedRow.domain false) (Rows.fnExactStatusNamedSpec.post enc Try.prog Try.f3 false true false false) := by
  refine returnsInHanded_of_change (C := Try.checked) own started (by kernel_rfl) Try.func3
    (ChangeSpec.witness6 (enc := enc) (C := Try.checked) false ⟨#[], #[.string ⟨#[]⟩], []⟩ 8 (by kernel_rfl) (by kernel_rfl) (by kernel_rfl) (by kernel_rfl)) ?_
  intro W base args ds gs before hval0 hW _ _
  have hval : ∀ (j : Nat) t v, Try.f3.params[j]? = some t → args[j]? = some v → Value.okWide Try.prog W .any base t v := hval0
  have hW' := hW
  obtain ⟨p, q, hA0, hV, rfl, hfz, hnd⟩ := hW
  have hA : DataW.TrodAll enc Try.prog W 0 (fun _ => true) true Try.f3.params.toList args.toList ds p := hA0
  rw [Try.params3] at hA hval
  obtain ⟨v0, vs0, d0, ds0, p0, q0, hargs, rfl, rfl, h0, r0⟩ := trodAll_cons hA
  obtain ⟨rfl, rfl, rfl⟩ := trodAll_nil r0
  obtain rfl : args = #[v0] := by cases args; simp_all
  obtain ⟨s0, rfl, _, _, ws0⟩ := ChangeMaps.open_string Try.underlying9 (hval 0 9 v0 rfl rfl) h0
  refine (walk W s0 ws0).mono fun e W' ⟨he, hb⟩ => ?_
  subst he
  exact ⟨_, rfl, law_post laidOut (by
    rw [show Try.f3.params.toList = [9] from rfl]
    intro t ht
    rw [List.mem_singleton.1 ht]; exact ⟨by kernel_rfl, of_decide_eq_true (by kernel_rfl)⟩) rfl Try.underlying4 rfl rfl hW' hb⟩

set_option maxRecDepth 100000 in
theorem closed : joinedFacts Try.prog 3 Try.f3 Rows.fnExactStatusNamedSpec Rows.fnExactStatusNamedRow = true := by
  unfold joinedFacts
  rw [mayEnter_ok, liftsFinal_ok, make_ok]
  change _ = true
  kernel_rfl

theorem holds : Rows.FnExactStatusNamedSaid :=
  OpenClaim.holds_of_wide 3 Try.f3 rfl rfl rfl rfl rfl rfl rfl ⟨rfl, rfl, rfl, rfl, rfl⟩ rfl rfl rfl rfl rfl (by kernel_rfl) Try.func3 closed
    (of_decide_eq_true (by kernel_rfl)) (by unfold Func.isWrapper; first | (rw [if_pos (by decide +kernel)]; kernel_rfl) | (rw [if_neg (by decide +kernel)]; exact ⟨rfl, rfl⟩))
    (fun os started H enc _ => lifted os started H enc)
end StatusNamed
end Go.Proofs.Ytdbfnldjibjbkaa
