/- Walks, laws and small notions for the claims of this seat, several texts as one (Hold). Conditions: as each theorem states them. -/
import Derived.Test.YtbaojbheopcjhaaGreatDoorB2
namespace Go.Proofs.YtbaojbheopcjhaaGreatDoor
open Go.ChangeShapes Go.WideShapes Go.ChangeAt Go.RowKit

theorem ws_step (w r : List Char) (h : w.all (fun c => c != Char.ofNat 32) = true) : wordsSigns (w ++ Char.ofNat 32 :: r) = w :: wordsSigns r := by
  induction w with
  | nil => rfl
  | cons c w ih =>
    simp only [List.all_cons, Bool.and_eq_true] at h
    have hc : c ≠ Char.ofNat 32 := by
      have := h.1
      simpa using this
    rw [List.cons_append, wordsSigns, ih h.2]
    exact hc
theorem ws_at {l : List Char} (k : Nat) (h1 : l = l.take k ++ Char.ofNat 32 :: l.drop (k + 1)) (h2 : (l.take k).all (fun c => c != Char.ofNat 32) = true) :
    wordsSigns l = l.take k :: wordsSigns (l.drop (k + 1)) := by
  have := ws_step _ (l.drop (k + 1)) h2
  rw [← h1] at this
  exact this

set_option maxRecDepth 100000 in
theorem headWords : ∃ X, behindMainWord (wordsSigns Tryz.prog.initOrder.toList) = "cut".toList :: X := by
  have hl := (rfl : Tryz.prog.initOrder = String.ofList _)
  have hl2 := (congrArg String.toList hl).trans String.toList_ofList
  rw [hl2]
  rw [ws_at 7 (by as_aux_lemma => kernel_rfl) (by as_aux_lemma => kernel_rfl)]
  rw [ws_at (l := List.drop (7 + 1) _) 64 (by as_aux_lemma => kernel_rfl) (by as_aux_lemma => kernel_rfl)]
  rw [ws_at (l := List.drop (64 + 1) _) 3 (by as_aux_lemma => kernel_rfl) (by as_aux_lemma => kernel_rfl)]
  generalize wordsSigns (List.drop (3 + 1) _) = X
  refine ⟨X, ?_⟩
  kernel_rfl
section
variable {P : Program} {X : List (List Char)} (h : behindMainWord (wordsSigns P.initOrder.toList) = "cut".toList :: X)
include h
theorem lifts_of : P.headLifts = [] := by
  unfold Program.headLifts
  rw [h]
  kernel_rfl
theorem liftsFinal_of : P.liftsFinal = false := by
  unfold Program.liftsFinal
  rw [lifts_of h, h]
  kernel_rfl
theorem make_of : P.make = some .cut := by
  unfold Program.make
  rw [h]
  kernel_rfl
theorem mayEnter_of (h1 : P.laysLater = false) (h2 : P.bearsReflect = false) (h3 : P.doorFits [] = true) : P.mayEnter = true := by
  unfold Program.mayEnter
  rw [h, h1, h2]
  have e : stripLifts liftWords ("cut".toList :: X) = ([], "cut".toList :: X) := by kernel_rfl
  dsimp only
  rw [e]
  dsimp only
  rw [h3]
  change _ = true
  kernel_rfl
end
theorem liftsFinal_ok : Tryz.prog.liftsFinal = false := let ⟨_, h⟩ := headWords; liftsFinal_of h
theorem make_ok : Tryz.prog.make = some .cut := let ⟨_, h⟩ := headWords; make_of h
theorem mayEnter_ok : Tryz.prog.mayEnter = true := let ⟨_, h⟩ := headWords; mayEnter_of h (by as_aux_lemma => kernel_rfl) (by as_aux_lemma => kernel_rfl) (by as_aux_lemma => kernel_rfl)
end Go.Proofs.YtbaojbheopcjhaaGreatDoor
