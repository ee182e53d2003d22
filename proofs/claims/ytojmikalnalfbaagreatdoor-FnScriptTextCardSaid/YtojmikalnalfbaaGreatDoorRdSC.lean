/- Plain laws on scripts read from texts; rows of two types are apart. Conditions: none. -/
import Derived.Test.YtojmikalnalfbaaGreatDoorB34
import Derived.Test.YtojmikalnalfbaaGreatDoorTxNC
namespace Go.Proofs.YtojmikalnalfbaaGreatDoor
open Go.Lib Go.RowKit
/-- all the pieces read as faults -/
noncomputable def allRd : List (List UInt8) → Option (List Flt)
  | [] => some []
  | p :: ps => if (rdF p).2 then (allRd ps).map ((rdF p).1 :: ·) else none
theorem allRd_snoc (p : List UInt8) : ∀ {ps : List (List UInt8)} {L : List Flt}, allRd ps = some L → allRd (ps ++ [p]) = if (rdF p).2 = true then some (L ++ [(rdF p).1]) else none
  | [], L, h => by cases h; cases hp : (rdF p).2 <;> simp [allRd, hp]
  | q :: ps, L, h => by
    unfold allRd at h
    cases hq : (rdF q).2
    · rw [hq] at h; cases h
    · rw [hq] at h
      simp only [if_true, Option.map_eq_some_iff] at h
      obtain ⟨M, h1, rfl⟩ := h
      rw [List.cons_append, allRd, hq, allRd_snoc p h1]
      cases (rdF p).2 <;> simp
theorem allRd_some : ∀ {ps : List (List UInt8)} {L : List Flt}, allRd ps = some L → ps = L.map ftxtL ∧ allF L = true
  | [], L, h => by cases h; exact ⟨rfl, rfl⟩
  | p :: ps, L, h => by
    unfold allRd at h
    rcases rdF_cases p with ⟨f, hf, he, hr⟩ | ⟨_, hr⟩
    · rw [hr] at h
      simp only [if_true, Option.map_eq_some_iff] at h
      obtain ⟨M, h1, rfl⟩ := h
      obtain ⟨e1, e2⟩ := allRd_some h1
      refine ⟨by rw [List.map_cons, ← he, ← e1], ?_⟩
      unfold allF at e2 ⊢
      rw [List.all_cons, hf, e2]; rfl
    · rw [hr] at h; simp at h
theorem rdS_nil : rdS [] = ([], true) := rdS_yes (fs := []) rfl rfl
/-- a piece that is not read -/
theorem rdS_bad2 {s p : List UInt8} (hs : s ≠ []) (hp : p ∈ spl 59 s) (h : (rdF p).2 = false) : rdS s = ([], false) := by
  refine rdS_bad hs hp ?_
  rcases rdF_cases p with ⟨f, _, _, hr⟩ | ⟨h1, _⟩
  · rw [hr] at h; cases h
  · exact h1
theorem rdS_ok {s : List UInt8} {L : List Flt} (hs : s ≠ []) (h : allRd (spl 59 s) = some L) (hl : L.length ≤ 30) : rdS s = (L, true) := by
  obtain ⟨e1, e2⟩ := allRd_some h
  exact rdS_of_pieces hs e1 (by unfold isScript; rw [e2, decide_eq_true hl]; rfl)
theorem isScr_of {L : List Flt} (h : allF L = true) (hl : L.length ≤ 30) : isScript L = true := by unfold isScript; rw [h, decide_eq_true hl]; rfl
theorem isScr_not {L : List Flt} (hl : 30 < L.length) : isScript L = false := by unfold isScript; rw [decide_eq_false (by omega)]; rfl

theorem OwnE.apart {α β : Type} {enc : α → List Value} {enc' : β → List Value} {sz sz' : Nat} {T T' : TypeId} {w : World} {base base' n n' c c' : Nat} {A A' : Option Addr} {zs : List α} {ys : List β}
    (h : OwnE enc sz T w base A n c zs) (h' : OwnE enc' sz' T' w base' A' n' c' ys) (hT : T ≠ T') : (Value.slice A n c).ownBlock = none ∨ (Value.slice A n c).ownBlock ≠ (Value.slice A' n' c').ownBlock := by
  rcases h.2.2 with ⟨h1, h2⟩ | ⟨g, cap, cur, hv, hg, hh, _⟩
  · injection h1 with h3
    subst h3
    exact Or.inl rfl
  · injection hv with h3
    subst h3
    refine Or.inr ?_
    rcases h'.2.2 with ⟨h1, h2⟩ | ⟨g', cap', cur', hv', hg', hh', _⟩
    · injection h1 with h3
      subst h3
      intro e; cases e
    · injection hv' with h3
      subst h3
      intro e
      have e2 : g = g' := Option.some.inj e
      subst e2
      rw [hh] at hh'
      injection Option.some.inj hh' with _ h5
      exact hT h5
theorem OwnE.ne_blk {α : Type} {enc : α → List Value} {sz : Nat} {T T' : TypeId} {w : World} {base n c b : Nat} {A : Option Addr} {zs : List α} {M : List Value} (h : OwnE enc sz T w base A n c zs) (hb : BlkL w b T' M) (hT : T ≠ T') : some b ≠ (Value.slice A n c).ownBlock := by
  rcases h.2.2 with ⟨h1, h2⟩ | ⟨g, cap, cur, hv, hg, hh, _⟩
  · injection h1 with h3
    subst h3
    intro e; cases e
  · injection hv with h3
    subst h3
    intro e
    have e2 : b = g := Option.some.inj e
    subst e2
    unfold BlkL at hb
    rw [hb] at hh
    injection Option.some.inj hh with _ h5
    exact hT h5.symm
/-- a list of faults and whether it was read -/
def RetFB (w0 : World) (r : List Flt × Bool) (e : Ending) (w' : World) : Prop :=
  ∃ A n c, e = .returned (.tuple #[.slice A n c, .bool r.2]) ∧ OwnE encF 4 26 w' w0.heap.size A n c r.1 ∧ Below w0.heap.size w0 w'
theorem RetFB.no {w0 w' : World} {r : List Flt × Bool} {e : Ending} (hb : Below w0.heap.size w0 w') (hr : r = ([], false)) (he : e = .returned (.tuple #[.slice none 0 0, .bool false])) : RetFB w0 r e w' := by
  subst hr; exact ⟨_, _, _, he, OwnE.nil _ _ _ _ _, hb⟩
end Go.Proofs.YtojmikalnalfbaaGreatDoor
