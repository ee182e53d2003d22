/- Walks, laws and small notions for the claims of this seat, several texts as one (STx, KitS). Conditions: as each theorem states them. -/
import Derived.Test.YtojmikalnalfbaaDoorB5
import Derived.Test.YtojmikalnalfbaaDoorB33
import Derived.Test.YtojmikalnalfbaaDoorB1
import Derived.WideShapes
namespace Go.Proofs.YtojmikalnalfbaaDoor
open Go.Lib Go.RowKit

/-- the text of a script of valid faults -/
def stxtL (fs : List Flt) : List UInt8 := joinC 59 (fs.map ftxtL)
/-- the text of a script: empty where it is not valid -/
def stxt (fs : List Flt) : List UInt8 := if isScript fs then stxtL fs else []
theorem ftxtL_no (f : Flt) : (59 : UInt8) ∉ ftxtL f := by
  intro h
  have e := spl_ftxt f
  unfold ftxtL at h
  have g : ∀ (L : List Nat), (59 : UInt8) ∉ glue 32 (L.map decDigits) := by
    intro L
    induction L with
    | nil => simp [glue]
    | cons u L ih =>
      rw [List.map_cons, glue, List.cons_append]
      intro hm
      rw [List.mem_cons, List.mem_append] at hm
      rcases hm with hm | hm | hm
      · cases hm
      · exact dec_no (Or.inr (by decide)) hm
      · exact ih hm
  rcases List.mem_append.1 h with h | h
  · exact fword_no (by decide) h
  · exact g _ h
theorem stxt_spl {fs : List Flt} (h0 : fs ≠ []) : spl 59 (stxtL fs) = fs.map ftxtL := by
  refine spl_joinC 59 (by simpa using h0) ?_
  intro p hp
  rw [List.mem_map] at hp
  obtain ⟨f, _, rfl⟩ := hp
  exact ftxtL_no f
theorem map_ftxt_inj : ∀ {fs gs : List Flt}, allF fs = true → allF gs = true → fs.map ftxtL = gs.map ftxtL → fs = gs
  | [], [], _, _, _ => rfl
  | [], _ :: _, _, _, h => by cases h
  | _ :: _, [], _, _, h => by cases h
  | f :: fs, g :: gs, h1, h2, h => by
    rw [List.map_cons, List.map_cons, List.cons.injEq] at h
    simp only [allF, List.all_cons, Bool.and_eq_true] at h1 h2
    rw [ftxtL_inj h1.1 h2.1 h.1, map_ftxt_inj h1.2 h2.2 h.2]
theorem stxtL_ne {fs : List Flt} (h0 : fs ≠ []) : stxtL fs ≠ [] := by
  cases fs with
  | nil => exact absurd rfl h0
  | cons f fs =>
    unfold stxtL
    rw [List.map_cons, joinC]
    intro h
    exact ftxtL_ne f (List.append_eq_nil_iff.1 h).1
theorem stxtL_inj {fs gs : List Flt} (h1 : allF fs = true) (h2 : allF gs = true) (h : stxtL fs = stxtL gs) : fs = gs := by
  by_cases hf : fs = []
  · by_cases hg : gs = []
    · rw [hf, hg]
    · rw [hf] at h; exact absurd h.symm (stxtL_ne hg)
  · by_cases hg : gs = []
    · rw [hg] at h; exact absurd h (stxtL_ne hf)
    · exact map_ftxt_inj h1 h2 (by rw [← stxt_spl hf, h, stxt_spl hg])
theorem isScr_all {fs : List Flt} (h : isScript fs = true) : allF fs = true := by unfold isScript at h; simp only [Bool.and_eq_true] at h; exact h.2
theorem isScr_len {fs : List Flt} (h : isScript fs = true) : fs.length ≤ 30 := by unfold isScript at h; simp only [Bool.and_eq_true, decide_eq_true_eq] at h; exact h.1

open Classical in
/-- what ReadScript answers: the valid script with this text, and whether there is one -/
noncomputable def rdS (s : List UInt8) : List Flt × Bool := if h : ∃ fs, isScript fs = true ∧ stxtL fs = s then (h.choose, true) else ([], false)
theorem rdS_yes {s : List UInt8} {fs : List Flt} (hf : isScript fs = true) (h : stxtL fs = s) : rdS s = (fs, true) := by
  have hex : ∃ fs, isScript fs = true ∧ stxtL fs = s := ⟨fs, hf, h⟩
  unfold rdS
  rw [dif_pos hex, stxtL_inj (isScr_all hex.choose_spec.1) (isScr_all hf) (hex.choose_spec.2.trans h.symm)]
theorem rdS_no {s : List UInt8} (h : ∀ fs, isScript fs = true → stxtL fs ≠ s) : rdS s = ([], false) := by
  unfold rdS
  rw [dif_neg (by rintro ⟨f, h1, h2⟩; exact h f h1 h2)]
theorem rdS_cases (s : List UInt8) : (∃ fs, isScript fs = true ∧ stxtL fs = s ∧ rdS s = (fs, true)) ∨ ((∀ fs, isScript fs = true → stxtL fs ≠ s) ∧ rdS s = ([], false)) := by
  by_cases h : ∃ fs, isScript fs = true ∧ stxtL fs = s
  · obtain ⟨f, h1, h2⟩ := h
    exact Or.inl ⟨f, h1, h2, rdS_yes h1 h2⟩
  · have h' : ∀ f, isScript f = true → stxtL f ≠ s := fun f h1 h2 => h ⟨f, h1, h2⟩
    exact Or.inr ⟨h', rdS_no h'⟩
/-- every piece read -/
theorem rdS_of_pieces {s : List UInt8} (_ : s ≠ []) {fs : List Flt} (h : spl 59 s = fs.map ftxtL) (hf : isScript fs = true) : rdS s = (fs, true) :=
  rdS_yes hf (by unfold stxtL; rw [← h]; exact joinC_spl 59 _ s (Nat.le_refl _))
/-- a piece that is no fault's text -/
theorem rdS_bad {s : List UInt8} {p : List UInt8} (hs : s ≠ []) (hp : p ∈ spl 59 s) (h : ∀ f, isFault f = true → ftxtL f ≠ p) : rdS s = ([], false) := by
  refine rdS_no fun fs hfs e => ?_
  have h0 : fs ≠ [] := by
    rintro rfl
    exact hs e.symm
  rw [← e, stxt_spl h0, List.mem_map] at hp
  obtain ⟨f, hf, rfl⟩ := hp
  exact h f (List.all_eq_true.1 (isScr_all hfs) f hf) rfl
/-- more pieces than a script has -/
theorem rdS_many {s : List UInt8} (hs : s ≠ []) (h : 30 < (spl 59 s).length) : rdS s = ([], false) := by
  refine rdS_no fun fs hfs e => ?_
  have h0 : fs ≠ [] := by
    rintro rfl
    exact hs e.symm
  rw [← e, stxt_spl h0, List.length_map] at h
  have := isScr_len hfs
  omega
end Go.Proofs.YtojmikalnalfbaaDoor

namespace Go.Proofs.YtojmikalnalfbaaDoor
open Go.RowKit
def encS (s : ByteArray) : List Value := [.string s]
theorem encS_len (s : ByteArray) : (encS s).length = 1 := rfl
theorem encS_one (s : ByteArray) : ∀ u ∈ encS s, u.oneCell' = true := by
  intro u hu
  simp only [encS, List.mem_singleton] at hu
  subst hu; rfl
section
variable {P : Program} {ops : Array Oper} {rest : List Oper} {o : Oper} {a : Act} {Q : Exit → Act → World → Prop}
/-- 'out = append(out, y)' on a row of strings of the call's own, y in a block that has just been made -/
theorem wpl_appS (W : World) (t1 : TypeId) {TS T : TypeId} (ht : P.underlying TS = some (.slice T)) (hinfo : (P.info? T).map (fun i => (i.zero, i.size, i.bytes)) = some (some (.string ByteArray.empty), 1, 16))
    (hgd : o.guard = none) (s x : Operand) (ho : o.op = .call { callee := .builtin .append, args := #[s, x], argTypes := #[TS, TS] })
    (base : Nat) (A : Option Addr) (n c : Nat) (zs : List ByteArray) (hs : a.eval s = .slice A n c) (hown : OwnE encS 1 T W base A n c zs)
    (y : ByteArray) (hx : a.eval x = .slice (some ⟨W.heap.size, 0, none⟩) 1 1)
    (hn : n + 1 ≤ 1099511627776) (hbase : base ≤ W.heap.size)
    (h : ∀ A' c' w', OwnE encS 1 T w' base A' (n + 1) c' (zs ++ [y]) → (∀ B, B ≤ base → Below B W w') → W.grownBy w' (Value.slice A n c).ownBlock → wpList P ops Q rest (a.put o.dst (.slice A' (n + 1) c')) w') :
    wpList P ops Q (o :: rest) a (W.alloc (.cells #[.string y] t1)) := by
  refine wpl_app1E encS 1 encS_len encS_one _ ht hinfo rfl (by omega) (by omega) hgd s x ho base A n c zs hs (hown.alloc _) ⟨W.heap.size, 0, none⟩ 1 y hx ?_ hn (by rw [isz_alloc]; omega) ?_
  · intro j u hu
    have hj : j = 0 := by
      rcases j with _ | j
      · rfl
      · simp [encS] at hu
    subst hj
    have hx' := new_heap W (.cells #[.string y] t1)
    rw [Go.WideShapes.add_plain, Nat.zero_add]
    unfold World.cell?
    rw [hx']
    exact hu
  · intro A' c' w' hown' hg
    refine h A' c' w' hown' (fun B hB => ?_) (grown_tr (World.grownBy_alloc W _ _) hg)
    exact ((Below.refl B W).alloc (Nat.le_trans hB hbase) _).grown hg (by rw [isz_alloc]; omega) (fun g e => Nat.le_trans hB (hown.row g e).1)
end
end Go.Proofs.YtojmikalnalfbaaDoor
