/- The decoder as a plain function on lists. Conditions: none. -/
import Derived.Test.YtlfbmedgkkfalaaKit
namespace Go.Proofs.Ytlfbmedgkkfalaa

/-- the least index from i on at which v stands -/
def nxt (zs : List Int) (v : Int) (i : Nat) : Option Nat :=
  if i < zs.length then (if gi zs i = v then some i else nxt zs v (i + 1)) else none
termination_by zs.length - i

theorem nxt_hit {zs : List Int} {v : Int} {i : Nat} (h : i < zs.length) (hv : gi zs i = v) : nxt zs v i = some i := by
  unfold nxt; rw [if_pos h, if_pos hv]
theorem nxt_go {zs : List Int} {v : Int} {i : Nat} (h : i < zs.length) (hv : gi zs i ≠ v) : nxt zs v i = nxt zs v (i + 1) := by
  rw [nxt, if_pos h, if_neg hv]
theorem nxt_end {zs : List Int} {v : Int} {i : Nat} (h : zs.length ≤ i) : nxt zs v i = none := by
  unfold nxt; rw [if_neg (by omega)]
theorem nxt_some {zs : List Int} {v : Int} : ∀ {m i j : Nat}, zs.length - i ≤ m → nxt zs v i = some j → i ≤ j ∧ j < zs.length ∧ gi zs j = v := by
  intro m
  induction m with
  | zero => intro i j hm hj; rw [nxt_end (by omega)] at hj; cases hj
  | succ m ih =>
    intro i j hm hj
    by_cases h : i < zs.length
    · by_cases hv : gi zs i = v
      · rw [nxt_hit h hv] at hj; cases hj; exact ⟨Nat.le_refl _, h, hv⟩
      · rw [nxt_go h hv] at hj
        have := ih (by omega) hj
        exact ⟨by omega, this.2⟩
    · rw [nxt_end (by omega)] at hj; cases hj
theorem nxt_le {zs : List Int} {v : Int} {i j : Nat} (h : nxt zs v i = some j) : i ≤ j ∧ j < zs.length ∧ gi zs j = v := nxt_some (Nat.le_refl _) h

/-- a sample; those behind the last one are 1 -/
def smp (zs : List Int) (i : Nat) : Int := if i < zs.length then gi zs i else 1

/-- the bytes' edges from f on, and where the frame end begins -/
def edg (zs : List Int) (f : Nat) : Option (List Int × Nat) :=
  if smp zs (f + 76) = 0 then some ([(f : Int)], f + 72)
  else match _hg : nxt zs 0 (f + 77) with
    | none => none
    | some g => if f + 84 < g then none else (edg zs g).map fun r => ((f : Int) :: r.1, r.2)
termination_by zs.length - f
decreasing_by have := nxt_le _hg; omega

theorem edg_end {zs : List Int} {f : Nat} (h : smp zs (f + 76) = 0) : edg zs f = some ([(f : Int)], f + 72) := by rw [edg, if_pos h]
theorem edg_none {zs : List Int} {f : Nat} (h : smp zs (f + 76) ≠ 0) (hg : nxt zs 0 (f + 77) = none) : edg zs f = none := by
  rw [edg, if_neg h]; split <;> simp_all
theorem edg_far {zs : List Int} {f g : Nat} (h : smp zs (f + 76) ≠ 0) (hg : nxt zs 0 (f + 77) = some g) (hf : f + 84 < g) : edg zs f = none := by
  rw [edg, if_neg h]; split <;> simp_all
theorem edg_go {zs : List Int} {f g : Nat} (h : smp zs (f + 76) ≠ 0) (hg : nxt zs 0 (f + 77) = some g) (hf : ¬ f + 84 < g) : edg zs f = (edg zs g).map fun r => ((f : Int) :: r.1, r.2) := by
  rw [edg, if_neg h]; split
  · simp_all
  · rename_i g' hg'
    rw [hg] at hg'; cases hg'
    rw [if_neg hf]

/-- what the decoder finds: the code, the preamble, the edges -/
structure Dec where
  code : Int
  pre : Int
  edges : List Int

/-- the code of the last step -/
def tailC (zs : List Int) (t : Nat) : Int := if (nxt zs 0 (t + 12)).isSome then 6 else 0

/-- the decoder behind the preamble's edges -/
def decF (zs : List Int) (p : Int) (h f : Nat) : Dec :=
  if f - h < 12 then ⟨tailC zs f, p, []⟩
  else match edg zs f with
    | none => ⟨6, p, []⟩
    | some r => ⟨tailC zs r.2, p, r.1⟩

def bad5 (h f : Nat) : Bool := decide (19 < f - h) || decide (f - h < 5) || decide (f - h = 12)

def decH (zs : List Int) (p : Int) (h : Nat) : Dec :=
  match nxt zs 0 (h + 1) with
  | none => ⟨6, 0, []⟩
  | some f => if bad5 h f then ⟨6, 0, []⟩ else decF zs p h f

/-- where the preamble ends -/
def endP (zs : List Int) (a : Nat) : Nat := (nxt zs 1 (a + 1)).getD zs.length
def decA (zs : List Int) (a : Nat) : Dec :=
  if inR ((((endP zs a - a : Nat) : Int) + 4) / 8) 3 15 then decH zs ((((endP zs a - a : Nat) : Int) + 4) / 8) (endP zs a) else ⟨6, 0, []⟩
def decP (zs : List Int) : Dec :=
  match nxt zs 0 0 with
  | none => ⟨4, 0, []⟩
  | some a => decA zs a
/-- the code of what the decoder finds in whatever list -/
def decC (zs : List Int) : Int := if isBits zs then (decP zs).code else 1
end Go.Proofs.Ytlfbmedgkkfalaa
