/- Plain laws on numbers read from texts. No program. Conditions: as each theorem states them. -/
import Derived.Test.YtojmikalnalfbaaGreatDoorB33
namespace Go.Proofs.YtojmikalnalfbaaGreatDoor
open Go.Lib Go.RowKit

def digB (l : List UInt8) : Bool := l.all fun c => decide (48 ≤ c.toNat) && decide (c.toNat ≤ 57)
/-- what the reference reads from a text: a number of at most twelve digits, as it is written -/
def sNum (l : List UInt8) : Int × Bool := if (1 ≤ l.length ∧ l.length ≤ 12) ∧ digB l = true then ((valD l : Int), decide (decDigits (valD l) = l)) else (0, false)
theorem sNum_dec {u : Nat} (h : u ≤ 8192) : sNum (decDigits u) = ((u : Int), true) := by
  have h1 : 1 ≤ (decDigits u).length := by
    rcases Nat.eq_zero_or_pos (decDigits u).length with h0 | h0
    · exact absurd (List.length_eq_zero_iff.1 h0) (dec_ne u)
    · exact h0
  have h2 := dec_len_le (u := u) (by omega)
  have h3 : digB (decDigits u) = true := by
    unfold digB
    rw [List.all_eq_true]
    intro c hc
    have := dec_digit u c hc
    simp [this]
  unfold sNum
  rw [if_pos ⟨⟨h1, h2⟩, h3⟩, valD_dec]
  simp
theorem valD_lt : ∀ (k : Nat) (l : List UInt8), l.length = k → digB l = true → valD l < 10 ^ k := by
  intro k
  induction k with
  | zero => intro l hl _; rw [List.length_eq_zero_iff.1 hl]; simp [valD]
  | succ k ih =>
    intro l hl hd
    obtain ⟨m, c, rfl⟩ : ∃ m c, l = m ++ [c] := ⟨l.dropLast, l.getLast (by intro e; rw [e] at hl; cases hl), (List.dropLast_concat_getLast _).symm⟩
    rw [List.length_append, List.length_singleton] at hl
    unfold digB at hd
    rw [List.all_append, Bool.and_eq_true] at hd
    have h1 := ih m (by omega) hd.1
    have h2 := hd.2
    simp only [List.all_cons, List.all_nil, Bool.and_true, Bool.and_eq_true, decide_eq_true_eq] at h2
    rw [valD_snoc, Nat.pow_succ]; omega
theorem digB_take {l : List UInt8} {k : Nat} (hk : k < l.length) : digB (l.take (k + 1)) = (digB (l.take k) && (decide (48 ≤ (l[k]).toNat) && decide ((l[k]).toNat ≤ 57))) := by
  rw [List.take_succ_eq_append_getElem hk]
  unfold digB
  rw [List.all_append]; simp
theorem valD_take {l : List UInt8} {k : Nat} (hk : k < l.length) : valD (l.take (k + 1)) = 10 * valD (l.take k) + ((l[k]).toNat - 48) := by
  rw [List.take_succ_eq_append_getElem hk, valD_snoc]
theorem digB_no {l : List UInt8} {k : Nat} (hk : k < l.length) (h : (decide (48 ≤ (l[k]).toNat) && decide ((l[k]).toNat ≤ 57)) = false) : digB l = false := by
  refine Bool.eq_false_iff.2 fun ht => ?_
  have := List.all_eq_true.1 ht l[k] (List.getElem_mem hk)
  simp only [h] at this; cases this

/-- what the program reads from a text -/
def iNum (l : List UInt8) : Int × Bool := match parseIntB 64 l with
  | .ok v => (v, decide (itoa v = l))
  | .range => (intSat 64 l, false)
  | _ => (0, false)
theorem iNum_dec {u : Nat} (h : u ≤ 8192) : iNum (decDigits u) = ((u : Int), true) := by
  unfold iNum
  rw [parse_dec (by omega)]
  simp [itoa_nonneg]

/-- all the pieces read -/
def allNum (f : List UInt8 → Int × Bool) : List (List UInt8) → Option (List Int)
  | [] => some []
  | p :: ps => if (f p).2 then (allNum f ps).map ((f p).1 :: ·) else none
theorem allNum_snoc (f : List UInt8 → Int × Bool) (p : List UInt8) : ∀ {ps : List (List UInt8)} {L : List Int}, allNum f ps = some L → allNum f (ps ++ [p]) = if (f p).2 = true then some (L ++ [(f p).1]) else none
  | [], L, h => by cases h; cases hp : (f p).2 <;> simp [allNum, hp]
  | q :: ps, L, h => by
    unfold allNum at h
    cases hq : (f q).2
    · rw [hq] at h; cases h
    · rw [hq] at h
      simp only [if_true, Option.map_eq_some_iff] at h
      obtain ⟨M, h1, rfl⟩ := h
      rw [List.cons_append, allNum, hq, allNum_snoc f p h1]
      cases (f p).2 <;> simp
theorem allNum_none_append {f : List UInt8 → Int × Bool} {ps : List (List UInt8)} (h : allNum f ps = none) : ∀ qs, allNum f (ps ++ qs) = none := by
  induction ps with
  | nil => cases h
  | cons p ps ih =>
    intro qs
    rw [List.cons_append]
    unfold allNum at h ⊢
    cases hp : (f p).2
    · simp
    · rw [hp] at h
      simp only [if_true, Option.map_eq_none_iff] at h
      simp [ih h]
theorem allNum_dec {f : List UInt8 → Int × Bool} (hf : ∀ u : Nat, u ≤ 8192 → f (decDigits u) = ((u : Int), true)) : ∀ {L : List Nat}, (∀ u ∈ L, u ≤ 8192) → allNum f (L.map decDigits) = some (L.map fun u : Nat => (u : Int))
  | [], _ => rfl
  | u :: L, h => by
    rw [List.map_cons, allNum, hf u (h u (by simp)), allNum_dec hf (fun v hv => h v (by simp [hv]))]
    simp
theorem allNum_len {f : List UInt8 → Int × Bool} : ∀ {ps : List (List UInt8)} {L : List Int}, allNum f ps = some L → L.length = ps.length
  | [], L, h => by cases h; rfl
  | p :: ps, L, h => by
    unfold allNum at h
    cases hp : (f p).2
    · rw [hp] at h; cases h
    · rw [hp] at h
      simp only [if_true, Option.map_eq_some_iff] at h
      obtain ⟨M, h1, rfl⟩ := h
      simp [allNum_len h1]

/-- the fault whose numbers were read, of a kind -/
def fOf (L : List Int) (k : Int) : Flt := ⟨k, gi (L ++ [0, 0]) 0, gi (L ++ [0, 0]) 1, gi (L ++ [0, 0]) 2⟩
theorem gi_nat (L : List Nat) (hl : L.length ≤ 3) (h1 : 1 ≤ L.length) : ∀ i, i < 3 → gi (L.map (fun u : Nat => (u : Int)) ++ [0, 0]) i = ((L.getD i 0 : Nat) : Int) := by
  match L, hl, h1 with
  | [a], _, _ => intro i hi; rcases (by omega : i = 0 ∨ i = 1 ∨ i = 2) with rfl | rfl | rfl <;> rfl
  | [a, b], _, _ => intro i hi; rcases (by omega : i = 0 ∨ i = 1 ∨ i = 2) with rfl | rfl | rfl <;> rfl
  | [a, b, c], _, _ => intro i hi; rcases (by omega : i = 0 ∨ i = 1 ∨ i = 2) with rfl | rfl | rfl <;> rfl
theorem fOf_nums {f : Flt} (h : isFault f = true) : fOf ((fnums f).map fun u : Nat => (u : Int)) f.kd = f := by
  obtain ⟨p0, p1, p2, p3⟩ := fnums_get h
  have g := gi_nat (fnums f) p0 (by simp [fnums])
  exact flt_ext rfl ((g 0 (by omega)).trans p1.symm) ((g 1 (by omega)).trans p2.symm) ((g 2 (by omega)).trans p3.symm)
/-- nothing is read where the numbers are not -/
theorem rdF_nums {f : List UInt8 → Int × Bool} (hf : ∀ u : Nat, u ≤ 8192 → f (decDigits u) = ((u : Int), true)) {s : List UInt8} (h : allNum f (spl 32 s).tail = none) : rdF s = (⟨0, 0, 0, 0⟩, false) := by
  refine rdF_no fun g hg e => ?_
  rw [← e, spl_ftxt, List.tail_cons, allNum_dec hf (fnums_le hg)] at h
  cases h
theorem rdF_many {f : List UInt8 → Int × Bool} (hf : ∀ u : Nat, u ≤ 8192 → f (decDigits u) = ((u : Int), true)) {s : List UInt8} {L : List Int} (h : allNum f (spl 32 s).tail = some L) (hl : L.length < 1 ∨ 3 < L.length) : rdF s = (⟨0, 0, 0, 0⟩, false) := by
  refine rdF_no fun g hg e => ?_
  rw [← e, spl_ftxt, List.tail_cons, allNum_dec hf (fnums_le hg)] at h
  have h0 := Option.some.inj h
  have h1 := (fnums_get hg).1
  have h2 : 1 ≤ (fnums g).length := by simp [fnums]
  rw [← h0, List.length_map] at hl
  omega
/-- a fault that is read is of the numbers -/
theorem rdF_of {f : List UInt8 → Int × Bool} (hf : ∀ u : Nat, u ≤ 8192 → f (decDigits u) = ((u : Int), true)) {s : List UInt8} {L : List Int} (h : allNum f (spl 32 s).tail = some L) {g : Flt} (hg : isFault g = true) (e : ftxtL g = s) : fOf L g.kd = g := by
  rw [← e, spl_ftxt, List.tail_cons, allNum_dec hf (fnums_le hg)] at h
  rw [← Option.some.inj h]
  exact fOf_nums hg
theorem ftxt_hit {g : Flt} {s : List UInt8} (h : ftxt g = s) (hs : s ≠ []) : rdF s = (g, true) := by
  unfold ftxt at h
  split at h
  · rename_i hg; exact rdF_yes hg h
  · exact absurd h.symm hs
/-- no kind's text: nothing is read -/
theorem rdF_none {f : List UInt8 → Int × Bool} (hf : ∀ u : Nat, u ≤ 8192 → f (decDigits u) = ((u : Int), true)) {s : List UInt8} {L : List Int} (h : allNum f (spl 32 s).tail = some L)
    (hno : ∀ j : Nat, j < 6 → ftxt (fOf L ((j : Int) + 1)) = s → s = []) : rdF s = (⟨0, 0, 0, 0⟩, false) := by
  refine rdF_no fun g hg e => ?_
  have hk := rdF_of hf h hg e
  obtain ⟨a1, a2, _⟩ := isFault_fields hg
  have h6 := hno (g.kd - 1).toNat (by omega)
  rw [show (((g.kd - 1).toNat : Int) + 1) = g.kd by omega, hk] at h6
  have : ftxt g = s := by unfold ftxt; rw [hg]; exact e
  have := h6 this
  rw [this] at e
  exact ftxtL_ne g e
end Go.Proofs.YtojmikalnalfbaaGreatDoor
