/- Walks, laws and small notions for the claims of this seat, several texts as one (BddP). Conditions: as each theorem states them. -/
import Derived.Test.YtjehkjdehkdjcaaB8
import Derived.Test.YtjehkjdehkdjcaaB5
import Derived.Test.YtjehkjdehkdjcaaB11
namespace Go.Proofs.Ytjehkjdehkdjcaa

theorem slipsTo_mem {zs : List Int} {k : Nat} {v : Int} : v ∈ SlipPlaces.slipsTo zs k ↔ ∃ i : Nat, i < k ∧ v = (i : Int) ∧ within5 zs ⟨3, i, 1, 0⟩ = true := by
  induction k with
  | zero => simp [SlipPlaces.slipsTo]
  | succ k ih =>
    unfold SlipPlaces.slipsTo
    rw [List.mem_append, ih]
    constructor
    · rintro (⟨i, h1, h2, h3⟩ | h)
      · exact ⟨i, by omega, h2, h3⟩
      · split at h
        · rename_i hw
          exact ⟨k, by omega, by simpa using h, hw⟩
        · simp at h
    · rintro ⟨i, h1, h2, h3⟩
      by_cases e : i = k
      · subst e
        right
        rw [if_pos h3]
        simpa using h2
      · exact .inl ⟨i, by omega, h2, h3⟩

/-- the third sample of a line's idle cells is a place -/
theorem place_two {zs : List Int} (h5 : 5 ≤ zs.length) (h : ∀ i, i < 5 → gi zs i = 1) : within5 zs ⟨3, (2 : Nat), 1, 0⟩ = true := by
  have e0 := h 0 (by omega); have e1 := h 1 (by omega); have e2 := h 2 (by omega); have e3 := h 3 (by omega); have e4 := h 4 (by omega)
  unfold within5 run5All runTo run5
  simp [inR, List.range_succ, e0, e1, e2, e3, e4]
  omega

theorem places_line {ds : List Int} {p : Nat} : SlipPlaces.slipsTo (nom (lineP 4 (cellsP ds p) 4)) (nom (lineP 4 (cellsP ds p) 4)).length ≠ [] := by
  have hl := nom_len (lineP 4 (cellsP ds p) 4)
  rw [lineP_len] at hl
  have h2 : within5 (nom (lineP 4 (cellsP ds p) 4)) ⟨3, (2 : Nat), 1, 0⟩ = true := by
    refine place_two (by omega) fun i hi => ?_
    rw [nom_gi (by rw [lineP_len]; omega)]
    exact lineP_lo (by omega)
  intro e
  have : (2 : Int) ∈ SlipPlaces.slipsTo (nom (lineP 4 (cellsP ds p) 4)) (nom (lineP 4 (cellsP ds p) 4)).length := slipsTo_mem.2 ⟨2, by omega, rfl, h2⟩
  rw [e] at this
  exact absurd this (by simp)

theorem drop_bnd {zs : List Int} {q : Nat} (h : within5 zs ⟨3, q, 1, 0⟩ = true) (hl : zs.length ≤ 8192) : isScript [⟨3, q, 1, 0⟩] = true ∧ 0 < bnd zs [⟨3, q, 1, 0⟩] := by
  obtain ⟨_, _, h3, h4, _⟩ := within_out h
  try dsimp only at h3 h4
  have hq : inR (q : Int) 0 8192 = true := inR_iff.2 (by omega)
  have hf : isFault ⟨3, q, 1, 0⟩ = true := by
    unfold isFault
    rw [hq]
    rfl
  refine ⟨by simp [isScript, allF, hf], ?_⟩
  have hs : ∀ d, spaced [⟨3, (q : Int), 1, 0⟩] d = true := fun d => rfl
  have hw : wit zs [⟨3, (q : Int), 1, 0⟩] = true := by
    simp only [wit, witTo, List.length_cons, List.length_nil, List.range_succ, List.range_zero]
    simpa [appS, ge] using h
  unfold bnd
  rw [hs, hs, hw]
  split
  · decide
  · decide

theorem bd_allR {ds : List Int} (h : isBytes ds = true) : ∀ i, i < ds.length → 0 ≤ gi ds i ∧ gi ds i ≤ 255 := by
  intro i hi
  have h1 := CellsOf.allR_of_bytes h
  have := List.all_eq_true.1 h1 _ (mem_gi hi)
  exact inR_iff.1 this

/-- what FnBounded asks, at the cells of some bytes -/
theorem line_facts {ds : List Int} {p : Nat} (h : CellsOf.cod ds p = 0) (h6 : (CellsOf.res ds p).length ≤ 600) :
    CellsOf.res ds p = cellsP ds p ∧ PadLine.res (cellsP ds p) 4 4 = lineP 4 (cellsP ds p) 4 ∧ NominalSamples.res (lineP 4 (cellsP ds p) 4) = nom (lineP 4 (cellsP ds p) 4) ∧
    isBits (nom (lineP 4 (cellsP ds p) 4)) = true ∧ (nom (lineP 4 (cellsP ds p) 4)).length ≤ 5000 ∧ 5 ≤ (nom (lineP 4 (cellsP ds p) 4)).length ∧
    (∀ fs, isScript fs = true → 0 < bnd (nom (lineP 4 (cellsP ds p) 4)) fs → DecodeSamples.res (appS (nom (lineP 4 (cellsP ds p) 4)) fs) = ds ∧ DecodeSamples.cod (appS (nom (lineP 4 (cellsP ds p) 4)) fs) = 0) := by
  obtain ⟨h1, h2, h3, h4⟩ := CellsOf.ok h
  have e1 : CellsOf.res ds p = cellsP ds p := by unfold CellsOf.res; rw [if_pos h]; rfl
  rw [e1, cellsP_len] at h6
  have hb1 := bd_allR h1
  have hc : ∀ z ∈ cellsP ds p, 0 ≤ z ∧ z ≤ 1 := fun z hz => line_bits (ds := ds) (a := 0) (b := 0) (p := p) z (by unfold lineP; simpa using hz)
  have hbits : isBits (cellsP ds p) = true := isBits_iff.2 ⟨by rw [cellsP_len]; omega, hc⟩
  have hlen := cellsP_len ds p
  have e2 : PadLine.cod (cellsP ds p) 4 4 = 0 := by unfold PadLine.cod; rw [if_pos hbits, if_pos (by omega), if_pos (by omega)]
  have e3 : PadLine.res (cellsP ds p) 4 4 = lineP 4 (cellsP ds p) 4 := by unfold PadLine.res; rw [if_pos e2]
  have hll := lineP_len 4 (cellsP ds p) 4
  have hlb : ∀ z ∈ lineP 4 (cellsP ds p) 4, 0 ≤ z ∧ z ≤ 1 := line_bits
  have e4 : NominalSamples.cod (lineP 4 (cellsP ds p) 4) = 0 := by
    unfold NominalSamples.cod
    rw [if_pos (isBits_iff.2 ⟨by omega, hlb⟩), if_pos (by omega)]
  have e5 : NominalSamples.res (lineP 4 (cellsP ds p) 4) = nom (lineP 4 (cellsP ds p) 4) := by unfold NominalSamples.res; rw [if_pos e4]
  have hnl := nom_len (lineP 4 (cellsP ds p) 4)
  refine ⟨e1, e3, e5, nom_bits hlb (by omega), by omega, by omega, fun fs hs hb => ?_⟩
  exact bounded_dec (tx_line ds (by omega) (by omega)) hlb hb1 (by omega) hs hb
end Go.Proofs.Ytjehkjdehkdjcaa
