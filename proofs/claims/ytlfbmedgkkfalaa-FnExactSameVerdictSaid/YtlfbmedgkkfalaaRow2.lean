/- More arguments of laws: a verdict. Conditions: none. -/
import Derived.Test.YtlfbmedgkkfalaaRow
namespace Go.Proofs.Ytlfbmedgkkfalaa
open Go.ChangeShapes Go.WideShapes Go.ChangeAt Go.RowKit

/-- a verdict, but for its data -/
structure Vdt where
  st : Int
  kd : Int
  rq : Int
  tm : Int
  md : Int
  rd : Int
  sl : Int
  mb : Int
theorem array9 {α : Type} {cs : Array α} (h : cs.size = 9) : ∃ c0 c1 c2 c3 c4 c5 c6 c7 c8, cs = #[c0, c1, c2, c3, c4, c5, c6, c7, c8] := by
  obtain ⟨l⟩ := cs
  match l, h with
  | [c0, c1, c2, c3, c4, c5, c6, c7, c8], _ => exact ⟨c0, c1, c2, c3, c4, c5, c6, c7, c8, rfl⟩

section
variable {H : Type} {enc : TypeId × Value → H} {P : Program} {W : World}
theorem cell_int {T : TypeId} {fuel : Nat} {u : Value} {x : DataW H × List MemPlace} (he : P.underlying T = some (.int .i64)) (h : DataW.trod enc P W 0 (fun _ => true) true fuel T [u] = some x) : ∃ z, u = .int .i64 z ∧ I64 z := by
  obtain ⟨a0, e0, _, w0⟩ := DataW.trod_int he h
  simp only [List.cons.injEq, and_true] at e0
  exact ⟨a0, e0, I64_of_wf w0⟩
theorem cell_ints {TS T : TypeId} (ht : P.underlying TS = some (.slice T)) (he : P.underlying T = some (.int .i64)) (hc : P.cellsOf T = 1) {fuel : Nat} {u : Value} {x : DataW H × List MemPlace}
    (hf : DataW.trod enc P W 0 (fun _ => true) true fuel TS [u] = some x) :
    ∃ A n c zs, u = .slice A n c ∧ RI W W.heap.size A n zs ∧ (∀ i, i < n → I64 (gi zs i)) ∧ n ≤ maxLen := by
  rcases open_ints ht he hc hf with ⟨hcs, _⟩ | ⟨a, len', cap', zs, hcs, _, hl, hm, hz, _, hcell, hwz⟩
  · have e : u = .slice none 0 0 := by simpa using hcs
    exact ⟨none, 0, 0, [], e, RI.nil _ _ _, fun i hi => absurd hi (by omega), Nat.zero_le _⟩
  · have e : u = .slice (some a) len' cap' := by simpa using hcs
    simp only [if_true] at hz
    refine ⟨some a, len', cap', zs.take len', e, ⟨by rw [List.length_take]; omega, fun hn => ?_⟩, fun i hi => ?_, Nat.le_trans hl hm⟩
    · obtain ⟨b, o, rfl, hc'⟩ := ints_at hcell (by omega)
      refine ⟨b, o, rfl, World.block_lt_of_cell? W ⟨b, o + 0, none⟩ (hc' 0 (by omega)), fun i hi => ?_⟩
      rw [hc' i (by omega), gi_take hi]; rfl
    · rw [gi_take hi]
      exact I64_of_wf (hwz _ (mem_gi (by omega)))

theorem arg_verdict {T TF TS TI TL : TypeId} {f0 f1 g0 g1 g2 g3 s0 s1 s2 s3 s4 : Field} (ht : P.underlying T = some (.struct #[f0, f1])) (hC : P.cellsOf T = 9) (hf0 : f0.type = TI ∧ f0.offset = 0) (hf1 : f1.type = TF ∧ f1.offset = 1)
    (htf : P.underlying TF = some (.struct #[g0, g1, g2, g3])) (hCf : P.cellsOf TF = 8) (hg0 : g0.type = TI ∧ g0.offset = 0) (hg1 : g1.type = TI ∧ g1.offset = 1) (hg2 : g2.type = TS ∧ g2.offset = 2) (hg3 : g3.type = TL ∧ g3.offset = 7)
    (hts : P.underlying TS = some (.struct #[s0, s1, s2, s3, s4])) (hCs : P.cellsOf TS = 5) (hs0 : s0.type = TI ∧ s0.offset = 0) (hs1 : s1.type = TI ∧ s1.offset = 1) (hs2 : s2.type = TI ∧ s2.offset = 2) (hs3 : s3.type = TI ∧ s3.offset = 3) (hs4 : s4.type = TI ∧ s4.offset = 4)
    (htl : P.underlying TL = some (.slice TI)) (hCl : P.cellsOf TL = 1) (hti : P.underlying TI = some (.int .i64)) (hCi : P.cellsOf TI = 1)
    {base : Nat} {r : Reach} {v : Value} {d : DataW H} {p : List MemPlace}
    (hv : Value.okWide P W r base T v) (h : DataW.Trod enc P W 0 (fun _ => true) true T v d p) :
    ∃ (x : Vdt) (A : Option Addr) (n c : Nat) (zs : List Int), v = .agg #[.int .i64 x.st, .int .i64 x.kd, .int .i64 x.rq, .int .i64 x.tm, .int .i64 x.md, .int .i64 x.rd, .int .i64 x.sl, .int .i64 x.mb, .slice A n c] ∧
      (I64 x.st ∧ I64 x.kd ∧ I64 x.rq ∧ I64 x.tm ∧ I64 x.md ∧ I64 x.rd ∧ I64 x.sl ∧ I64 x.mb) ∧ RI W W.heap.size A n zs ∧ (∀ i, i < n → I64 (gi zs i)) ∧ n ≤ maxLen := by
  obtain ⟨cs, rfl, hsz⟩ := okWide_struct ht hv
  obtain ⟨c0, c1, c2, c3, c4, c5, c6, c7, c8, rfl⟩ := array9 (hsz.trans hC)
  obtain ⟨fuel, hf⟩ := h
  obtain ⟨xs, n1, _, _, _, hl1, h1⟩ := DataW.trod_struct ht hf
  have hx0 := h1 0 f0 rfl
  have hx1 := h1 1 f1 rfl
  rw [hf0.1, hf0.2, hCi] at hx0
  rw [hf1.1, hf1.2, hCf] at hx1
  rw [List.getElem?_eq_getElem (by rw [hl1]; simp)] at hx0 hx1
  obtain ⟨ys, n2, _, _, _, hl2, h2⟩ := DataW.trod_struct htf hx1
  have hy0 := h2 0 g0 rfl
  have hy1 := h2 1 g1 rfl
  have hy2 := h2 2 g2 rfl
  have hy3 := h2 3 g3 rfl
  rw [hg0.1, hg0.2, hCi] at hy0
  rw [hg1.1, hg1.2, hCi] at hy1
  rw [hg2.1, hg2.2, hCs] at hy2
  rw [hg3.1, hg3.2, hCl] at hy3
  rw [List.getElem?_eq_getElem (by rw [hl2]; simp)] at hy0 hy1 hy2 hy3
  obtain ⟨ss, n3, _, _, _, hl3, h3⟩ := DataW.trod_struct hts hy2
  have hz0 := h3 0 s0 rfl
  have hz1 := h3 1 s1 rfl
  have hz2 := h3 2 s2 rfl
  have hz3 := h3 3 s3 rfl
  have hz4 := h3 4 s4 rfl
  rw [hs0.1, hs0.2, hCi] at hz0
  rw [hs1.1, hs1.2, hCi] at hz1
  rw [hs2.1, hs2.2, hCi] at hz2
  rw [hs3.1, hs3.2, hCi] at hz3
  rw [hs4.1, hs4.2, hCi] at hz4
  rw [List.getElem?_eq_getElem (by rw [hl3]; simp)] at hz0 hz1 hz2 hz3 hz4
  obtain ⟨a0, rfl, w0⟩ := cell_int (u := c0) hti hx0
  obtain ⟨a1, rfl, w1⟩ := cell_int (u := c1) hti hy0
  obtain ⟨a2, rfl, w2⟩ := cell_int (u := c2) hti hy1
  obtain ⟨a3, rfl, w3⟩ := cell_int (u := c3) hti hz0
  obtain ⟨a4, rfl, w4⟩ := cell_int (u := c4) hti hz1
  obtain ⟨a5, rfl, w5⟩ := cell_int (u := c5) hti hz2
  obtain ⟨a6, rfl, w6⟩ := cell_int (u := c6) hti hz3
  obtain ⟨a7, rfl, w7⟩ := cell_int (u := c7) hti hz4
  obtain ⟨A, n, c, zs, rfl, hr, hi, hn⟩ := cell_ints (u := c8) htl hti hCi hy3
  exact ⟨⟨a0, a1, a2, a3, a4, a5, a6, a7⟩, A, n, c, zs, rfl, ⟨w0, w1, w2, w3, w4, w5, w6, w7⟩, hr, hi, hn⟩
end
end Go.Proofs.Ytlfbmedgkkfalaa
