/- The last step of each law's row: a law that returns true and turns nothing that was there meets its specification. Conditions: none. -/
import Derived.Test.YtlfbmedgkkfalaaBase
import Derived.Test.YtlfbmedgkkfalaaKitE
import Derived.Deep.Slices
import Derived.Lib.SmallJoins
import Derived.ProofKit
import Derived.OpenShut
import Derived.Handy
namespace Go.Proofs.Ytlfbmedgkkfalaa
open Go.ChangeShapes Go.WideShapes Go.ChangeAt Go.RowKit

theorem own : ownKnob Try.prog.godebug = none := by kernel_rfl
theorem laidOut : laidOutB Try.prog = true := by kernel_rfl

section
variable {H : Type} {enc : TypeId × Value → H} {P : Program}
theorem trodAll_below (hl : laidOutB P = true) {W W' : World} (hb : Below W.heap.size W W') :
    ∀ (ts : List TypeId) (vs : List Value) (ds : List (DataW H)) (ps : List MemPlace), (∀ t ∈ ts, P.readableRec t = true ∧ t < P.types.size) →
      DataW.TrodAll enc P W 0 (fun _ => true) true ts vs ds ps → (∀ x ∈ ps, x.block < W.heap.size) → DataW.TrodAll enc P W' 0 (fun b => decide (b < W.heap.size)) true ts vs ds ps
  | [], [], [], _, _, h, _ => h
  | t :: ts, v :: vs, d :: ds, ps, hr, h, hlt => by
    obtain ⟨p, q, h1, h2, rfl⟩ := h
    exact ⟨p, q, Below.trod hl (hr t (by simp)).1 (hr t (by simp)).2 h1 hb (fun x hx => hlt x (by simp [hx])),
      trodAll_below hl hb ts vs ds q (fun t' ht => hr t' (by simp [ht])) h2 (fun x hx => hlt x (by simp [hx])), rfl⟩
  | [], _ :: _, _, _, _, h, _ => h.elim
  | [], [], _ :: _, _, _, h, _ => h.elim
  | _ :: _, [], _, _, _, h, _ => h.elim
  | _ :: _, _ :: _, [], _, _, h, _ => h.elim

theorem law_post {f : Func} {s : ChangeSpec} {TB : TypeId} (hl : laidOutB P = true) (hP : ∀ t ∈ f.params.toList, P.readableRec t = true ∧ t < P.types.size)
    (hR : f.resultTypes = #[TB]) (hT : P.underlying TB = some .bool) (hv : s.vars = []) {W W' : World} {args : Array Value} {ds gs : List (DataW H)} {before : List MemPlace}
    (hfn : s.fn H ds = { results := [.lit (.bool true)], args := ds })
    (hW : DataW.Whole enc P f.params.toList s.vars false W args.toList ds gs before) (hb : Below W.heap.size W W') :
    s.post enc P f false true false false W args (.bool true) W' := by
  have hlt : ∀ p ∈ before, p.block < W.heap.size := fun p hp => hW.lt p hp
  have hW' := hW
  obtain ⟨p, q, hA, hV, rfl, hfz, hnd⟩ := hW
  rw [hv] at hV
  obtain ⟨rfl, rfl⟩ := trodVars_none hV
  refine ⟨ds, [], p ++ [], [], p, [], hW', ?_, ?_, ?_, ?_, fun h => by cases h⟩
  · rw [List.append_nil, hfn, hR]
    exact trodAll_mk1 (shut_bool hT _)
  · rw [List.append_nil, hfn]
    exact trodAll_below hl hb _ _ _ _ hP hA (fun x hx => hlt x (by simp [hx]))
  · rw [List.append_nil, hfn, hv]
    rfl
  · exact World.keptBut_mono (fun p' hp => ⟨hp, .inr (.inl (by simpa using hp))⟩) (hb.frame (· ∈ p ++ []))
end

/-- an int64 -/
def I64 (n : Int) : Prop := -9223372036854775808 ≤ n ∧ n ≤ 9223372036854775807
theorem I64_of_wf {n : Int} (h : (Lit.int .i64 n).wf = true) : I64 n := by
  simpa [Lit.wf, IntKind.min, IntKind.max, IntKind.signed, IntKind.bits, I64] using h

section
variable {H : Type} {enc : TypeId × Value → H} {P : Program} {W : World}
theorem plain_addr {a : Addr} {v : Value} (h : W.cell? a = some v) : a = ⟨a.block, a.off, none⟩ := by
  obtain ⟨b, o, s⟩ := a
  have : s = none := World.cell?_spot h
  rw [this]

theorem arg_ints {TS T : TypeId} (ht : P.underlying TS = some (.slice T)) (he : P.underlying T = some (.int .i64)) (hc : P.cellsOf T = 1) {base : Nat} {r : Reach} {v : Value} {d : DataW H} {p : List MemPlace}
    (hv : Value.okWide P W r base TS v) (h : DataW.Trod enc P W 0 (fun _ => true) true TS v d p) :
    ∃ A n c zs, v = .slice A n c ∧ RI W W.heap.size A n zs ∧ (∀ i, i < n → I64 (gi zs i)) ∧ n ≤ maxLen := by
  obtain ⟨a0, len, cap, rfl⟩ := okWide_slice ht hv
  obtain ⟨fuel, hf⟩ := h
  rcases open_ints ht he hc hf with ⟨hcs, _⟩ | ⟨a, len', cap', zs, hcs, _, hl, hm, hz, _, hcell, hwz⟩
  · have e : Value.slice a0 len cap = .slice none 0 0 := by simpa [Value.cells] using hcs
    injection e with e1 e2 e3
    subst e1; subst e2; subst e3
    exact ⟨none, 0, 0, [], rfl, RI.nil _ _ _, fun i hi => absurd hi (by omega), Nat.zero_le _⟩
  · have e : Value.slice a0 len cap = .slice (some a) len' cap' := by simpa [Value.cells] using hcs
    injection e with e1 e2 e3
    subst e1; subst e2; subst e3
    simp only [if_true] at hz
    refine ⟨some a, len, cap, zs.take len, rfl, ⟨by rw [List.length_take]; omega, fun hn => ?_⟩, fun i hi => ?_, Nat.le_trans hl hm⟩
    · obtain ⟨b, o, rfl, hc'⟩ := ints_at hcell (by omega)
      refine ⟨b, o, rfl, World.block_lt_of_cell? W ⟨b, o + 0, none⟩ (hc' 0 (by omega)), fun i hi => ?_⟩
      rw [hc' i (by omega), gi_take hi]; rfl
    · rw [gi_take hi]
      exact I64_of_wf (hwz _ (mem_gi (by omega)))

theorem arg_fault {T T0 : TypeId} {f0 f1 f2 f3 : Field} (ht : P.underlying T = some (.struct #[f0, f1, f2, f3])) (hone : Deep.oneCellFields P #[f0, f1, f2, f3] = true) (hC : P.cellsOf T = 4)
    (h0 : f0.type = T0) (h1 : f1.type = T0) (h2 : f2.type = T0) (h3 : f3.type = T0) (he : P.underlying T0 = some (.int .i64)) {base : Nat} {r : Reach} {v : Value} {d : DataW H} {p : List MemPlace}
    (hv : Value.okWide P W r base T v) (h : DataW.Trod enc P W 0 (fun _ => true) true T v d p) :
    ∃ f : Flt, v = .agg #[.int .i64 f.kd, .int .i64 f.pos, .int .i64 f.len, .int .i64 f.val] ∧ I64 f.kd ∧ I64 f.pos ∧ I64 f.len ∧ I64 f.val := by
  obtain ⟨v0, v1, v2, v3, y0, y1, y2, y3, n, rfl, _, _, g0, g1, g2, g3⟩ := Joins.open_agg4 ht hone hC hv h
  obtain ⟨a0, e0, _, w0⟩ := DataW.trod_int (by rw [h0]; exact he) g0
  obtain ⟨a1, e1, _, w1⟩ := DataW.trod_int (by rw [h1]; exact he) g1
  obtain ⟨a2, e2, _, w2⟩ := DataW.trod_int (by rw [h2]; exact he) g2
  obtain ⟨a3, e3, _, w3⟩ := DataW.trod_int (by rw [h3]; exact he) g3
  simp only [List.cons.injEq, and_true] at e0 e1 e2 e3
  subst e0; subst e1; subst e2; subst e3
  exact ⟨⟨a0, a1, a2, a3⟩, rfl, I64_of_wf w0, I64_of_wf w1, I64_of_wf w2, I64_of_wf w3⟩

/-- an argument that is a slice of faults -/
theorem arg_faults {TS T T0 : TypeId} {f0 f1 f2 f3 : Field} (ht : P.underlying TS = some (.slice T)) (hs : P.underlying T = some (.struct #[f0, f1, f2, f3])) (hC : P.cellsOf T = 4)
    (h0 : f0.type = T0 ∧ f0.offset = 0) (h1 : f1.type = T0 ∧ f1.offset = 1) (h2 : f2.type = T0 ∧ f2.offset = 2) (h3 : f3.type = T0 ∧ f3.offset = 3) (he : P.underlying T0 = some (.int .i64)) (hc0 : P.cellsOf T0 = 1)
    {base : Nat} {r : Reach} {v : Value} {d : DataW H} {p : List MemPlace}
    (hv : Value.okWide P W r base TS v) (h : DataW.Trod enc P W 0 (fun _ => true) true TS v d p) :
    ∃ A n c fs, v = .slice A n c ∧ RE encF 4 W W.heap.size A n fs ∧ (∀ i, i < n → I64 (ge fs i).kd ∧ I64 (ge fs i).pos ∧ I64 (ge fs i).len ∧ I64 (ge fs i).val) ∧ n ≤ maxLen := by
  obtain ⟨a0, len, cap, rfl⟩ := okWide_slice ht hv
  obtain ⟨fuel, hf⟩ := h
  rcases Deep.open_slice ht hf with ⟨hcs, _⟩ | ⟨a, len', cap', m, n, D, Pl, hcs, _, hl, hm, hmm, _, hel⟩
  · have e : Value.slice a0 len cap = .slice none 0 0 := by simpa [Value.cells] using hcs
    injection e with e1 e2 e3
    subst e1; subst e2; subst e3
    exact ⟨none, 0, 0, [], rfl, RE.nil _ _ _ _ _, fun i hi => absurd hi (by omega), Nat.zero_le _⟩
  · have e : Value.slice a0 len cap = .slice (some a) len' cap' := by simpa [Value.cells] using hcs
    injection e with e1 e2 e3
    subst e1; subst e2; subst e3
    simp only [if_true] at hmm
    have key : ∀ i, i < len → ∃ f : Flt, (∀ j u, (encF f)[j]? = some u → W.cell? ((a.add (i * 4)).add j) = some u) ∧ I64 f.kd ∧ I64 f.pos ∧ I64 f.len ∧ I64 f.val := by
      intro i hi
      obtain ⟨cs', hcs', htr⟩ := hel i (by omega)
      rw [hC] at hcs'
      obtain ⟨_, hlen, hat⟩ := World.cells?_some hcs'
      obtain ⟨xs, n', _, _, _, hxl, hg⟩ := DataW.trod_struct hs htr
      have hx : ∀ (j : Nat) (f : Field), #[f0, f1, f2, f3][j]? = some f → f.type = T0 ∧ f.offset = j → ∃ q, cs'[j]? = some (.int .i64 q) ∧ I64 q := by
        intro j f hj ⟨hty, hof⟩
        have hjl : j < xs.length := by
          rw [hxl]
          exact (Array.getElem?_eq_some_iff.1 hj).1
        have h5 := hg j f hj
        rw [List.getElem?_eq_getElem hjl, hty, hof, hc0] at h5
        obtain ⟨q, e5, _, w5⟩ := DataW.trod_int he h5
        refine ⟨q, ?_, I64_of_wf w5⟩
        have h6 : ((cs'.drop j).take 1)[0]? = some (.int .i64 q) := by rw [e5]; rfl
        simpa [List.getElem?_take, List.getElem?_drop] using h6
      obtain ⟨q0, r0, w0⟩ := hx 0 f0 rfl h0
      obtain ⟨q1, r1, w1⟩ := hx 1 f1 rfl h1
      obtain ⟨q2, r2, w2⟩ := hx 2 f2 rfl h2
      obtain ⟨q3, r3, w3⟩ := hx 3 f3 rfl h3
      refine ⟨⟨q0, q1, q2, q3⟩, fun j u hu => ?_, w0, w1, w2, w3⟩
      rcases j with _ | _ | _ | _ | j
      · rw [hat 0 (by omega), r0]; exact hu
      · rw [hat 1 (by omega), r1]; exact hu
      · rw [hat 2 (by omega), r2]; exact hu
      · rw [hat 3 (by omega), r3]; exact hu
      · simp [encF] at hu
    obtain ⟨F, hF⟩ := Deep.choose_lt key
    have hge : ∀ i, i < len → ge ((List.range len).map F) i = F i := by
      intro i hi
      rw [ge_lt (by simpa using hi)]; simp
    refine ⟨some a, len, cap, (List.range len).map F, rfl, ⟨by simp, fun hn => ?_⟩, fun i hi => by rw [hge i hi]; exact (hF i hi).2, Nat.le_trans hl hm⟩
    have hsp := (hF 0 hn).1 0 _ rfl
    obtain ⟨b, o, s⟩ := a
    have hs' : s = none := by
      have := World.cell?_spot hsp
      simpa [Addr.add] using this
    subst hs'
    have hadd : ∀ i j, (((⟨b, o, none⟩ : Addr).add i).add j) = ⟨b, o + i + j, none⟩ := by
      intro i j
      rw [Go.WideShapes.add_plain, Go.WideShapes.add_plain]
    refine ⟨b, o, rfl, ?_, fun i hi j u hu => ?_⟩
    · have h9 := World.block_lt_of_cell? W _ hsp
      rw [hadd] at h9
      exact h9
    · rw [hge i hi] at hu
      have := (hF i hi).1 j u hu
      rwa [hadd] at this
end
end Go.Proofs.Ytlfbmedgkkfalaa
