/- FnDecodedSamples: the bytes of a transmission are decoded from its nominal samples, with idle samples before and behind it, for every code. Conditions: none. -/
import Derived.Test.YtjehkjdehkdjcaaB2
import Derived.Test.YtjehkjdehkdjcaaB9
import Derived.Test.YtjehkjdehkdjcaaB11
import Derived.Test.YtjehkjdehkdjcaaB8
namespace Go.Proofs.Ytjehkjdehkdjcaa
open Go.ChangeShapes Go.WideShapes Go.ChangeAt Go.RowKit
namespace FnDecodedSamples

theorem dice_next {W w1 w2 : World} {B g : Nat} (h : W.grownBy w2 (some g)) (hb : Below B w1 W) (hg : B ≤ g) (hs : B ≤ W.heap.size) : Below B w1 w2 :=
  hb.grown h hs (fun j e => by cases e; exact hg)

/-- all that the law asks of the line's samples -/
theorem plain {ds : List Int} {p a b : Nat} (hc : CellsOf.cod ds p = 0) (hl : (CellsOf.res ds p).length ≤ 900) (ha : a < 20) (hb : b < 20) :
    PadLine.cod (CellsOf.res ds p) a b = 0 ∧ NominalSamples.cod (PadLine.res (CellsOf.res ds p) a b) = 0 ∧
    DecodeSamples.res (NominalSamples.res (PadLine.res (CellsOf.res ds p) a b)) = ds ∧ DecodeSamples.cod (NominalSamples.res (PadLine.res (CellsOf.res ds p) a b)) = 0 ∧
    DecodeVoted.res (NominalSamples.res (PadLine.res (CellsOf.res ds p) a b)) = ds ∧ DecodeVoted.cod (NominalSamples.res (PadLine.res (CellsOf.res ds p) a b)) = 0 ∧
    PreambleOf.prA (NominalSamples.res (PadLine.res (CellsOf.res ds p) a b)) = p ∧ PreambleOf.cod (NominalSamples.res (PadLine.res (CellsOf.res ds p) a b)) = 0 ∧
    (EdgesOfBytes.res (NominalSamples.res (PadLine.res (CellsOf.res ds p) a b))).length = ds.length ∧ EdgesOfBytes.cod (NominalSamples.res (PadLine.res (CellsOf.res ds p) a b)) = 0 ∧
    (PadLine.res (CellsOf.res ds p) a b).length ≤ 8192 ∧ (NominalSamples.res (PadLine.res (CellsOf.res ds p) a b)).length ≤ 8192 := by
  obtain ⟨hb8, h3, h15, hsz⟩ := CellsOf.ok hc
  have e1 : CellsOf.res ds p = cellsP ds p := by unfold CellsOf.res; rw [if_pos hc]; rfl
  rw [e1] at hl ⊢
  have hcl := cellsP_len ds p
  have ht := tx_line ds (a := a) (b := b) (p := p) (by omega) (by omega)
  have hb0 : isBits (cellsP ds p) = true := isBits_iff.2 ⟨by omega, fun z hz => line_bits (ds := ds) (a := 0) (b := 0) (p := p) z (by unfold lineP; simpa using hz)⟩
  have e2 : PadLine.cod (cellsP ds p) a b = 0 := by
    unfold PadLine.cod
    rw [if_pos hb0, if_pos ⟨by omega, by omega⟩, if_pos (by omega)]
  have e3 : PadLine.res (cellsP ds p) a b = lineP a (cellsP ds p) b := by unfold PadLine.res; rw [if_pos e2]
  rw [e3]
  have hll := lineP_len a (cellsP ds p) b
  have hbl : isBits (lineP a (cellsP ds p) b) = true := isBits_iff.2 ⟨by omega, line_bits⟩
  have e4 : NominalSamples.cod (lineP a (cellsP ds p) b) = 0 := by
    unfold NominalSamples.cod
    rw [if_pos hbl, if_pos (by omega)]
  have e5 : NominalSamples.res (lineP a (cellsP ds p) b) = nom (lineP a (cellsP ds p) b) := by unfold NominalSamples.res; rw [if_pos e4]
  rw [e5]
  have hd : ∀ i, i < ds.length → 0 ≤ gi ds i ∧ gi ds i ≤ 255 := fun i hi => allR_gi (CellsOf.allR_of_bytes hb8) hi
  have hn : isBits (nom (lineP a (cellsP ds p) b)) = true := nom_bits line_bits (by omega)
  obtain ⟨r1, r2, r3, r4⟩ := dec_lies (nom_lies _) ht hn hd
  have hbn : 0 < bnd (nom (lineP a (cellsP ds p) b)) [] := by
    have : bnd (nom (lineP a (cellsP ds p) b)) [] = 1 := rfl
    omega
  obtain ⟨s1, s2⟩ := bounded_dec ht line_bits hd (by omega) (fs := []) rfl hbn
  refine ⟨e2, e4, s1, s2, r1, r2, ?_, r2, r4, r2, by omega, by rw [nom_len]; omega⟩
  unfold PreambleOf.prA
  rw [if_pos r2]
  exact r3

set_option maxRecDepth 100000 in
set_option maxHeartbeats 8000000 in
theorem walk (w : World) (A : Option Addr) (n c : Nat) (bs : List Int) (h : RB w w.heap.size A n bs) (hn : n ≤ maxLen) :
    Calls Try.prog 4 #[.slice A n c] w fun e w' => e = .returned (.bool true) ∧ Below w.heap.size w w' := by
  rcases bool_cases (decide (4096 < n)) with hbig | hbig
  · go_enter Try.func4, Try.ntmps4
    go_wp2_with (go_at_call 21; refine (big_any _ _ _ _ hn).mono ?_; rw [hbig]; rintro e w' ⟨rfl, rfl⟩)
    go_ret
    exact ⟨rfl, Below.refl _ _⟩
  have hn4 : n ≤ 4096 := by simpa using hbig
  go_enter Try.func4, Try.ntmps4
  go_wp2_with (go_at_call 21; refine (big_any _ _ _ _ hn).mono ?_; rw [hbig]; rintro e w' ⟨rfl, rfl⟩)
  clear hbig hn
  refine (drawCellsOf_any A n c bs _ h (by omega)).mono ?_
  rintro e w1 ⟨A1, n1, c1, ds, p, rfl, hown1, hn1, hp, hb1⟩
  have hcap1 := hown1.cap
  have hr1 := hown1.reads
  have hnone1 := own_none hown1
  clear hown1
  obtain ⟨cc, hcc⟩ : ∃ x, CellsOf.cod ds p = x := ⟨_, rfl⟩
  obtain ⟨cs, hcs⟩ : ∃ x, CellsOf.res ds p = x := ⟨_, rfl⟩
  go_wp2_with fail
  refine (CellsOf.spec_any A1 n1 c1 p ds _ hr1 (by omega) hcap1.1 hcap1.2 (by omega)).mono ?_
  rw [hcc, hcs]
  rintro e w2 ⟨A2, n2, c2, rfl, hown2, hb2⟩
  have L2 := Lib.hid hown2.len
  have L1 := Lib.hid hr1.len
  have hr12 := hr1.up hb2
  have B2 := Lib.hid (below_next hb2 hb1 (Nat.le_refl _))
  have HCC := Lib.hid hcc
  have HCS := Lib.hid hcs
  have hr2 := hown2.reads
  have hnone2 := own_none hown2
  clear hr1 hb2 hb1 hcc hcs hown2
  rcases ne_cases cc with rfl | ⟨h1, h2, h3⟩
  case inr =>
    clear hnone1 hnone2
    go_wp2
    go_ret
    exact ⟨rfl, B2.out⟩
  by_cases h9 : (n2 : Int) ≤ 900
  case neg =>
    clear hnone1 hnone2
    go_wp2
    go_ret
    exact ⟨rfl, B2.out⟩
  have hbs2 := h.below B2.out (Nat.le_refl _)
  go_wp2_with fail
  refine (roll_any A n c bs _ _ (hbs2.more B2.out.size) (by omega)).mono ?_
  rintro e w3 ⟨g, rfl, hd3, hg3, hb3⟩
  go_wp2_with fail
  refine (dice_below g 20 _ hd3 (by omega)).mono ?_
  rintro e w4 ⟨a, rfl, ha, hd4, hg4⟩
  have k4 := dice_next hg4 hb3 hg3 hb3.size
  go_wp2_with fail
  refine (dice_below g 20 _ hd4 (by omega)).mono ?_
  rintro e w5 ⟨b, rfl, hb, hd5, hg5⟩
  have k5 := dice_next hg5 k4 hg3 k4.size
  clear hb3 hd3 hg4 hd4 k4 hg5 hd5 hg3
  have ha' : a < 20 := by omega
  have hb' : b < 20 := by omega
  have hlc : (CellsOf.res ds p).length ≤ 900 := by rw [HCS.out, L2.out]; omega
  obtain ⟨q1, q2, q3, q4, q5, q6, q7, q8, q9, q10, q11, q12⟩ := plain HCC.out hlc ha' hb'
  rw [HCS.out] at q1 q2 q3 q4 q5 q6 q7 q8 q9 q10 q11 q12
  obtain ⟨ln, hln⟩ : ∃ x, PadLine.res cs a b = x := ⟨_, rfl⟩
  rw [hln] at q2 q3 q4 q5 q6 q7 q8 q9 q10 q11 q12
  obtain ⟨sm, hsm⟩ : ∃ x, NominalSamples.res ln = x := ⟨_, rfl⟩
  rw [hsm] at q3 q4 q5 q6 q7 q8 q9 q10 q12
  have Q1 := Lib.hid q1
  have Q2 := Lib.hid q2
  have Q3 := Lib.hid q3
  have Q4 := Lib.hid q4
  have Q5 := Lib.hid q5
  have Q6 := Lib.hid q6
  have Q7 := Lib.hid q7
  have Q8 := Lib.hid q8
  have Q9 := Lib.hid q9
  have Q10 := Lib.hid q10
  have Q11 := Lib.hid q11
  have Q12 := Lib.hid q12
  have HLN := Lib.hid hln
  have HSM := Lib.hid hsm
  clear q1 q2 q3 q4 q5 q6 q7 q8 q9 q10 q11 q12 hln hsm hlc ha hb
  have B5 := Lib.hid (below_next k5 B2.out (Nat.le_refl _))
  have hr15 := hr12.up k5
  have hr25 := hr2.up k5
  clear hr12 hr2 k5 hbs2
  go_wp2_with fail
  refine (PadLine.spec_any A2 n2 c2 a b cs _ hr25 (by omega) hnone2 (by omega) (by omega)).mono ?_
  rw [Q1.out, HLN.out]
  rintro e w6 ⟨A6, n6, c6, rfl, hown6, hb6⟩
  have L6 := Lib.hid hown6.len
  have B6 := Lib.hid (below_next hb6 B5.out (Nat.le_refl _))
  have hr16 := hr15.up hb6
  have hr66 := hown6.reads
  have hl6 : n6 ≤ 8192 := by have := Q11.out; rw [L6.out] at this; exact this
  clear hr15 hr25 hb6 hown6
  go_wp2_with fail
  refine (NominalSamples.impl_any A6 n6 c6 ln _ hr66 (by omega)).mono ?_
  rw [Q2.out, HSM.out]
  rintro e w7 ⟨A7, n7, c7, rfl, hown7, hb7⟩
  have L7 := Lib.hid hown7.len
  have B7 := Lib.hid (below_next hb7 B6.out (Nat.le_refl _))
  have hr17 := hr16.up hb7
  have hr77 := hown7.reads
  have hl7 : n7 ≤ 8192 := by have := Q12.out; rw [L7.out] at this; exact this
  clear hr16 hr66 hb7 hown7
  go_wp2_with fail
  refine (DecodeSamples.impl_any A7 n7 c7 sm _ hr77 (by omega) (by omega)).mono ?_
  rw [Q3.out, Q4.out]
  rintro e w8 ⟨A8, n8, c8, rfl, hown8, hb8⟩
  have L8 := Lib.hid hown8.len
  have B8 := Lib.hid (below_next hb8 B7.out (Nat.le_refl _))
  have hr18 := hr17.up hb8
  have hr78 := hr77.up hb8
  have hr88 := hown8.reads
  clear hr17 hr77 hb8 hown8
  go_wp2_with fail
  refine (DecodeVoted.impl_any A7 n7 c7 sm _ hr78 (by omega) (by omega)).mono ?_
  rw [Q5.out, Q6.out]
  rintro e w9 ⟨A9, n9, c9, rfl, hown9, hb9⟩
  have L9 := Lib.hid hown9.len
  have B9 := Lib.hid (below_next hb9 B8.out (Nat.le_refl _))
  have hr19 := hr18.up hb9
  have hr79 := hr78.up hb9
  have hr89 := hr88.up hb9
  have hr99 := hown9.reads
  clear hr18 hr78 hr88 hb9 hown9
  go_wp2_with fail
  refine (PreambleOf.impl_any A7 n7 c7 sm _ hr79 (by omega) (by omega)).mono ?_
  rw [Q7.out, Q8.out]
  rintro e w10 ⟨rfl, hb10⟩
  have B10 := Lib.hid (below_next hb10 B9.out (Nat.le_refl _))
  have hr1a := hr19.up hb10
  have hr7a := hr79.up hb10
  have hr8a := hr89.up hb10
  have hr9a := hr99.up hb10
  clear hr19 hr79 hr89 hr99 hb10
  go_wp2_with fail
  refine (EdgesOfBytes.impl_any A7 n7 c7 sm _ hr7a (by omega) (by omega)).mono ?_
  rw [Q10.out]
  rintro e w11 ⟨A11, n11, c11, rfl, hown11, hb11⟩
  have h11 : n11 = n1 := by have := hown11.len; rw [Q9.out, L1.out] at this; exact this.symm
  subst h11
  have B11 := Lib.hid (below_next hb11 B10.out (Nat.le_refl _))
  have hr1b := hr1a.up hb11
  have hr8b := hr8a.up hb11
  have hr9b := hr9a.up hb11
  have hn8 : n8 ≤ 8200 := by have := L8.out; rw [L1.out] at this; omega
  have hn9 : n9 ≤ 8200 := by have := L9.out; rw [L1.out] at this; omega
  clear hr1a hr7a hr8a hr9a hb11 hown11
  go_wp2_with (go_at_call 32; refine (likeInts_any _ _ _ _ _ _ ds ds _ (by first | exact hr8b | exact hr9b | exact hr8b.drewN _ | exact hr9b.drewN _) (by first | exact hr1b | exact hr1b.drewN _) (by omega) (by omega)).mono ?_; rw [eqI_self]; rintro e w12 ⟨rfl, m, rfl⟩)
  go_ret
  exact ⟨rfl, by first | exact B11.out | exact below_drewN B11.out _⟩

set_option maxRecDepth 100000 in
theorem lifted (os : Os) (started : os.Started) (H : Type) (enc : TypeId × Value → H) :
    ReturnsInHanded {} Try.checked os 4 .any (Rows.fnDecodedSamplesSpec.pre6 enc Try.prog Try.f4 Rows.fnDecodedSamplesRow.domain false) (Rows.fnDecodedSamplesSpec.post enc Try.prog Try.f4 false true false false) := by
  refine returnsInHanded_of_change (C := Try.checked) own started (by kernel_rfl) Try.func4
    (ChangeSpec.witness6 (enc := enc) (C := Try.checked) false ⟨#[], #[.slice none 0 0], []⟩ 8 (by kernel_rfl) (by kernel_rfl) (by kernel_rfl) (by kernel_rfl)) ?_
  intro W base args ds gs before hval0 hW _ _
  have hval : ∀ (j : Nat) t v, Try.f4.params[j]? = some t → args[j]? = some v → Value.okWide Try.prog W .any base t v := hval0
  have hW' := hW
  obtain ⟨p, q, hA0, hV, rfl, hfz, hnd⟩ := hW
  have hA : DataW.TrodAll enc Try.prog W 0 (fun _ => true) true Try.f4.params.toList args.toList ds p := hA0
  rw [Try.params4] at hA hval
  obtain ⟨v0, vs0, d0, ds0, p0, q0, hargs, rfl, rfl, h0, r0⟩ := trodAll_cons hA
  obtain ⟨rfl, rfl, rfl⟩ := trodAll_nil r0
  obtain rfl : args = #[v0] := by cases args; simp_all
  obtain ⟨A0, n0, c0, bs0, rfl, hr0, hn0⟩ := arg_bytes Try.underlying39 Try.underlying5 (by kernel_rfl) (hval 0 39 v0 rfl rfl) h0
  refine (walk W A0 n0 c0 bs0 hr0 hn0).mono fun e W' ⟨he, hb⟩ => ?_
  subst he
  exact ⟨_, rfl, law_post laidOut (by
    rw [show Try.f4.params.toList = [39] from rfl]
    intro t ht
    rw [List.mem_singleton.1 ht]; exact ⟨by kernel_rfl, of_decide_eq_true (by kernel_rfl)⟩) rfl Try.underlying4 rfl rfl hW' hb⟩

set_option maxRecDepth 100000 in
theorem closed : joinedFacts Try.prog 4 Try.f4 Rows.fnDecodedSamplesSpec Rows.fnDecodedSamplesRow = true := by
  unfold joinedFacts
  rw [mayEnter_ok, liftsFinal_ok, make_ok]
  change _ = true
  kernel_rfl

theorem holds : Rows.FnDecodedSamplesSaid :=
  OpenClaim.holds_of_wide 4 Try.f4 rfl rfl rfl rfl rfl rfl rfl ⟨rfl, rfl, rfl, rfl, rfl⟩ rfl rfl rfl rfl rfl (by kernel_rfl) Try.func4 closed
    (of_decide_eq_true (by kernel_rfl)) (by unfold Func.isWrapper; first | (rw [if_pos (by decide +kernel)]; kernel_rfl) | (rw [if_neg (by decide +kernel)]; exact ⟨rfl, rfl⟩))
    (fun os started H enc _ => lifted os started H enc)
end FnDecodedSamples
end Go.Proofs.Ytjehkjdehkdjcaa
