/- Walks, laws and small notions for the claims of this seat, several texts as one (Base, Row, Fault, Row2). Conditions: as each theorem states them. -/
import Derived.Test.YtbaojbheopcjhaaGreatDoorRows
import Derived.Test.YtbaojbheopcjhaaGreatDoorB1
import Derived.Deep.QuietTactic
import Derived.BigQuiet
import Derived.Deep.Slices
import Derived.Lib.SmallJoins
import Derived.ProofKit
import Derived.OpenShut
import Derived.Handy
namespace Go.Proofs.YtbaojbheopcjhaaGreatDoor
open Go.RowKit

theorem infoInt : (Tryz.prog.info? 2).map (fun i => (i.zero, i.size, i.bytes)) = some (some (.int .i64 0), 1, 8) := by kernel_rfl

set_option maxHeartbeats 400000 in
theorem l01In_any (n lo hi : Int) (w : World) :
    Calls Tryz.prog 39 #[.int .i64 n, .int .i64 lo, .int .i64 hi] w fun e w' => e = .returned (.bool (inR n lo hi)) ∧ w = w' := by
  by_cases h1 : lo ≤ n <;> by_cases h2 : n ≤ hi
  all_goals
    go_enter Tryz.func39, Tryz.ntmps39
    go_wp2
    go_ret
    exact ⟨ret_bool (by simp [inR, h1, h2]), rfl⟩

set_option maxHeartbeats 400000 in
theorem within_any (n lo hi : Int) (w : World) :
    Calls Tryz.prog 32 #[.int .i64 n, .int .i64 lo, .int .i64 hi] w fun e w' => e = .returned (.bool (inR n lo hi)) ∧ w = w' := by
  by_cases h1 : lo ≤ n <;> by_cases h2 : n ≤ hi
  all_goals
    go_enter Tryz.func32, Tryz.ntmps32
    go_wp2
    go_ret
    exact ⟨ret_bool (by simp [inR, h1, h2]), rfl⟩

def allM (n : Nat) (zs : List Int) (most hi : Int) : Bool := decide ((n : Int) ≤ most) && allR zs 0 hi

set_option maxHeartbeats 400000 in
theorem l01All_any (A : Option Addr) (n c : Nat) (zs : List Int) (most hi : Int) (w : World) (h : RI w w.heap.size A n zs) (hn : n ≤ 1099511627776) :
    Calls Tryz.prog 210 #[.slice A n c, .int .i64 most, .int .i64 hi] w fun e w' => e = .returned (.bool (allM n zs most hi)) ∧ w = w' := by
  by_cases hm : (n : Int) ≤ most
  · go_enter Tryz.func210, Tryz.ntmps210
    go_wp2
    go_loop [7] (fun i => ∃ k : Nat, k ≤ n ∧ i = .int .i64 k ∧ allR (zs.take k) 0 hi = true) (fun i => n - (intOf i).toNat)
    case atStart => exact ⟨0, Nat.zero_le _, rfl, rfl⟩
    case round =>
      obtain ⟨k, hk, rfl, hall⟩ := hrel
      have Hall := Lib.hid hall
      clear hall
      by_cases hlt : k < n
      · obtain ⟨b, o, rfl, _, hc⟩ := h.get (by omega)
        have hcell := hc k hlt
        clear hc
        by_cases hr : inR (gi zs k) 0 hi = true
        · go_wp2_with (go_at_call 39; refine (l01In_any _ _ _ _).mono ?_; rintro e w' ⟨rfl, rfl⟩)
          go_round
          case rel => exact ⟨k + 1, by omega, by go_num, by rw [allR_take (by rw [h.len]; exact hlt), Hall.out, hr]; rfl⟩
          case measure => simp [intOf]; omega
        · have hr' : inR (gi zs k) 0 hi = false := by simpa using hr
          clear hr
          go_wp2_with (go_at_call 39; refine (l01In_any _ _ _ _).mono ?_; rintro e w' ⟨rfl, rfl⟩)
          go_ret
          exact ⟨ret_bool (by simp [allM, allR_no (by rw [h.len]; exact hlt) hr']), rfl⟩
      · have hkn : k = n := by omega
        have hz : allR zs 0 hi = true := by have := Hall.out; rwa [List.take_of_length_le (by rw [h.len]; omega)] at this
        have Hz := Lib.hid hz
        clear hz hkn
        go_wp2
        go_ret
        exact ⟨ret_bool (by simp [allM, hm, Hz.out]), rfl⟩
  · go_enter Tryz.func210, Tryz.ntmps210
    go_wp2
    go_ret
    exact ⟨ret_bool (by simp [allM]; omega), rfl⟩

set_option maxHeartbeats 400000 in
theorem allWithin_any (A : Option Addr) (n c : Nat) (zs : List Int) (lo hi : Int) (w : World) (h : RI w w.heap.size A n zs) (hn : n ≤ 1099511627776) :
    Calls Tryz.prog 81 #[.slice A n c, .int .i64 lo, .int .i64 hi] w fun e w' => e = .returned (.bool (allR zs lo hi)) ∧ w = w' := by
  go_enter Tryz.func81, Tryz.ntmps81
  go_wp2
  go_loop [11] (fun i => ∃ k : Nat, k ≤ n ∧ i = .int .i64 k ∧ allR (zs.take k) lo hi = true) (fun i => n - (intOf i).toNat)
  case atStart => exact ⟨0, Nat.zero_le _, rfl, rfl⟩
  case round =>
    obtain ⟨k, hk, rfl, hall⟩ := hrel
    have Hall := Lib.hid hall
    clear hall
    by_cases hlt : k < n
    · obtain ⟨b, o, rfl, _, hc⟩ := h.get (by omega)
      have hcell := hc k hlt
      clear hc
      by_cases h1 : gi zs k < lo
      · go_wp2
        go_ret
        exact ⟨ret_bool (by rw [allR_no (by rw [h.len]; exact hlt) (inR_no.2 (.inl h1))]), rfl⟩
      · by_cases h2 : hi < gi zs k
        · go_wp2
          go_ret
          exact ⟨ret_bool (by rw [allR_no (by rw [h.len]; exact hlt) (inR_no.2 (.inr h2))]), rfl⟩
        · go_wp2
          go_round
          case rel => exact ⟨k + 1, by omega, by go_num, by rw [allR_take (by rw [h.len]; exact hlt), Hall.out, inR_iff.2 ⟨by omega, by omega⟩]; rfl⟩
          case measure => simp [intOf]; omega
    · have hkn : k = n := by omega
      have hz : allR zs lo hi = true := by have := Hall.out; rwa [List.take_of_length_le (by rw [h.len]; omega)] at this
      have Hz := Lib.hid hz
      clear hz hkn
      go_wp2
      go_ret
      exact ⟨ret_bool Hz.out.symm, rfl⟩

set_option maxHeartbeats 400000 in
theorem iIsBits_any (A : Option Addr) (n c : Nat) (zs : List Int) (w : World) (h : RI w w.heap.size A n zs) (hn : n ≤ 1099511627776) :
    Calls Tryz.prog 46 #[.slice A n c] w fun e w' => e = .returned (.bool (isBits zs)) ∧ w = w' := by
  have L := Lib.hid h.len
  by_cases hm : n ≤ 8192
  all_goals
    go_enter Tryz.func46, Tryz.ntmps46
    go_wp2_with (go_at_call 81; refine (allWithin_any _ _ _ _ _ _ _ h hn).mono ?_; rintro e w' ⟨rfl, rfl⟩)
    go_ret
    exact ⟨ret_bool (by unfold isBits; rw [L.out]; simp [hm]), rfl⟩

end Go.Proofs.YtbaojbheopcjhaaGreatDoor

namespace Go.Proofs.YtbaojbheopcjhaaGreatDoor
open Go.ChangeShapes Go.WideShapes Go.ChangeAt Go.RowKit

theorem own : ownKnob Tryz.prog.godebug = none := by kernel_rfl
theorem laidOut : laidOutB Tryz.prog = true := by kernel_rfl

section
variable {H : Type} {enc : TypeId × Value → H} {P : Program}
theorem trodAll_below (hl : laidOutB P = true) {W W' : World} (hb : Below W.heap.size W W') :
    ∀ (ts : List TypeId) (vs : List Value) (ds : List (DataW H)) (ps : List MemPlace), (∀ t ∈ ts, P.readableRec t = true ∧ t < P.types.size) →
      DataW.TrodAll enc P W 0 (fun _ => true) true ts vs ds ps → (∀ x ∈ ps, x.block < W.heap.size) → DataW.TrodAll enc P W' 0 (fun b => decide (b < W.heap.size)) true ts vs ds ps
  | [], [], [], _, _, h, _ => h
  | t :: ts, v :: vs, d :: ds, ps, hr, h, hlt => by
    obtain ⟨p, q, h1, h2, rfl⟩ := h
    exact ⟨p, q, Below.trod hl (hr t (by simp)).1 (hr t (by simp)).2 h1 hb (fun x hx => hlt x (by simp [hx])),
      trodAll_below hl hb ts vs ds q (fun t' ht => hr t' (by simp [ht])) h2 (fun x hx => hlt x (by simp [hx])), rfl⟩
  | [], _ :: _, _, _, _, h, _ => h.elim
  | [], [], _ :: _, _, _, h, _ => h.elim
  | _ :: _, [], _, _, _, h, _ => h.elim
  | _ :: _, _ :: _, [], _, _, h, _ => h.elim

theorem law_post {f : Func} {s : ChangeSpec} {TB : TypeId} (hl : laidOutB P = true) (hP : ∀ t ∈ f.params.toList, P.readableRec t = true ∧ t < P.types.size)
    (hR : f.resultTypes = #[TB]) (hT : P.underlying TB = some .bool) (hv : s.vars = []) {W W' : World} {args : Array Value} {ds gs : List (DataW H)} {before : List MemPlace}
    (hfn : s.fn H ds = { results := [.lit (.bool true)], args := ds })
    (hW : DataW.Whole enc P f.params.toList s.vars false W args.toList ds gs before) (hb : Below W.heap.size W W') :
    s.post enc P f false true false false W args (.bool true) W' := by
  have hlt : ∀ p ∈ before, p.block < W.heap.size := fun p hp => hW.lt p hp
  have hW' := hW
  obtain ⟨p, q, hA, hV, rfl, hfz, hnd⟩ := hW
  rw [hv] at hV
  obtain ⟨rfl, rfl⟩ := trodVars_none hV
  refine ⟨ds, [], p ++ [], [], p, [], hW', ?_, ?_, ?_, ?_, fun h => by cases h⟩
  · rw [List.append_nil, hfn, hR]
    exact trodAll_mk1 (shut_bool hT _)
  · rw [List.append_nil, hfn]
    exact trodAll_below hl hb _ _ _ _ hP hA (fun x hx => hlt x (by simp [hx]))
  · rw [List.append_nil, hfn, hv]
    rfl
  · exact World.keptBut_mono (fun p' hp => ⟨hp, .inr (.inl (by simpa using hp))⟩) (hb.frame (· ∈ p ++ []))
end

/-- an int64 -/
def I64 (n : Int) : Prop := -9223372036854775808 ≤ n ∧ n ≤ 9223372036854775807
theorem I64_of_wf {n : Int} (h : (Lit.int .i64 n).wf = true) : I64 n := by
  simpa [Lit.wf, IntKind.min, IntKind.max, IntKind.signed, IntKind.bits, I64] using h

section
variable {H : Type} {enc : TypeId × Value → H} {P : Program} {W : World}
theorem plain_addr {a : Addr} {v : Value} (h : W.cell? a = some v) : a = ⟨a.block, a.off, none⟩ := by
  obtain ⟨b, o, s⟩ := a
  have : s = none := World.cell?_spot h
  rw [this]

theorem arg_ints {TS T : TypeId} (ht : P.underlying TS = some (.slice T)) (he : P.underlying T = some (.int .i64)) (hc : P.cellsOf T = 1) {base : Nat} {r : Reach} {v : Value} {d : DataW H} {p : List MemPlace}
    (hv : Value.okWide P W r base TS v) (h : DataW.Trod enc P W 0 (fun _ => true) true TS v d p) :
    ∃ A n c zs, v = .slice A n c ∧ RI W W.heap.size A n zs ∧ (∀ i, i < n → I64 (gi zs i)) ∧ n ≤ maxLen := by
  obtain ⟨a0, len, cap, rfl⟩ := okWide_slice ht hv
  obtain ⟨fuel, hf⟩ := h
  rcases open_ints ht he hc hf with ⟨hcs, _⟩ | ⟨a, len', cap', zs, hcs, _, hl, hm, hz, _, hcell, hwz⟩
  · have e : Value.slice a0 len cap = .slice none 0 0 := by simpa [Value.cells] using hcs
    injection e with e1 e2 e3
    subst e1; subst e2; subst e3
    exact ⟨none, 0, 0, [], rfl, RI.nil _ _ _, fun i hi => absurd hi (by omega), Nat.zero_le _⟩
  · have e : Value.slice a0 len cap = .slice (some a) len' cap' := by simpa [Value.cells] using hcs
    injection e with e1 e2 e3
    subst e1; subst e2; subst e3
    simp only [if_true] at hz
    refine ⟨some a, len, cap, zs.take len, rfl, ⟨by rw [List.length_take]; omega, fun hn => ?_⟩, fun i hi => ?_, Nat.le_trans hl hm⟩
    · obtain ⟨b, o, rfl, hc'⟩ := ints_at hcell (by omega)
      refine ⟨b, o, rfl, World.block_lt_of_cell? W ⟨b, o + 0, none⟩ (hc' 0 (by omega)), fun i hi => ?_⟩
      rw [hc' i (by omega), gi_take hi]; rfl
    · rw [gi_take hi]
      exact I64_of_wf (hwz _ (mem_gi (by omega)))

theorem arg_fault {T T0 : TypeId} {f0 f1 f2 f3 : Field} (ht : P.underlying T = some (.struct #[f0, f1, f2, f3])) (hone : Deep.oneCellFields P #[f0, f1, f2, f3] = true) (hC : P.cellsOf T = 4)
    (h0 : f0.type = T0) (h1 : f1.type = T0) (h2 : f2.type = T0) (h3 : f3.type = T0) (he : P.underlying T0 = some (.int .i64)) {base : Nat} {r : Reach} {v : Value} {d : DataW H} {p : List MemPlace}
    (hv : Value.okWide P W r base T v) (h : DataW.Trod enc P W 0 (fun _ => true) true T v d p) :
    ∃ f : Flt, v = .agg #[.int .i64 f.kd, .int .i64 f.pos, .int .i64 f.len, .int .i64 f.val] ∧ I64 f.kd ∧ I64 f.pos ∧ I64 f.len ∧ I64 f.val := by
  obtain ⟨v0, v1, v2, v3, y0, y1, y2, y3, n, rfl, _, _, g0, g1, g2, g3⟩ := Joins.open_agg4 ht hone hC hv h
  obtain ⟨a0, e0, _, w0⟩ := DataW.trod_int (by rw [h0]; exact he) g0
  obtain ⟨a1, e1, _, w1⟩ := DataW.trod_int (by rw [h1]; exact he) g1
  obtain ⟨a2, e2, _, w2⟩ := DataW.trod_int (by rw [h2]; exact he) g2
  obtain ⟨a3, e3, _, w3⟩ := DataW.trod_int (by rw [h3]; exact he) g3
  simp only [List.cons.injEq, and_true] at e0 e1 e2 e3
  subst e0; subst e1; subst e2; subst e3
  exact ⟨⟨a0, a1, a2, a3⟩, rfl, I64_of_wf w0, I64_of_wf w1, I64_of_wf w2, I64_of_wf w3⟩

/-- an argument that is a slice of faults -/
theorem arg_faults {TS T T0 : TypeId} {f0 f1 f2 f3 : Field} (ht : P.underlying TS = some (.slice T)) (hs : P.underlying T = some (.struct #[f0, f1, f2, f3])) (hC : P.cellsOf T = 4)
    (h0 : f0.type = T0 ∧ f0.offset = 0) (h1 : f1.type = T0 ∧ f1.offset = 1) (h2 : f2.type = T0 ∧ f2.offset = 2) (h3 : f3.type = T0 ∧ f3.offset = 3) (he : P.underlying T0 = some (.int .i64)) (hc0 : P.cellsOf T0 = 1)
    {base : Nat} {r : Reach} {v : Value} {d : DataW H} {p : List MemPlace}
    (hv : Value.okWide P W r base TS v) (h : DataW.Trod enc P W 0 (fun _ => true) true TS v d p) :
    ∃ A n c fs, v = .slice A n c ∧ RE encF 4 W W.heap.size A n fs ∧ (∀ i, i < n → I64 (ge fs i).kd ∧ I64 (ge fs i).pos ∧ I64 (ge fs i).len ∧ I64 (ge fs i).val) ∧ n ≤ maxLen := by
  obtain ⟨a0, len, cap, rfl⟩ := okWide_slice ht hv
  obtain ⟨fuel, hf⟩ := h
  rcases Deep.open_slice ht hf with ⟨hcs, _⟩ | ⟨a, len', cap', m, n, D, Pl, hcs, _, hl, hm, hmm, _, hel⟩
  · have e : Value.slice a0 len cap = .slice none 0 0 := by simpa [Value.cells] using hcs
    injection e with e1 e2 e3
    subst e1; subst e2; subst e3
    exact ⟨none, 0, 0, [], rfl, RE.nil _ _ _ _ _, fun i hi => absurd hi (by omega), Nat.zero_le _⟩
  · have e : Value.slice a0 len cap = .slice (some a) len' cap' := by simpa [Value.cells] using hcs
    injection e with e1 e2 e3
    subst e1; subst e2; subst e3
    simp only [if_true] at hmm
    have key : ∀ i, i < len → ∃ f : Flt, (∀ j u, (encF f)[j]? = some u → W.cell? ((a.add (i * 4)).add j) = some u) ∧ I64 f.kd ∧ I64 f.pos ∧ I64 f.len ∧ I64 f.val := by
      intro i hi
      obtain ⟨cs', hcs', htr⟩ := hel i (by omega)
      rw [hC] at hcs'
      obtain ⟨_, hlen, hat⟩ := World.cells?_some hcs'
      obtain ⟨xs, n', _, _, _, hxl, hg⟩ := DataW.trod_struct hs htr
      have hx : ∀ (j : Nat) (f : Field), #[f0, f1, f2, f3][j]? = some f → f.type = T0 ∧ f.offset = j → ∃ q, cs'[j]? = some (.int .i64 q) ∧ I64 q := by
        intro j f hj ⟨hty, hof⟩
        have hjl : j < xs.length := by
          rw [hxl]
          exact (Array.getElem?_eq_some_iff.1 hj).1
        have h5 := hg j f hj
        rw [List.getElem?_eq_getElem hjl, hty, hof, hc0] at h5
        obtain ⟨q, e5, _, w5⟩ := DataW.trod_int he h5
        refine ⟨q, ?_, I64_of_wf w5⟩
        have h6 : ((cs'.drop j).take 1)[0]? = some (.int .i64 q) := by rw [e5]; rfl
        simpa [List.getElem?_take, List.getElem?_drop] using h6
      obtain ⟨q0, r0, w0⟩ := hx 0 f0 rfl h0
      obtain ⟨q1, r1, w1⟩ := hx 1 f1 rfl h1
      obtain ⟨q2, r2, w2⟩ := hx 2 f2 rfl h2
      obtain ⟨q3, r3, w3⟩ := hx 3 f3 rfl h3
      refine ⟨⟨q0, q1, q2, q3⟩, fun j u hu => ?_, w0, w1, w2, w3⟩
      rcases j with _ | _ | _ | _ | j
      · rw [hat 0 (by omega), r0]; exact hu
      · rw [hat 1 (by omega), r1]; exact hu
      · rw [hat 2 (by omega), r2]; exact hu
      · rw [hat 3 (by omega), r3]; exact hu
      · simp [encF] at hu
    obtain ⟨F, hF⟩ := Deep.choose_lt key
    have hge : ∀ i, i < len → ge ((List.range len).map F) i = F i := by
      intro i hi
      rw [ge_lt (by simpa using hi)]; simp
    refine ⟨some a, len, cap, (List.range len).map F, rfl, ⟨by simp, fun hn => ?_⟩, fun i hi => by rw [hge i hi]; exact (hF i hi).2, Nat.le_trans hl hm⟩
    have hsp := (hF 0 hn).1 0 _ rfl
    obtain ⟨b, o, s⟩ := a
    have hs' : s = none := by
      have := World.cell?_spot hsp
      simpa [Addr.add] using this
    subst hs'
    have hadd : ∀ i j, (((⟨b, o, none⟩ : Addr).add i).add j) = ⟨b, o + i + j, none⟩ := by
      intro i j
      rw [Go.WideShapes.add_plain, Go.WideShapes.add_plain]
    refine ⟨b, o, rfl, ?_, fun i hi j u hu => ?_⟩
    · have h9 := World.block_lt_of_cell? W _ hsp
      rw [hadd] at h9
      exact h9
    · rw [hge i hi] at hu
      have := (hF i hi).1 j u hu
      rwa [hadd] at this
end
end Go.Proofs.YtbaojbheopcjhaaGreatDoor

namespace Go.Proofs.YtbaojbheopcjhaaGreatDoor
open Go.RowKit

/-- has a kind a length; a value -/
def hasLen (k : Int) : Bool := decide (k = 2) || decide (k = 3) || decide (k = 4) || decide (k = 6)
def hasVal (k : Int) : Bool := decide (k = 4) || decide (k = 6)
/-- is a fault valid -/
def isFault (f : Flt) : Bool :=
  inR f.kd 1 6 && (inR f.pos 0 8192 && ((if hasLen f.kd then inR f.len 1 8192 else decide (f.len = 0)) && (if hasVal f.kd then inR f.val 0 1 else decide (f.val = 0))))

theorem kd_cases {k : Int} (h : inR k 1 6 = true) : k = 1 ∨ k = 2 ∨ k = 3 ∨ k = 4 ∨ k = 5 ∨ k = 6 := by rw [inR_iff] at h; omega

theorem zero_cases (l : Int) : ((l == 0) = true ∧ (l != 0) = false ∧ decide (l = 0) = true) ∨ ((l == 0) = false ∧ (l != 0) = true ∧ decide (l = 0) = false) := by
  by_cases h : l = 0 <;> simp [h]
theorem bool_cases (b : Bool) : b = true ∨ b = false := by cases b <;> simp
theorem val_cases (v : Int) : (inR v 0 1 = true ∧ (v == 0) = true ∧ decide (v = 0) = true) ∨ (inR v 0 1 = true ∧ (v == 0) = false ∧ decide (v = 0) = false) ∨ (inR v 0 1 = false ∧ (v == 0) = false ∧ decide (v = 0) = false) := by
  by_cases h : v = 0
  · subst h; exact .inl ⟨by decide, by decide, by decide⟩
  · by_cases h2 : inR v 0 1 = true
    · exact .inr (.inl ⟨h2, by simp [h], by simp [h]⟩)
    · exact .inr (.inr ⟨by simpa using h2, by simp [h], by simp [h]⟩)

set_option maxHeartbeats 2000000 in
theorem sIsFault_any (k p l v : Int) (w : World) :
    Calls Tryz.prog 54 #[.agg #[.int .i64 k, .int .i64 p, .int .i64 l, .int .i64 v]] w (RetV w (.bool (isFault ⟨k, p, l, v⟩))) := by
  by_cases h1 : inR k 1 6 = true
  · by_cases h2 : inR p 0 8192 = true
    · have h1' := h1
      rcases kd_cases h1' with rfl | rfl | rfl | rfl | rfl | rfl
      all_goals clear h1'
      case inl | inr.inr.inr.inr.inl =>
        rcases zero_cases l with ⟨h3, h4, h5⟩ | ⟨h3, h4, h5⟩ <;> rcases val_cases v with ⟨h6, h7, h8⟩ | ⟨h6, h7, h8⟩ | ⟨h6, h7, h8⟩
        all_goals
          have F5 := Lib.hid h5
          have F8 := Lib.hid h8
          clear h5 h8
          go_enter Tryz.func54, Tryz.ntmps54
          go_wp2_with (first | (go_at_call 39; refine (l01In_any _ _ _ _).mono ?_; rintro e w' ⟨rfl, rfl⟩) | go_in)
          go_ret
          exact ⟨ret_bool (by have g5 := F5.out; have g8 := F8.out; unfold isFault; rw [h1, h2, h6, g5, g8]; rfl), by go_grown⟩
      all_goals
        rcases bool_cases (inR l 1 8192) with h5 | h5 <;> rcases val_cases v with ⟨h6, h7, h8⟩ | ⟨h6, h7, h8⟩ | ⟨h6, h7, h8⟩
      all_goals
        have F8 := Lib.hid h8
        clear h8
        go_enter Tryz.func54, Tryz.ntmps54
        go_wp2_with (first | (go_at_call 39; refine (l01In_any _ _ _ _).mono ?_; rintro e w' ⟨rfl, rfl⟩) | go_in)
        go_ret
        exact ⟨ret_bool (by have g8 := F8.out; unfold isFault; rw [h1, h2, h5, h6, g8]; rfl), by go_grown⟩
    · have h2' : inR p 0 8192 = false := by simpa using h2
      clear h2
      go_enter Tryz.func54, Tryz.ntmps54
      go_wp2_with (first | (go_at_call 39; refine (l01In_any _ _ _ _).mono ?_; rintro e w' ⟨rfl, rfl⟩) | go_in)
      go_ret
      exact ⟨ret_bool (by simp [isFault, h2']), by go_grown⟩
  · have h1' : inR k 1 6 = false := by simpa using h1
    clear h1
    go_enter Tryz.func54, Tryz.ntmps54
    go_wp2_with (first | (go_at_call 39; refine (l01In_any _ _ _ _).mono ?_; rintro e w' ⟨rfl, rfl⟩) | go_in)
    go_ret
    exact ⟨ret_bool (by simp [isFault, h1']), by go_grown⟩

set_option maxHeartbeats 2000000 in
theorem iIsFault_any (k p l v : Int) (w : World) :
    Calls Tryz.prog 57 #[.agg #[.int .i64 k, .int .i64 p, .int .i64 l, .int .i64 v]] w (RetV w (.bool (isFault ⟨k, p, l, v⟩))) := by
  by_cases h1 : inR k 1 6 = true
  · by_cases h2 : inR p 0 8192 = true
    · have h1' := h1
      rcases kd_cases h1' with rfl | rfl | rfl | rfl | rfl | rfl
      all_goals clear h1'
      case inl | inr.inr.inr.inr.inl =>
        rcases zero_cases l with ⟨h3, h4, h5⟩ | ⟨h3, h4, h5⟩ <;> rcases val_cases v with ⟨h6, h7, h8⟩ | ⟨h6, h7, h8⟩ | ⟨h6, h7, h8⟩
        all_goals
          have F5 := Lib.hid h5
          have F8 := Lib.hid h8
          clear h5 h8
          go_enter Tryz.func57, Tryz.ntmps57
          go_wp2_with (first | (go_at_call 32; refine (within_any _ _ _ _).mono ?_; rintro e w' ⟨rfl, rfl⟩) | go_in)
          go_quiet (fail)
          go_wp2_with (first | (go_at_call 32; refine (within_any _ _ _ _).mono ?_; rintro e w' ⟨rfl, rfl⟩) | go_in)
          go_ret
          exact ⟨ret_bool (by have g5 := F5.out; have g8 := F8.out; unfold isFault; rw [h1, h2, h6, g5, g8]; rfl), below_drewN (by go_grown) _⟩
      all_goals
        rcases bool_cases (inR l 1 8192) with h5 | h5 <;> rcases val_cases v with ⟨h6, h7, h8⟩ | ⟨h6, h7, h8⟩ | ⟨h6, h7, h8⟩
      all_goals
        have F8 := Lib.hid h8
        clear h8
        go_enter Tryz.func57, Tryz.ntmps57
        go_wp2_with (first | (go_at_call 32; refine (within_any _ _ _ _).mono ?_; rintro e w' ⟨rfl, rfl⟩) | go_in)
        go_quiet (fail)
        go_wp2_with (first | (go_at_call 32; refine (within_any _ _ _ _).mono ?_; rintro e w' ⟨rfl, rfl⟩) | go_in)
        go_ret
        exact ⟨ret_bool (by have g8 := F8.out; unfold isFault; rw [h1, h2, h5, h6, g8]; rfl), below_drewN (by go_grown) _⟩
    · have h2' : inR p 0 8192 = false := by simpa using h2
      clear h2
      go_enter Tryz.func57, Tryz.ntmps57
      go_wp2_with (first | (go_at_call 32; refine (within_any _ _ _ _).mono ?_; rintro e w' ⟨rfl, rfl⟩) | go_in)
      go_ret
      exact ⟨ret_bool (by simp [isFault, h2']), by go_grown⟩
  · have h1' : inR k 1 6 = false := by simpa using h1
    clear h1
    go_enter Tryz.func57, Tryz.ntmps57
    go_wp2_with (first | (go_at_call 32; refine (within_any _ _ _ _).mono ?_; rintro e w' ⟨rfl, rfl⟩) | go_in)
    go_ret
    exact ⟨ret_bool (by simp [isFault, h1']), by go_grown⟩

end Go.Proofs.YtbaojbheopcjhaaGreatDoor

namespace Go.Proofs.YtbaojbheopcjhaaGreatDoor
open Go.ChangeShapes Go.WideShapes Go.ChangeAt Go.RowKit

/-- a verdict, but for its data -/
structure Vdt where
  st : Int
  kd : Int
  rq : Int
  tm : Int
  md : Int
  rd : Int
  sl : Int
  mb : Int
theorem array9 {α : Type} {cs : Array α} (h : cs.size = 9) : ∃ c0 c1 c2 c3 c4 c5 c6 c7 c8, cs = #[c0, c1, c2, c3, c4, c5, c6, c7, c8] := by
  obtain ⟨l⟩ := cs
  match l, h with
  | [c0, c1, c2, c3, c4, c5, c6, c7, c8], _ => exact ⟨c0, c1, c2, c3, c4, c5, c6, c7, c8, rfl⟩

section
variable {H : Type} {enc : TypeId × Value → H} {P : Program} {W : World}
theorem cell_int {T : TypeId} {fuel : Nat} {u : Value} {x : DataW H × List MemPlace} (he : P.underlying T = some (.int .i64)) (h : DataW.trod enc P W 0 (fun _ => true) true fuel T [u] = some x) : ∃ z, u = .int .i64 z ∧ I64 z := by
  obtain ⟨a0, e0, _, w0⟩ := DataW.trod_int he h
  simp only [List.cons.injEq, and_true] at e0
  exact ⟨a0, e0, I64_of_wf w0⟩
theorem cell_ints {TS T : TypeId} (ht : P.underlying TS = some (.slice T)) (he : P.underlying T = some (.int .i64)) (hc : P.cellsOf T = 1) {fuel : Nat} {u : Value} {x : DataW H × List MemPlace}
    (hf : DataW.trod enc P W 0 (fun _ => true) true fuel TS [u] = some x) :
    ∃ A n c zs, u = .slice A n c ∧ RI W W.heap.size A n zs ∧ (∀ i, i < n → I64 (gi zs i)) ∧ n ≤ maxLen := by
  rcases open_ints ht he hc hf with ⟨hcs, _⟩ | ⟨a, len', cap', zs, hcs, _, hl, hm, hz, _, hcell, hwz⟩
  · have e : u = .slice none 0 0 := by simpa using hcs
    exact ⟨none, 0, 0, [], e, RI.nil _ _ _, fun i hi => absurd hi (by omega), Nat.zero_le _⟩
  · have e : u = .slice (some a) len' cap' := by simpa using hcs
    simp only [if_true] at hz
    refine ⟨some a, len', cap', zs.take len', e, ⟨by rw [List.length_take]; omega, fun hn => ?_⟩, fun i hi => ?_, Nat.le_trans hl hm⟩
    · obtain ⟨b, o, rfl, hc'⟩ := ints_at hcell (by omega)
      refine ⟨b, o, rfl, World.block_lt_of_cell? W ⟨b, o + 0, none⟩ (hc' 0 (by omega)), fun i hi => ?_⟩
      rw [hc' i (by omega), gi_take hi]; rfl
    · rw [gi_take hi]
      exact I64_of_wf (hwz _ (mem_gi (by omega)))

theorem arg_verdict {T TF TS TI TL : TypeId} {f0 f1 g0 g1 g2 g3 s0 s1 s2 s3 s4 : Field} (ht : P.underlying T = some (.struct #[f0, f1])) (hC : P.cellsOf T = 9) (hf0 : f0.type = TI ∧ f0.offset = 0) (hf1 : f1.type = TF ∧ f1.offset = 1)
    (htf : P.underlying TF = some (.struct #[g0, g1, g2, g3])) (hCf : P.cellsOf TF = 8) (hg0 : g0.type = TI ∧ g0.offset = 0) (hg1 : g1.type = TI ∧ g1.offset = 1) (hg2 : g2.type = TS ∧ g2.offset = 2) (hg3 : g3.type = TL ∧ g3.offset = 7)
    (hts : P.underlying TS = some (.struct #[s0, s1, s2, s3, s4])) (hCs : P.cellsOf TS = 5) (hs0 : s0.type = TI ∧ s0.offset = 0) (hs1 : s1.type = TI ∧ s1.offset = 1) (hs2 : s2.type = TI ∧ s2.offset = 2) (hs3 : s3.type = TI ∧ s3.offset = 3) (hs4 : s4.type = TI ∧ s4.offset = 4)
    (htl : P.underlying TL = some (.slice TI)) (hCl : P.cellsOf TL = 1) (hti : P.underlying TI = some (.int .i64)) (hCi : P.cellsOf TI = 1)
    {base : Nat} {r : Reach} {v : Value} {d : DataW H} {p : List MemPlace}
    (hv : Value.okWide P W r base T v) (h : DataW.Trod enc P W 0 (fun _ => true) true T v d p) :
    ∃ (x : Vdt) (A : Option Addr) (n c : Nat) (zs : List Int), v = .agg #[.int .i64 x.st, .int .i64 x.kd, .int .i64 x.rq, .int .i64 x.tm, .int .i64 x.md, .int .i64 x.rd, .int .i64 x.sl, .int .i64 x.mb, .slice A n c] ∧
      (I64 x.st ∧ I64 x.kd ∧ I64 x.rq ∧ I64 x.tm ∧ I64 x.md ∧ I64 x.rd ∧ I64 x.sl ∧ I64 x.mb) ∧ RI W W.heap.size A n zs ∧ (∀ i, i < n → I64 (gi zs i)) ∧ n ≤ maxLen := by
  obtain ⟨cs, rfl, hsz⟩ := okWide_struct ht hv
  obtain ⟨c0, c1, c2, c3, c4, c5, c6, c7, c8, rfl⟩ := array9 (hsz.trans hC)
  obtain ⟨fuel, hf⟩ := h
  obtain ⟨xs, n1, _, _, _, hl1, h1⟩ := DataW.trod_struct ht hf
  have hx0 := h1 0 f0 rfl
  have hx1 := h1 1 f1 rfl
  rw [hf0.1, hf0.2, hCi] at hx0
  rw [hf1.1, hf1.2, hCf] at hx1
  rw [List.getElem?_eq_getElem (by rw [hl1]; simp)] at hx0 hx1
  obtain ⟨ys, n2, _, _, _, hl2, h2⟩ := DataW.trod_struct htf hx1
  have hy0 := h2 0 g0 rfl
  have hy1 := h2 1 g1 rfl
  have hy2 := h2 2 g2 rfl
  have hy3 := h2 3 g3 rfl
  rw [hg0.1, hg0.2, hCi] at hy0
  rw [hg1.1, hg1.2, hCi] at hy1
  rw [hg2.1, hg2.2, hCs] at hy2
  rw [hg3.1, hg3.2, hCl] at hy3
  rw [List.getElem?_eq_getElem (by rw [hl2]; simp)] at hy0 hy1 hy2 hy3
  obtain ⟨ss, n3, _, _, _, hl3, h3⟩ := DataW.trod_struct hts hy2
  have hz0 := h3 0 s0 rfl
  have hz1 := h3 1 s1 rfl
  have hz2 := h3 2 s2 rfl
  have hz3 := h3 3 s3 rfl
  have hz4 := h3 4 s4 rfl
  rw [hs0.1, hs0.2, hCi] at hz0
  rw [hs1.1, hs1.2, hCi] at hz1
  rw [hs2.1, hs2.2, hCi] at hz2
  rw [hs3.1, hs3.2, hCi] at hz3
  rw [hs4.1, hs4.2, hCi] at hz4
  rw [List.getElem?_eq_getElem (by rw [hl3]; simp)] at hz0 hz1 hz2 hz3 hz4
  obtain ⟨a0, rfl, w0⟩ := cell_int (u := c0) hti hx0
  obtain ⟨a1, rfl, w1⟩ := cell_int (u := c1) hti hy0
  obtain ⟨a2, rfl, w2⟩ := cell_int (u := c2) hti hy1
  obtain ⟨a3, rfl, w3⟩ := cell_int (u := c3) hti hz0
  obtain ⟨a4, rfl, w4⟩ := cell_int (u := c4) hti hz1
  obtain ⟨a5, rfl, w5⟩ := cell_int (u := c5) hti hz2
  obtain ⟨a6, rfl, w6⟩ := cell_int (u := c6) hti hz3
  obtain ⟨a7, rfl, w7⟩ := cell_int (u := c7) hti hz4
  obtain ⟨A, n, c, zs, rfl, hr, hi, hn⟩ := cell_ints (u := c8) htl hti hCi hy3
  exact ⟨⟨a0, a1, a2, a3, a4, a5, a6, a7⟩, A, n, c, zs, rfl, ⟨w0, w1, w2, w3, w4, w5, w6, w7⟩, hr, hi, hn⟩
end
end Go.Proofs.YtbaojbheopcjhaaGreatDoor
