/- Walks, laws and small notions for the claims of this seat, several texts as one (Ck, Cl). Conditions: as each theorem states them. -/
import Derived.Test.YtbaojbheopcjhaaGreatDoorB16
import Derived.RangeFuncNested
import Derived.RangeFuncBound
import Derived.RangeFuncCalls
import Derived.RangeFuncLeaves
import Derived.Shelf.Abstract
import Derived.Shelf.RegionOpen
import Derived.WalkKit
import Derived.OwnWalkIn
import Derived.TacticsInMore
import Derived.LoopNIn
import Derived.LoopIn
import Derived.Maps.AppendAt
import Derived.RangeFuncBox
import Derived.RangeFuncWrites
namespace Go.Proofs.YtbaojbheopcjhaaGreatDoor
open Go.RowKit Go.Shelf
attribute [local go_sem] Oper.semAt_some

set_option maxHeartbeats 1000000 in
theorem numOf_any (A : Option Addr) (c : Nat) (zs : List Int) (w : World) (h : RI w w.heap.size A 8 zs) (hz : allR zs 0 1 = true) :
    Calls Tryz.prog 193 #[.slice A 8 c] w fun e w' => e = .returned (.int .i64 (numB zs)) ∧ w' = w := by
  have L := Lib.hid h.len
  obtain ⟨b, o, rfl, hbl, hc⟩ := h.get (by omega)
  have HB := Lib.hid (numB_lt hz)
  have HZ := Lib.hid hz
  have HC := Lib.hid hc
  clear hz hc
  go_enter Tryz.func193, Tryz.ntmps193
  go_wp2
  go_loop [3, 8] (fun v i => ∃ k : Nat, k ≤ 8 ∧ i = .int .i64 k ∧ v = .int .i64 (numB (zs.take k))) (fun _ i => 8 - (intOf i).toNat)
  case atStart => exact ⟨0, Nat.zero_le _, rfl, by rw [List.take_zero]; rfl⟩
  case round =>
    obtain ⟨k, hk, rfl, rfl⟩ := hrel
    by_cases hlt : k < 8
    · have hcell := HC.out k hlt
      have h1 := HB.out k (by rw [L.out]; omega)
      have h2 := allR_gi HZ.out (k := k) (by rw [L.out]; omega)
      have hs := numB_take (zs := zs) (k := k) (by rw [L.out]; exact hlt)
      obtain ⟨x, hx⟩ : ∃ x, numB (zs.take k) = x := ⟨_, rfl⟩
      obtain ⟨y, hy⟩ : ∃ y, gi zs k = y := ⟨_, rfl⟩
      rw [hx] at h1 hs ⊢
      rw [hy] at h2 hs hcell
      have hp : (2 : Int) ^ k ≤ 2 ^ 8 := by
        have := Nat.pow_le_pow_right (n := 2) (by omega) (Nat.le_of_lt hlt)
        exact_mod_cast this
      have hx1 : 0 ≤ x := h1.1
      have hx2 : x ≤ 256 := by have := h1.2; omega
      have HS := Lib.hid hs
      clear h1 hs hx hy hp
      go_wp2
      go_round
      case rel => exact ⟨k + 1, by omega, by go_num, by rw [HS.out]⟩
      case measure => simp [intOf]; omega
    · have hkn : k = 8 := by omega
      have HK := Lib.hid hkn
      clear hkn
      go_wp2
      go_ret
      exact ⟨ret_int (by rw [HK.out, List.take_of_length_le (by rw [L.out]; exact Nat.le_refl _)]), rfl⟩

set_option maxHeartbeats 1000000 in
theorem chunk_any (A : Option Addr) (c : Nat) (w : World) :
    Calls Tryz.prog 192 #[.slice A 64 c, .int .i64 8] w fun e w' => e = .returned (.func (.func 220) #[] #[.pointer (some ⟨w.heap.size, 0, none⟩), .pointer (some ⟨w.heap.size + 1, 0, none⟩)]) ∧
      w' = (w.alloc (.cells #[.slice A 64 c] 31)).alloc (.cells #[.int .i64 8] 3) := by
  go_enter Tryz.func192, Tryz.ntmps192
  go_wp2
  go_ret
  exact ⟨rfl, rfl⟩

/-- what a round keeps for the iterator: its two boxes -/
def KpB (B1 B2 : Nat) (W W' : World) : Prop := W'.heap[B1]? = W.heap[B1]? ∧ W'.heap[B2]? = W.heap[B2]?
theorem KpB.cell1 {B1 B2 : Nat} {W W' : World} (h : KpB B1 B2 W W') : W'.cell? ⟨B1, 0, none⟩ = W.cell? ⟨B1, 0, none⟩ := World.cell?_of_block (w := W) h.1
theorem KpB.cell2 {B1 B2 : Nat} {W W' : World} (h : KpB B1 B2 W W') : W'.cell? ⟨B2, 0, none⟩ = W.cell? ⟨B2, 0, none⟩ := World.cell?_of_block (w := W) h.2
/-- the chunks that have come -/
def ckTo (k : Nat) : List (Fin 8) := (List.range k).map fun i => Fin.ofNat 8 i
theorem ckTo_succ (k : Nat) : ckTo (k + 1) = ckTo k ++ [Fin.ofNat 8 k] := by simp [ckTo, List.range_succ]
theorem ckTo_len (k : Nat) : (ckTo k).length = k := by simp [ckTo]

set_option maxRecDepth 100000 in
set_option maxHeartbeats 4000000 in
theorem chunk1_in (F : Fence) (n : Nat) (hf : F.fn 220) (hro : F.round = none) (hn : 1 ≤ n) (l B1 B2 b o c : Nat) (hc : 64 ≤ c) (J Jx : List (Fin 8) → World → Prop)
    (hY : ∀ pre x W, J pre W → pre.length < 8 → YieldAt F (n - 1) Tryz.prog l #[.slice (some ⟨b, o + 8 * x.val, none⟩) 8 8] W fun e W' =>
      (e = .returned (.bool true) ∧ J (pre ++ [x]) W' ∧ KpB B1 B2 W W') ∨ (e = .returned (.bool false) ∧ Jx (pre ++ [x]) W'))
    (W : World) (hJ : AbidesFrom W.heap.size J) (h1 : W.cell? ⟨B1, 0, none⟩ = some (.slice (some ⟨b, o, none⟩) 64 c)) (h2 : W.cell? ⟨B2, 0, none⟩ = some (.int .i64 8)) (h0 : J [] W) :
    CallsIn F n Tryz.prog 220 #[.func (.yield l) #[] #[], .pointer (some ⟨B1, 0, none⟩), .pointer (some ⟨B2, 0, none⟩)] W fun e W' => (∃ v, e = .returned v) ∧
      ((∃ ys, ys = ckTo 8 ∧ J ys W') ∨ (∃ pre, True ∧ Jx pre W')) := by
  have hmx : Tryz.prog.follows .mixedOrders = true := by kernel_rfl
  refine callsIn_of_wp Tryz.func220 rfl hf ?_ hro
  simp only [Tryz.ntmps220, List.size_toArray, List.length_cons, List.length_nil, Nat.reduceAdd, Nat.reduceSub, Array.replicate_succ, Array.replicate_zero, List.push_toArray, List.append_toArray, List.nil_append, List.cons_append]
  gi_wp2
  gi_loopw [4] (fun i wr => ∃ k : Nat, k ≤ 8 ∧ i = .int .i64 (8 * k : Nat) ∧ J (ckTo k) wr ∧ wr.cell? ⟨B1, 0, none⟩ = some (.slice (some ⟨b, o, none⟩) 64 c) ∧ wr.cell? ⟨B2, 0, none⟩ = some (.int .i64 8))
    (fun i _ => 64 - (intOf i).toNat)
  case atStart => exact ⟨0, Nat.zero_le _, rfl, h0, h1, h2⟩
  case round =>
    obtain ⟨k, hk, rfl, hJs, d1, d2⟩ := hrel
    by_cases hlt : k < 8
    · have hJd : J (ckTo k) wr.drew := hJ _ wr wr.drew none hJs ⟨rfl, rfl, rfl, Nat.le_refl _, fun _ _ _ => rfl⟩ (fun r e => by cases e)
      obtain ⟨fn, tmps, assign, body, hy, hR⟩ := hY _ (Fin.ofNat 8 k) wr.drew hJd (by rw [ckTo_len]; exact hlt)
      have hval : (Fin.ofNat 8 k).val = k := Nat.mod_eq_of_lt hlt
      rw [hval] at hy
      obtain ⟨at0, ha⟩ : ∃ a : Nat, 8 * k = a := ⟨_, rfl⟩
      rw [ha] at hy ⊢
      have HA := Lib.hid ha
      have hcn : ¬ c = at0 := by omega
      have hcl : at0 ≤ c := by omega
      rcases (show at0 = 56 ∨ at0 < 56 by omega) with rfl | hat
      all_goals
        gi_wp2
        gi_region_o
        all_goals
          gi_wp2
          refine hR.mono ?_
          rintro e W3 (⟨rfl, hJ3, hk3⟩ | ⟨rfl, hJx3⟩)
          · have d3 := hk3.cell1.trans d1
            have d4 := hk3.cell2.trans d2
            have HJ3 := Lib.hid hJ3
            clear hR hJ3 hk3 d1 d2
            gi_wp2
            go_roundw
            case rel => exact ⟨k + 1, by omega, by have := HA.out; first | (congr 1; omega) | rfl, by rw [ckTo_succ]; exact HJ3.out, d3, d4⟩
            case measure => first | (simp [intOf]; done) | (simp [intOf]; omega)
          · gi_wp2
            refine bodyPost_ret (results_none rfl _ _ _) rfl ?_
            exact ⟨⟨_, rfl⟩, .inr ⟨_, trivial, hJx3⟩⟩
    · obtain rfl : k = 8 := by omega
      gi_wp2
      go_end0
      exact ⟨⟨_, rfl⟩, .inl ⟨_, rfl, hJs⟩⟩
end Go.Proofs.YtbaojbheopcjhaaGreatDoor

namespace Go.Proofs.YtbaojbheopcjhaaGreatDoor
open Go.RowKit Go.Shelf
attribute [local go_sem] Oper.semAt_some

theorem infoI64 : (Tryz.prog.info? 2).map (fun i => (i.zero, i.size, i.bytes)) = some (some (.int .i64 0), 1, 8) := by kernel_rfl
theorem chunk_stops (F : Fence) (n : Nat) (hf : F.fn 220) (hro : F.round = none) (hn : 1 ≤ n) (B1 B2 b o c : Nat) (hc : 64 ≤ c) (w : World) (hB1 : B1 < w.heap.size) (hB2 : B2 < w.heap.size)
    (h1 : w.cell? ⟨B1, 0, none⟩ = some (.slice (some ⟨b, o, none⟩) 64 c)) (h2 : w.cell? ⟨B2, 0, none⟩ = some (.int .i64 8)) :
    SeqStopsK F n Tryz.prog 220 #[.pointer (some ⟨B1, 0, none⟩), .pointer (some ⟨B2, 0, none⟩)] (fun x : Fin 8 => #[Value.slice (some ⟨b, o + 8 * x.val, none⟩) 8 8]) (KpB B1 B2) (fun ys => ys = ckTo 8) (fun _ => True) 8 w := fun l J Jx W hW hJ _ hY h0 =>
  chunk1_in F n hf hro hn l B1 B2 b o c hc J Jx hY W hJ ((hW.cell (p := ⟨B1, 0, none⟩) hB1).trans h1) ((hW.cell (p := ⟨B2, 0, none⟩) hB2).trans h2) h0
theorem kpB_t {B1 B2 : Nat} {A B C : World} (h : KpB B1 B2 A B) (k : KpB B1 B2 B C) : KpB B1 B2 A C := ⟨k.1.trans h.1, k.2.trans h.2⟩
theorem kpB_b {B1 B2 : Nat} {w : World} (h1 : B1 < w.heap.size) (h2 : B2 < w.heap.size) (W : World) (l : Nat) (o o' : Obj) (hl : w.heap.size ≤ l) (_ : W.heap[l]? = some o) (_ : o.isCells = false) (_ : o.isWalk = false) : KpB B1 B2 W (W.putObj l o') :=
  ⟨World.putObj_heap_other (fun e => by omega), World.putObj_heap_other (fun e => by omega)⟩
/-- the bytes of the chunks that have come -/
def ckB (zs : List Int) (pre : List (Fin 8)) : List Int := pre.map fun x => numB ((zs.drop (8 * x.val)).take 8)
theorem ckB_all (zs : List Int) : ckB zs (ckTo 8) = bytesB zs 8 := by
  simp [ckB, ckTo, bytesB, List.range_succ]
  exact ⟨rfl, rfl, rfl, rfl, rfl⟩

/-- an append in a region that draws, within a round: its run is known -/
theorem stepIn_app {F : Fence} {n : Nat} {P : Program} {ops : Array Oper} {o : Oper} {a : Act} {w w' : World} {K : Act → World → Prop} {Q : Exit → Act → World → Prop} {E : Prop} (hgd : o.guard = none) (s x : Operand) (t : TypeId)
    (ho : o.op = .call { callee := .builtin .append, args := #[s, x], argTypes := #[t, t] }) (v xv v' : Value) (hs : a.eval s = v) (hx : a.eval x = xv) (hrun : (Builtin.append_ #[t, t] o.type #[v, xv]).run P w = .ok v' w') (h : K (a.put o.dst v') w') :
    if Region.wanted o (yielded ops a.tmps) = true then Oper.wpIn F n P o a w K Q else E := by
  have hw : Region.wanted o (yielded ops a.tmps) = true := by simp [Region.wanted, hgd]
  rw [if_pos hw]
  unfold Oper.wpIn
  refine ⟨?_, ?_⟩
  · simp [Oper.about, ho, resolve, Target.leads, Sem.run_pure]
  · rw [Oper.semAt_plain F _ _ (by rw [ho]; intro c hc'; cases hc')]
    simp [execOp, ho, resolve, invoke, builtin, hs, hx, hrun, Result.andThen]
    exact h

set_option maxRecDepth 100000 in
set_option maxHeartbeats 4000000 in
theorem toByt_any (A : Option Addr) (c : Nat) (zs : List Int) (w : World) (h : RI w w.heap.size A 64 zs) (hz : allR zs 0 1 = true) (hc : 64 ≤ c) :
    Calls Tryz.prog 136 #[.slice A 64 c] w (RetI 2 w 8 (bytesB zs 8)) := by
  have L := Lib.hid h.len
  have HZ := Lib.hid hz
  have H := Lib.hid h
  obtain ⟨b, o, rfl, hbl, _⟩ := h.get (by omega)
  clear hz
  have hmx : Tryz.prog.follows .mixedOrders = true := by kernel_rfl
  obtain ⟨i0, hi, hz0, hz1, hz2⟩ := info_parts infoI64
  refine (callsIn_wide (n := 9)).1 ?_
  refine callsIn_of_wp_marks Tryz.func136 rfl trivial ?_ rfl
  simp only [Tryz.ntmps136, List.size_toArray, List.length_cons, List.length_nil, Nat.reduceAdd, Nat.reduceSub, Array.replicate_succ, Array.replicate_zero, List.push_toArray, List.append_toArray, List.nil_append, List.cons_append]
  gi_wp2_with (refine ⟨trivial, ?_⟩; gi_at_call 192; refine (callsIn_wide.2 (chunk_any _ _ _)).mono ?_; rintro e w' ⟨rfl, rfl⟩)
  obtain ⟨w0, hw0⟩ : ∃ v, v = ((((w.alloc (.cells #[] 2)).alloc (.cells #[.slice (some ⟨w.heap.size, 0, none⟩) 0 0] 31)).alloc (.cells #[.slice (some ⟨b, o, none⟩) 64 c] 31)).alloc (.cells #[.int .i64 8] 3)) := ⟨_, rfl⟩
  have hB0 : Below w.heap.size w w0 := by rw [hw0]; go_grown
  have bO : Boxed w0 (w.heap.size + 1) 31 (.slice (some ⟨w.heap.size, 0, none⟩) 0 0) := by
    have := Boxed.new (w.alloc (.cells #[] 2)) 31 (.slice (some ⟨w.heap.size, 0, none⟩) 0 0)
    rw [World.size_alloc] at this
    rw [hw0]; exact (this.alloc _).alloc _
  have bS : Boxed w0 (w.heap.size + 1 + 1) 31 (.slice (some ⟨b, o, none⟩) 64 c) := by
    have := Boxed.new ((w.alloc (.cells #[] 2)).alloc (.cells #[.slice (some ⟨w.heap.size, 0, none⟩) 0 0] 31)) 31 (.slice (some ⟨b, o, none⟩) 64 c)
    rw [World.size_alloc, World.size_alloc] at this
    rw [hw0]; exact this.alloc _
  have bN : Boxed w0 (w.heap.size + 1 + 1 + 1) 3 (.int .i64 8) := by
    have := Boxed.new (((w.alloc (.cells #[] 2)).alloc (.cells #[.slice (some ⟨w.heap.size, 0, none⟩) 0 0] 31)).alloc (.cells #[.slice (some ⟨b, o, none⟩) 64 c] 31)) 3 (.int .i64 8)
    rw [World.size_alloc, World.size_alloc, World.size_alloc] at this
    rw [hw0]; exact this
  have hrow0 : w0.ownsRow w.heap.size 2 1 (.slice (some ⟨w.heap.size, 0, none⟩) 0 0) 0 [] := by
    have : OwnI 2 w0 w.heap.size (some ⟨w.heap.size, 0, none⟩) 0 0 [] := by rw [hw0]; exact (((OwnI.empty _ (Nat.le_refl _)).alloc _).alloc _).alloc _
    exact this
  have hsz := bN.lt
  rw [← hw0]
  clear hw0
  refine wpIn_rangeFunc_ownG rfl (by omega) (gf := 220) (lb := #[.pointer (some ⟨w.heap.size + 1 + 1, 0, none⟩), .pointer (some ⟨w.heap.size + 1 + 1 + 1, 0, none⟩)]) rfl trivial (enters_of Tryz.func220 (by kernel_rfl) rfl)
    (chunk_stops Fence.wide _ trivial rfl (by omega) (w.heap.size + 1 + 1) (w.heap.size + 1 + 1 + 1) b o c hc w0 bS.lt bN.lt bS.cell bN.cell) kpB_t (kpB_b bS.lt bN.lt) (Below.refl _ _) (fun _ => rfl)
    (fun pre W => (∃ v, Boxed W (w.heap.size + 1) 31 v ∧ W.ownsRow w.heap.size 2 1 v pre.length ((ckB zs pre).map (Value.int .i64)) ∧ True) ∧ Boxed W (w.heap.size + 1 + 1) 31 (.slice (some ⟨b, o, none⟩) 64 c) ∧ Boxed W (w.heap.size + 1 + 1 + 1) 3 (.int .i64 8) ∧ Below w.heap.size w W)
    (fun _ _ _ => False)
    (OwnFrom.and (Own.from (holdsRow_own w.heap.size (w.heap.size + 1) 31 2 1 (fun pre : List (Fin 8) => pre.length) (fun pre => (ckB zs pre).map (Value.int .i64)) (fun _ _ => True)) _)
      (OwnFrom.and (Own.from (boxed_own _ _ (fun _ => _)) _) (OwnFrom.and (Own.from (boxed_own _ _ (fun _ => _)) _) (ownFrom_below (Nat.le_refl _) (by omega)))))
    (fun _ _ _ _ _ hs _ _ => hs)
    ⟨⟨_, bO, hrow0, trivial⟩, bS, bN, hB0⟩
    (fun x => { tmps := #[.slice (some ⟨b, o, none⟩) 64 c, undef, .slice none 0 0, .pointer (some ⟨w.heap.size + 1, 0, none⟩), .slice (some ⟨b, o + 8 * x.val, none⟩) 8 8, .slice (some ⟨w.heap.size, 0, none⟩) 0 0, .slice (some ⟨b, o, none⟩) 64 c, .func (.func 220) #[] #[.pointer (some ⟨w.heap.size + 1 + 1, 0, none⟩), .pointer (some ⟨w.heap.size + 1 + 1 + 1, 0, none⟩)], .slice (some ⟨b, o + 8 * x.val, none⟩) 8 8, undef, undef, undef, undef, undef, undef], defers := [] }) ?assign ?body ?done ?stop
  case assign =>
    intro l x W K hK
    gi_wp2
    exact hK
  case body =>
    rintro l pre x W ⟨⟨v, hv, hrow, _⟩, b1, b2, hB⟩ hlt
    have hri : RI W W.heap.size (some ⟨b, o + 8 * x.val, none⟩) 8 ((zs.drop (8 * x.val)).take 8) := by
      have h1 := ((H.out.up hB).suf (k := 8 * x.val) (by have := x.isLt; omega)).pre (k := 8) (by have := x.isLt; omega)
      exact h1
    have hzz := allR_part HZ.out (8 * x.val) 8
    have hc0 := hv.cell
    have hf0 := hv.frozen
    have hca := fun (y : Int) => (hv.alloc (.cells #[.int .i64 y] 2)).cell
    obtain ⟨y, hy⟩ : ∃ y, numB ((zs.drop (8 * x.val)).take 8) = y := ⟨_, rfl⟩
    have hnum := numOf_any (some ⟨b, o + 8 * x.val, none⟩) 8 _ W.drew hri.drew hzz
    rw [hy] at hnum
    have hvd : Boxed W.drew (w.heap.size + 1) 31 v := hv
    have hrd : W.drew.ownsRow w.heap.size 2 1 v pre.length ((ckB zs pre).map (Value.int .i64)) := hrow
    have hsW := hB.size
    have hpl : pre.length < 8 := hlt
    obtain ⟨v', w1, hrun, hown', hgrow, _⟩ := run_append_own (P := Tryz.prog) (W.drew.alloc (.cells #[.int .i64 y] 2)) w.heap.size 31 31 2 i0 (.int .i64 0) 1 8 Tryz.underlying31 hi hz0 hz1 hz2 rfl (by decide) v pre.length _ (hrd.alloc _) ⟨W.heap.size, 0, none⟩ 1 1 [.int .i64 y] rfl (cell_one_new _ _ _) (by simp [Value.oneCell']) (by simp only [maxLen]; omega) (by omega) (by simp; exact Nat.le_succ_of_le hsW)
    obtain ⟨g', cap', rfl⟩ := ownsRow_succ hown'
    obtain ⟨hv1, hv2, hr2, hk2, hb2⟩ := hvd.appended (by decide) hrd hsW (by omega) hown' hgrow
    have hc1 := hv1.cell
    have hf1 := hv1.frozen
    have s1 : Boxed (w1.setCell ⟨w.heap.size + 1, 0, none⟩ (.slice (some ⟨g', 0, none⟩) (pre.length + 1) cap')) (w.heap.size + 1 + 1) 31 (.slice (some ⟨b, o, none⟩) 64 c) := (((show Boxed W.drew _ _ _ from b1).alloc _).kept hgrow ((show Boxed W.drew _ _ _ from b1).not_row (by decide) hrd)).other (by omega) _
    have s2 : Boxed (w1.setCell ⟨w.heap.size + 1, 0, none⟩ (.slice (some ⟨g', 0, none⟩) (pre.length + 1) cap')) (w.heap.size + 1 + 1 + 1) 3 (.int .i64 8) := (((show Boxed W.drew _ _ _ from b2).alloc _).kept hgrow ((show Boxed W.drew _ _ _ from b2).not_row (by decide) hrd)).other (by omega) _
    have hr3 : (w1.setCell ⟨w.heap.size + 1, 0, none⟩ (.slice (some ⟨g', 0, none⟩) (pre.length + 1) cap')).ownsRow w.heap.size 2 1 (.slice (some ⟨g', 0, none⟩) (pre.length + 1) cap') (pre ++ [x]).length ((ckB zs (pre ++ [x])).map (Value.int .i64)) := by
      have e1 : (pre ++ [x]).length = pre.length + 1 := by simp
      have e2 : (ckB zs (pre ++ [x])).map (Value.int .i64) = (ckB zs pre).map (Value.int .i64) ++ [.int .i64 y] := by simp [ckB, ← hy]
      rw [e1, e2]; exact hr2
    have FIN := Lib.hid (show ∀ a, ownPostG w0.heap.size (KpB (w.heap.size + 1 + 1) (w.heap.size + 1 + 1 + 1)) (fun pre W => (∃ v, Boxed W (w.heap.size + 1) 31 v ∧ W.ownsRow w.heap.size 2 1 v pre.length ((ckB zs pre).map (Value.int .i64)) ∧ True) ∧ Boxed W (w.heap.size + 1 + 1) 31 (.slice (some ⟨b, o, none⟩) 64 c) ∧ Boxed W (w.heap.size + 1 + 1 + 1) 3 (.int .i64 8) ∧ Below w.heap.size w W) (fun _ _ _ => False) (pre ++ [x]) W .normal a (w1.setCell ⟨w.heap.size + 1, 0, none⟩ (.slice (some ⟨g', 0, none⟩) (pre.length + 1) cap')) from fun _ =>
      ⟨((KeepsOthers.drew W).trans hk2).from _, ⟨Eq.trans s1 (Eq.symm b1), Eq.trans s2 (Eq.symm b2)⟩, ⟨_, hv2, hr3, trivial⟩, s1, s2, hB.drew.trans hb2⟩)
    clear hv hrow b1 b2 hB hvd hrd hown' hgrow hv1 hv2 hr2 hk2 hb2 s1 s2 hr3 hri hzz hy bO bS bN hrow0 hB0
    have HRUN := Lib.hid hrun
    have HNUM := Lib.hid hnum
    clear hrun hnum
    gi_wp2
    refine wpIn_region_any (by assumption) ?_
    change wpAnyIn _ _ _ _ _ _ _ _ _ (World.drew _)
    refine wpAnyIn_ready (rs := [0, 1]) (by kernel_rfl) (by simp) ?_
    refine AllReadyIn.cons rfl (fun K hK => ?_) ?_
    · skip
      go_simp
      refine hK _ _ ?_; clear hK K
      refine wpAnyIn_ready (rs := [1]) (by kernel_rfl) (by simp) ?_
      refine AllReadyIn.cons rfl (fun K hK => ?_) ?_
      · skip
        go_simp
        refine hK _ _ ?_; clear hK K
        refine wpAnyIn_ready (rs := [2]) (by kernel_rfl) (by simp) ?_
        refine AllReadyIn.cons rfl (fun K hK => ?_) ?_
        · skip
          go_simp
          refine ⟨trivial, ?_⟩
          refine (CallsIn.inRound l (callsIn_wide.2 HNUM.out)).mono ?_
          rintro e w9 ⟨rfl, rfl⟩
          refine hK _ _ ?_; clear hK K
          refine wpAnyIn_ready (rs := [3]) (by kernel_rfl) (by simp) ?_
          refine AllReadyIn.cons rfl (fun K hK => ?_) ?_
          · skip
            go_simp
            refine hK _ _ ?_; clear hK K
            refine wpAnyIn_ready (rs := [4]) (by kernel_rfl) (by simp) ?_
            refine AllReadyIn.cons rfl (fun K hK => ?_) ?_
            · skip
              refine stepIn_app rfl (.tmp 9) (.tmp 12) 31 rfl v (.slice (some ⟨W.heap.size, 0, none⟩) 1 1) _ (by simp [Act.eval]) (by simp [Act.eval]) HRUN.out ?_
              go_simp
              refine hK _ _ ?_; clear hK K
              refine wpAnyIn_ready (rs := [5]) (by kernel_rfl) (by simp) ?_
              refine AllReadyIn.cons rfl (fun K hK => ?_) ?_
              · skip
                go_simp
                refine hK _ _ ?_; clear hK K
                refine wpAnyIn_done (by kernel_rfl) ?_ _
                go_simp
                exact FIN.out _
              exact AllReadyIn.nil
            exact AllReadyIn.nil
          exact AllReadyIn.nil
        exact AllReadyIn.nil
      exact AllReadyIn.nil
    refine AllReadyIn.cons rfl (fun K hK => ?_) ?_
    · skip
      go_simp
      refine hK _ _ ?_; clear hK K
      refine wpAnyIn_ready (rs := [0, 2]) (by kernel_rfl) (by simp) ?_
      refine AllReadyIn.cons rfl (fun K hK => ?_) ?_
      · skip
        go_simp
        refine hK _ _ ?_; clear hK K
        refine wpAnyIn_ready (rs := [2]) (by kernel_rfl) (by simp) ?_
        refine AllReadyIn.cons rfl (fun K hK => ?_) ?_
        · skip
          go_simp
          refine ⟨trivial, ?_⟩
          refine (CallsIn.inRound l (callsIn_wide.2 HNUM.out)).mono ?_
          rintro e w9 ⟨rfl, rfl⟩
          refine hK _ _ ?_; clear hK K
          refine wpAnyIn_ready (rs := [3]) (by kernel_rfl) (by simp) ?_
          refine AllReadyIn.cons rfl (fun K hK => ?_) ?_
          · skip
            go_simp
            refine hK _ _ ?_; clear hK K
            refine wpAnyIn_ready (rs := [4]) (by kernel_rfl) (by simp) ?_
            refine AllReadyIn.cons rfl (fun K hK => ?_) ?_
            · skip
              refine stepIn_app rfl (.tmp 9) (.tmp 12) 31 rfl v (.slice (some ⟨W.heap.size, 0, none⟩) 1 1) _ (by simp [Act.eval]) (by simp [Act.eval]) HRUN.out ?_
              go_simp
              refine hK _ _ ?_; clear hK K
              refine wpAnyIn_ready (rs := [5]) (by kernel_rfl) (by simp) ?_
              refine AllReadyIn.cons rfl (fun K hK => ?_) ?_
              · skip
                go_simp
                refine hK _ _ ?_; clear hK K
                refine wpAnyIn_done (by kernel_rfl) ?_ _
                go_simp
                exact FIN.out _
              exact AllReadyIn.nil
            exact AllReadyIn.nil
          exact AllReadyIn.nil
        exact AllReadyIn.nil
      refine AllReadyIn.cons rfl (fun K hK => ?_) ?_
      · skip
        go_simp
        refine ⟨trivial, ?_⟩
        refine (CallsIn.inRound l (callsIn_wide.2 HNUM.out)).mono ?_
        rintro e w9 ⟨rfl, rfl⟩
        refine hK _ _ ?_; clear hK K
        refine wpAnyIn_ready (rs := [0, 3]) (by kernel_rfl) (by simp) ?_
        refine AllReadyIn.cons rfl (fun K hK => ?_) ?_
        · skip
          go_simp
          refine hK _ _ ?_; clear hK K
          refine wpAnyIn_ready (rs := [3]) (by kernel_rfl) (by simp) ?_
          refine AllReadyIn.cons rfl (fun K hK => ?_) ?_
          · skip
            go_simp
            refine hK _ _ ?_; clear hK K
            refine wpAnyIn_ready (rs := [4]) (by kernel_rfl) (by simp) ?_
            refine AllReadyIn.cons rfl (fun K hK => ?_) ?_
            · skip
              refine stepIn_app rfl (.tmp 9) (.tmp 12) 31 rfl v (.slice (some ⟨W.heap.size, 0, none⟩) 1 1) _ (by simp [Act.eval]) (by simp [Act.eval]) HRUN.out ?_
              go_simp
              refine hK _ _ ?_; clear hK K
              refine wpAnyIn_ready (rs := [5]) (by kernel_rfl) (by simp) ?_
              refine AllReadyIn.cons rfl (fun K hK => ?_) ?_
              · skip
                go_simp
                refine hK _ _ ?_; clear hK K
                refine wpAnyIn_done (by kernel_rfl) ?_ _
                go_simp
                exact FIN.out _
              exact AllReadyIn.nil
            exact AllReadyIn.nil
          exact AllReadyIn.nil
        refine AllReadyIn.cons rfl (fun K hK => ?_) ?_
        · skip
          go_simp
          refine hK _ _ ?_; clear hK K
          refine wpAnyIn_ready (rs := [0]) (by kernel_rfl) (by simp) ?_
          refine AllReadyIn.cons rfl (fun K hK => ?_) ?_
          · skip
            go_simp
            refine hK _ _ ?_; clear hK K
            refine wpAnyIn_ready (rs := [4]) (by kernel_rfl) (by simp) ?_
            refine AllReadyIn.cons rfl (fun K hK => ?_) ?_
            · skip
              refine stepIn_app rfl (.tmp 9) (.tmp 12) 31 rfl v (.slice (some ⟨W.heap.size, 0, none⟩) 1 1) _ (by simp [Act.eval]) (by simp [Act.eval]) HRUN.out ?_
              go_simp
              refine hK _ _ ?_; clear hK K
              refine wpAnyIn_ready (rs := [5]) (by kernel_rfl) (by simp) ?_
              refine AllReadyIn.cons rfl (fun K hK => ?_) ?_
              · skip
                go_simp
                refine hK _ _ ?_; clear hK K
                refine wpAnyIn_done (by kernel_rfl) ?_ _
                go_simp
                exact FIN.out _
              exact AllReadyIn.nil
            exact AllReadyIn.nil
          exact AllReadyIn.nil
        exact AllReadyIn.nil
      exact AllReadyIn.nil
    exact AllReadyIn.nil
  case done =>
    rintro D ys W hD rfl ⟨⟨v, hv, hrow, _⟩, b1, b2, hB⟩ hK
    have hc0 := hv.cell
    have hlen : (ckTo 8).length = 8 := ckTo_len 8
    rcases hrow.2 with ⟨_, h8⟩ | ⟨g', cap, cur, rfl, _⟩
    · omega
    gi_wp2
    refine ⟨by simp, .inl ⟨_, _, rfl, run_takeDeferred hK, ?_⟩⟩
    have hr9 := ownsRow_putObj hrow (.deferred none) hK rfl
    rw [hlen, ckB_all] at hr9
    exact ⟨_, results_tmp rfl _ _ _, _, _, rfl, hr9, hB.trans (belowK_b (w := w) (Nat.le_refl _) W D _ _ (by omega) hK rfl rfl)⟩
  case stop =>
    rintro D c pre W _ _ h _
    exact h.elim
end Go.Proofs.YtbaojbheopcjhaaGreatDoor
