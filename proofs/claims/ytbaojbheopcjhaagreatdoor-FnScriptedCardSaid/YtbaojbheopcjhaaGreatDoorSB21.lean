/- Walks, laws and small notions for the claims of this seat, several texts as one (Ff, Fg, Fh). Conditions: as each theorem states them. -/
import Derived.Test.YtbaojbheopcjhaaGreatDoorB15
import Derived.Test.YtbaojbheopcjhaaGreatDoorB10
import Derived.Test.YtbaojbheopcjhaaGreatDoorB1
import Derived.Deep.RegionHeldLaw
import Derived.Deep.DeepCutAuto
namespace Go.Proofs.YtbaojbheopcjhaaGreatDoor
open Go.RowKit

/-- a frame of the call's own is handed back -/
def RetF (w0 : World) (N : Nat) (k r ft fm fd fs fb : Int) (zs : List Int) (e : Ending) (w' : World) : Prop :=
  ∃ A c, e = .returned (.agg #[.int .i64 k, .int .i64 r, .int .i64 ft, .int .i64 fm, .int .i64 fd, .int .i64 fs, .int .i64 fb, .slice A N c]) ∧ OwnI 2 w' w0.heap.size A N c zs ∧ Below w0.heap.size w0 w'
/-- a state's number in a frame: where the frame's kind bears a state -/
def stF (b : Bool) (x : Int) : Int := if b = true then x else 0
theorem blkB {W cc : World} {cs : Array Value} {T : TypeId} (hb : Below (W.alloc (.cells cs T)).heap.size (W.alloc (.cells cs T)) cc) : BlkL cc W.heap.size T cs.toList := (BlkL.new W T cs rfl).next hb
theorem blkBd {W cc : World} {cs : Array Value} {T : TypeId} (hb : Below (W.alloc (.cells cs T)).drew.heap.size (W.alloc (.cells cs T)).drew cc) : BlkL cc W.heap.size T cs.toList := (BlkL.new W T cs rfl).drew.next hb
/-- a box and a row of the call's own, of two types -/
def KO (T T2 : TypeId) (w : World) (g : Nat) (L : List Value) (base : Nat) (A : Option Addr) (n c : Nat) (zs : List Int) : Prop := BlkL w g T L ∧ OwnI T2 w base A n c zs
theorem KO.set {T T2 : TypeId} {w : World} {g base n c : Nat} {L : List Value} {A : Option Addr} {zs : List Int} (h : KO T T2 w g L base A n c zs) (hT : T ≠ T2) (j : Nat) (u : Value) : KO T T2 (w.setCell ⟨g, j, none⟩ u) g (L.set j u) base A n c zs := by
  refine ⟨h.1.set j u, ownsRow_setCell_other h.2 (fun e => ?_) u⟩
  rcases h.2.2 with ⟨h1, h2⟩ | ⟨g', cap, cur, hv, hb, hh, _⟩
  · rw [h1] at e; cases e
  · rw [hv] at e
    simp only [Value.ownBlock, Option.some.injEq] at e
    subst e
    have hk := h.1
    unfold BlkL at hk
    rw [hk] at hh
    injection hh with hh
    injection hh with _ hh
    exact hT hh


theorem l20Eqf_at (n : Nat) (v N : Int) (hN : (n : Int) = N) (w : World) (hn : n ≤ 1048576) :
    Calls Tryz.prog 43 #[.int .i64 N, .int .i64 v] w (RetI 2 w n (List.replicate n v)) := by
  subst hN
  exact l20Equal_any n v w hn

set_option maxRecDepth 200000 in
set_option maxHeartbeats 8000000 in
theorem l27F_any (m : Mdv) (M : Mdl) (t md rn sl mb fl rq : Int) (f : Nat) (w : World) (h : RD w w.heap.size m M) (hf : idxZ (atKey md rn sl) M.ss = (f : Int)) (hfl : f < m.ns) (n : Nat) (hs : (n : Int) = (ge M.ss f).sz) (hn : n ≤ 1048576) (b : Bool) (hb : ((ge M.ss f).kd != 0) = b) :
    Calls Tryz.prog 40 #[.agg #[.int .i64 m.id, .slice m.An m.nn m.cn, .slice m.Am m.nm m.cm, .slice m.As m.ns m.cs], .agg #[.int .i64 t, .int .i64 md, .int .i64 rn, .int .i64 sl, .int .i64 mb], .int .i64 fl, .int .i64 rq] w (RetF w n (ge M.ss f).kd rq (stF b t) (stF b md) (stF b rn) (stF b sl) (stF b mb) (List.replicate n fl)) := by
  have hds := fun (u : World) (hu : RD u u.heap.size m M) => sDesc_any m M t md rn sl mb f u hu hf hfl
  obtain ⟨⟨_, _, _, nd, kd, sz, du, ch⟩, hx⟩ : ∃ x : Sl, ge M.ss f = x := ⟨_, rfl⟩
  rw [hx] at hs hb hds ⊢
  have hs : (n : Int) = sz := hs
  have hb : (kd != 0) = b := hb
  have HD := Lib.hid (show ∀ u : World, RD u u.heap.size m M → Calls _ _ _ u (RetV u (.agg #[.int .i64 nd, .int .i64 kd, .int .i64 sz, .int .i64 du, .bool ch])) from hds)
  have HB := Lib.hid hb
  have HS := Lib.hid hs
  show Calls _ _ _ _ (RetF w n kd rq _ _ _ _ _ _)
  obtain ⟨w0, hw0⟩ : ∃ v, v = ((w.alloc (.cells #[.int .i64 m.id, .slice m.An m.nn m.cn, .slice m.Am m.nm m.cm, .slice m.As m.ns m.cs] 28)).alloc (.cells #[.int .i64 t, .int .i64 md, .int .i64 rn, .int .i64 sl, .int .i64 mb] 30)).alloc (.cells #[.int .i64 0, .int .i64 0, .int .i64 0, .int .i64 0, .int .i64 0, .int .i64 0, .int .i64 0, .slice none 0 0] 33) := ⟨_, rfl⟩
  have hB : BM w w.heap.size m M w0 := by rw [hw0]; exact (BM.box h).next (by go_grown)
  have j0 : BlkL w0 (w.heap.size + 1) 30 [.int .i64 t, .int .i64 md, .int .i64 rn, .int .i64 sl, .int .i64 mb] := by rw [hw0]; exact (BlkL.new _ _ _ (by simp)).alloc _
  have q0 : BlkL w0 (w.heap.size + 1 + 1) 33 [.int .i64 0, .int .i64 0, .int .i64 0, .int .i64 0, .int .i64 0, .int .i64 0, .int .i64 0, .slice none 0 0] := by rw [hw0]; exact BlkL.new _ _ _ (by simp)
  have hsz : w0.heap.size = w.heap.size + 1 + 1 + 1 := by rw [hw0]; simp
  clear hb hs hx hds
  go_enter Tryz.func40, Tryz.ntmps40
  go_wp2_with fail
  rw [← hw0]
  clear hw0
  refine (HD.out _ hB.rd).mono ?_
  rintro e w1 ⟨rfl, hb1⟩
  obtain ⟨u1, hu1⟩ : ∃ X, w1.alloc (.cells #[.int .i64 nd, .int .i64 kd, .int .i64 sz, .int .i64 du, .bool ch] 69) = X := ⟨_, rfl⟩
  have s1 := hb1.size
  have k1 : BlkL u1 w1.heap.size 69 [.int .i64 nd, .int .i64 kd, .int .i64 sz, .int .i64 du, .bool ch] := by rw [← hu1]; exact BlkL.new _ _ _ rfl
  have hbu : Below w0.heap.size w0 u1 := by rw [← hu1]; exact below_alloc hb1 (Nat.le_refl _) _
  have j1 := j0.next hbu
  have q1 := q0.next hbu
  have gb1 := below_next hbu hB.bel (Nat.le_refl _)
  have su : w1.heap.size + 1 = u1.heap.size := by rw [← hu1]; simp
  clear hb1 hbu j0 q0 hB
  go_upto_region 2 with fail
  clear hu1
  have hV : Below u1.heap.size u1 u1.drew := (Below.refl _ _).drew
  have hcells : ∀ u, Below u1.heap.size u1 u → (Below u1.heap.size u1 u ∧ u.cell? ⟨w1.heap.size, 1, none⟩ = some (.int .i64 kd) ∧ u.cell? ⟨w1.heap.size, 2, none⟩ = some (.int .i64 sz)) := fun u hu => ⟨hu, (k1.next hu).c 1 rfl, (k1.next hu).c 2 rfl⟩
  have HC := Lib.hid hcells
  clear hcells
  go_cut [10] (fun v wc => ∃ g A c, v = .pointer (some ⟨g, 0, none⟩) ∧ u1.heap.size ≤ g ∧ BlkL wc g 33 [.int .i64 kd, .int .i64 rq, .int .i64 0, .int .i64 0, .int .i64 0, .int .i64 0, .int .i64 0, .slice A n c] ∧ OwnI 2 wc u1.heap.size A n c (List.replicate n fl) ∧ Below u1.heap.size u1 wc)
  case first =>
    first
    | go_region_held_law (fun u => Below u1.heap.size u1 u ∧ u.cell? ⟨w1.heap.size, 1, none⟩ = some (.int .i64 kd) ∧ u.cell? ⟨w1.heap.size, 2, none⟩ = some (.int .i64 sz)) (first | (with_reducible exact HC.out _ hV) | (with_reducible refine HC.out _ ?_; with_reducible assumption) | (with_reducible exact HC.out _ (below_alloc hv (Nat.le_refl _) _)) | (with_reducible exact HC.out _ (below_alloc hV (Nat.le_refl _) _)) | (with_reducible refine HC.out _ ?_; go_grown)) (first
      | (go_at_call 43; (have hgv : Below u1.heap.size u1 _ := And.left (‹Below u1.heap.size u1 _ ∧ _›)); (with_reducible refine (l20Eqf_at n fl sz HS.out _ hn).mono ?_); rintro e cc ⟨A20, c20, rfl, hown, hb⟩; (have hv := below_next hb hgv (Nat.le_refl _)); (have O20 := Lib.hid (hown.weaken hgv.size)); (have SV := Lib.hid hv.size); (have HV9 := Lib.hid hv); (try ((first | (with_reducible have KX := blkB hb) | (with_reducible have KX := blkBd hb)); have KB := Lib.hid KX; (have y0 := KX.free 0; have y1 := KX.free 1; have y2 := KX.free 2; have y3 := KX.free 3; have y4 := KX.free 4; have y5 := KX.free 5; have y6 := KX.free 6; have y7 := KX.free 7; have e0 := KX.c 0 rfl; have e1 := KX.c 1 rfl; have e2 := KX.c 2 rfl; have e3 := KX.c 3 rfl; have e4 := KX.c 4 rfl; have e5 := KX.c 5 rfl; have e6 := KX.c 6 rfl; have e7 := KX.c 7 rfl); clear KX)); clear hown hgv hb))
    | fail
    all_goals
      go_wp2_with fail
      go_meet
      first
      | exact ⟨_, A20, c20, rfl, SV.out, BlkL.new _ _ _ rfl, O20.out.alloc _, below_alloc HV9.out (Nat.le_refl _) _⟩
      | (have ko := (((((((((show KO 33 2 cc _ _ u1.heap.size A20 n c20 _ from ⟨KB.out, O20.out⟩).set (by decide) 0 (.int .i64 kd)).set (by decide) 1 (.int .i64 rq)).set (by decide) 2 (.int .i64 0)).set (by decide) 3 (.int .i64 0)).set (by decide) 4 (.int .i64 0)).set (by decide) 5 (.int .i64 0)).set (by decide) 6 (.int .i64 0)).set (by decide) 7 (.slice A20 n c20))
         have hv := HV9.out
         exact ⟨_, A20, c20, rfl, Nat.le_refl _, ko.1, ko.2, by go_grown⟩)
  case rest =>
    obtain ⟨g, A, c, rfl, hg, K, own, hbc⟩ := hcut
    obtain ⟨w2, hw2⟩ : ∃ v, v = wc := ⟨_, rfl⟩
    rw [← hw2] at K own hbc ⊢
    clear hw2
    have k2 := k1.next hbc
    have j2 := j1.next hbc
    have q2 := q1.next hbc
    have gb2 := below_next hbc gb1 (Nat.le_refl _)
    have OW := Lib.hid (own.weaken gb1.size)
    have hgl : w.heap.size + 1 + 1 < g := by omega
    clear k1 j1 q1 own hbc gb1 hV HC s1 su hsz hg HS HD
    have c1 := k2.c 1 rfl
    cases b
    case false =>
      have ko : KO 33 2 w2 g _ _ A n c _ := ⟨K, OW.out⟩
      go_upto_region 5 with (go_at_call 77; refine (sHasSt_is HB.out _).mono ?_; rintro e w9 ⟨rfl, rfl⟩)
      have d0 := ko.1.c 0 rfl
      have d1 := ko.1.c 1 rfl
      have d2 := ko.1.c 2 rfl
      have d3 := ko.1.c 3 rfl
      have d4 := ko.1.c 4 rfl
      have d5 := ko.1.c 5 rfl
      have d6 := ko.1.c 6 rfl
      have d7 := ko.1.c 7 rfl
      have y0 := q2.free 0
      have y1 := q2.free 1
      have y2 := q2.free 2
      have y3 := q2.free 3
      have y4 := q2.free 4
      have y5 := q2.free 5
      have y6 := q2.free 6
      have y7 := q2.free 7
      have e0 := q2.c 0 rfl
      have e1 := q2.c 1 rfl
      have e2 := q2.c 2 rfl
      have e3 := q2.c 3 rfl
      have e4 := q2.c 4 rfl
      have e5 := q2.c 5 rfl
      have e6 := q2.c 6 rfl
      have e7 := q2.c 7 rfl
      go_wp2_with fail
      refine bp_forget (fun v => KO 33 2 v (w.heap.size + 1 + 1) [.int .i64 kd, .int .i64 rq, .int .i64 0, .int .i64 0, .int .i64 0, .int .i64 0, .int .i64 0, .slice A n c] w.heap.size A n c (List.replicate n fl) ∧ Below w.heap.size w v) ⟨(((((((((show KO 33 2 _ _ _ _ _ _ _ _ from ⟨q2, ko.2⟩).set (by decide) 0 _).set (by decide) 1 _).set (by decide) 2 _).set (by decide) 3 _).set (by decide) 4 _).set (by decide) 5 _).set (by decide) 6 _).set (by decide) 7 _), by go_grown⟩ ?_
      rintro v9 ⟨ko9, gb9⟩
      clear d0 d1 d2 d3 d4 d5 d6 d7 y0 y1 y2 y3 y4 y5 y6 y7 e0 e1 e2 e3 e4 e5 e6 e7
      have d0 := ko9.1.c 0 rfl
      have d1 := ko9.1.c 1 rfl
      have d2 := ko9.1.c 2 rfl
      have d3 := ko9.1.c 3 rfl
      have d4 := ko9.1.c 4 rfl
      have d5 := ko9.1.c 5 rfl
      have d6 := ko9.1.c 6 rfl
      have d7 := ko9.1.c 7 rfl
      exact bodyPost_ret (v := .agg #[.int .i64 kd, .int .i64 rq, .int .i64 0, .int .i64 0, .int .i64 0, .int .i64 0, .int .i64 0, .slice A n c]) (by simp [results, Tryz.results40, go_sem, d0, d1, d2, d3, d4, d5, d6, d7]) rfl ⟨A, c, rfl, ko9.2, gb9⟩

    case true =>
      have s0 := j2.c 0 rfl
      have s1 := j2.c 1 rfl
      have s2 := j2.c 2 rfl
      have s3 := j2.c 3 rfl
      have s4 := j2.c 4 rfl
      have x0 := K.c 0 rfl
      have x1 := K.c 1 rfl
      have x2 := K.c 2 rfl
      have x3 := K.c 3 rfl
      have x4 := K.c 4 rfl
      have x5 := K.c 5 rfl
      have x6 := K.c 6 rfl
      have x7 := K.c 7 rfl
      have z2 := K.free 2
      have z3 := K.free 3
      have z4 := K.free 4
      have z5 := K.free 5
      have z6 := K.free 6
      go_upto_region 5 with (go_at_call 77; refine (sHasSt_is HB.out _).mono ?_; rintro e w9 ⟨rfl, rfl⟩)
      refine wp_forget (fun v => KO 33 2 v g [.int .i64 kd, .int .i64 rq, .int .i64 t, .int .i64 md, .int .i64 rn, .int .i64 sl, .int .i64 mb, .slice A n c] w.heap.size A n c (List.replicate n fl) ∧ BlkL v (w.heap.size + 1 + 1) 33 [.int .i64 0, .int .i64 0, .int .i64 0, .int .i64 0, .int .i64 0, .int .i64 0, .int .i64 0, .slice none 0 0] ∧ Below w.heap.size w v) ⟨((((((show KO 33 2 _ _ _ _ _ _ _ _ from ⟨K, OW.out⟩).set (by decide) 2 _).set (by decide) 3 _).set (by decide) 4 _).set (by decide) 5 _).set (by decide) 6 _), (((((q2.other (by show g ≠ _; omega) _).other (by show g ≠ _; omega) _).other (by show g ≠ _; omega) _).other (by show g ≠ _; omega) _).other (by show g ≠ _; omega) _), by go_grown⟩ ?_
      clear s0 s1 s2 s3 s4 x0 x1 x2 x3 x4 x5 x6 x7 z2 z3 z4 z5 z6 K OW q2 gb2 k2 j2 c1
      rintro v2 ⟨ko, q2, gb2⟩
      have d0 := ko.1.c 0 rfl
      have d1 := ko.1.c 1 rfl
      have d2 := ko.1.c 2 rfl
      have d3 := ko.1.c 3 rfl
      have d4 := ko.1.c 4 rfl
      have d5 := ko.1.c 5 rfl
      have d6 := ko.1.c 6 rfl
      have d7 := ko.1.c 7 rfl
      have y0 := q2.free 0
      have y1 := q2.free 1
      have y2 := q2.free 2
      have y3 := q2.free 3
      have y4 := q2.free 4
      have y5 := q2.free 5
      have y6 := q2.free 6
      have y7 := q2.free 7
      have e0 := q2.c 0 rfl
      have e1 := q2.c 1 rfl
      have e2 := q2.c 2 rfl
      have e3 := q2.c 3 rfl
      have e4 := q2.c 4 rfl
      have e5 := q2.c 5 rfl
      have e6 := q2.c 6 rfl
      have e7 := q2.c 7 rfl
      go_wp2_with fail
      refine bp_forget (fun v => KO 33 2 v (w.heap.size + 1 + 1) [.int .i64 kd, .int .i64 rq, .int .i64 t, .int .i64 md, .int .i64 rn, .int .i64 sl, .int .i64 mb, .slice A n c] w.heap.size A n c (List.replicate n fl) ∧ Below w.heap.size w v) ⟨(((((((((show KO 33 2 _ _ _ _ _ _ _ _ from ⟨q2, ko.2⟩).set (by decide) 0 _).set (by decide) 1 _).set (by decide) 2 _).set (by decide) 3 _).set (by decide) 4 _).set (by decide) 5 _).set (by decide) 6 _).set (by decide) 7 _), by go_grown⟩ ?_
      rintro v9 ⟨ko9, gb9⟩
      clear d0 d1 d2 d3 d4 d5 d6 d7 y0 y1 y2 y3 y4 y5 y6 y7 e0 e1 e2 e3 e4 e5 e6 e7
      have d0 := ko9.1.c 0 rfl
      have d1 := ko9.1.c 1 rfl
      have d2 := ko9.1.c 2 rfl
      have d3 := ko9.1.c 3 rfl
      have d4 := ko9.1.c 4 rfl
      have d5 := ko9.1.c 5 rfl
      have d6 := ko9.1.c 6 rfl
      have d7 := ko9.1.c 7 rfl
      exact bodyPost_ret (v := .agg #[.int .i64 kd, .int .i64 rq, .int .i64 t, .int .i64 md, .int .i64 rn, .int .i64 sl, .int .i64 mb, .slice A n c]) (by simp [results, Tryz.results40, go_sem, d0, d1, d2, d3, d4, d5, d6, d7]) rfl ⟨A, c, rfl, ko9.2, gb9⟩
end Go.Proofs.YtbaojbheopcjhaaGreatDoor

namespace Go.Proofs.YtbaojbheopcjhaaGreatDoor
open Go.RowKit

end Go.Proofs.YtbaojbheopcjhaaGreatDoor

namespace Go.Proofs.YtbaojbheopcjhaaGreatDoor
open Go.RowKit

theorem KO.row {T T2 : TypeId} {w : World} {g base n c g2 : Nat} {L : List Value} {zs : List Int} (h : KO T T2 w g L base (some ⟨g2, 0, none⟩) n c zs) (hT : T ≠ T2) (j : Nat) (z : Int) : KO T T2 (w.setCell ⟨g2, j, none⟩ (.int .i64 z)) g L base (some ⟨g2, 0, none⟩) n c (zs.set j z) := by
  have st := h.2.stored j z
  refine ⟨(st.2.block g h.1.lt (fun e => ?_)).trans h.1, st.1⟩
  simp only [Option.some.injEq] at e
  subst e
  rcases h.2.2 with ⟨h1, h2⟩ | ⟨g', cap, cur, hv, hb, hh, _⟩
  · cases h1
  · simp only [Value.slice.injEq, Option.some.injEq, Addr.mk.injEq] at hv
    obtain ⟨⟨rfl, _⟩, _⟩ := hv
    have hk := h.1
    unfold BlkL at hk
    rw [hk] at hh
    injection hh with hh
    injection hh with _ hh
    exact hT hh

end Go.Proofs.YtbaojbheopcjhaaGreatDoor
