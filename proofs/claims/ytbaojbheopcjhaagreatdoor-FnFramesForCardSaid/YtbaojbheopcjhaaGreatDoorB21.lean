/- Walks, laws and small notions for the claims of this seat, several texts as one (Ff, Fg, Fh). Conditions: as each theorem states them. -/
import Derived.Test.YtbaojbheopcjhaaGreatDoorB15
import Derived.Test.YtbaojbheopcjhaaGreatDoorB10
import Derived.Test.YtbaojbheopcjhaaGreatDoorB1
import Derived.Deep.RegionHeldLaw
import Derived.Deep.DeepCutAuto
namespace Go.Proofs.YtbaojbheopcjhaaGreatDoor
open Go.RowKit

/-- a frame of the call's own is handed back -/
def RetF (w0 : World) (N : Nat) (k r ft fm fd fs fb : Int) (zs : List Int) (e : Ending) (w' : World) : Prop :=
  ∃ A c, e = .returned (.agg #[.int .i64 k, .int .i64 r, .int .i64 ft, .int .i64 fm, .int .i64 fd, .int .i64 fs, .int .i64 fb, .slice A N c]) ∧ OwnI 2 w' w0.heap.size A N c zs ∧ Below w0.heap.size w0 w'
/-- a state's number in a frame: where the frame's kind bears a state -/
def stF (b : Bool) (x : Int) : Int := if b = true then x else 0
theorem blkB {W cc : World} {cs : Array Value} {T : TypeId} (hb : Below (W.alloc (.cells cs T)).heap.size (W.alloc (.cells cs T)) cc) : BlkL cc W.heap.size T cs.toList := (BlkL.new W T cs rfl).next hb
theorem blkBd {W cc : World} {cs : Array Value} {T : TypeId} (hb : Below (W.alloc (.cells cs T)).drew.heap.size (W.alloc (.cells cs T)).drew cc) : BlkL cc W.heap.size T cs.toList := (BlkL.new W T cs rfl).drew.next hb
/-- make, whatever the world -/
theorem make_at (n : Nat) (N : Int) (hN : (n : Int) = N) (hn : n ≤ 1048576) : ∃ R : Array Value, R.toList = ci (List.replicate n 0) ∧ R.size = n ∧ ∀ w, Sem.run Tryz.prog (Instr.makeSlice 31 (.int .i64 N) (.int .i64 N)) w = .ok (.slice (some ⟨w.heap.size, 0, none⟩) n n) (w.alloc (.cells R 2)) := by
  subst hN
  obtain ⟨i, hi, hz, hs1, hb1⟩ := info_split infoInt
  refine ⟨madeCells (Value.int .i64 0).cells (n * i.size), ?_, by rw [size_madeCells, hs1, Nat.mul_one], fun w => ?_⟩
  · rw [hs1, Nat.mul_one]
    show (madeCells #[Value.int .i64 0] n).toList = _
    rw [toList_madeCells_one]
    unfold ci
    rw [List.map_replicate]
  · have := run_make (w := w) (P := Tryz.prog) 31 2 i (.int .i64 0) Tryz.underlying31 hi hz .i64 .i64 n n (by omega) (by omega) (by rw [hb1]; omega) (by omega)
    simpa using this

theorem ownR {R : Array Value} {n : Nat} {zs : List Int} (hR : R.toList = ci zs) (hs : R.size = n) (hn : n ≤ 1048576) (W : World) (g base : Nat) (hg : g = W.heap.size) (hb : base ≤ g) : OwnI 2 (W.alloc (.cells R 2)) base (some ⟨g, 0, none⟩) n n zs := by
  refine OwnI.shut (cur := R.toList) (BlkL.new W _ R hg) hb (Nat.le_refl _) (by unfold maxLen; omega) (by simpa using hs) ?_
  rw [List.take_of_length_le (by simp [hs])]
  exact hR

/-- a box and a row of the call's own, of two types -/
def KO (T T2 : TypeId) (w : World) (g : Nat) (L : List Value) (base : Nat) (A : Option Addr) (n c : Nat) (zs : List Int) : Prop := BlkL w g T L ∧ OwnI T2 w base A n c zs
theorem KO.set {T T2 : TypeId} {w : World} {g base n c : Nat} {L : List Value} {A : Option Addr} {zs : List Int} (h : KO T T2 w g L base A n c zs) (hT : T ≠ T2) (j : Nat) (u : Value) : KO T T2 (w.setCell ⟨g, j, none⟩ u) g (L.set j u) base A n c zs := by
  refine ⟨h.1.set j u, ownsRow_setCell_other h.2 (fun e => ?_) u⟩
  rcases h.2.2 with ⟨h1, h2⟩ | ⟨g', cap, cur, hv, hb, hh, _⟩
  · rw [h1] at e; cases e
  · rw [hv] at e
    simp only [Value.ownBlock, Option.some.injEq] at e
    subst e
    have hk := h.1
    unfold BlkL at hk
    rw [hk] at hh
    injection hh with hh
    injection hh with _ hh
    exact hT hh


set_option maxRecDepth 200000 in
set_option maxHeartbeats 8000000 in
theorem emptyF_any (nd kd sz du : Int) (ch : Bool) (n : Nat) (hs : (n : Int) = sz) (hn : n ≤ 1048576) (b : Bool) (hb : (kd != 0) = b) (t md rn sl mb : Int) (w : World) :
    Calls Tryz.prog 35 #[.agg #[.int .i64 nd, .int .i64 kd, .int .i64 sz, .int .i64 du, .bool ch], .agg #[.int .i64 t, .int .i64 md, .int .i64 rn, .int .i64 sl, .int .i64 mb]] w (RetF w n kd 0 (stF b t) (stF b md) (stF b rn) (stF b sl) (stF b mb) (List.replicate n 0)) := by
  obtain ⟨R, hR, hRs, hmk⟩ := make_at n sz hs hn
  have HR := Lib.hid hR
  have HRS := Lib.hid hRs
  have HB := Lib.hid hb
  obtain ⟨w0, hw0⟩ : ∃ v, v = ((w.alloc (.cells #[.int .i64 nd, .int .i64 kd, .int .i64 sz, .int .i64 du, .bool ch] 69)).alloc (.cells #[.int .i64 t, .int .i64 md, .int .i64 rn, .int .i64 sl, .int .i64 mb] 30)).alloc (.cells #[.int .i64 0, .int .i64 0, .int .i64 0, .int .i64 0, .int .i64 0, .int .i64 0, .int .i64 0, .slice none 0 0] 33) := ⟨_, rfl⟩
  have k0 : BlkL w0 w.heap.size 69 [.int .i64 nd, .int .i64 kd, .int .i64 sz, .int .i64 du, .bool ch] := by rw [hw0]; exact ((BlkL.new _ _ _ rfl).alloc _).alloc _
  have j0 : BlkL w0 (w.heap.size + 1) 30 [.int .i64 t, .int .i64 md, .int .i64 rn, .int .i64 sl, .int .i64 mb] := by rw [hw0]; exact (BlkL.new _ _ _ (by simp)).alloc _
  have q0 : BlkL w0 (w.heap.size + 1 + 1) 33 [.int .i64 0, .int .i64 0, .int .i64 0, .int .i64 0, .int .i64 0, .int .i64 0, .int .i64 0, .slice none 0 0] := by rw [hw0]; exact BlkL.new _ _ _ (by simp)
  have gb : Below w.heap.size w w0 := by rw [hw0]; go_grown
  have hsz : w0.heap.size = w.heap.size + 1 + 1 + 1 := by rw [hw0]; simp
  have HSZ := Lib.hid hsz
  clear hR hRs hb hsz
  go_enter Tryz.func35, Tryz.ntmps35
  go_upto_region 1 with fail
  rw [← hw0]
  clear hw0
  go_cut [5] (fun v wc => ∃ g A, v = .pointer (some ⟨g, 0, none⟩) ∧ w0.heap.size ≤ g ∧ BlkL wc g 33 [.int .i64 kd, .int .i64 0, .int .i64 0, .int .i64 0, .int .i64 0, .int .i64 0, .int .i64 0, .slice A n n] ∧ OwnI 2 wc w0.heap.size A n n (List.replicate n 0) ∧ Below w0.heap.size w0 wc)
  case first =>
    have c1 := fun o => (k0.alloc o).c 1 rfl
    have c2 := fun o => (k0.alloc o).c 2 rfl
    have c1' := k0.c 1 rfl
    have c2' := k0.c 2 rfl
    have hlt := k0.lt
    go_region
    all_goals
      go_wp2_with fail
      go_meet
      first
      | exact ⟨w0.heap.size + 1, some ⟨w0.heap.size, 0, none⟩, rfl, Nat.le_succ _, (BlkL.new (w0.alloc _) _ _ (by simp)).drew, ((ownR HR.out HRS.out hn _ _ _ rfl (Nat.le_refl _)).alloc _).drew, by go_grown⟩
      | exact ⟨w0.heap.size, some ⟨w0.heap.size + 1, 0, none⟩, rfl, Nat.le_refl _, ((BlkL.new w0 _ _ rfl).alloc _).drew, (ownR HR.out HRS.out hn (w0.alloc _) (w0.heap.size + 1) _ (by simp) (Nat.le_succ _)).drew, by go_grown⟩
  case rest =>
    obtain ⟨g, A, rfl, hg, K, own, hbc⟩ := hcut
    obtain ⟨w1, hw1⟩ : ∃ v, v = wc := ⟨_, rfl⟩
    rw [← hw1] at K own hbc ⊢
    clear hw1
    have k1 := k0.next hbc
    have j1 := j0.next hbc
    have q1 := q0.next hbc
    have gb1 := below_next hbc gb (Nat.le_refl _)
    have OW := Lib.hid (own.weaken gb.size)
    have s9 := HSZ.out
    have hgl : w.heap.size + 1 + 1 < g := by omega
    clear k0 j0 q0 own hbc gb HR HRS hmk HSZ s9 hg
    have c1 := k1.c 1 rfl
    cases b
    case false =>
      have ko : KO 33 2 w1 g _ _ A n n _ := ⟨K, OW.out⟩
      go_upto_region 4 with (go_at_call 72; refine (iHasSt_is HB.out _).mono ?_; rintro e w9 ⟨rfl, rfl⟩)
      have d0 := ko.1.c 0 rfl
      have d1 := ko.1.c 1 rfl
      have d2 := ko.1.c 2 rfl
      have d3 := ko.1.c 3 rfl
      have d4 := ko.1.c 4 rfl
      have d5 := ko.1.c 5 rfl
      have d6 := ko.1.c 6 rfl
      have d7 := ko.1.c 7 rfl
      have y0 := q1.free 0
      have y1 := q1.free 1
      have y2 := q1.free 2
      have y3 := q1.free 3
      have y4 := q1.free 4
      have y5 := q1.free 5
      have y6 := q1.free 6
      have y7 := q1.free 7
      have e0 := q1.c 0 rfl
      have e1 := q1.c 1 rfl
      have e2 := q1.c 2 rfl
      have e3 := q1.c 3 rfl
      have e4 := q1.c 4 rfl
      have e5 := q1.c 5 rfl
      have e6 := q1.c 6 rfl
      have e7 := q1.c 7 rfl
      go_wp2_with fail
      refine bp_forget (fun v => KO 33 2 v (w.heap.size + 1 + 1) [.int .i64 kd, .int .i64 0, .int .i64 0, .int .i64 0, .int .i64 0, .int .i64 0, .int .i64 0, .slice A n n] w.heap.size A n n (List.replicate n 0) ∧ Below w.heap.size w v) ⟨(((((((((show KO 33 2 _ _ _ _ _ _ _ _ from ⟨q1, ko.2⟩).set (by decide) 0 _).set (by decide) 1 _).set (by decide) 2 _).set (by decide) 3 _).set (by decide) 4 _).set (by decide) 5 _).set (by decide) 6 _).set (by decide) 7 _), by go_grown⟩ ?_
      rintro v9 ⟨ko9, gb9⟩
      clear d0 d1 d2 d3 d4 d5 d6 d7 y0 y1 y2 y3 y4 y5 y6 y7 e0 e1 e2 e3 e4 e5 e6 e7
      have d0 := ko9.1.c 0 rfl
      have d1 := ko9.1.c 1 rfl
      have d2 := ko9.1.c 2 rfl
      have d3 := ko9.1.c 3 rfl
      have d4 := ko9.1.c 4 rfl
      have d5 := ko9.1.c 5 rfl
      have d6 := ko9.1.c 6 rfl
      have d7 := ko9.1.c 7 rfl
      exact bodyPost_ret (v := .agg #[.int .i64 kd, .int .i64 0, .int .i64 0, .int .i64 0, .int .i64 0, .int .i64 0, .int .i64 0, .slice A n n]) (by simp [results, Tryz.results35, go_sem, d0, d1, d2, d3, d4, d5, d6, d7]) rfl ⟨A, n, rfl, ko9.2, gb9⟩

    case true =>
      have s0 := j1.c 0 rfl
      have s1 := j1.c 1 rfl
      have s2 := j1.c 2 rfl
      have s3 := j1.c 3 rfl
      have s4 := j1.c 4 rfl
      have x0 := K.c 0 rfl
      have x1 := K.c 1 rfl
      have x2 := K.c 2 rfl
      have x3 := K.c 3 rfl
      have x4 := K.c 4 rfl
      have x5 := K.c 5 rfl
      have x6 := K.c 6 rfl
      have x7 := K.c 7 rfl
      have z2 := K.free 2
      have z3 := K.free 3
      have z4 := K.free 4
      have z5 := K.free 5
      have z6 := K.free 6
      go_upto_region 4 with (go_at_call 72; refine (iHasSt_is HB.out _).mono ?_; rintro e w9 ⟨rfl, rfl⟩)
      refine wp_forget (fun v => KO 33 2 v g [.int .i64 kd, .int .i64 0, .int .i64 t, .int .i64 md, .int .i64 rn, .int .i64 sl, .int .i64 mb, .slice A n n] w.heap.size A n n (List.replicate n 0) ∧ BlkL v (w.heap.size + 1 + 1) 33 [.int .i64 0, .int .i64 0, .int .i64 0, .int .i64 0, .int .i64 0, .int .i64 0, .int .i64 0, .slice none 0 0] ∧ Below w.heap.size w v) ⟨((((((show KO 33 2 _ _ _ _ _ _ _ _ from ⟨K, OW.out⟩).set (by decide) 2 _).set (by decide) 3 _).set (by decide) 4 _).set (by decide) 5 _).set (by decide) 6 _), (((((q1.other (by show g ≠ _; omega) _).other (by show g ≠ _; omega) _).other (by show g ≠ _; omega) _).other (by show g ≠ _; omega) _).other (by show g ≠ _; omega) _), by go_grown⟩ ?_
      clear s0 s1 s2 s3 s4 x0 x1 x2 x3 x4 x5 x6 x7 z2 z3 z4 z5 z6 K OW q1 gb1
      rintro v2 ⟨ko, q2, gb2⟩
      have d0 := ko.1.c 0 rfl
      have d1 := ko.1.c 1 rfl
      have d2 := ko.1.c 2 rfl
      have d3 := ko.1.c 3 rfl
      have d4 := ko.1.c 4 rfl
      have d5 := ko.1.c 5 rfl
      have d6 := ko.1.c 6 rfl
      have d7 := ko.1.c 7 rfl
      have y0 := q2.free 0
      have y1 := q2.free 1
      have y2 := q2.free 2
      have y3 := q2.free 3
      have y4 := q2.free 4
      have y5 := q2.free 5
      have y6 := q2.free 6
      have y7 := q2.free 7
      have e0 := q2.c 0 rfl
      have e1 := q2.c 1 rfl
      have e2 := q2.c 2 rfl
      have e3 := q2.c 3 rfl
      have e4 := q2.c 4 rfl
      have e5 := q2.c 5 rfl
      have e6 := q2.c 6 rfl
      have e7 := q2.c 7 rfl
      go_wp2_with fail
      refine bp_forget (fun v => KO 33 2 v (w.heap.size + 1 + 1) [.int .i64 kd, .int .i64 0, .int .i64 t, .int .i64 md, .int .i64 rn, .int .i64 sl, .int .i64 mb, .slice A n n] w.heap.size A n n (List.replicate n 0) ∧ Below w.heap.size w v) ⟨(((((((((show KO 33 2 _ _ _ _ _ _ _ _ from ⟨q2, ko.2⟩).set (by decide) 0 _).set (by decide) 1 _).set (by decide) 2 _).set (by decide) 3 _).set (by decide) 4 _).set (by decide) 5 _).set (by decide) 6 _).set (by decide) 7 _), by go_grown⟩ ?_
      rintro v9 ⟨ko9, gb9⟩
      clear d0 d1 d2 d3 d4 d5 d6 d7 y0 y1 y2 y3 y4 y5 y6 y7 e0 e1 e2 e3 e4 e5 e6 e7
      have d0 := ko9.1.c 0 rfl
      have d1 := ko9.1.c 1 rfl
      have d2 := ko9.1.c 2 rfl
      have d3 := ko9.1.c 3 rfl
      have d4 := ko9.1.c 4 rfl
      have d5 := ko9.1.c 5 rfl
      have d6 := ko9.1.c 6 rfl
      have d7 := ko9.1.c 7 rfl
      exact bodyPost_ret (v := .agg #[.int .i64 kd, .int .i64 0, .int .i64 t, .int .i64 md, .int .i64 rn, .int .i64 sl, .int .i64 mb, .slice A n n]) (by simp [results, Tryz.results35, go_sem, d0, d1, d2, d3, d4, d5, d6, d7]) rfl ⟨A, n, rfl, ko9.2, gb9⟩

theorem l20Eqf_at (n : Nat) (v N : Int) (hN : (n : Int) = N) (w : World) (hn : n ≤ 1048576) :
    Calls Tryz.prog 43 #[.int .i64 N, .int .i64 v] w (RetI 2 w n (List.replicate n v)) := by
  subst hN
  exact l20Equal_any n v w hn

set_option maxRecDepth 200000 in
set_option maxHeartbeats 8000000 in
theorem l27F_any (m : Mdv) (M : Mdl) (t md rn sl mb fl rq : Int) (f : Nat) (w : World) (h : RD w w.heap.size m M) (hf : idxZ (atKey md rn sl) M.ss = (f : Int)) (hfl : f < m.ns) (n : Nat) (hs : (n : Int) = (ge M.ss f).sz) (hn : n ≤ 1048576) (b : Bool) (hb : ((ge M.ss f).kd != 0) = b) :
    Calls Tryz.prog 40 #[.agg #[.int .i64 m.id, .slice m.An m.nn m.cn, .slice m.Am m.nm m.cm, .slice m.As m.ns m.cs], .agg #[.int .i64 t, .int .i64 md, .int .i64 rn, .int .i64 sl, .int .i64 mb], .int .i64 fl, .int .i64 rq] w (RetF w n (ge M.ss f).kd rq (stF b t) (stF b md) (stF b rn) (stF b sl) (stF b mb) (List.replicate n fl)) := by
  have hds := fun (u : World) (hu : RD u u.heap.size m M) => sDesc_any m M t md rn sl mb f u hu hf hfl
  obtain ⟨⟨_, _, _, nd, kd, sz, du, ch⟩, hx⟩ : ∃ x : Sl, ge M.ss f = x := ⟨_, rfl⟩
  rw [hx] at hs hb hds ⊢
  have hs : (n : Int) = sz := hs
  have hb : (kd != 0) = b := hb
  have HD := Lib.hid (show ∀ u : World, RD u u.heap.size m M → Calls _ _ _ u (RetV u (.agg #[.int .i64 nd, .int .i64 kd, .int .i64 sz, .int .i64 du, .bool ch])) from hds)
  have HB := Lib.hid hb
  have HS := Lib.hid hs
  show Calls _ _ _ _ (RetF w n kd rq _ _ _ _ _ _)
  obtain ⟨w0, hw0⟩ : ∃ v, v = ((w.alloc (.cells #[.int .i64 m.id, .slice m.An m.nn m.cn, .slice m.Am m.nm m.cm, .slice m.As m.ns m.cs] 28)).alloc (.cells #[.int .i64 t, .int .i64 md, .int .i64 rn, .int .i64 sl, .int .i64 mb] 30)).alloc (.cells #[.int .i64 0, .int .i64 0, .int .i64 0, .int .i64 0, .int .i64 0, .int .i64 0, .int .i64 0, .slice none 0 0] 33) := ⟨_, rfl⟩
  have hB : BM w w.heap.size m M w0 := by rw [hw0]; exact (BM.box h).next (by go_grown)
  have j0 : BlkL w0 (w.heap.size + 1) 30 [.int .i64 t, .int .i64 md, .int .i64 rn, .int .i64 sl, .int .i64 mb] := by rw [hw0]; exact (BlkL.new _ _ _ (by simp)).alloc _
  have q0 : BlkL w0 (w.heap.size + 1 + 1) 33 [.int .i64 0, .int .i64 0, .int .i64 0, .int .i64 0, .int .i64 0, .int .i64 0, .int .i64 0, .slice none 0 0] := by rw [hw0]; exact BlkL.new _ _ _ (by simp)
  have hsz : w0.heap.size = w.heap.size + 1 + 1 + 1 := by rw [hw0]; simp
  clear hb hs hx hds
  go_enter Tryz.func40, Tryz.ntmps40
  go_wp2_with fail
  rw [← hw0]
  clear hw0
  refine (HD.out _ hB.rd).mono ?_
  rintro e w1 ⟨rfl, hb1⟩
  obtain ⟨u1, hu1⟩ : ∃ X, w1.alloc (.cells #[.int .i64 nd, .int .i64 kd, .int .i64 sz, .int .i64 du, .bool ch] 69) = X := ⟨_, rfl⟩
  have s1 := hb1.size
  have k1 : BlkL u1 w1.heap.size 69 [.int .i64 nd, .int .i64 kd, .int .i64 sz, .int .i64 du, .bool ch] := by rw [← hu1]; exact BlkL.new _ _ _ rfl
  have hbu : Below w0.heap.size w0 u1 := by rw [← hu1]; exact below_alloc hb1 (Nat.le_refl _) _
  have j1 := j0.next hbu
  have q1 := q0.next hbu
  have gb1 := below_next hbu hB.bel (Nat.le_refl _)
  have su : w1.heap.size + 1 = u1.heap.size := by rw [← hu1]; simp
  clear hb1 hbu j0 q0 hB
  go_upto_region 2 with fail
  clear hu1
  have hV : Below u1.heap.size u1 u1.drew := (Below.refl _ _).drew
  have hcells : ∀ u, Below u1.heap.size u1 u → (Below u1.heap.size u1 u ∧ u.cell? ⟨w1.heap.size, 1, none⟩ = some (.int .i64 kd) ∧ u.cell? ⟨w1.heap.size, 2, none⟩ = some (.int .i64 sz)) := fun u hu => ⟨hu, (k1.next hu).c 1 rfl, (k1.next hu).c 2 rfl⟩
  have HC := Lib.hid hcells
  clear hcells
  go_cut [10] (fun v wc => ∃ g A c, v = .pointer (some ⟨g, 0, none⟩) ∧ u1.heap.size ≤ g ∧ BlkL wc g 33 [.int .i64 kd, .int .i64 rq, .int .i64 0, .int .i64 0, .int .i64 0, .int .i64 0, .int .i64 0, .slice A n c] ∧ OwnI 2 wc u1.heap.size A n c (List.replicate n fl) ∧ Below u1.heap.size u1 wc)
  case first =>
    first
    | go_region_held_law (fun u => Below u1.heap.size u1 u ∧ u.cell? ⟨w1.heap.size, 1, none⟩ = some (.int .i64 kd) ∧ u.cell? ⟨w1.heap.size, 2, none⟩ = some (.int .i64 sz)) (first | (with_reducible exact HC.out _ hV) | (with_reducible refine HC.out _ ?_; with_reducible assumption) | (with_reducible exact HC.out _ (below_alloc hv (Nat.le_refl _) _)) | (with_reducible exact HC.out _ (below_alloc hV (Nat.le_refl _) _)) | (with_reducible refine HC.out _ ?_; go_grown)) (first
      | (go_at_call 43; (have hgv : Below u1.heap.size u1 _ := And.left (‹Below u1.heap.size u1 _ ∧ _›)); (with_reducible refine (l20Eqf_at n fl sz HS.out _ hn).mono ?_); rintro e cc ⟨A20, c20, rfl, hown, hb⟩; (have hv := below_next hb hgv (Nat.le_refl _)); (have O20 := Lib.hid (hown.weaken hgv.size)); (have SV := Lib.hid hv.size); (have HV9 := Lib.hid hv); (try ((first | (with_reducible have KX := blkB hb) | (with_reducible have KX := blkBd hb)); have KB := Lib.hid KX; (have y0 := KX.free 0; have y1 := KX.free 1; have y2 := KX.free 2; have y3 := KX.free 3; have y4 := KX.free 4; have y5 := KX.free 5; have y6 := KX.free 6; have y7 := KX.free 7; have e0 := KX.c 0 rfl; have e1 := KX.c 1 rfl; have e2 := KX.c 2 rfl; have e3 := KX.c 3 rfl; have e4 := KX.c 4 rfl; have e5 := KX.c 5 rfl; have e6 := KX.c 6 rfl; have e7 := KX.c 7 rfl); clear KX)); clear hown hgv hb))
    | fail
    all_goals
      go_wp2_with fail
      go_meet
      first
      | exact ⟨_, A20, c20, rfl, SV.out, BlkL.new _ _ _ rfl, O20.out.alloc _, below_alloc HV9.out (Nat.le_refl _) _⟩
      | (have ko := (((((((((show KO 33 2 cc _ _ u1.heap.size A20 n c20 _ from ⟨KB.out, O20.out⟩).set (by decide) 0 (.int .i64 kd)).set (by decide) 1 (.int .i64 rq)).set (by decide) 2 (.int .i64 0)).set (by decide) 3 (.int .i64 0)).set (by decide) 4 (.int .i64 0)).set (by decide) 5 (.int .i64 0)).set (by decide) 6 (.int .i64 0)).set (by decide) 7 (.slice A20 n c20))
         have hv := HV9.out
         exact ⟨_, A20, c20, rfl, Nat.le_refl _, ko.1, ko.2, by go_grown⟩)
  case rest =>
    obtain ⟨g, A, c, rfl, hg, K, own, hbc⟩ := hcut
    obtain ⟨w2, hw2⟩ : ∃ v, v = wc := ⟨_, rfl⟩
    rw [← hw2] at K own hbc ⊢
    clear hw2
    have k2 := k1.next hbc
    have j2 := j1.next hbc
    have q2 := q1.next hbc
    have gb2 := below_next hbc gb1 (Nat.le_refl _)
    have OW := Lib.hid (own.weaken gb1.size)
    have hgl : w.heap.size + 1 + 1 < g := by omega
    clear k1 j1 q1 own hbc gb1 hV HC s1 su hsz hg HS HD
    have c1 := k2.c 1 rfl
    cases b
    case false =>
      have ko : KO 33 2 w2 g _ _ A n c _ := ⟨K, OW.out⟩
      go_upto_region 5 with (go_at_call 77; refine (sHasSt_is HB.out _).mono ?_; rintro e w9 ⟨rfl, rfl⟩)
      have d0 := ko.1.c 0 rfl
      have d1 := ko.1.c 1 rfl
      have d2 := ko.1.c 2 rfl
      have d3 := ko.1.c 3 rfl
      have d4 := ko.1.c 4 rfl
      have d5 := ko.1.c 5 rfl
      have d6 := ko.1.c 6 rfl
      have d7 := ko.1.c 7 rfl
      have y0 := q2.free 0
      have y1 := q2.free 1
      have y2 := q2.free 2
      have y3 := q2.free 3
      have y4 := q2.free 4
      have y5 := q2.free 5
      have y6 := q2.free 6
      have y7 := q2.free 7
      have e0 := q2.c 0 rfl
      have e1 := q2.c 1 rfl
      have e2 := q2.c 2 rfl
      have e3 := q2.c 3 rfl
      have e4 := q2.c 4 rfl
      have e5 := q2.c 5 rfl
      have e6 := q2.c 6 rfl
      have e7 := q2.c 7 rfl
      go_wp2_with fail
      refine bp_forget (fun v => KO 33 2 v (w.heap.size + 1 + 1) [.int .i64 kd, .int .i64 rq, .int .i64 0, .int .i64 0, .int .i64 0, .int .i64 0, .int .i64 0, .slice A n c] w.heap.size A n c (List.replicate n fl) ∧ Below w.heap.size w v) ⟨(((((((((show KO 33 2 _ _ _ _ _ _ _ _ from ⟨q2, ko.2⟩).set (by decide) 0 _).set (by decide) 1 _).set (by decide) 2 _).set (by decide) 3 _).set (by decide) 4 _).set (by decide) 5 _).set (by decide) 6 _).set (by decide) 7 _), by go_grown⟩ ?_
      rintro v9 ⟨ko9, gb9⟩
      clear d0 d1 d2 d3 d4 d5 d6 d7 y0 y1 y2 y3 y4 y5 y6 y7 e0 e1 e2 e3 e4 e5 e6 e7
      have d0 := ko9.1.c 0 rfl
      have d1 := ko9.1.c 1 rfl
      have d2 := ko9.1.c 2 rfl
      have d3 := ko9.1.c 3 rfl
      have d4 := ko9.1.c 4 rfl
      have d5 := ko9.1.c 5 rfl
      have d6 := ko9.1.c 6 rfl
      have d7 := ko9.1.c 7 rfl
      exact bodyPost_ret (v := .agg #[.int .i64 kd, .int .i64 rq, .int .i64 0, .int .i64 0, .int .i64 0, .int .i64 0, .int .i64 0, .slice A n c]) (by simp [results, Tryz.results40, go_sem, d0, d1, d2, d3, d4, d5, d6, d7]) rfl ⟨A, c, rfl, ko9.2, gb9⟩

    case true =>
      have s0 := j2.c 0 rfl
      have s1 := j2.c 1 rfl
      have s2 := j2.c 2 rfl
      have s3 := j2.c 3 rfl
      have s4 := j2.c 4 rfl
      have x0 := K.c 0 rfl
      have x1 := K.c 1 rfl
      have x2 := K.c 2 rfl
      have x3 := K.c 3 rfl
      have x4 := K.c 4 rfl
      have x5 := K.c 5 rfl
      have x6 := K.c 6 rfl
      have x7 := K.c 7 rfl
      have z2 := K.free 2
      have z3 := K.free 3
      have z4 := K.free 4
      have z5 := K.free 5
      have z6 := K.free 6
      go_upto_region 5 with (go_at_call 77; refine (sHasSt_is HB.out _).mono ?_; rintro e w9 ⟨rfl, rfl⟩)
      refine wp_forget (fun v => KO 33 2 v g [.int .i64 kd, .int .i64 rq, .int .i64 t, .int .i64 md, .int .i64 rn, .int .i64 sl, .int .i64 mb, .slice A n c] w.heap.size A n c (List.replicate n fl) ∧ BlkL v (w.heap.size + 1 + 1) 33 [.int .i64 0, .int .i64 0, .int .i64 0, .int .i64 0, .int .i64 0, .int .i64 0, .int .i64 0, .slice none 0 0] ∧ Below w.heap.size w v) ⟨((((((show KO 33 2 _ _ _ _ _ _ _ _ from ⟨K, OW.out⟩).set (by decide) 2 _).set (by decide) 3 _).set (by decide) 4 _).set (by decide) 5 _).set (by decide) 6 _), (((((q2.other (by show g ≠ _; omega) _).other (by show g ≠ _; omega) _).other (by show g ≠ _; omega) _).other (by show g ≠ _; omega) _).other (by show g ≠ _; omega) _), by go_grown⟩ ?_
      clear s0 s1 s2 s3 s4 x0 x1 x2 x3 x4 x5 x6 x7 z2 z3 z4 z5 z6 K OW q2 gb2 k2 j2 c1
      rintro v2 ⟨ko, q2, gb2⟩
      have d0 := ko.1.c 0 rfl
      have d1 := ko.1.c 1 rfl
      have d2 := ko.1.c 2 rfl
      have d3 := ko.1.c 3 rfl
      have d4 := ko.1.c 4 rfl
      have d5 := ko.1.c 5 rfl
      have d6 := ko.1.c 6 rfl
      have d7 := ko.1.c 7 rfl
      have y0 := q2.free 0
      have y1 := q2.free 1
      have y2 := q2.free 2
      have y3 := q2.free 3
      have y4 := q2.free 4
      have y5 := q2.free 5
      have y6 := q2.free 6
      have y7 := q2.free 7
      have e0 := q2.c 0 rfl
      have e1 := q2.c 1 rfl
      have e2 := q2.c 2 rfl
      have e3 := q2.c 3 rfl
      have e4 := q2.c 4 rfl
      have e5 := q2.c 5 rfl
      have e6 := q2.c 6 rfl
      have e7 := q2.c 7 rfl
      go_wp2_with fail
      refine bp_forget (fun v => KO 33 2 v (w.heap.size + 1 + 1) [.int .i64 kd, .int .i64 rq, .int .i64 t, .int .i64 md, .int .i64 rn, .int .i64 sl, .int .i64 mb, .slice A n c] w.heap.size A n c (List.replicate n fl) ∧ Below w.heap.size w v) ⟨(((((((((show KO 33 2 _ _ _ _ _ _ _ _ from ⟨q2, ko.2⟩).set (by decide) 0 _).set (by decide) 1 _).set (by decide) 2 _).set (by decide) 3 _).set (by decide) 4 _).set (by decide) 5 _).set (by decide) 6 _).set (by decide) 7 _), by go_grown⟩ ?_
      rintro v9 ⟨ko9, gb9⟩
      clear d0 d1 d2 d3 d4 d5 d6 d7 y0 y1 y2 y3 y4 y5 y6 y7 e0 e1 e2 e3 e4 e5 e6 e7
      have d0 := ko9.1.c 0 rfl
      have d1 := ko9.1.c 1 rfl
      have d2 := ko9.1.c 2 rfl
      have d3 := ko9.1.c 3 rfl
      have d4 := ko9.1.c 4 rfl
      have d5 := ko9.1.c 5 rfl
      have d6 := ko9.1.c 6 rfl
      have d7 := ko9.1.c 7 rfl
      exact bodyPost_ret (v := .agg #[.int .i64 kd, .int .i64 rq, .int .i64 t, .int .i64 md, .int .i64 rn, .int .i64 sl, .int .i64 mb, .slice A n c]) (by simp [results, Tryz.results40, go_sem, d0, d1, d2, d3, d4, d5, d6, d7]) rfl ⟨A, c, rfl, ko9.2, gb9⟩
end Go.Proofs.YtbaojbheopcjhaaGreatDoor

namespace Go.Proofs.YtbaojbheopcjhaaGreatDoor
open Go.RowKit

theorem l01In_is {n lo hi : Int} {b : Bool} (h : inR n lo hi = b) (w : World) : Calls Tryz.prog 39 #[.int .i64 n, .int .i64 lo, .int .i64 hi] w fun e w' => e = .returned (.bool b) ∧ w = w' := h ▸ l01In_any n lo hi w
theorem within_is {n lo hi : Int} {b : Bool} (h : inR n lo hi = b) (w : World) : Calls Tryz.prog 32 #[.int .i64 n, .int .i64 lo, .int .i64 hi] w fun e w' => e = .returned (.bool b) ∧ w = w' := h ▸ within_any n lo hi w
/-- where a code is zero -/
def ifz (c x : Int) : Int := if c = 0 then x else 0
def frL (M : Mdl) (md rn sl fl : Int) : List Int := List.replicate (ge M.ss (findI M.ss md rn sl)).sz.toNat fl
def frB (M : Mdl) (md rn sl : Int) : Bool := (ge M.ss (findI M.ss md rn sl)).kd != 0
/-- the code of FrameFor -/
def codeFF (M : Mdl) (t md rn sl mb fl rq : Int) : Int :=
  if codeM M t md rn sl mb = 0 then (if inR fl 0 255 = true ∧ inR rq 0 7 = true then (if sendB (ge M.ss (findI M.ss md rn sl)) t md rn sl mb (ge M.ss (findI M.ss md rn sl)).kd rq (stF (frB M md rn sl) t) (stF (frB M md rn sl) md) (stF (frB M md rn sl) rn) (stF (frB M md rn sl) sl) (stF (frB M md rn sl) mb) (frL M md rn sl fl) = true then 0 else 5) else 2) else codeM M t md rn sl mb
/-- a frame of the call's own and a code are handed back -/
def RetFC (w0 : World) (k r ft fm fd fs fb : Int) (zs : List Int) (code : Int) (e : Ending) (w' : World) : Prop :=
  ∃ A n c, e = .returned (.tuple #[.agg #[.int .i64 k, .int .i64 r, .int .i64 ft, .int .i64 fm, .int .i64 fd, .int .i64 fs, .int .i64 fb, .slice A n c], .int .i64 code]) ∧ OwnI 2 w' w0.heap.size A n c zs ∧ Below w0.heap.size w0 w'
/-- what FrameFor hands back -/
def FF (M : Mdl) (t md rn sl mb fl rq : Int) (C : Int) (w : World) : Ending → World → Prop :=
  RetFC w (ifz C (ge M.ss (findI M.ss md rn sl)).kd) (ifz C rq) (ifz C (stF (frB M md rn sl) t)) (ifz C (stF (frB M md rn sl) md)) (ifz C (stF (frB M md rn sl) rn)) (ifz C (stF (frB M md rn sl) sl)) (ifz C (stF (frB M md rn sl) mb)) (if C = 0 then frL M md rn sl fl else []) C
theorem FF_zero {M : Mdl} {t md rn sl mb fl rq C : Int} {w w' : World} (hC : C ≠ 0) (hb : Below w.heap.size w w') (e : Ending) (he : e = .returned (.tuple #[.agg #[.int .i64 0, .int .i64 0, .int .i64 0, .int .i64 0, .int .i64 0, .int .i64 0, .int .i64 0, .slice none 0 0], .int .i64 C])) : FF M t md rn sl mb fl rq C w e w' := by
  unfold FF ifz
  rw [if_neg hC, if_neg hC, if_neg hC, if_neg hC, if_neg hC, if_neg hC, if_neg hC, if_neg hC]
  exact ⟨none, 0, 0, he, OwnI.nil _ _ _, hb⟩
theorem FF_ok {M : Mdl} {t md rn sl mb fl rq kd x1 x2 x3 x4 x5 : Int} {zs : List Int} {w w' : World} (h0 : (ge M.ss (findI M.ss md rn sl)).kd = kd) (h1 : stF (frB M md rn sl) t = x1) (h2 : stF (frB M md rn sl) md = x2) (h3 : stF (frB M md rn sl) rn = x3) (h4 : stF (frB M md rn sl) sl = x4) (h5 : stF (frB M md rn sl) mb = x5) (hz : frL M md rn sl fl = zs)
    (A : Option Addr) (n c : Nat) (ho : OwnI 2 w' w.heap.size A n c zs) (hb : Below w.heap.size w w') (e : Ending) (he : e = .returned (.tuple #[.agg #[.int .i64 kd, .int .i64 rq, .int .i64 x1, .int .i64 x2, .int .i64 x3, .int .i64 x4, .int .i64 x5, .slice A n c], .int .i64 0])) : FF M t md rn sl mb fl rq 0 w e w' := by
  subst h0 h1 h2 h3 h4 h5 hz
  exact ⟨A, n, c, he, ho, hb⟩


set_option maxRecDepth 200000 in
set_option maxHeartbeats 16000000 in
theorem sFrameFor_any (m : Mdv) (M : Mdl) (t md rn sl mb fl rq : Int) (w : World) (h : RD w w.heap.size m M) (hx : RX m M) :
    Calls Tryz.prog 15 #[.agg #[.int .i64 m.id, .slice m.An m.nn m.cn, .slice m.Am m.nm m.cm, .slice m.As m.ns m.cs], .agg #[.int .i64 t, .int .i64 md, .int .i64 rn, .int .i64 sl, .int .i64 mb], .int .i64 fl, .int .i64 rq] w (FF M t md rn sl mb fl rq (codeFF M t md rn sl mb fl rq) w) := by
  have hc := codeM_cases M t md rn sl mb
  have LS := h.rs.len
  obtain ⟨w0, hw0⟩ : ∃ v, v = ((w.alloc (.cells #[.int .i64 m.id, .slice m.An m.nn m.cn, .slice m.Am m.nm m.cm, .slice m.As m.ns m.cs] 28)).alloc (.cells #[.int .i64 t, .int .i64 md, .int .i64 rn, .int .i64 sl, .int .i64 mb] 30)).alloc (.cells #[.int .i64 0, .int .i64 0, .int .i64 0, .int .i64 0, .int .i64 0, .int .i64 0, .int .i64 0, .slice none 0 0] 33) := ⟨_, rfl⟩
  have hB : BM w w.heap.size m M w0 := by rw [hw0]; exact (BM.box h).next (by go_grown)
  have j0 : BlkL w0 (w.heap.size + 1) 30 [.int .i64 t, .int .i64 md, .int .i64 rn, .int .i64 sl, .int .i64 mb] := by rw [hw0]; exact (BlkL.new _ _ _ (by simp)).alloc _
  have q0 : BlkL w0 (w.heap.size + 1 + 1) 33 [.int .i64 0, .int .i64 0, .int .i64 0, .int .i64 0, .int .i64 0, .int .i64 0, .int .i64 0, .slice none 0 0] := by rw [hw0]; exact BlkL.new _ _ _ (by simp)
  obtain ⟨cd, h1⟩ : ∃ b, codeM M t md rn sl mb = b := ⟨_, rfl⟩
  rw [h1] at hc
  go_enter Tryz.func15, Tryz.ntmps15
  go_wp2_with fail
  rw [← hw0]
  clear hw0
  refine (sCode_any m M t md rn sl mb _ hB.rd hx).mono ?_
  rw [h1]
  rintro e w1 ⟨rfl, hb1⟩
  have hB1 := hB.next hb1
  have j1 := j0.next hb1
  have q1 := q0.next hb1
  have gb1 := hB1.bel
  clear hB j0 q0 hb1
  have H1 := Lib.hid h1
  clear h1
  rcases hc with rfl | rfl | ⟨rfl, hi1, hi2⟩
  · have E := Lib.hid (show codeFF M t md rn sl mb fl rq = 1 by unfold codeFF; rw [H1.out, if_neg (by decide)])
    have y0 := q1.free 0
    have y1 := q1.free 1
    have y2 := q1.free 2
    have y3 := q1.free 3
    have y4 := q1.free 4
    have y5 := q1.free 5
    have y6 := q1.free 6
    have y7 := q1.free 7
    have e0 := q1.c 0 rfl
    have e1 := q1.c 1 rfl
    have e2 := q1.c 2 rfl
    have e3 := q1.c 3 rfl
    have e4 := q1.c 4 rfl
    have e5 := q1.c 5 rfl
    have e6 := q1.c 6 rfl
    have e7 := q1.c 7 rfl
    go_wp2_with fail
    refine bp_forget (fun v => BlkL v (w.heap.size + 1 + 1) 33 [.int .i64 0, .int .i64 0, .int .i64 0, .int .i64 0, .int .i64 0, .int .i64 0, .int .i64 0, .slice none 0 0] ∧ Below w.heap.size w v) ⟨((((((((q1.set 0 _).set 1 _).set 2 _).set 3 _).set 4 _).set 5 _).set 6 _).set 7 _), by go_grown⟩ ?_
    rintro v9 ⟨ko9, gb9⟩
    clear y0 y1 y2 y3 y4 y5 y6 y7 e0 e1 e2 e3 e4 e5 e6 e7
    have d0 := ko9.c 0 rfl
    have d1 := ko9.c 1 rfl
    have d2 := ko9.c 2 rfl
    have d3 := ko9.c 3 rfl
    have d4 := ko9.c 4 rfl
    have d5 := ko9.c 5 rfl
    have d6 := ko9.c 6 rfl
    have d7 := ko9.c 7 rfl
    exact bodyPost_ret (v := .tuple #[.agg #[.int .i64 0, .int .i64 0, .int .i64 0, .int .i64 0, .int .i64 0, .int .i64 0, .int .i64 0, .slice none 0 0], .int .i64 1]) (by simp [results, Tryz.results15, go_sem, d0, d1, d2, d3, d4, d5, d6, d7]) rfl (by rw [E.out]; exact FF_zero (by decide) gb9 _ rfl)
  · have E := Lib.hid (show codeFF M t md rn sl mb fl rq = 2 by unfold codeFF; rw [H1.out, if_neg (by decide)])
    have y0 := q1.free 0
    have y1 := q1.free 1
    have y2 := q1.free 2
    have y3 := q1.free 3
    have y4 := q1.free 4
    have y5 := q1.free 5
    have y6 := q1.free 6
    have y7 := q1.free 7
    have e0 := q1.c 0 rfl
    have e1 := q1.c 1 rfl
    have e2 := q1.c 2 rfl
    have e3 := q1.c 3 rfl
    have e4 := q1.c 4 rfl
    have e5 := q1.c 5 rfl
    have e6 := q1.c 6 rfl
    have e7 := q1.c 7 rfl
    go_wp2_with fail
    refine bp_forget (fun v => BlkL v (w.heap.size + 1 + 1) 33 [.int .i64 0, .int .i64 0, .int .i64 0, .int .i64 0, .int .i64 0, .int .i64 0, .int .i64 0, .slice none 0 0] ∧ Below w.heap.size w v) ⟨((((((((q1.set 0 _).set 1 _).set 2 _).set 3 _).set 4 _).set 5 _).set 6 _).set 7 _), by go_grown⟩ ?_
    rintro v9 ⟨ko9, gb9⟩
    clear y0 y1 y2 y3 y4 y5 y6 y7 e0 e1 e2 e3 e4 e5 e6 e7
    have d0 := ko9.c 0 rfl
    have d1 := ko9.c 1 rfl
    have d2 := ko9.c 2 rfl
    have d3 := ko9.c 3 rfl
    have d4 := ko9.c 4 rfl
    have d5 := ko9.c 5 rfl
    have d6 := ko9.c 6 rfl
    have d7 := ko9.c 7 rfl
    exact bodyPost_ret (v := .tuple #[.agg #[.int .i64 0, .int .i64 0, .int .i64 0, .int .i64 0, .int .i64 0, .int .i64 0, .int .i64 0, .slice none 0 0], .int .i64 2]) (by simp [results, Tryz.results15, go_sem, d0, d1, d2, d3, d4, d5, d6, d7]) rfl (by rw [E.out]; exact FF_zero (by decide) gb9 _ rfl)
  obtain ⟨a, ha⟩ : ∃ b, inR fl 0 255 = b := ⟨_, rfl⟩
  obtain ⟨r, hr⟩ : ∃ b, inR rq 0 7 = b := ⟨_, rfl⟩
  have HA := Lib.hid ha
  have HR := Lib.hid hr
  clear ha hr
  cases a
  · have E := Lib.hid (show codeFF M t md rn sl mb fl rq = 2 by unfold codeFF; rw [if_pos H1.out, HA.out, if_neg (by simp)])
    have y0 := q1.free 0
    have y1 := q1.free 1
    have y2 := q1.free 2
    have y3 := q1.free 3
    have y4 := q1.free 4
    have y5 := q1.free 5
    have y6 := q1.free 6
    have y7 := q1.free 7
    have e0 := q1.c 0 rfl
    have e1 := q1.c 1 rfl
    have e2 := q1.c 2 rfl
    have e3 := q1.c 3 rfl
    have e4 := q1.c 4 rfl
    have e5 := q1.c 5 rfl
    have e6 := q1.c 6 rfl
    have e7 := q1.c 7 rfl
    go_wp2_with (go_at_call 39; first | ((with_reducible refine (l01In_is HA.out _).mono ?_); rintro e w9 ⟨rfl, rfl⟩) | ((with_reducible refine (l01In_is HR.out _).mono ?_); rintro e w9 ⟨rfl, rfl⟩))
    refine bp_forget (fun v => BlkL v (w.heap.size + 1 + 1) 33 [.int .i64 0, .int .i64 0, .int .i64 0, .int .i64 0, .int .i64 0, .int .i64 0, .int .i64 0, .slice none 0 0] ∧ Below w.heap.size w v) ⟨((((((((q1.set 0 _).set 1 _).set 2 _).set 3 _).set 4 _).set 5 _).set 6 _).set 7 _), by go_grown⟩ ?_
    rintro v9 ⟨ko9, gb9⟩
    clear y0 y1 y2 y3 y4 y5 y6 y7 e0 e1 e2 e3 e4 e5 e6 e7
    have d0 := ko9.c 0 rfl
    have d1 := ko9.c 1 rfl
    have d2 := ko9.c 2 rfl
    have d3 := ko9.c 3 rfl
    have d4 := ko9.c 4 rfl
    have d5 := ko9.c 5 rfl
    have d6 := ko9.c 6 rfl
    have d7 := ko9.c 7 rfl
    exact bodyPost_ret (v := .tuple #[.agg #[.int .i64 0, .int .i64 0, .int .i64 0, .int .i64 0, .int .i64 0, .int .i64 0, .int .i64 0, .slice none 0 0], .int .i64 2]) (by simp [results, Tryz.results15, go_sem, d0, d1, d2, d3, d4, d5, d6, d7]) rfl (by rw [E.out]; exact FF_zero (by decide) gb9 _ rfl)
  cases r
  · have E := Lib.hid (show codeFF M t md rn sl mb fl rq = 2 by unfold codeFF; rw [if_pos H1.out, HR.out, if_neg (by simp)])
    have y0 := q1.free 0
    have y1 := q1.free 1
    have y2 := q1.free 2
    have y3 := q1.free 3
    have y4 := q1.free 4
    have y5 := q1.free 5
    have y6 := q1.free 6
    have y7 := q1.free 7
    have e0 := q1.c 0 rfl
    have e1 := q1.c 1 rfl
    have e2 := q1.c 2 rfl
    have e3 := q1.c 3 rfl
    have e4 := q1.c 4 rfl
    have e5 := q1.c 5 rfl
    have e6 := q1.c 6 rfl
    have e7 := q1.c 7 rfl
    go_wp2_with (go_at_call 39; first | ((with_reducible refine (l01In_is HA.out _).mono ?_); rintro e w9 ⟨rfl, rfl⟩) | ((with_reducible refine (l01In_is HR.out _).mono ?_); rintro e w9 ⟨rfl, rfl⟩))
    refine bp_forget (fun v => BlkL v (w.heap.size + 1 + 1) 33 [.int .i64 0, .int .i64 0, .int .i64 0, .int .i64 0, .int .i64 0, .int .i64 0, .int .i64 0, .slice none 0 0] ∧ Below w.heap.size w v) ⟨((((((((q1.set 0 _).set 1 _).set 2 _).set 3 _).set 4 _).set 5 _).set 6 _).set 7 _), by go_grown⟩ ?_
    rintro v9 ⟨ko9, gb9⟩
    clear y0 y1 y2 y3 y4 y5 y6 y7 e0 e1 e2 e3 e4 e5 e6 e7
    have d0 := ko9.c 0 rfl
    have d1 := ko9.c 1 rfl
    have d2 := ko9.c 2 rfl
    have d3 := ko9.c 3 rfl
    have d4 := ko9.c 4 rfl
    have d5 := ko9.c 5 rfl
    have d6 := ko9.c 6 rfl
    have d7 := ko9.c 7 rfl
    exact bodyPost_ret (v := .tuple #[.agg #[.int .i64 0, .int .i64 0, .int .i64 0, .int .i64 0, .int .i64 0, .int .i64 0, .int .i64 0, .slice none 0 0], .int .i64 2]) (by simp [results, Tryz.results15, go_sem, d0, d1, d2, d3, d4, d5, d6, d7]) rfl (by rw [E.out]; exact FF_zero (by decide) gb9 _ rfl)
  have c0 := hB1.k.c 0 rfl
  have c1 := hB1.k.c 1 rfl
  have c2 := hB1.k.c 2 rfl
  have c3 := hB1.k.c 3 rfl
  have s0 := j1.c 0 rfl
  have s1 := j1.c 1 rfl
  have s2 := j1.c 2 rfl
  have s3 := j1.c 3 rfl
  have s4 := j1.c 4 rfl
  have hfl := bel_find hi1 hi2
  have hfi := find_idx hfl
  have hbd := isSl_bd (isST_sl (isMedl_nt hi1).2.2.1 hfl)
  have hns := hB1.rd.rs.len
  have HF := fun (u : World) (hu : RD u u.heap.size m M) => l27F_any m M t md rn sl mb fl rq (findI M.ss md rn sl) u hu hfi (by rw [← LS]; exact hfl) (ge M.ss (findI M.ss md rn sl)).sz.toNat (by omega) (by omega) (frB M md rn sl) rfl
  have HSN := fun (u : World) (k r ft fm fd fs fb : Int) (A : Option Addr) (n c : Nat) (zs : List Int) (hu : RD u u.heap.size m M) (hz : RI u u.heap.size A n zs) (hn : n ≤ 1099511627776) => sSend_any m M t md rn sl mb k r ft fm fd fs fb A n c zs (findI M.ss md rn sl) u hu hz hn hfi (by rw [← LS]; exact hfl)
  have E2 := Lib.hid (show codeFF M t md rn sl mb fl rq = (if sendB (ge M.ss (findI M.ss md rn sl)) t md rn sl mb (ge M.ss (findI M.ss md rn sl)).kd rq (stF (frB M md rn sl) t) (stF (frB M md rn sl) md) (stF (frB M md rn sl) rn) (stF (frB M md rn sl) sl) (stF (frB M md rn sl) mb) (frL M md rn sl fl) = true then 0 else 5) by unfold codeFF; rw [if_pos H1.out, if_pos ⟨HA.out, HR.out⟩])
  obtain ⟨kd, hkd⟩ : ∃ x, (ge M.ss (findI M.ss md rn sl)).kd = x := ⟨_, rfl⟩
  obtain ⟨x1, hx1⟩ : ∃ x, stF (frB M md rn sl) t = x := ⟨_, rfl⟩
  obtain ⟨x2, hx2⟩ : ∃ x, stF (frB M md rn sl) md = x := ⟨_, rfl⟩
  obtain ⟨x3, hx3⟩ : ∃ x, stF (frB M md rn sl) rn = x := ⟨_, rfl⟩
  obtain ⟨x4, hx4⟩ : ∃ x, stF (frB M md rn sl) sl = x := ⟨_, rfl⟩
  obtain ⟨x5, hx5⟩ : ∃ x, stF (frB M md rn sl) mb = x := ⟨_, rfl⟩
  obtain ⟨zs, hzs⟩ : ∃ x, frL M md rn sl fl = x := ⟨_, rfl⟩
  have E2' := E2.out
  rw [hkd, hx1, hx2, hx3, hx4, hx5, hzs] at E2'
  obtain ⟨sb, hsb⟩ : ∃ b, sendB (ge M.ss (findI M.ss md rn sl)) t md rn sl mb kd rq x1 x2 x3 x4 x5 zs = b := ⟨_, rfl⟩
  rw [hsb] at E2'
  have E3 := Lib.hid E2'
  have HS9 := fun u A n c hu hz hn => HSN u kd rq x1 x2 x3 x4 x5 A n c zs hu hz hn
  rw [hsb] at HS9
  have P0 := Lib.hid hkd
  have P1 := Lib.hid hx1
  have P2 := Lib.hid hx2
  have P3 := Lib.hid hx3
  have P4 := Lib.hid hx4
  have P5 := Lib.hid hx5
  have P6 := Lib.hid hzs
  clear E2 E2'
  obtain ⟨N, hN⟩ : ∃ x, (ge M.ss (findI M.ss md rn sl)).sz.toNat = x := ⟨_, rfl⟩
  have hNb : N ≤ 32 := by omega
  change ∀ u, _ → Calls _ _ _ u (RetF u _ _ _ _ _ _ _ _ (frL M md rn sl fl)) at HF
  rw [hkd, hx1, hx2, hx3, hx4, hx5, hzs, hN] at HF
  have HFH := Lib.hid HF
  have HSH := Lib.hid HS9
  clear HF HS9 HSN hi1 hi2 hfl hfi hbd hns hN hsb c0 c1 c2 c3 s0 s1 s2 s3 s4
  have c0 := hB1.k.c 0 rfl
  have c1 := hB1.k.c 1 rfl
  have c2 := hB1.k.c 2 rfl
  have c3 := hB1.k.c 3 rfl
  have s0 := j1.c 0 rfl
  have s1 := j1.c 1 rfl
  have s2 := j1.c 2 rfl
  have s3 := j1.c 3 rfl
  have s4 := j1.c 4 rfl
  cases sb
  all_goals
    go_wp2_with (go_at_call 39; first | ((with_reducible refine (l01In_is HA.out _).mono ?_); rintro e w9 ⟨rfl, rfl⟩) | ((with_reducible refine (l01In_is HR.out _).mono ?_); rintro e w9 ⟨rfl, rfl⟩))
    refine (HFH.out _ hB1.rd).mono ?_
    rintro e w2 ⟨A, c, rfl, own, hb2⟩
    obtain ⟨u2, hu2⟩ : ∃ X, w2.alloc (.cells #[.int .i64 kd, .int .i64 rq, .int .i64 x1, .int .i64 x2, .int .i64 x3, .int .i64 x4, .int .i64 x5, .slice A N c] 33) = X := ⟨_, rfl⟩
    have K2 : BlkL u2 w2.heap.size 33 [.int .i64 kd, .int .i64 rq, .int .i64 x1, .int .i64 x2, .int .i64 x3, .int .i64 x4, .int .i64 x5, .slice A N c] := by rw [← hu2]; exact BlkL.new _ _ _ rfl
    have hbu : Below w1.heap.size w1 u2 := by rw [← hu2]; exact below_alloc hb2 (Nat.le_refl _) _
    have hB2 := hB1.next hbu
    have j2 := j1.next hbu
    have q2 := q1.next hbu
    have O2 := Lib.hid (show OwnI 2 u2 w.heap.size A N c zs by rw [← hu2]; exact (own.weaken gb1.size).alloc _)
    have gb2 := hB2.bel
    clear hB1 j1 q1 own hb2 hbu gb1 c0 c1 c2 c3 s0 s1 s2 s3 s4
    have c0 := hB2.k.c 0 rfl
    have c1 := hB2.k.c 1 rfl
    have c2 := hB2.k.c 2 rfl
    have c3 := hB2.k.c 3 rfl
    have s0 := j2.c 0 rfl
    have s1 := j2.c 1 rfl
    have s2 := j2.c 2 rfl
    have s3 := j2.c 3 rfl
    have s4 := j2.c 4 rfl
    have f0 := K2.c 0 rfl
    have f1 := K2.c 1 rfl
    have f2 := K2.c 2 rfl
    have f3 := K2.c 3 rfl
    have f4 := K2.c 4 rfl
    have f5 := K2.c 5 rfl
    have f6 := K2.c 6 rfl
    have f7 := K2.c 7 rfl
    go_wp2_with fail
    refine (HSH.out _ A N c hB2.rd O2.out.reads (by omega)).mono ?_
    rintro e w3 ⟨rfl, hb3⟩
    have q3 := q2.next hb3
    have K3 := K2.next hb3
    have O3 := Lib.hid (O2.out.below hb3)
    have gb3 := below_next hb3 gb2 (Nat.le_refl _)
    clear hB2 j2 q2 K2 O2 gb2 hb3 c0 c1 c2 c3 s0 s1 s2 s3 s4 f0 f1 f2 f3 f4 f5 f6 f7 hu2
  · have E := Lib.hid (show codeFF M t md rn sl mb fl rq = 5 from E3.out.trans (by simp))
    have y0 := q3.free 0
    have y1 := q3.free 1
    have y2 := q3.free 2
    have y3 := q3.free 3
    have y4 := q3.free 4
    have y5 := q3.free 5
    have y6 := q3.free 6
    have y7 := q3.free 7
    have e0 := q3.c 0 rfl
    have e1 := q3.c 1 rfl
    have e2 := q3.c 2 rfl
    have e3 := q3.c 3 rfl
    have e4 := q3.c 4 rfl
    have e5 := q3.c 5 rfl
    have e6 := q3.c 6 rfl
    have e7 := q3.c 7 rfl
    go_wp2_with fail
    refine bp_forget (fun v => BlkL v (w.heap.size + 1 + 1) 33 [.int .i64 0, .int .i64 0, .int .i64 0, .int .i64 0, .int .i64 0, .int .i64 0, .int .i64 0, .slice none 0 0] ∧ Below w.heap.size w v) ⟨((((((((q3.set 0 _).set 1 _).set 2 _).set 3 _).set 4 _).set 5 _).set 6 _).set 7 _), by go_grown⟩ ?_
    rintro v9 ⟨ko9, gb9⟩
    clear y0 y1 y2 y3 y4 y5 y6 y7 e0 e1 e2 e3 e4 e5 e6 e7
    have d0 := ko9.c 0 rfl
    have d1 := ko9.c 1 rfl
    have d2 := ko9.c 2 rfl
    have d3 := ko9.c 3 rfl
    have d4 := ko9.c 4 rfl
    have d5 := ko9.c 5 rfl
    have d6 := ko9.c 6 rfl
    have d7 := ko9.c 7 rfl
    exact bodyPost_ret (v := .tuple #[.agg #[.int .i64 0, .int .i64 0, .int .i64 0, .int .i64 0, .int .i64 0, .int .i64 0, .int .i64 0, .slice none 0 0], .int .i64 5]) (by simp [results, Tryz.results15, go_sem, d0, d1, d2, d3, d4, d5, d6, d7]) rfl (by rw [E.out]; exact FF_zero (by decide) gb9 _ rfl)
  · have E := Lib.hid (show codeFF M t md rn sl mb fl rq = 0 from E3.out.trans (by simp))
    have ko : KO 33 2 w3 _ _ _ A N c _ := ⟨K3, O3.out⟩
    have d0 := K3.c 0 rfl
    have d1 := K3.c 1 rfl
    have d2 := K3.c 2 rfl
    have d3 := K3.c 3 rfl
    have d4 := K3.c 4 rfl
    have d5 := K3.c 5 rfl
    have d6 := K3.c 6 rfl
    have d7 := K3.c 7 rfl
    have y0 := q3.free 0
    have y1 := q3.free 1
    have y2 := q3.free 2
    have y3 := q3.free 3
    have y4 := q3.free 4
    have y5 := q3.free 5
    have y6 := q3.free 6
    have y7 := q3.free 7
    have e0 := q3.c 0 rfl
    have e1 := q3.c 1 rfl
    have e2 := q3.c 2 rfl
    have e3 := q3.c 3 rfl
    have e4 := q3.c 4 rfl
    have e5 := q3.c 5 rfl
    have e6 := q3.c 6 rfl
    have e7 := q3.c 7 rfl
    go_wp2_with fail
    refine bp_forget (fun v => KO 33 2 v (w.heap.size + 1 + 1) [.int .i64 kd, .int .i64 rq, .int .i64 x1, .int .i64 x2, .int .i64 x3, .int .i64 x4, .int .i64 x5, .slice A N c] w.heap.size A N c zs ∧ Below w.heap.size w v) ⟨(((((((((show KO 33 2 _ _ _ _ _ _ _ _ from ⟨q3, O3.out⟩).set (by decide) 0 _).set (by decide) 1 _).set (by decide) 2 _).set (by decide) 3 _).set (by decide) 4 _).set (by decide) 5 _).set (by decide) 6 _).set (by decide) 7 _), by go_grown⟩ ?_
    rintro v9 ⟨ko9, gb9⟩
    clear d0 d1 d2 d3 d4 d5 d6 d7 y0 y1 y2 y3 y4 y5 y6 y7 e0 e1 e2 e3 e4 e5 e6 e7
    have d0 := ko9.1.c 0 rfl
    have d1 := ko9.1.c 1 rfl
    have d2 := ko9.1.c 2 rfl
    have d3 := ko9.1.c 3 rfl
    have d4 := ko9.1.c 4 rfl
    have d5 := ko9.1.c 5 rfl
    have d6 := ko9.1.c 6 rfl
    have d7 := ko9.1.c 7 rfl
    exact bodyPost_ret (v := .tuple #[.agg #[.int .i64 kd, .int .i64 rq, .int .i64 x1, .int .i64 x2, .int .i64 x3, .int .i64 x4, .int .i64 x5, .slice A N c], .int .i64 0]) (by simp [results, Tryz.results15, go_sem, d0, d1, d2, d3, d4, d5, d6, d7]) rfl (by rw [E.out]; exact FF_ok P0.out P1.out P2.out P3.out P4.out P5.out P6.out A N c ko9.2 gb9 _ rfl)
end Go.Proofs.YtbaojbheopcjhaaGreatDoor

namespace Go.Proofs.YtbaojbheopcjhaaGreatDoor
open Go.RowKit

theorem rep_set (N k : Nat) (fl : Int) (h : k < N) : (List.replicate k fl ++ List.replicate (N - k) 0).set k fl = List.replicate (k + 1) fl ++ List.replicate (N - (k + 1)) 0 := by
  rw [List.set_append_right _ _ (by simp), List.length_replicate, Nat.sub_self, show N - k = (N - (k + 1)) + 1 from by omega, List.replicate_succ, List.set_cons_zero, List.replicate_succ', List.append_assoc]
  rfl
theorem KO.row {T T2 : TypeId} {w : World} {g base n c g2 : Nat} {L : List Value} {zs : List Int} (h : KO T T2 w g L base (some ⟨g2, 0, none⟩) n c zs) (hT : T ≠ T2) (j : Nat) (z : Int) : KO T T2 (w.setCell ⟨g2, j, none⟩ (.int .i64 z)) g L base (some ⟨g2, 0, none⟩) n c (zs.set j z) := by
  have st := h.2.stored j z
  refine ⟨(st.2.block g h.1.lt (fun e => ?_)).trans h.1, st.1⟩
  simp only [Option.some.injEq] at e
  subst e
  rcases h.2.2 with ⟨h1, h2⟩ | ⟨g', cap, cur, hv, hb, hh, _⟩
  · cases h1
  · simp only [Value.slice.injEq, Option.some.injEq, Addr.mk.injEq] at hv
    obtain ⟨⟨rfl, _⟩, _⟩ := hv
    have hk := h.1
    unfold BlkL at hk
    rw [hk] at hh
    injection hh with hh
    injection hh with _ hh
    exact hT hh

set_option maxRecDepth 200000 in
set_option maxHeartbeats 16000000 in
theorem iFrameFor_any (m : Mdv) (M : Mdl) (t md rn sl mb fl rq : Int) (w : World) (h : RD w w.heap.size m M) (hx : RX m M) :
    Calls Tryz.prog 14 #[.agg #[.int .i64 m.id, .slice m.An m.nn m.cn, .slice m.Am m.nm m.cm, .slice m.As m.ns m.cs], .agg #[.int .i64 t, .int .i64 md, .int .i64 rn, .int .i64 sl, .int .i64 mb], .int .i64 fl, .int .i64 rq] w (FF M t md rn sl mb fl rq (codeFF M t md rn sl mb fl rq) w) := by
  have hc := codeM_cases M t md rn sl mb
  have LS := h.rs.len
  obtain ⟨w0, hw0⟩ : ∃ v, v = ((w.alloc (.cells #[.int .i64 m.id, .slice m.An m.nn m.cn, .slice m.Am m.nm m.cm, .slice m.As m.ns m.cs] 28)).alloc (.cells #[.int .i64 t, .int .i64 md, .int .i64 rn, .int .i64 sl, .int .i64 mb] 30)).alloc (.cells #[.int .i64 0, .int .i64 0, .int .i64 0, .int .i64 0, .int .i64 0, .int .i64 0, .int .i64 0, .slice none 0 0] 33) := ⟨_, rfl⟩
  have hB : BM w w.heap.size m M w0 := by rw [hw0]; exact (BM.box h).next (by go_grown)
  have j0 : BlkL w0 (w.heap.size + 1) 30 [.int .i64 t, .int .i64 md, .int .i64 rn, .int .i64 sl, .int .i64 mb] := by rw [hw0]; exact (BlkL.new _ _ _ (by simp)).alloc _
  have q0 : BlkL w0 (w.heap.size + 1 + 1) 33 [.int .i64 0, .int .i64 0, .int .i64 0, .int .i64 0, .int .i64 0, .int .i64 0, .int .i64 0, .slice none 0 0] := by rw [hw0]; exact BlkL.new _ _ _ (by simp)
  obtain ⟨cd, h1⟩ : ∃ b, codeM M t md rn sl mb = b := ⟨_, rfl⟩
  rw [h1] at hc
  go_enter Tryz.func14, Tryz.ntmps14
  go_wp2_with fail
  rw [← hw0]
  clear hw0
  refine (iCode_any m M t md rn sl mb _ hB.rd hx).mono ?_
  rw [h1]
  rintro e w1 ⟨rfl, hb1⟩
  have hB1 := hB.next hb1
  have j1 := j0.next hb1
  have q1 := q0.next hb1
  have gb1 := hB1.bel
  clear hB j0 q0 hb1
  have H1 := Lib.hid h1
  clear h1
  rcases hc with rfl | rfl | ⟨rfl, hi1, hi2⟩
  · have E := Lib.hid (show codeFF M t md rn sl mb fl rq = 1 by unfold codeFF; rw [H1.out, if_neg (by decide)])
    have y0 := q1.free 0
    have y1 := q1.free 1
    have y2 := q1.free 2
    have y3 := q1.free 3
    have y4 := q1.free 4
    have y5 := q1.free 5
    have y6 := q1.free 6
    have y7 := q1.free 7
    have e0 := q1.c 0 rfl
    have e1 := q1.c 1 rfl
    have e2 := q1.c 2 rfl
    have e3 := q1.c 3 rfl
    have e4 := q1.c 4 rfl
    have e5 := q1.c 5 rfl
    have e6 := q1.c 6 rfl
    have e7 := q1.c 7 rfl
    go_wp2_with fail
    refine bp_forget (fun v => BlkL v (w.heap.size + 1 + 1) 33 [.int .i64 0, .int .i64 0, .int .i64 0, .int .i64 0, .int .i64 0, .int .i64 0, .int .i64 0, .slice none 0 0] ∧ Below w.heap.size w v) ⟨((((((((q1.set 0 _).set 1 _).set 2 _).set 3 _).set 4 _).set 5 _).set 6 _).set 7 _), by go_grown⟩ ?_
    rintro v9 ⟨ko9, gb9⟩
    clear y0 y1 y2 y3 y4 y5 y6 y7 e0 e1 e2 e3 e4 e5 e6 e7
    have d0 := ko9.c 0 rfl
    have d1 := ko9.c 1 rfl
    have d2 := ko9.c 2 rfl
    have d3 := ko9.c 3 rfl
    have d4 := ko9.c 4 rfl
    have d5 := ko9.c 5 rfl
    have d6 := ko9.c 6 rfl
    have d7 := ko9.c 7 rfl
    exact bodyPost_ret (v := .tuple #[.agg #[.int .i64 0, .int .i64 0, .int .i64 0, .int .i64 0, .int .i64 0, .int .i64 0, .int .i64 0, .slice none 0 0], .int .i64 1]) (by simp [results, Tryz.results14, go_sem, d0, d1, d2, d3, d4, d5, d6, d7]) rfl (by rw [E.out]; exact FF_zero (by decide) gb9 _ rfl)
  · have E := Lib.hid (show codeFF M t md rn sl mb fl rq = 2 by unfold codeFF; rw [H1.out, if_neg (by decide)])
    have y0 := q1.free 0
    have y1 := q1.free 1
    have y2 := q1.free 2
    have y3 := q1.free 3
    have y4 := q1.free 4
    have y5 := q1.free 5
    have y6 := q1.free 6
    have y7 := q1.free 7
    have e0 := q1.c 0 rfl
    have e1 := q1.c 1 rfl
    have e2 := q1.c 2 rfl
    have e3 := q1.c 3 rfl
    have e4 := q1.c 4 rfl
    have e5 := q1.c 5 rfl
    have e6 := q1.c 6 rfl
    have e7 := q1.c 7 rfl
    go_wp2_with fail
    refine bp_forget (fun v => BlkL v (w.heap.size + 1 + 1) 33 [.int .i64 0, .int .i64 0, .int .i64 0, .int .i64 0, .int .i64 0, .int .i64 0, .int .i64 0, .slice none 0 0] ∧ Below w.heap.size w v) ⟨((((((((q1.set 0 _).set 1 _).set 2 _).set 3 _).set 4 _).set 5 _).set 6 _).set 7 _), by go_grown⟩ ?_
    rintro v9 ⟨ko9, gb9⟩
    clear y0 y1 y2 y3 y4 y5 y6 y7 e0 e1 e2 e3 e4 e5 e6 e7
    have d0 := ko9.c 0 rfl
    have d1 := ko9.c 1 rfl
    have d2 := ko9.c 2 rfl
    have d3 := ko9.c 3 rfl
    have d4 := ko9.c 4 rfl
    have d5 := ko9.c 5 rfl
    have d6 := ko9.c 6 rfl
    have d7 := ko9.c 7 rfl
    exact bodyPost_ret (v := .tuple #[.agg #[.int .i64 0, .int .i64 0, .int .i64 0, .int .i64 0, .int .i64 0, .int .i64 0, .int .i64 0, .slice none 0 0], .int .i64 2]) (by simp [results, Tryz.results14, go_sem, d0, d1, d2, d3, d4, d5, d6, d7]) rfl (by rw [E.out]; exact FF_zero (by decide) gb9 _ rfl)
  obtain ⟨a, ha⟩ : ∃ b, inR fl 0 255 = b := ⟨_, rfl⟩
  obtain ⟨r, hr⟩ : ∃ b, inR rq 0 7 = b := ⟨_, rfl⟩
  have HA := Lib.hid ha
  have HR := Lib.hid hr
  clear ha hr
  cases a
  · have E := Lib.hid (show codeFF M t md rn sl mb fl rq = 2 by unfold codeFF; rw [if_pos H1.out, HA.out, if_neg (by simp)])
    have y0 := q1.free 0
    have y1 := q1.free 1
    have y2 := q1.free 2
    have y3 := q1.free 3
    have y4 := q1.free 4
    have y5 := q1.free 5
    have y6 := q1.free 6
    have y7 := q1.free 7
    have e0 := q1.c 0 rfl
    have e1 := q1.c 1 rfl
    have e2 := q1.c 2 rfl
    have e3 := q1.c 3 rfl
    have e4 := q1.c 4 rfl
    have e5 := q1.c 5 rfl
    have e6 := q1.c 6 rfl
    have e7 := q1.c 7 rfl
    go_wp2_with (go_at_call 32; first | ((with_reducible refine (within_is HA.out _).mono ?_); rintro e w9 ⟨rfl, rfl⟩) | ((with_reducible refine (within_is HR.out _).mono ?_); rintro e w9 ⟨rfl, rfl⟩))
    refine bp_forget (fun v => BlkL v (w.heap.size + 1 + 1) 33 [.int .i64 0, .int .i64 0, .int .i64 0, .int .i64 0, .int .i64 0, .int .i64 0, .int .i64 0, .slice none 0 0] ∧ Below w.heap.size w v) ⟨((((((((q1.set 0 _).set 1 _).set 2 _).set 3 _).set 4 _).set 5 _).set 6 _).set 7 _), by go_grown⟩ ?_
    rintro v9 ⟨ko9, gb9⟩
    clear y0 y1 y2 y3 y4 y5 y6 y7 e0 e1 e2 e3 e4 e5 e6 e7
    have d0 := ko9.c 0 rfl
    have d1 := ko9.c 1 rfl
    have d2 := ko9.c 2 rfl
    have d3 := ko9.c 3 rfl
    have d4 := ko9.c 4 rfl
    have d5 := ko9.c 5 rfl
    have d6 := ko9.c 6 rfl
    have d7 := ko9.c 7 rfl
    exact bodyPost_ret (v := .tuple #[.agg #[.int .i64 0, .int .i64 0, .int .i64 0, .int .i64 0, .int .i64 0, .int .i64 0, .int .i64 0, .slice none 0 0], .int .i64 2]) (by simp [results, Tryz.results14, go_sem, d0, d1, d2, d3, d4, d5, d6, d7]) rfl (by rw [E.out]; exact FF_zero (by decide) gb9 _ rfl)
  cases r
  · have E := Lib.hid (show codeFF M t md rn sl mb fl rq = 2 by unfold codeFF; rw [if_pos H1.out, HR.out, if_neg (by simp)])
    have y0 := q1.free 0
    have y1 := q1.free 1
    have y2 := q1.free 2
    have y3 := q1.free 3
    have y4 := q1.free 4
    have y5 := q1.free 5
    have y6 := q1.free 6
    have y7 := q1.free 7
    have e0 := q1.c 0 rfl
    have e1 := q1.c 1 rfl
    have e2 := q1.c 2 rfl
    have e3 := q1.c 3 rfl
    have e4 := q1.c 4 rfl
    have e5 := q1.c 5 rfl
    have e6 := q1.c 6 rfl
    have e7 := q1.c 7 rfl
    go_wp2_with (go_at_call 32; first | ((with_reducible refine (within_is HA.out _).mono ?_); rintro e w9 ⟨rfl, rfl⟩) | ((with_reducible refine (within_is HR.out _).mono ?_); rintro e w9 ⟨rfl, rfl⟩))
    refine bp_forget (fun v => BlkL v (w.heap.size + 1 + 1) 33 [.int .i64 0, .int .i64 0, .int .i64 0, .int .i64 0, .int .i64 0, .int .i64 0, .int .i64 0, .slice none 0 0] ∧ Below w.heap.size w v) ⟨((((((((q1.set 0 _).set 1 _).set 2 _).set 3 _).set 4 _).set 5 _).set 6 _).set 7 _), by go_grown⟩ ?_
    rintro v9 ⟨ko9, gb9⟩
    clear y0 y1 y2 y3 y4 y5 y6 y7 e0 e1 e2 e3 e4 e5 e6 e7
    have d0 := ko9.c 0 rfl
    have d1 := ko9.c 1 rfl
    have d2 := ko9.c 2 rfl
    have d3 := ko9.c 3 rfl
    have d4 := ko9.c 4 rfl
    have d5 := ko9.c 5 rfl
    have d6 := ko9.c 6 rfl
    have d7 := ko9.c 7 rfl
    exact bodyPost_ret (v := .tuple #[.agg #[.int .i64 0, .int .i64 0, .int .i64 0, .int .i64 0, .int .i64 0, .int .i64 0, .int .i64 0, .slice none 0 0], .int .i64 2]) (by simp [results, Tryz.results14, go_sem, d0, d1, d2, d3, d4, d5, d6, d7]) rfl (by rw [E.out]; exact FF_zero (by decide) gb9 _ rfl)
  have hfl := bel_find hi1 hi2
  have hfi := find_idx hfl
  have hbd := isSl_bd (isST_sl (isMedl_nt hi1).2.2.1 hfl)
  have HSN := fun (u : World) (k r ft fm fd fs fb : Int) (A : Option Addr) (n c : Nat) (zs : List Int) (hu : RD u u.heap.size m M) (hz : RI u u.heap.size A n zs) (hn : n ≤ 1099511627776) => iSend_any m M t md rn sl mb k r ft fm fd fs fb A n c zs (findI M.ss md rn sl) u hu hz hn hfi (by rw [← LS]; exact hfl)
  have HDS := fun (u : World) (hu : RD u u.heap.size m M) => iDesc_any m M t md rn sl mb (findI M.ss md rn sl) u hu hfi (by rw [← LS]; exact hfl)
  have hLN : frL M md rn sl fl = List.replicate (ge M.ss (findI M.ss md rn sl)).sz.toNat fl := rfl
  have hEB : ((ge M.ss (findI M.ss md rn sl)).kd != 0) = frB M md rn sl := rfl
  have E2 := Lib.hid (show codeFF M t md rn sl mb fl rq = (if sendB (ge M.ss (findI M.ss md rn sl)) t md rn sl mb (ge M.ss (findI M.ss md rn sl)).kd rq (stF (frB M md rn sl) t) (stF (frB M md rn sl) md) (stF (frB M md rn sl) rn) (stF (frB M md rn sl) sl) (stF (frB M md rn sl) mb) (frL M md rn sl fl) = true then 0 else 5) by unfold codeFF; rw [if_pos H1.out, if_pos ⟨HA.out, HR.out⟩])
  obtain ⟨kd, hkd⟩ : ∃ x, (ge M.ss (findI M.ss md rn sl)).kd = x := ⟨_, rfl⟩
  obtain ⟨x1, hx1⟩ : ∃ x, stF (frB M md rn sl) t = x := ⟨_, rfl⟩
  obtain ⟨x2, hx2⟩ : ∃ x, stF (frB M md rn sl) md = x := ⟨_, rfl⟩
  obtain ⟨x3, hx3⟩ : ∃ x, stF (frB M md rn sl) rn = x := ⟨_, rfl⟩
  obtain ⟨x4, hx4⟩ : ∃ x, stF (frB M md rn sl) sl = x := ⟨_, rfl⟩
  obtain ⟨x5, hx5⟩ : ∃ x, stF (frB M md rn sl) mb = x := ⟨_, rfl⟩
  obtain ⟨zs, hzs⟩ : ∃ x, frL M md rn sl fl = x := ⟨_, rfl⟩
  have E2' := E2.out
  rw [hkd, hx1, hx2, hx3, hx4, hx5, hzs] at E2'
  obtain ⟨sb, hsb⟩ : ∃ b, sendB (ge M.ss (findI M.ss md rn sl)) t md rn sl mb kd rq x1 x2 x3 x4 x5 zs = b := ⟨_, rfl⟩
  rw [hsb] at E2'
  have E3 := Lib.hid E2'
  have HS9 := fun u A n c hu hz hn => HSN u kd rq x1 x2 x3 x4 x5 A n c zs hu hz hn
  rw [hsb] at HS9
  have P0 := Lib.hid hkd
  have P1 := Lib.hid hx1
  have P2 := Lib.hid hx2
  have P3 := Lib.hid hx3
  have P4 := Lib.hid hx4
  have P5 := Lib.hid hx5
  have P6 := Lib.hid hzs
  clear E2 E2'
  obtain ⟨N, hN⟩ : ∃ x, (ge M.ss (findI M.ss md rn sl)).sz.toNat = x := ⟨_, rfl⟩
  have hNb : N ≤ 32 := by omega
  have hNs : (N : Int) = (ge M.ss (findI M.ss md rn sl)).sz := by omega
  rw [hN, hzs] at hLN
  rw [hkd] at hEB HDS
  obtain ⟨nd, hnd⟩ : ∃ x, (ge M.ss (findI M.ss md rn sl)).nd = x := ⟨_, rfl⟩
  obtain ⟨du, hdu⟩ : ∃ x, (ge M.ss (findI M.ss md rn sl)).du = x := ⟨_, rfl⟩
  obtain ⟨sz, hsz⟩ : ∃ x, (ge M.ss (findI M.ss md rn sl)).sz = x := ⟨_, rfl⟩
  obtain ⟨ch, hch⟩ : ∃ x, (ge M.ss (findI M.ss md rn sl)).ch = x := ⟨_, rfl⟩
  rw [hnd, hdu, hsz, hch] at HDS
  rw [hsz] at hNs
  have HEM := fun (u : World) => emptyF_any nd kd sz du ch N hNs (by omega) (frB M md rn sl) hEB t md rn sl mb u
  rw [hx1, hx2, hx3, hx4, hx5] at HEM
  have HD := Lib.hid HDS
  have HE := Lib.hid HEM
  have HSH := Lib.hid HS9
  have HZL := Lib.hid hLN
  have HBM := Lib.hid hB1
  have hq1 := q1.lt
  clear HDS HEM HS9 HSN hi1 hi2 hfl hfi hbd hN hsb hLN hEB hnd hdu hsz hch hNs
  go_upto_region 6 with (go_at_call 32; first | ((with_reducible refine (within_is HA.out _).mono ?_); rintro e w9 ⟨rfl, rfl⟩) | ((with_reducible refine (within_is HR.out _).mono ?_); rintro e w9 ⟨rfl, rfl⟩))
  have hV : Below w1.heap.size w1 w1.drew := (Below.refl _ _).drew
  have hcells : ∀ u, Below w1.heap.size w1 u → (Below w1.heap.size w1 u ∧ u.cell? ⟨w.heap.size, 0, none⟩ = some (.int .i64 m.id) ∧ u.cell? ⟨w.heap.size, 1, none⟩ = some (.slice m.An m.nn m.cn) ∧ u.cell? ⟨w.heap.size, 2, none⟩ = some (.slice m.Am m.nm m.cm) ∧ u.cell? ⟨w.heap.size, 3, none⟩ = some (.slice m.As m.ns m.cs) ∧ u.cell? ⟨w.heap.size + 1, 0, none⟩ = some (.int .i64 t) ∧ u.cell? ⟨w.heap.size + 1, 1, none⟩ = some (.int .i64 md) ∧ u.cell? ⟨w.heap.size + 1, 2, none⟩ = some (.int .i64 rn) ∧ u.cell? ⟨w.heap.size + 1, 3, none⟩ = some (.int .i64 sl) ∧ u.cell? ⟨w.heap.size + 1, 4, none⟩ = some (.int .i64 mb)) := fun u hu => ⟨hu, (hB1.next hu).k.c 0 rfl, (hB1.next hu).k.c 1 rfl, (hB1.next hu).k.c 2 rfl, (hB1.next hu).k.c 3 rfl, (j1.next hu).c 0 rfl, (j1.next hu).c 1 rfl, (j1.next hu).c 2 rfl, (j1.next hu).c 3 rfl, (j1.next hu).c 4 rfl⟩
  have HC := Lib.hid hcells
  clear hcells
  go_cut [11] (fun v wc => ∃ g A c, v = .pointer (some ⟨g, 0, none⟩) ∧ w1.heap.size ≤ g ∧ KO 33 2 wc g [.int .i64 kd, .int .i64 0, .int .i64 x1, .int .i64 x2, .int .i64 x3, .int .i64 x4, .int .i64 x5, .slice A N c] w1.heap.size A N c (List.replicate N 0) ∧ Below w1.heap.size w1 wc)
  case first =>
    go_region_held_law (fun u => Below w1.heap.size w1 u ∧ u.cell? ⟨w.heap.size, 0, none⟩ = some (.int .i64 m.id) ∧ u.cell? ⟨w.heap.size, 1, none⟩ = some (.slice m.An m.nn m.cn) ∧ u.cell? ⟨w.heap.size, 2, none⟩ = some (.slice m.Am m.nm m.cm) ∧ u.cell? ⟨w.heap.size, 3, none⟩ = some (.slice m.As m.ns m.cs) ∧ u.cell? ⟨w.heap.size + 1, 0, none⟩ = some (.int .i64 t) ∧ u.cell? ⟨w.heap.size + 1, 1, none⟩ = some (.int .i64 md) ∧ u.cell? ⟨w.heap.size + 1, 2, none⟩ = some (.int .i64 rn) ∧ u.cell? ⟨w.heap.size + 1, 3, none⟩ = some (.int .i64 sl) ∧ u.cell? ⟨w.heap.size + 1, 4, none⟩ = some (.int .i64 mb)) (first | (with_reducible exact HC.out _ hV) | (with_reducible refine HC.out _ ?_; with_reducible assumption) | (with_reducible exact HC.out _ (below_alloc hv (Nat.le_refl _) _)) | (with_reducible exact HC.out _ (below_alloc hV (Nat.le_refl _) _)) | (with_reducible refine HC.out _ ?_; go_grown)) (first
      | (go_at_call 36; (have hgv : Below w1.heap.size w1 _ := And.left (‹Below w1.heap.size w1 _ ∧ _›)); (with_reducible refine (HD.out _ (HBM.out.next hgv).rd).mono ?_); rintro e cc ⟨rfl, hb⟩; (have hv := below_next hb hgv (Nat.le_refl _)); (have SZ1 := hv.size); (try (first | (replace KB := Lib.hid (KB.out.next hb)) | (with_reducible have KB := Lib.hid (blkB hb)) | (with_reducible have KB := Lib.hid (blkBd hb)))); clear hgv hb)
      | (go_at_call 35; (have hgv : Below w1.heap.size w1 _ := And.left (‹Below w1.heap.size w1 _ ∧ _›)); (with_reducible refine (HE.out _).mono ?_); rintro e cc ⟨A33, c33, rfl, hown, hb⟩; (have hv := below_next hb hgv (Nat.le_refl _)); (have O33 := Lib.hid (hown.weaken hgv.size)); (have SV := Lib.hid hv.size); (have HV9 := Lib.hid hv); (try (first | (replace KB := Lib.hid (KB.out.next hb)) | (with_reducible have KB := Lib.hid (blkB hb)) | (with_reducible have KB := Lib.hid (blkBd hb)))); (try (have y0 := KB.out.free 0; have y1 := KB.out.free 1; have y2 := KB.out.free 2; have y3 := KB.out.free 3; have y4 := KB.out.free 4; have y5 := KB.out.free 5; have y6 := KB.out.free 6; have y7 := KB.out.free 7; have e0 := KB.out.c 0 rfl; have e1 := KB.out.c 1 rfl; have e2 := KB.out.c 2 rfl; have e3 := KB.out.c 3 rfl; have e4 := KB.out.c 4 rfl; have e5 := KB.out.c 5 rfl; have e6 := KB.out.c 6 rfl; have e7 := KB.out.c 7 rfl)); clear hown hgv hb))
    all_goals
      go_wp2_with fail
      go_meet
      first
      | exact ⟨_, A33, c33, rfl, SV.out, ⟨BlkL.new _ _ _ rfl, O33.out.alloc _⟩, below_alloc HV9.out (Nat.le_refl _) _⟩
      | (have ko := (((((((((show KO 33 2 cc _ _ w1.heap.size A33 N c33 _ from ⟨KB.out, O33.out⟩).set (by decide) 0 (.int .i64 kd)).set (by decide) 1 (.int .i64 0)).set (by decide) 2 (.int .i64 x1)).set (by decide) 3 (.int .i64 x2)).set (by decide) 4 (.int .i64 x3)).set (by decide) 5 (.int .i64 x4)).set (by decide) 6 (.int .i64 x5)).set (by decide) 7 (.slice A33 N c33))
         have hv := HV9.out
         exact ⟨_, A33, c33, rfl, by first | exact Nat.le_refl _ | assumption, ko, by go_grown⟩)
  case rest =>
    obtain ⟨g, A, c, rfl, hg, K, hbc⟩ := hcut
    obtain ⟨w2, hw2⟩ : ∃ v, v = wc := ⟨_, rfl⟩
    rw [← hw2] at K hbc ⊢
    clear hw2 hV HC HD HE HBM
    have sz1 := gb1.size
    have f0 := K.1.c 0 rfl
    have f1 := K.1.c 1 rfl
    have f2 := K.1.c 2 rfl
    have f3 := K.1.c 3 rfl
    have f4 := K.1.c 4 rfl
    have f5 := K.1.c 5 rfl
    have f6 := K.1.c 6 rfl
    have f7 := K.1.c 7 rfl
    have z1 := K.1.free 1
    go_upto_region 8 with fail
    refine wp_forget (fun v => KO 33 2 v g [.int .i64 kd, .int .i64 rq, .int .i64 x1, .int .i64 x2, .int .i64 x3, .int .i64 x4, .int .i64 x5, .slice A N c] w1.heap.size A N c (List.replicate N 0) ∧ Below w1.heap.size w1 v) ⟨K.set (by decide) 1 _, by go_grown⟩ ?_
    clear f0 f1 f2 f3 f4 f5 f6 f7 z1 K hbc
    rintro v2 ⟨ko, hbc⟩
    have f7 := ko.1.c 7 rfl
    go_wp2_with fail
    clear f7
    go_loopw [39] (fun i wr => ∃ k : Nat, k ≤ N ∧ i = .int .i64 k ∧ KO 33 2 wr g [.int .i64 kd, .int .i64 rq, .int .i64 x1, .int .i64 x2, .int .i64 x3, .int .i64 x4, .int .i64 x5, .slice A N c] w1.heap.size A N c (List.replicate k fl ++ List.replicate (N - k) 0) ∧ Below w1.heap.size w1 wr) (fun i _ => N - (intOf i).toNat)
    case atStart => exact ⟨0, Nat.zero_le _, rfl, by simpa using ko, hbc⟩
    case round =>
      clear ko hbc
      obtain ⟨k, hk, rfl, ko, hbc⟩ := hrel
      by_cases hlt : k < N
      · obtain ⟨g2, rfl, hg2, hgl2⟩ := ko.2.form (by omega)
        have f7 := ko.1.c 7 rfl
        have r0 := ko.2.cell hlt
        have r1 := ko.2.frozen k
        go_wp2
        go_roundw
        case rel => exact ⟨k + 1, by omega, by go_num, by rw [← rep_set N k fl hlt]; exact ko.row (by decide) k fl, by go_grown⟩
        case measure => simp [intOf]; omega
      · have hkn : k = N := by omega
        rw [hkn, Nat.sub_self, List.replicate_zero, List.append_nil, ← HZL.out] at ko
        have hB2 := hB1.next hbc
        have j2 := j1.next hbc
        have q2 := q1.next hbc
        have gb2 := hB2.bel
        have K2 := ko.1
        have O2 := Lib.hid (ko.2.weaken sz1)
        have hkb : ¬ k < N := hlt
        clear hB1 j1 q1 ko hbc hkn
        have c0 := hB2.k.c 0 rfl
        have c1 := hB2.k.c 1 rfl
        have c2 := hB2.k.c 2 rfl
        have c3 := hB2.k.c 3 rfl
        have s0 := j2.c 0 rfl
        have s1 := j2.c 1 rfl
        have s2 := j2.c 2 rfl
        have s3 := j2.c 3 rfl
        have s4 := j2.c 4 rfl
        have f0 := K2.c 0 rfl
        have f1 := K2.c 1 rfl
        have f2 := K2.c 2 rfl
        have f3 := K2.c 3 rfl
        have f4 := K2.c 4 rfl
        have f5 := K2.c 5 rfl
        have f6 := K2.c 6 rfl
        have f7 := K2.c 7 rfl
        go_wp2_with fail
        refine (HSH.out _ A N c hB2.rd O2.out.reads (by omega)).mono ?_
        rintro e w3 ⟨rfl, hb3⟩
        have q3 := q2.next hb3
        have K3 := K2.next hb3
        have O3 := Lib.hid (O2.out.below hb3)
        have gb3 := below_next hb3 gb2 (Nat.le_refl _)
        clear hB2 j2 q2 K2 O2 gb2 hb3 c0 c1 c2 c3 s0 s1 s2 s3 s4 f0 f1 f2 f3 f4 f5 f6 f7
        cases sb
        · have E := Lib.hid (show codeFF M t md rn sl mb fl rq = 5 from E3.out.trans (by simp))
          have y0 := q3.free 0
          have y1 := q3.free 1
          have y2 := q3.free 2
          have y3 := q3.free 3
          have y4 := q3.free 4
          have y5 := q3.free 5
          have y6 := q3.free 6
          have y7 := q3.free 7
          have e0 := q3.c 0 rfl
          have e1 := q3.c 1 rfl
          have e2 := q3.c 2 rfl
          have e3 := q3.c 3 rfl
          have e4 := q3.c 4 rfl
          have e5 := q3.c 5 rfl
          have e6 := q3.c 6 rfl
          have e7 := q3.c 7 rfl
          go_wp2_with fail
          refine bp_forget (fun v => BlkL v (w.heap.size + 1 + 1) 33 [.int .i64 0, .int .i64 0, .int .i64 0, .int .i64 0, .int .i64 0, .int .i64 0, .int .i64 0, .slice none 0 0] ∧ Below w.heap.size w v) ⟨((((((((q3.set 0 _).set 1 _).set 2 _).set 3 _).set 4 _).set 5 _).set 6 _).set 7 _), by go_grown⟩ ?_
          rintro v9 ⟨ko9, gb9⟩
          clear y0 y1 y2 y3 y4 y5 y6 y7 e0 e1 e2 e3 e4 e5 e6 e7
          have d0 := ko9.c 0 rfl
          have d1 := ko9.c 1 rfl
          have d2 := ko9.c 2 rfl
          have d3 := ko9.c 3 rfl
          have d4 := ko9.c 4 rfl
          have d5 := ko9.c 5 rfl
          have d6 := ko9.c 6 rfl
          have d7 := ko9.c 7 rfl
          exact bodyPost_ret (v := .tuple #[.agg #[.int .i64 0, .int .i64 0, .int .i64 0, .int .i64 0, .int .i64 0, .int .i64 0, .int .i64 0, .slice none 0 0], .int .i64 5]) (by simp [results, Tryz.results14, go_sem, d0, d1, d2, d3, d4, d5, d6, d7]) rfl (by rw [E.out]; exact FF_zero (by decide) gb9 _ rfl)
        · have E := Lib.hid (show codeFF M t md rn sl mb fl rq = 0 from E3.out.trans (by simp))
          have ko : KO 33 2 w3 _ _ _ A N c _ := ⟨K3, O3.out⟩
          have d0 := K3.c 0 rfl
          have d1 := K3.c 1 rfl
          have d2 := K3.c 2 rfl
          have d3 := K3.c 3 rfl
          have d4 := K3.c 4 rfl
          have d5 := K3.c 5 rfl
          have d6 := K3.c 6 rfl
          have d7 := K3.c 7 rfl
          have y0 := q3.free 0
          have y1 := q3.free 1
          have y2 := q3.free 2
          have y3 := q3.free 3
          have y4 := q3.free 4
          have y5 := q3.free 5
          have y6 := q3.free 6
          have y7 := q3.free 7
          have e0 := q3.c 0 rfl
          have e1 := q3.c 1 rfl
          have e2 := q3.c 2 rfl
          have e3 := q3.c 3 rfl
          have e4 := q3.c 4 rfl
          have e5 := q3.c 5 rfl
          have e6 := q3.c 6 rfl
          have e7 := q3.c 7 rfl
          go_wp2_with fail
          refine bp_forget (fun v => KO 33 2 v (w.heap.size + 1 + 1) [.int .i64 kd, .int .i64 rq, .int .i64 x1, .int .i64 x2, .int .i64 x3, .int .i64 x4, .int .i64 x5, .slice A N c] w.heap.size A N c zs ∧ Below w.heap.size w v) ⟨(((((((((show KO 33 2 _ _ _ _ _ _ _ _ from ⟨q3, O3.out⟩).set (by decide) 0 _).set (by decide) 1 _).set (by decide) 2 _).set (by decide) 3 _).set (by decide) 4 _).set (by decide) 5 _).set (by decide) 6 _).set (by decide) 7 _), by go_grown⟩ ?_
          rintro v9 ⟨ko9, gb9⟩
          clear d0 d1 d2 d3 d4 d5 d6 d7 y0 y1 y2 y3 y4 y5 y6 y7 e0 e1 e2 e3 e4 e5 e6 e7
          have d0 := ko9.1.c 0 rfl
          have d1 := ko9.1.c 1 rfl
          have d2 := ko9.1.c 2 rfl
          have d3 := ko9.1.c 3 rfl
          have d4 := ko9.1.c 4 rfl
          have d5 := ko9.1.c 5 rfl
          have d6 := ko9.1.c 6 rfl
          have d7 := ko9.1.c 7 rfl
          exact bodyPost_ret (v := .tuple #[.agg #[.int .i64 kd, .int .i64 rq, .int .i64 x1, .int .i64 x2, .int .i64 x3, .int .i64 x4, .int .i64 x5, .slice A N c], .int .i64 0]) (by simp [results, Tryz.results14, go_sem, d0, d1, d2, d3, d4, d5, d6, d7]) rfl (by rw [E.out]; exact FF_ok P0.out P1.out P2.out P3.out P4.out P5.out P6.out A N c ko9.2 gb9 _ rfl)

theorem iFF_any (m : Mdv) (M : Mdl) (t md rn sl mb fl rq : Int) (w : World) (h : RD w w.heap.size m M) (hx : RX m M) : Calls Tryz.prog 14 #[.agg #[.int .i64 m.id, .slice m.An m.nn m.cn, .slice m.Am m.nm m.cm, .slice m.As m.ns m.cs], .agg #[.int .i64 t, .int .i64 md, .int .i64 rn, .int .i64 sl, .int .i64 mb], .int .i64 fl, .int .i64 rq] w
    (RetFC w (ifz (codeFF M t md rn sl mb fl rq) (ge M.ss (findI M.ss md rn sl)).kd) (ifz (codeFF M t md rn sl mb fl rq) rq) (ifz (codeFF M t md rn sl mb fl rq) (stF (frB M md rn sl) t)) (ifz (codeFF M t md rn sl mb fl rq) (stF (frB M md rn sl) md)) (ifz (codeFF M t md rn sl mb fl rq) (stF (frB M md rn sl) rn)) (ifz (codeFF M t md rn sl mb fl rq) (stF (frB M md rn sl) sl)) (ifz (codeFF M t md rn sl mb fl rq) (stF (frB M md rn sl) mb)) (if codeFF M t md rn sl mb fl rq = 0 then frL M md rn sl fl else []) (codeFF M t md rn sl mb fl rq)) := iFrameFor_any m M t md rn sl mb fl rq w h hx
end Go.Proofs.YtbaojbheopcjhaaGreatDoor
