/- FnExactFrameFor: the program's FrameFor returns what the reference's returns, for all arguments. Conditions: the card's listed variables, as it ties them. -/
import Derived.Test.YtlmmhnddlmgaiaaGreatDoorB12
import Derived.Test.YtlmmhnddlmgaiaaGreatDoorB21
import Derived.Test.YtlmmhnddlmgaiaaGreatDoorB22
import Derived.Test.YtlmmhnddlmgaiaaGreatDoorB14
import Derived.Test.YtlmmhnddlmgaiaaGreatDoorB11
import Derived.Deep.RegionHeldLaw
import Derived.Deep.DeepCutAuto
namespace Go.Proofs.YtlmmhnddlmgaiaaGreatDoor
open Go.ChangeShapes Go.WideShapes Go.ChangeAt Go.RowKit
namespace FrameFor
set_option maxRecDepth 200000 in
set_option maxHeartbeats 40000000 in
theorem walk (w : World) (m : Mdv) (M : Mdl) (hx : MX w m M) (t md rn sl mb : Int) (_ : I64 t ∧ I64 md ∧ I64 rn ∧ I64 sl ∧ I64 mb) (fl : Int) (_ : I64 fl) (rq : Int) (_ : I64 rq) (_ : True) :
    Calls Tryz.prog 5 #[.agg #[.int .i64 m.id, .slice m.An m.nn m.cn, .slice m.Am m.nm m.cm, .slice m.As m.ns m.cs], .agg #[.int .i64 t, .int .i64 md, .int .i64 rn, .int .i64 sl, .int .i64 mb], .int .i64 fl, .int .i64 rq] w fun e w' => e = .returned (.bool true) ∧ Below w.heap.size w w' := by
  obtain ⟨w0, hw0⟩ : ∃ v, v = (w.alloc (.cells #[.int .i64 m.id, .slice m.An m.nn m.cn, .slice m.Am m.nm m.cm, .slice m.As m.ns m.cs] 26)).alloc (.cells #[.int .i64 t, .int .i64 md, .int .i64 rn, .int .i64 sl, .int .i64 mb] 28) := ⟨_, rfl⟩
  have k0 : BlkL w0 (w.heap.size) 26 [.int .i64 m.id, .slice m.An m.nn m.cn, .slice m.Am m.nm m.cm, .slice m.As m.ns m.cs] := by rw [hw0]; exact (BlkL.new _ _ _ (by simp)).alloc _
  have k1 : BlkL w0 (w.heap.size + 1) 28 [.int .i64 t, .int .i64 md, .int .i64 rn, .int .i64 sl, .int .i64 mb] := by rw [hw0]; exact BlkL.new _ _ _ (by simp)
  have gb : Below w.heap.size w w0 := by rw [hw0]; go_grown
  have L := Lib.hid ((LW.one gb k0).snoc k1)
  clear k0 k1
  go_enter Tryz.func5, Tryz.ntmps5
  go_wp2_with fail
  rw [← hw0]
  clear hw0
  refine (szMedl_any m M 1048576 _ (hx.rn.up gb) (hx.rm.up gb) hx.bn hx.bm hx.bs hx.nm (by omega) (by omega)).mono ?_
  rintro e w1 ⟨v1, rfl, hv1, hb1⟩
  clear gb
  replace L := Lib.hid (L.out.next hb1)
  clear hb1
  rcases hv1 with rfl | ⟨p1, p2, p3, p4, p5, p6, p7⟩
  · go_wp2
    go_ret
    exact ⟨rfl, L.out.bel⟩
  have P6 := Lib.hid p6
  have P7 := Lib.hid p7
  clear p6 p7
  have hR : RD w w.heap.size m M := ⟨hx.id, hx.rn, hx.rm, hx.rs, by omega, by omega, by omega⟩
  have hX7 : ∀ i, i < m.nm → (ge M.ms i).nx.length ≤ 1099511627776 := fun i hi => by have := P7.out i hi; omega
  have hX8 : ∀ i, i < m.nm → (ge M.ms i).nx.length ≤ 1048576 := fun i hi => by have := P7.out i hi; omega
  have hX6 : ∀ i, i < m.nn → (ge M.ns i).nm.size ≤ 1099511627776 := fun i hi => by have := P6.out i hi; omega
  have q3 : m.nn ≤ 1048576 := by omega
  have q4 : m.nm ≤ 1048576 := by omega
  have q5 : m.ns ≤ 1048576 := by omega
  have HX6 := Lib.hid hX6
  have HX7 := Lib.hid hX7
  have HX8 := Lib.hid hX8
  have HR := Lib.hid hR
  clear hX6 hX7 hX8 hR hx P6 P7 p2 p3 p4 p5
  have hHS := fun (u : World) (m' : Mdv) (hrd : RD u u.heap.size m' M) (hx' : RX m' M) => sFF_any m' M t md rn sl mb fl rq u hrd hx'
  have hHI := fun (u : World) (m' : Mdv) (hrd : RD u u.heap.size m' M) (hx' : RX m' M) => iFF_any m' M t md rn sl mb fl rq u hrd hx'
  have hLn := ffL_len M t md rn sl mb fl rq
  obtain ⟨K0, hK0⟩ : ∃ x, ifz (codeFF M t md rn sl mb fl rq) (ge M.ss (findI M.ss md rn sl)).kd = x := ⟨_, rfl⟩
  obtain ⟨K1, hK1⟩ : ∃ x, ifz (codeFF M t md rn sl mb fl rq) rq = x := ⟨_, rfl⟩
  obtain ⟨K2, hK2⟩ : ∃ x, ifz (codeFF M t md rn sl mb fl rq) (stF (frB M md rn sl) t) = x := ⟨_, rfl⟩
  obtain ⟨K3, hK3⟩ : ∃ x, ifz (codeFF M t md rn sl mb fl rq) (stF (frB M md rn sl) md) = x := ⟨_, rfl⟩
  obtain ⟨K4, hK4⟩ : ∃ x, ifz (codeFF M t md rn sl mb fl rq) (stF (frB M md rn sl) rn) = x := ⟨_, rfl⟩
  obtain ⟨K5, hK5⟩ : ∃ x, ifz (codeFF M t md rn sl mb fl rq) (stF (frB M md rn sl) sl) = x := ⟨_, rfl⟩
  obtain ⟨K6, hK6⟩ : ∃ x, ifz (codeFF M t md rn sl mb fl rq) (stF (frB M md rn sl) mb) = x := ⟨_, rfl⟩
  obtain ⟨R, hR⟩ : ∃ x, (if codeFF M t md rn sl mb fl rq = 0 then frL M md rn sl fl else []) = x := ⟨_, rfl⟩
  obtain ⟨CD, hCD⟩ : ∃ x, codeFF M t md rn sl mb fl rq = x := ⟨_, rfl⟩
  rw [hR] at hLn
  rw [hK0, hK1, hK2, hK3, hK4, hK5, hK6, hR, hCD] at hHS hHI
  clear hK0 hK1 hK2 hK3 hK4 hK5 hK6 hR hCD
  obtain ⟨NR, hNR⟩ : ∃ x, R.length = x := ⟨_, rfl⟩
  rw [hNR] at hLn
  have HNR := Lib.hid hNR
  have HS := Lib.hid hHS
  have HI := Lib.hid hHI
  clear hHS hHI hNR
  have hng : NR ≤ 1099511627776 := by omega
  go_upto_region 5 with fail
  have hV : Below w1.heap.size w1 w1.drew := (Below.refl _ _).drew
  have hcells : ∀ u, Below w1.heap.size w1 u → (Below w1.heap.size w1 u ∧ u.cell? ⟨w.heap.size, 0, none⟩ = some (.int .i64 m.id) ∧ u.cell? ⟨w.heap.size, 1, none⟩ = some (.slice m.An m.nn m.cn) ∧ u.cell? ⟨w.heap.size, 2, none⟩ = some (.slice m.Am m.nm m.cm) ∧ u.cell? ⟨w.heap.size, 3, none⟩ = some (.slice m.As m.ns m.cs) ∧ u.cell? ⟨w.heap.size + 1, 0, none⟩ = some (.int .i64 t) ∧ u.cell? ⟨w.heap.size + 1, 1, none⟩ = some (.int .i64 md) ∧ u.cell? ⟨w.heap.size + 1, 2, none⟩ = some (.int .i64 rn) ∧ u.cell? ⟨w.heap.size + 1, 3, none⟩ = some (.int .i64 sl) ∧ u.cell? ⟨w.heap.size + 1, 4, none⟩ = some (.int .i64 mb)) := fun u hu => ⟨hu, ((L.out.bx 0 _ rfl).next hu).c 0 rfl, ((L.out.bx 0 _ rfl).next hu).c 1 rfl, ((L.out.bx 0 _ rfl).next hu).c 2 rfl, ((L.out.bx 0 _ rfl).next hu).c 3 rfl, ((L.out.bx 1 _ rfl).next hu).c 0 rfl, ((L.out.bx 1 _ rfl).next hu).c 1 rfl, ((L.out.bx 1 _ rfl).next hu).c 2 rfl, ((L.out.bx 1 _ rfl).next hu).c 3 rfl, ((L.out.bx 1 _ rfl).next hu).c 4 rfl⟩
  have HC := Lib.hid hcells
  clear hcells
  have HTM := Lib.hid (fun u (hu : Below w1.heap.size w1 u) => toMedl_any m M u (HR.out.up (below_next hu L.out.bel (Nat.le_refl _))) HX7.out)
  have HTS := Lib.hid (fun u => toState_any t md rn sl mb u)
  go_cut [10, 11] (fun v10 v11 wc => ∃ g A c, v10 = .pointer (some ⟨g, 0, none⟩) ∧ v11 = .int .i64 CD ∧ w1.heap.size ≤ g ∧ BlkL wc g 44 [.int .i64 K0, .int .i64 K1, .int .i64 K2, .int .i64 K3, .int .i64 K4, .int .i64 K5, .int .i64 K6, .slice A NR c] ∧ OwnI 2 wc w1.heap.size A NR c R ∧ Below w1.heap.size w1 wc)
  case first =>
    go_region_held_law (fun u => Below w1.heap.size w1 u ∧ u.cell? ⟨w.heap.size, 0, none⟩ = some (.int .i64 m.id) ∧ u.cell? ⟨w.heap.size, 1, none⟩ = some (.slice m.An m.nn m.cn) ∧ u.cell? ⟨w.heap.size, 2, none⟩ = some (.slice m.Am m.nm m.cm) ∧ u.cell? ⟨w.heap.size, 3, none⟩ = some (.slice m.As m.ns m.cs) ∧ u.cell? ⟨w.heap.size + 1, 0, none⟩ = some (.int .i64 t) ∧ u.cell? ⟨w.heap.size + 1, 1, none⟩ = some (.int .i64 md) ∧ u.cell? ⟨w.heap.size + 1, 2, none⟩ = some (.int .i64 rn) ∧ u.cell? ⟨w.heap.size + 1, 3, none⟩ = some (.int .i64 sl) ∧ u.cell? ⟨w.heap.size + 1, 4, none⟩ = some (.int .i64 mb)) (first | (with_reducible exact HC.out _ hV) | (with_reducible refine HC.out _ ?_; with_reducible assumption) | (with_reducible exact HC.out _ (below_alloc hv (Nat.le_refl _) _)) | (with_reducible exact HC.out _ (below_alloc hV (Nat.le_refl _) _)) | (with_reducible refine HC.out _ ?_; go_grown)) (first
      | (go_at_call 12; (have hgv : Below w1.heap.size w1 _ := And.left (‹Below w1.heap.size w1 _ ∧ _›)); (with_reducible refine (HTM.out _ hgv).mono ?_); rintro e cc ⟨A1, c1, A2, c2, A3, c3, rfl, hRD, hcap, hb⟩; (have hv := below_next hb hgv (Nat.le_refl _)); (have SZ1 := hv.size); (try (first | (replace KB := Lib.hid (KB.out.next hb)) | (with_reducible have KB := Lib.hid (blkB hb)) | (with_reducible have KB := Lib.hid (blkBd hb)))); have HRD := Lib.hid hRD; have HCP := Lib.hid hcap; clear hRD hcap hgv hb)
      | (go_at_call 13; (have hgv : Below w1.heap.size w1 _ := And.left (‹Below w1.heap.size w1 _ ∧ _›)); (with_reducible refine (HTS.out _).mono ?_); rintro e cc ⟨rfl, hb⟩; (have hv := below_next hb hgv (Nat.le_refl _)); (have SZ1 := hv.size); (try (first | (replace KB := Lib.hid (KB.out.next hb)) | (with_reducible have KB := Lib.hid (blkB hb)) | (with_reducible have KB := Lib.hid (blkBd hb)))); (try (first | (replace HRD := Lib.hid (HRD.out.up hb)) | (replace HRD := Lib.hid ((HRD.out.up (below_alloc (Below.refl _ _) (Nat.le_refl _) _)).up hb)))); clear hgv hb)
      | (go_at_call 24; (have hgv : Below w1.heap.size w1 _ := And.left (‹Below w1.heap.size w1 _ ∧ _›)); (first | (with_reducible refine (HS.out _ ⟨m.id, A1, m.nn, c1, A2, m.nm, c2, A3, m.ns, c3⟩ HRD.out ⟨HX6.out, HX7.out, HCP.out⟩).mono ?_) | (with_reducible refine (HS.out _ ⟨m.id, A1, m.nn, c1, A2, m.nm, c2, A3, m.ns, c3⟩ (HRD.out.up (below_alloc (Below.refl _ _) (Nat.le_refl _) _)) ⟨HX6.out, HX7.out, HCP.out⟩).mono ?_)); rintro e cc ⟨Aq, nq, cq, rfl, hown, hb⟩; (obtain rfl : NR = nq := by rw [← HNR.out]; exact hown.len); (have hv := below_next hb hgv (Nat.le_refl _)); (have SZ1 := hv.size); (try (first | (replace KB := Lib.hid (KB.out.next hb)) | (with_reducible have KB := Lib.hid (blkB hb)) | (with_reducible have KB := Lib.hid (blkBd hb)))); have HOW := Lib.hid (hown.weaken hgv.size); clear hown; have SV := Lib.hid hv.size; have HV9 := Lib.hid hv; (try (have y0 := KB.out.free 0; have y1 := KB.out.free 1; have y2 := KB.out.free 2; have y3 := KB.out.free 3; have y4 := KB.out.free 4; have y5 := KB.out.free 5; have y6 := KB.out.free 6; have y7 := KB.out.free 7; have e0 := KB.out.c 0 rfl; have e1 := KB.out.c 1 rfl; have e2 := KB.out.c 2 rfl; have e3 := KB.out.c 3 rfl; have e4 := KB.out.c 4 rfl; have e5 := KB.out.c 5 rfl; have e6 := KB.out.c 6 rfl; have e7 := KB.out.c 7 rfl)); clear hgv hb))
    all_goals
      go_wp2_with fail
      go_meet
      first
      | exact ⟨_, Aq, cq, rfl, rfl, SV.out, BlkL.new _ _ _ rfl, HOW.out.alloc _, below_alloc HV9.out (Nat.le_refl _) _⟩
      | (have ko := (((((((((show KO 44 2 cc _ _ w1.heap.size Aq NR cq _ from ⟨KB.out, HOW.out⟩).set (by decide) 0 (.int .i64 K0)).set (by decide) 1 (.int .i64 K1)).set (by decide) 2 (.int .i64 K2)).set (by decide) 3 (.int .i64 K3)).set (by decide) 4 (.int .i64 K4)).set (by decide) 5 (.int .i64 K5)).set (by decide) 6 (.int .i64 K6)).set (by decide) 7 (.slice Aq NR cq))
         have hv := HV9.out
         exact ⟨_, Aq, cq, rfl, rfl, by first | exact Nat.le_refl _ | assumption, ko.1, ko.2, by go_grown⟩)
  case rest =>
    clear HC hV HTM HTS
    obtain ⟨g0, Aw, cw, rfl, rfl, hgw, hkb, how, hbc⟩ := hcut
    obtain ⟨w2, hw9⟩ : ∃ v, v = wc := ⟨_, rfl⟩
    rw [← hw9] at hkb how hbc ⊢
    clear hw9
    replace L := Lib.hid (L.out.next hbc)
    have WR := Lib.hid (Rw.of how)
    have zlw := hkb.lt
    have zmw := hbc.size
    replace L := Lib.hid (L.out.snoc hkb)
    clear hkb how hbc
    have z0 := L.out.bel.size
    have y1 := (L.out.bx 1 _ rfl).lt
    have c0_0 : w2.cell? ⟨w.heap.size, 0, none⟩ = some (.int .i64 m.id) := (L.out.bx 0 _ rfl).c 0 rfl
    have c0_1 : w2.cell? ⟨w.heap.size, 1, none⟩ = some (.slice m.An m.nn m.cn) := (L.out.bx 0 _ rfl).c 1 rfl
    have c0_2 : w2.cell? ⟨w.heap.size, 2, none⟩ = some (.slice m.Am m.nm m.cm) := (L.out.bx 0 _ rfl).c 2 rfl
    have c0_3 : w2.cell? ⟨w.heap.size, 3, none⟩ = some (.slice m.As m.ns m.cs) := (L.out.bx 0 _ rfl).c 3 rfl
    go_wp2_with fail
    refine (toMedl_own m M _ (HR.out.up L.out.bel) HX7.out).mono ?_
    rintro e w3 ⟨A1, c1, A2, c2, A3, c3, rfl, hRD, hcap, hb3, hn1, hn2, hn3⟩
    have XR := Lib.hid hRD
    have XO := Lib.hid (MO.of (id := m.id) hn1 hn2 hn3 HX8.out)
    have HCX := Lib.hid hcap
    replace L := Lib.hid (L.out.next hb3)
    replace WR := Lib.hid (WR.out.next hb3)
    clear c0_0 c0_1 c0_2 c0_3
    have z2 := hb3.size
    clear hRD hcap hb3 hn1 hn2 hn3
    obtain ⟨w4, hw4⟩ : ∃ v, v = w3.alloc (.cells #[.int .i64 m.id, .slice A1 m.nn c1, .slice A2 m.nm c2, .slice A3 m.ns c3] 39) := ⟨_, rfl⟩
    have kx : BlkL w4 w3.heap.size 39 [.int .i64 m.id, .slice A1 m.nn c1, .slice A2 m.nm c2, .slice A3 m.ns c3] := by rw [hw4]; exact BlkL.new _ _ _ rfl
    have hb4 : Below w3.heap.size w3 w4 := by rw [hw4]; go_grown
    have z3 : w3.heap.size < w4.heap.size := kx.lt
    replace L := Lib.hid (L.out.next hb4)
    replace WR := Lib.hid (WR.out.next hb4)
    replace XO := Lib.hid (XO.out.next hb4)
    replace XR := Lib.hid (XR.out.up hb4)
    replace L := Lib.hid (L.out.snoc kx)
    clear kx hb4
    go_upto_region 7 with fail
    rw [← hw4]
    clear hw4
    have hV : Below w4.heap.size w4 w4.drew := (Below.refl _ _).drew
    have hcells : ∀ u, Below w4.heap.size w4 u → (Below w4.heap.size w4 u ∧ u.cell? ⟨w3.heap.size, 0, none⟩ = some (.int .i64 m.id) ∧ u.cell? ⟨w3.heap.size, 1, none⟩ = some (.slice A1 m.nn c1) ∧ u.cell? ⟨w3.heap.size, 2, none⟩ = some (.slice A2 m.nm c2) ∧ u.cell? ⟨w3.heap.size, 3, none⟩ = some (.slice A3 m.ns c3) ∧ u.cell? ⟨w.heap.size + 1, 0, none⟩ = some (.int .i64 t) ∧ u.cell? ⟨w.heap.size + 1, 1, none⟩ = some (.int .i64 md) ∧ u.cell? ⟨w.heap.size + 1, 2, none⟩ = some (.int .i64 rn) ∧ u.cell? ⟨w.heap.size + 1, 3, none⟩ = some (.int .i64 sl) ∧ u.cell? ⟨w.heap.size + 1, 4, none⟩ = some (.int .i64 mb)) := fun u hu => ⟨hu, ((L.out.bx 3 _ rfl).next hu).c 0 rfl, ((L.out.bx 3 _ rfl).next hu).c 1 rfl, ((L.out.bx 3 _ rfl).next hu).c 2 rfl, ((L.out.bx 3 _ rfl).next hu).c 3 rfl, ((L.out.bx 1 _ rfl).next hu).c 0 rfl, ((L.out.bx 1 _ rfl).next hu).c 1 rfl, ((L.out.bx 1 _ rfl).next hu).c 2 rfl, ((L.out.bx 1 _ rfl).next hu).c 3 rfl, ((L.out.bx 1 _ rfl).next hu).c 4 rfl⟩
    have HC := Lib.hid hcells
    clear hcells
    have HTS := Lib.hid (fun u => toState_any t md rn sl mb u)
    go_cut [13, 14] (fun v13 v14 wc => ∃ g A c, v13 = .pointer (some ⟨g, 0, none⟩) ∧ v14 = .int .i64 CD ∧ w4.heap.size ≤ g ∧ BlkL wc g 44 [.int .i64 K0, .int .i64 K1, .int .i64 K2, .int .i64 K3, .int .i64 K4, .int .i64 K5, .int .i64 K6, .slice A NR c] ∧ OwnI 2 wc w4.heap.size A NR c R ∧ Below w4.heap.size w4 wc)
    case first =>
      go_region_held_law (fun u => Below w4.heap.size w4 u ∧ u.cell? ⟨w3.heap.size, 0, none⟩ = some (.int .i64 m.id) ∧ u.cell? ⟨w3.heap.size, 1, none⟩ = some (.slice A1 m.nn c1) ∧ u.cell? ⟨w3.heap.size, 2, none⟩ = some (.slice A2 m.nm c2) ∧ u.cell? ⟨w3.heap.size, 3, none⟩ = some (.slice A3 m.ns c3) ∧ u.cell? ⟨w.heap.size + 1, 0, none⟩ = some (.int .i64 t) ∧ u.cell? ⟨w.heap.size + 1, 1, none⟩ = some (.int .i64 md) ∧ u.cell? ⟨w.heap.size + 1, 2, none⟩ = some (.int .i64 rn) ∧ u.cell? ⟨w.heap.size + 1, 3, none⟩ = some (.int .i64 sl) ∧ u.cell? ⟨w.heap.size + 1, 4, none⟩ = some (.int .i64 mb)) (first | (with_reducible exact HC.out _ hV) | (with_reducible refine HC.out _ ?_; with_reducible assumption) | (with_reducible exact HC.out _ (below_alloc hv (Nat.le_refl _) _)) | (with_reducible exact HC.out _ (below_alloc hV (Nat.le_refl _) _)) | (with_reducible refine HC.out _ ?_; go_grown)) (first
        | (go_at_call 13; (have hgv : Below w4.heap.size w4 _ := And.left (‹Below w4.heap.size w4 _ ∧ _›)); (with_reducible refine (HTS.out _).mono ?_); rintro e cc ⟨rfl, hb⟩; (have hv := below_next hb hgv (Nat.le_refl _)); (have SZ1 := hv.size); (try (first | (replace KB := Lib.hid (KB.out.next hb)) | (with_reducible have KB := Lib.hid (blkB hb)) | (with_reducible have KB := Lib.hid (blkBd hb)))); (try (first | (replace HRD := Lib.hid (HRD.out.up hb)) | (replace HRD := Lib.hid ((HRD.out.up (below_alloc (Below.refl _ _) (Nat.le_refl _) _)).up hb)))); clear hgv hb)
        | (go_at_call 25; (have hgv : Below w4.heap.size w4 _ := And.left (‹Below w4.heap.size w4 _ ∧ _›)); (first | (with_reducible refine (HI.out _ ⟨m.id, A1, m.nn, c1, A2, m.nm, c2, A3, m.ns, c3⟩ (XR.out.up hgv) ⟨HX6.out, HX7.out, HCX.out⟩).mono ?_) | (with_reducible refine (HI.out _ ⟨m.id, A1, m.nn, c1, A2, m.nm, c2, A3, m.ns, c3⟩ (XR.out.up hgv) ⟨HX6.out, HX7.out, HCX.out⟩).mono ?_)); rintro e cc ⟨Aq, nq, cq, rfl, hown, hb⟩; (obtain rfl : NR = nq := by rw [← HNR.out]; exact hown.len); (have hv := below_next hb hgv (Nat.le_refl _)); (have SZ1 := hv.size); (try (first | (replace KB := Lib.hid (KB.out.next hb)) | (with_reducible have KB := Lib.hid (blkB hb)) | (with_reducible have KB := Lib.hid (blkBd hb)))); have HOW := Lib.hid (hown.weaken hgv.size); clear hown; have SV := Lib.hid hv.size; have HV9 := Lib.hid hv; (try (have y0 := KB.out.free 0; have y1 := KB.out.free 1; have y2 := KB.out.free 2; have y3 := KB.out.free 3; have y4 := KB.out.free 4; have y5 := KB.out.free 5; have y6 := KB.out.free 6; have y7 := KB.out.free 7; have e0 := KB.out.c 0 rfl; have e1 := KB.out.c 1 rfl; have e2 := KB.out.c 2 rfl; have e3 := KB.out.c 3 rfl; have e4 := KB.out.c 4 rfl; have e5 := KB.out.c 5 rfl; have e6 := KB.out.c 6 rfl; have e7 := KB.out.c 7 rfl)); clear hgv hb))
      all_goals
        go_wp2_with fail
        go_meet
        first
        | exact ⟨_, Aq, cq, rfl, rfl, SV.out, BlkL.new _ _ _ rfl, HOW.out.alloc _, below_alloc HV9.out (Nat.le_refl _) _⟩
        | (have ko := (((((((((show KO 44 2 cc _ _ w4.heap.size Aq NR cq _ from ⟨KB.out, HOW.out⟩).set (by decide) 0 (.int .i64 K0)).set (by decide) 1 (.int .i64 K1)).set (by decide) 2 (.int .i64 K2)).set (by decide) 3 (.int .i64 K3)).set (by decide) 4 (.int .i64 K4)).set (by decide) 5 (.int .i64 K5)).set (by decide) 6 (.int .i64 K6)).set (by decide) 7 (.slice Aq NR cq))
           have hv := HV9.out
           exact ⟨_, Aq, cq, rfl, rfl, by first | exact Nat.le_refl _ | assumption, ko.1, ko.2, by go_grown⟩)
    case rest =>
      clear HC hV HTS
      obtain ⟨g1, Ag, cg, rfl, rfl, hgg, hkb, how, hbc⟩ := hcut
      obtain ⟨w5, hw9⟩ : ∃ v, v = wc := ⟨_, rfl⟩
      rw [← hw9] at hkb how hbc ⊢
      clear hw9
      replace L := Lib.hid (L.out.next hbc)
      replace WR := Lib.hid (WR.out.next hbc)
      replace XO := Lib.hid (XO.out.next hbc)
      replace XR := Lib.hid (XR.out.up hbc)
      have GR := Lib.hid (Rw.of how)
      have zlg := hkb.lt
      have zmg := hbc.size
      replace L := Lib.hid (L.out.snoc hkb)
      clear hkb how hbc
      have c4_0 : w5.cell? ⟨g1, 0, none⟩ = some (.int .i64 K0) := (L.out.bx 4 _ rfl).c 0 rfl
      have c4_1 : w5.cell? ⟨g1, 1, none⟩ = some (.int .i64 K1) := (L.out.bx 4 _ rfl).c 1 rfl
      have c4_2 : w5.cell? ⟨g1, 2, none⟩ = some (.int .i64 K2) := (L.out.bx 4 _ rfl).c 2 rfl
      have c4_3 : w5.cell? ⟨g1, 3, none⟩ = some (.int .i64 K3) := (L.out.bx 4 _ rfl).c 3 rfl
      have c4_4 : w5.cell? ⟨g1, 4, none⟩ = some (.int .i64 K4) := (L.out.bx 4 _ rfl).c 4 rfl
      have c4_5 : w5.cell? ⟨g1, 5, none⟩ = some (.int .i64 K5) := (L.out.bx 4 _ rfl).c 5 rfl
      have c4_6 : w5.cell? ⟨g1, 6, none⟩ = some (.int .i64 K6) := (L.out.bx 4 _ rfl).c 6 rfl
      have c4_7 : w5.cell? ⟨g1, 7, none⟩ = some (.slice Ag NR cg) := (L.out.bx 4 _ rfl).c 7 rfl
      have c2_0 : w5.cell? ⟨g0, 0, none⟩ = some (.int .i64 K0) := (L.out.bx 2 _ rfl).c 0 rfl
      have c2_1 : w5.cell? ⟨g0, 1, none⟩ = some (.int .i64 K1) := (L.out.bx 2 _ rfl).c 1 rfl
      have c2_2 : w5.cell? ⟨g0, 2, none⟩ = some (.int .i64 K2) := (L.out.bx 2 _ rfl).c 2 rfl
      have c2_3 : w5.cell? ⟨g0, 3, none⟩ = some (.int .i64 K3) := (L.out.bx 2 _ rfl).c 3 rfl
      have c2_4 : w5.cell? ⟨g0, 4, none⟩ = some (.int .i64 K4) := (L.out.bx 2 _ rfl).c 4 rfl
      have c2_5 : w5.cell? ⟨g0, 5, none⟩ = some (.int .i64 K5) := (L.out.bx 2 _ rfl).c 5 rfl
      have c2_6 : w5.cell? ⟨g0, 6, none⟩ = some (.int .i64 K6) := (L.out.bx 2 _ rfl).c 6 rfl
      have c2_7 : w5.cell? ⟨g0, 7, none⟩ = some (.slice Aw NR cw) := (L.out.bx 2 _ rfl).c 7 rfl
      go_wp2_with fail
      refine (eqFrame_self K0 K1 K2 K3 K4 K5 K6 _ _ NR _ _ R _ GR.out.reads WR.out.reads hng).mono ?_
      rintro e w6 ⟨rfl, hb⟩
      replace L := Lib.hid (L.out.next hb)
      replace WR := Lib.hid (WR.out.next hb)
      replace XO := Lib.hid (XO.out.next hb)
      replace XR := Lib.hid (XR.out.up hb)
      replace GR := Lib.hid (GR.out.next hb)
      clear c4_0 c4_1 c4_2 c4_3 c4_4 c4_5 c4_6 c4_7 c2_0 c2_1 c2_2 c2_3 c2_4 c2_5 c2_6 c2_7
      clear hb
      go_upto_region 10 with fail
      have hV : Below w6.heap.size w6 w6.drew := (Below.refl _ _).drew
      have hcells : ∀ u, Below w6.heap.size w6 u → (Below w6.heap.size w6 u ∧ u.cell? ⟨w3.heap.size, 0, none⟩ = some (.int .i64 m.id) ∧ u.cell? ⟨w3.heap.size, 1, none⟩ = some (.slice A1 m.nn c1) ∧ u.cell? ⟨w3.heap.size, 2, none⟩ = some (.slice A2 m.nm c2) ∧ u.cell? ⟨w3.heap.size, 3, none⟩ = some (.slice A3 m.ns c3) ∧ u.cell? ⟨w.heap.size, 0, none⟩ = some (.int .i64 m.id) ∧ u.cell? ⟨w.heap.size, 1, none⟩ = some (.slice m.An m.nn m.cn) ∧ u.cell? ⟨w.heap.size, 2, none⟩ = some (.slice m.Am m.nm m.cm) ∧ u.cell? ⟨w.heap.size, 3, none⟩ = some (.slice m.As m.ns m.cs)) := fun u hu => ⟨hu, ((L.out.bx 3 _ rfl).next hu).c 0 rfl, ((L.out.bx 3 _ rfl).next hu).c 1 rfl, ((L.out.bx 3 _ rfl).next hu).c 2 rfl, ((L.out.bx 3 _ rfl).next hu).c 3 rfl, ((L.out.bx 0 _ rfl).next hu).c 0 rfl, ((L.out.bx 0 _ rfl).next hu).c 1 rfl, ((L.out.bx 0 _ rfl).next hu).c 2 rfl, ((L.out.bx 0 _ rfl).next hu).c 3 rfl⟩
      have HC := Lib.hid hcells
      clear hcells
      have HTM := Lib.hid (fun u (hu : Below w6.heap.size w6 u) => toMedl_any m M u (HR.out.up (below_next hu L.out.bel (Nat.le_refl _))) HX7.out)
      go_cut [59] (fun v wc => v = .bool false ∧ Below w6.heap.size w6 wc)
      case first =>
        go_region_held_law (fun u => Below w6.heap.size w6 u ∧ u.cell? ⟨w3.heap.size, 0, none⟩ = some (.int .i64 m.id) ∧ u.cell? ⟨w3.heap.size, 1, none⟩ = some (.slice A1 m.nn c1) ∧ u.cell? ⟨w3.heap.size, 2, none⟩ = some (.slice A2 m.nm c2) ∧ u.cell? ⟨w3.heap.size, 3, none⟩ = some (.slice A3 m.ns c3) ∧ u.cell? ⟨w.heap.size, 0, none⟩ = some (.int .i64 m.id) ∧ u.cell? ⟨w.heap.size, 1, none⟩ = some (.slice m.An m.nn m.cn) ∧ u.cell? ⟨w.heap.size, 2, none⟩ = some (.slice m.Am m.nm m.cm) ∧ u.cell? ⟨w.heap.size, 3, none⟩ = some (.slice m.As m.ns m.cs)) (first | (with_reducible exact HC.out _ hV) | (with_reducible refine HC.out _ ?_; with_reducible assumption) | (with_reducible refine HC.out _ ?_; go_grown)) (first
          | (go_at_call 12; (have hgv : Below w6.heap.size w6 _ := And.left (‹Below w6.heap.size w6 _ ∧ _›)); (with_reducible refine (HTM.out _ hgv).mono ?_); rintro e cc ⟨B1, d1, B2, d2, B3, d3, rfl, hRD, hcap, hb⟩; (have hv := below_next hb hgv (Nat.le_refl _)); (try (replace HRI := Lib.hid (HRI.out.up hb))); have HRD := Lib.hid hRD; have HCP := Lib.hid hcap; clear hRD hcap hgv hb)
          | (go_at_call 16; (have hgv : Below w6.heap.size w6 _ := And.left (‹Below w6.heap.size w6 _ ∧ _›)); (refine (eqMedl_self ⟨m.id, A1, m.nn, c1, A2, m.nm, c2, A3, m.ns, c3⟩ ⟨m.id, B1, m.nn, d1, B2, m.nm, d2, B3, m.ns, d3⟩ M _ (XR.out.up hgv) HRD.out HX7.out).mono ?_); rintro e cc ⟨rfl, hb⟩; (have hv := below_next hb hgv (Nat.le_refl _)); have HV9 := Lib.hid hv; clear hgv hb))
        all_goals
          go_wp2_with fail
          go_meet
          exact ⟨rfl, HV9.out⟩
      case rest =>
        clear HC hV HTM
        obtain ⟨rfl, hbc⟩ := hcut
        obtain ⟨w7, hw9⟩ : ∃ v, v = wc := ⟨_, rfl⟩
        rw [← hw9] at hbc ⊢
        clear hw9
        replace L := Lib.hid (L.out.next hbc)
        replace WR := Lib.hid (WR.out.next hbc)
        replace XO := Lib.hid (XO.out.next hbc)
        replace XR := Lib.hid (XR.out.up hbc)
        replace GR := Lib.hid (GR.out.next hbc)
        clear hbc
        have c3_0 : w7.cell? ⟨w3.heap.size, 0, none⟩ = some (.int .i64 m.id) := (L.out.bx 3 _ rfl).c 0 rfl
        have c3_1 : w7.cell? ⟨w3.heap.size, 1, none⟩ = some (.slice A1 m.nn c1) := (L.out.bx 3 _ rfl).c 1 rfl
        have c3_2 : w7.cell? ⟨w3.heap.size, 2, none⟩ = some (.slice A2 m.nm c2) := (L.out.bx 3 _ rfl).c 2 rfl
        have c3_3 : w7.cell? ⟨w3.heap.size, 3, none⟩ = some (.slice A3 m.ns c3) := (L.out.bx 3 _ rfl).c 3 rfl
        go_wp2_with fail
        have hsx : w3.heap.size ≤ w7.heap.size := by have := (L.out.bx 3 _ rfl).lt; omega
        refine (markMedl_any ⟨m.id, A1, m.nn, c1, A2, m.nm, c2, A3, m.ns, c3⟩ w2.heap.size w3.heap.size 1 _ XO.out hsx q3 q4 q5 (by omega) (by omega)).mono ?_
        rintro e w8 ⟨kv, rfl, hk0, hk1, hmk⟩
        clear c3_0 c3_1 c3_2 c3_3
        replace L := Lib.hid (L.out.mkb hmk (by omega) (fun i b e => by match i, e with | 0, e => (obtain rfl := Option.some.inj e; left; show w.heap.size < w2.heap.size; omega) | 1, e => (obtain rfl := Option.some.inj e; left; show w.heap.size + 1 < w2.heap.size; omega) | 2, e => (obtain rfl := Option.some.inj e; left; show g0 < w2.heap.size; omega) | 3, e => (obtain rfl := Option.some.inj e; right; show w3.heap.size ≤ w3.heap.size; omega) | 4, e => (obtain rfl := Option.some.inj e; right; show w3.heap.size ≤ g1; omega) | i + 5, e => simp at e))
        replace WR := Lib.hid (WR.out.mkb hmk (by omega))
        replace GR := Lib.hid (GR.out.mkb hmk (by omega))
        clear hmk XO XR HCX hsx
        have c4_0 : w8.cell? ⟨g1, 0, none⟩ = some (.int .i64 K0) := (L.out.bx 4 _ rfl).c 0 rfl
        have c4_1 : w8.cell? ⟨g1, 1, none⟩ = some (.int .i64 K1) := (L.out.bx 4 _ rfl).c 1 rfl
        have c4_2 : w8.cell? ⟨g1, 2, none⟩ = some (.int .i64 K2) := (L.out.bx 4 _ rfl).c 2 rfl
        have c4_3 : w8.cell? ⟨g1, 3, none⟩ = some (.int .i64 K3) := (L.out.bx 4 _ rfl).c 3 rfl
        have c4_4 : w8.cell? ⟨g1, 4, none⟩ = some (.int .i64 K4) := (L.out.bx 4 _ rfl).c 4 rfl
        have c4_5 : w8.cell? ⟨g1, 5, none⟩ = some (.int .i64 K5) := (L.out.bx 4 _ rfl).c 5 rfl
        have c4_6 : w8.cell? ⟨g1, 6, none⟩ = some (.int .i64 K6) := (L.out.bx 4 _ rfl).c 6 rfl
        have c4_7 : w8.cell? ⟨g1, 7, none⟩ = some (.slice Ag NR cg) := (L.out.bx 4 _ rfl).c 7 rfl
        have c2_0 : w8.cell? ⟨g0, 0, none⟩ = some (.int .i64 K0) := (L.out.bx 2 _ rfl).c 0 rfl
        have c2_1 : w8.cell? ⟨g0, 1, none⟩ = some (.int .i64 K1) := (L.out.bx 2 _ rfl).c 1 rfl
        have c2_2 : w8.cell? ⟨g0, 2, none⟩ = some (.int .i64 K2) := (L.out.bx 2 _ rfl).c 2 rfl
        have c2_3 : w8.cell? ⟨g0, 3, none⟩ = some (.int .i64 K3) := (L.out.bx 2 _ rfl).c 3 rfl
        have c2_4 : w8.cell? ⟨g0, 4, none⟩ = some (.int .i64 K4) := (L.out.bx 2 _ rfl).c 4 rfl
        have c2_5 : w8.cell? ⟨g0, 5, none⟩ = some (.int .i64 K5) := (L.out.bx 2 _ rfl).c 5 rfl
        have c2_6 : w8.cell? ⟨g0, 6, none⟩ = some (.int .i64 K6) := (L.out.bx 2 _ rfl).c 6 rfl
        have c2_7 : w8.cell? ⟨g0, 7, none⟩ = some (.slice Aw NR cw) := (L.out.bx 2 _ rfl).c 7 rfl
        go_wp2_with fail
        refine (eqFrame_self K0 K1 K2 K3 K4 K5 K6 _ _ NR _ _ R _ GR.out.reads WR.out.reads hng).mono ?_
        rintro e w9 ⟨rfl, hb⟩
        replace L := Lib.hid (L.out.next hb)
        replace WR := Lib.hid (WR.out.next hb)
        replace GR := Lib.hid (GR.out.next hb)
        clear c4_0 c4_1 c4_2 c4_3 c4_4 c4_5 c4_6 c4_7 c2_0 c2_1 c2_2 c2_3 c2_4 c2_5 c2_6 c2_7
        clear hb
        have c4_0 : w9.cell? ⟨g1, 0, none⟩ = some (.int .i64 K0) := (L.out.bx 4 _ rfl).c 0 rfl
        have c4_1 : w9.cell? ⟨g1, 1, none⟩ = some (.int .i64 K1) := (L.out.bx 4 _ rfl).c 1 rfl
        have c4_2 : w9.cell? ⟨g1, 2, none⟩ = some (.int .i64 K2) := (L.out.bx 4 _ rfl).c 2 rfl
        have c4_3 : w9.cell? ⟨g1, 3, none⟩ = some (.int .i64 K3) := (L.out.bx 4 _ rfl).c 3 rfl
        have c4_4 : w9.cell? ⟨g1, 4, none⟩ = some (.int .i64 K4) := (L.out.bx 4 _ rfl).c 4 rfl
        have c4_5 : w9.cell? ⟨g1, 5, none⟩ = some (.int .i64 K5) := (L.out.bx 4 _ rfl).c 5 rfl
        have c4_6 : w9.cell? ⟨g1, 6, none⟩ = some (.int .i64 K6) := (L.out.bx 4 _ rfl).c 6 rfl
        have c4_7 : w9.cell? ⟨g1, 7, none⟩ = some (.slice Ag NR cg) := (L.out.bx 4 _ rfl).c 7 rfl
        go_wp2_with fail
        refine (markFrO_any K0 K1 K2 K3 K4 K5 K6 _ NR _ _ R 1 _ GR.out.own hng (by omega) (by omega)).mono ?_
        rintro e w10 ⟨rfl, hown, hg⟩
        clear c4_0 c4_1 c4_2 c4_3 c4_4 c4_5 c4_6 c4_7
        have hmm := GR.out.marked hg hown
        have hmk := hmm.1
        replace L := Lib.hid (L.out.kept (fun i b e => by match i, e with | 0, e => (obtain rfl := Option.some.inj e; show 26 ≠ 2; decide) | 1, e => (obtain rfl := Option.some.inj e; show 28 ≠ 2; decide) | 2, e => (obtain rfl := Option.some.inj e; show 44 ≠ 2; decide) | 3, e => (obtain rfl := Option.some.inj e; show 39 ≠ 2; decide) | 4, e => (obtain rfl := Option.some.inj e; show 44 ≠ 2; decide) | i + 5, e => simp at e) GR.out.own (by omega) hg)
        replace WR := Lib.hid (WR.out.mkb hmk (by omega))
        replace GR := Lib.hid hmm.2
        clear hmm hmk hown hg
        have c4_0 : w10.cell? ⟨g1, 0, none⟩ = some (.int .i64 K0) := (L.out.bx 4 _ rfl).c 0 rfl
        have c4_1 : w10.cell? ⟨g1, 1, none⟩ = some (.int .i64 K1) := (L.out.bx 4 _ rfl).c 1 rfl
        have c4_2 : w10.cell? ⟨g1, 2, none⟩ = some (.int .i64 K2) := (L.out.bx 4 _ rfl).c 2 rfl
        have c4_3 : w10.cell? ⟨g1, 3, none⟩ = some (.int .i64 K3) := (L.out.bx 4 _ rfl).c 3 rfl
        have c4_4 : w10.cell? ⟨g1, 4, none⟩ = some (.int .i64 K4) := (L.out.bx 4 _ rfl).c 4 rfl
        have c4_5 : w10.cell? ⟨g1, 5, none⟩ = some (.int .i64 K5) := (L.out.bx 4 _ rfl).c 5 rfl
        have c4_6 : w10.cell? ⟨g1, 6, none⟩ = some (.int .i64 K6) := (L.out.bx 4 _ rfl).c 6 rfl
        have c4_7 : w10.cell? ⟨g1, 7, none⟩ = some (.slice Ag NR cg) := (L.out.bx 4 _ rfl).c 7 rfl
        go_wp2_with fail
        refine (heldFr_any K0 K1 K2 K3 K4 K5 K6 _ NR _ 1 _ GR.out.reads hng (by omega) (by omega)).mono ?_
        rintro e w11 ⟨rfl, hb⟩
        replace L := Lib.hid (L.out.next hb)
        replace WR := Lib.hid (WR.out.next hb)
        replace GR := Lib.hid (GR.out.next hb)
        clear c4_0 c4_1 c4_2 c4_3 c4_4 c4_5 c4_6 c4_7
        clear hb
        go_upto_region 24 with fail
        have hV : Below w11.heap.size w11 w11.drew := (Below.refl _ _).drew
        have hcells : ∀ u, Below w11.heap.size w11 u → (Below w11.heap.size w11 u ∧ u.cell? ⟨w.heap.size, 0, none⟩ = some (.int .i64 m.id) ∧ u.cell? ⟨w.heap.size, 1, none⟩ = some (.slice m.An m.nn m.cn) ∧ u.cell? ⟨w.heap.size, 2, none⟩ = some (.slice m.Am m.nm m.cm) ∧ u.cell? ⟨w.heap.size, 3, none⟩ = some (.slice m.As m.ns m.cs) ∧ u.cell? ⟨w.heap.size + 1, 0, none⟩ = some (.int .i64 t) ∧ u.cell? ⟨w.heap.size + 1, 1, none⟩ = some (.int .i64 md) ∧ u.cell? ⟨w.heap.size + 1, 2, none⟩ = some (.int .i64 rn) ∧ u.cell? ⟨w.heap.size + 1, 3, none⟩ = some (.int .i64 sl) ∧ u.cell? ⟨w.heap.size + 1, 4, none⟩ = some (.int .i64 mb)) := fun u hu => ⟨hu, ((L.out.bx 0 _ rfl).next hu).c 0 rfl, ((L.out.bx 0 _ rfl).next hu).c 1 rfl, ((L.out.bx 0 _ rfl).next hu).c 2 rfl, ((L.out.bx 0 _ rfl).next hu).c 3 rfl, ((L.out.bx 1 _ rfl).next hu).c 0 rfl, ((L.out.bx 1 _ rfl).next hu).c 1 rfl, ((L.out.bx 1 _ rfl).next hu).c 2 rfl, ((L.out.bx 1 _ rfl).next hu).c 3 rfl, ((L.out.bx 1 _ rfl).next hu).c 4 rfl⟩
        have HC := Lib.hid hcells
        clear hcells
        have HTM := Lib.hid (fun u (hu : Below w11.heap.size w11 u) => toMedl_any m M u (HR.out.up (below_next hu L.out.bel (Nat.le_refl _))) HX7.out)
        have HTS := Lib.hid (fun u => toState_any t md rn sl mb u)
        go_cut [18, 19] (fun v18 v19 wc => ∃ g A c, v18 = .pointer (some ⟨g, 0, none⟩) ∧ v19 = .int .i64 CD ∧ w11.heap.size ≤ g ∧ BlkL wc g 44 [.int .i64 K0, .int .i64 K1, .int .i64 K2, .int .i64 K3, .int .i64 K4, .int .i64 K5, .int .i64 K6, .slice A NR c] ∧ OwnI 2 wc w11.heap.size A NR c R ∧ Below w11.heap.size w11 wc)
        case first =>
          go_region_held_law (fun u => Below w11.heap.size w11 u ∧ u.cell? ⟨w.heap.size, 0, none⟩ = some (.int .i64 m.id) ∧ u.cell? ⟨w.heap.size, 1, none⟩ = some (.slice m.An m.nn m.cn) ∧ u.cell? ⟨w.heap.size, 2, none⟩ = some (.slice m.Am m.nm m.cm) ∧ u.cell? ⟨w.heap.size, 3, none⟩ = some (.slice m.As m.ns m.cs) ∧ u.cell? ⟨w.heap.size + 1, 0, none⟩ = some (.int .i64 t) ∧ u.cell? ⟨w.heap.size + 1, 1, none⟩ = some (.int .i64 md) ∧ u.cell? ⟨w.heap.size + 1, 2, none⟩ = some (.int .i64 rn) ∧ u.cell? ⟨w.heap.size + 1, 3, none⟩ = some (.int .i64 sl) ∧ u.cell? ⟨w.heap.size + 1, 4, none⟩ = some (.int .i64 mb)) (first | (with_reducible exact HC.out _ hV) | (with_reducible refine HC.out _ ?_; with_reducible assumption) | (with_reducible exact HC.out _ (below_alloc hv (Nat.le_refl _) _)) | (with_reducible exact HC.out _ (below_alloc hV (Nat.le_refl _) _)) | (with_reducible refine HC.out _ ?_; go_grown)) (first
            | (go_at_call 12; (have hgv : Below w11.heap.size w11 _ := And.left (‹Below w11.heap.size w11 _ ∧ _›)); (with_reducible refine (HTM.out _ hgv).mono ?_); rintro e cc ⟨A1, c1, A2, c2, A3, c3, rfl, hRD, hcap, hb⟩; (have hv := below_next hb hgv (Nat.le_refl _)); (have SZ1 := hv.size); (try (first | (replace KB := Lib.hid (KB.out.next hb)) | (with_reducible have KB := Lib.hid (blkB hb)) | (with_reducible have KB := Lib.hid (blkBd hb)))); have HRD := Lib.hid hRD; have HCP := Lib.hid hcap; clear hRD hcap hgv hb)
            | (go_at_call 13; (have hgv : Below w11.heap.size w11 _ := And.left (‹Below w11.heap.size w11 _ ∧ _›)); (with_reducible refine (HTS.out _).mono ?_); rintro e cc ⟨rfl, hb⟩; (have hv := below_next hb hgv (Nat.le_refl _)); (have SZ1 := hv.size); (try (first | (replace KB := Lib.hid (KB.out.next hb)) | (with_reducible have KB := Lib.hid (blkB hb)) | (with_reducible have KB := Lib.hid (blkBd hb)))); (try (first | (replace HRD := Lib.hid (HRD.out.up hb)) | (replace HRD := Lib.hid ((HRD.out.up (below_alloc (Below.refl _ _) (Nat.le_refl _) _)).up hb)))); clear hgv hb)
            | (go_at_call 25; (have hgv : Below w11.heap.size w11 _ := And.left (‹Below w11.heap.size w11 _ ∧ _›)); (first | (with_reducible refine (HI.out _ ⟨m.id, A1, m.nn, c1, A2, m.nm, c2, A3, m.ns, c3⟩ HRD.out ⟨HX6.out, HX7.out, HCP.out⟩).mono ?_) | (with_reducible refine (HI.out _ ⟨m.id, A1, m.nn, c1, A2, m.nm, c2, A3, m.ns, c3⟩ (HRD.out.up (below_alloc (Below.refl _ _) (Nat.le_refl _) _)) ⟨HX6.out, HX7.out, HCP.out⟩).mono ?_)); rintro e cc ⟨Aq, nq, cq, rfl, hown, hb⟩; (obtain rfl : NR = nq := by rw [← HNR.out]; exact hown.len); (have hv := below_next hb hgv (Nat.le_refl _)); (have SZ1 := hv.size); (try (first | (replace KB := Lib.hid (KB.out.next hb)) | (with_reducible have KB := Lib.hid (blkB hb)) | (with_reducible have KB := Lib.hid (blkBd hb)))); have HOW := Lib.hid (hown.weaken hgv.size); clear hown; have SV := Lib.hid hv.size; have HV9 := Lib.hid hv; (try (have y0 := KB.out.free 0; have y1 := KB.out.free 1; have y2 := KB.out.free 2; have y3 := KB.out.free 3; have y4 := KB.out.free 4; have y5 := KB.out.free 5; have y6 := KB.out.free 6; have y7 := KB.out.free 7; have e0 := KB.out.c 0 rfl; have e1 := KB.out.c 1 rfl; have e2 := KB.out.c 2 rfl; have e3 := KB.out.c 3 rfl; have e4 := KB.out.c 4 rfl; have e5 := KB.out.c 5 rfl; have e6 := KB.out.c 6 rfl; have e7 := KB.out.c 7 rfl)); clear hgv hb))
          all_goals
            go_wp2_with fail
            go_meet
            first
            | exact ⟨_, Aq, cq, rfl, rfl, SV.out, BlkL.new _ _ _ rfl, HOW.out.alloc _, below_alloc HV9.out (Nat.le_refl _) _⟩
            | (have ko := (((((((((show KO 44 2 cc _ _ w11.heap.size Aq NR cq _ from ⟨KB.out, HOW.out⟩).set (by decide) 0 (.int .i64 K0)).set (by decide) 1 (.int .i64 K1)).set (by decide) 2 (.int .i64 K2)).set (by decide) 3 (.int .i64 K3)).set (by decide) 4 (.int .i64 K4)).set (by decide) 5 (.int .i64 K5)).set (by decide) 6 (.int .i64 K6)).set (by decide) 7 (.slice Aq NR cq))
               have hv := HV9.out
               exact ⟨_, Aq, cq, rfl, rfl, by first | exact Nat.le_refl _ | assumption, ko.1, ko.2, by go_grown⟩)
        case rest =>
          clear HC hV HTM HTS
          obtain ⟨g2, Ah, ch, rfl, rfl, hgh, hkb, how, hbc⟩ := hcut
          obtain ⟨w12, hw9⟩ : ∃ v, v = wc := ⟨_, rfl⟩
          rw [← hw9] at hkb how hbc ⊢
          clear hw9
          replace L := Lib.hid (L.out.next hbc)
          replace WR := Lib.hid (WR.out.next hbc)
          replace GR := Lib.hid (GR.out.next hbc)
          have HH := Lib.hid (Rw.of how)
          have zlh := hkb.lt
          have zmh := hbc.size
          replace L := Lib.hid (L.out.snoc hkb)
          clear hkb how hbc
          have c5_0 : w12.cell? ⟨g2, 0, none⟩ = some (.int .i64 K0) := (L.out.bx 5 _ rfl).c 0 rfl
          have c5_1 : w12.cell? ⟨g2, 1, none⟩ = some (.int .i64 K1) := (L.out.bx 5 _ rfl).c 1 rfl
          have c5_2 : w12.cell? ⟨g2, 2, none⟩ = some (.int .i64 K2) := (L.out.bx 5 _ rfl).c 2 rfl
          have c5_3 : w12.cell? ⟨g2, 3, none⟩ = some (.int .i64 K3) := (L.out.bx 5 _ rfl).c 3 rfl
          have c5_4 : w12.cell? ⟨g2, 4, none⟩ = some (.int .i64 K4) := (L.out.bx 5 _ rfl).c 4 rfl
          have c5_5 : w12.cell? ⟨g2, 5, none⟩ = some (.int .i64 K5) := (L.out.bx 5 _ rfl).c 5 rfl
          have c5_6 : w12.cell? ⟨g2, 6, none⟩ = some (.int .i64 K6) := (L.out.bx 5 _ rfl).c 6 rfl
          have c5_7 : w12.cell? ⟨g2, 7, none⟩ = some (.slice Ah NR ch) := (L.out.bx 5 _ rfl).c 7 rfl
          have c2_0 : w12.cell? ⟨g0, 0, none⟩ = some (.int .i64 K0) := (L.out.bx 2 _ rfl).c 0 rfl
          have c2_1 : w12.cell? ⟨g0, 1, none⟩ = some (.int .i64 K1) := (L.out.bx 2 _ rfl).c 1 rfl
          have c2_2 : w12.cell? ⟨g0, 2, none⟩ = some (.int .i64 K2) := (L.out.bx 2 _ rfl).c 2 rfl
          have c2_3 : w12.cell? ⟨g0, 3, none⟩ = some (.int .i64 K3) := (L.out.bx 2 _ rfl).c 3 rfl
          have c2_4 : w12.cell? ⟨g0, 4, none⟩ = some (.int .i64 K4) := (L.out.bx 2 _ rfl).c 4 rfl
          have c2_5 : w12.cell? ⟨g0, 5, none⟩ = some (.int .i64 K5) := (L.out.bx 2 _ rfl).c 5 rfl
          have c2_6 : w12.cell? ⟨g0, 6, none⟩ = some (.int .i64 K6) := (L.out.bx 2 _ rfl).c 6 rfl
          have c2_7 : w12.cell? ⟨g0, 7, none⟩ = some (.slice Aw NR cw) := (L.out.bx 2 _ rfl).c 7 rfl
          go_wp2_with fail
          refine (eqFrame_self K0 K1 K2 K3 K4 K5 K6 _ _ NR _ _ R _ HH.out.reads WR.out.reads hng).mono ?_
          rintro e w13 ⟨rfl, hb⟩
          replace L := Lib.hid (L.out.next hb)
          replace WR := Lib.hid (WR.out.next hb)
          replace GR := Lib.hid (GR.out.next hb)
          replace HH := Lib.hid (HH.out.next hb)
          clear c5_0 c5_1 c5_2 c5_3 c5_4 c5_5 c5_6 c5_7 c2_0 c2_1 c2_2 c2_3 c2_4 c2_5 c2_6 c2_7
          clear hb
          have c4_0 : w13.cell? ⟨g1, 0, none⟩ = some (.int .i64 K0) := (L.out.bx 4 _ rfl).c 0 rfl
          have c4_1 : w13.cell? ⟨g1, 1, none⟩ = some (.int .i64 K1) := (L.out.bx 4 _ rfl).c 1 rfl
          have c4_2 : w13.cell? ⟨g1, 2, none⟩ = some (.int .i64 K2) := (L.out.bx 4 _ rfl).c 2 rfl
          have c4_3 : w13.cell? ⟨g1, 3, none⟩ = some (.int .i64 K3) := (L.out.bx 4 _ rfl).c 3 rfl
          have c4_4 : w13.cell? ⟨g1, 4, none⟩ = some (.int .i64 K4) := (L.out.bx 4 _ rfl).c 4 rfl
          have c4_5 : w13.cell? ⟨g1, 5, none⟩ = some (.int .i64 K5) := (L.out.bx 4 _ rfl).c 5 rfl
          have c4_6 : w13.cell? ⟨g1, 6, none⟩ = some (.int .i64 K6) := (L.out.bx 4 _ rfl).c 6 rfl
          have c4_7 : w13.cell? ⟨g1, 7, none⟩ = some (.slice Ag NR cg) := (L.out.bx 4 _ rfl).c 7 rfl
          go_wp2_with fail
          refine (heldFr_any K0 K1 K2 K3 K4 K5 K6 _ NR _ 1 _ GR.out.reads hng (by omega) (by omega)).mono ?_
          rintro e w14 ⟨rfl, hb⟩
          replace L := Lib.hid (L.out.next hb)
          replace WR := Lib.hid (WR.out.next hb)
          replace GR := Lib.hid (GR.out.next hb)
          replace HH := Lib.hid (HH.out.next hb)
          clear c4_0 c4_1 c4_2 c4_3 c4_4 c4_5 c4_6 c4_7
          clear hb
          go_wp2
          go_ret
          exact ⟨rfl, L.out.bel⟩

set_option maxRecDepth 100000 in
theorem contract (H : Type) (enc : TypeId × Value → H) (W : World) (base : Nat) (args : Array Value) (ds gs : List (DataW H)) (before : List MemPlace)
    (hval : ∀ (j : Nat) t v, Tryz.f5.params[j]? = some t → args[j]? = some v → Value.okWide Tryz.prog W .any base t v)
    (hW : DataW.Whole enc Tryz.prog Tryz.f5.params.toList Rows.fnExactFrameForSpec.vars false W args.toList ds gs before) (hL : laidMetH Tryz.prog Rows.fnExactFrameForRow.laid W) (hsh : W.ShapedOpen Tryz.prog) :
    Calls Tryz.prog 5 args W fun e W' => ∃ v, e = .returned v ∧ Rows.fnExactFrameForSpec.post enc Tryz.prog Tryz.f5 false true false false W args v W' := by
  have hW' := hW
  obtain ⟨p, q, hA0, hV, rfl, hfz, hnd⟩ := hW
  have hA : DataW.TrodAll enc Tryz.prog W 0 (fun _ => true) true Tryz.f5.params.toList args.toList ds p := hA0
  rw [Tryz.params5] at hA hval
  obtain ⟨v0, vs0, d0, ds0, p0, q0, hargs, rfl, rfl, h0, r0⟩ := trodAll_cons hA
  obtain ⟨v1, vs1, d1, ds1, p1, q1, rfl, rfl, rfl, h1, r1⟩ := trodAll_cons r0
  obtain ⟨v2, vs2, d2, ds2, p2, q2, rfl, rfl, rfl, h2, r2⟩ := trodAll_cons r1
  obtain ⟨v3, vs3, d3, ds3, p3, q3, rfl, rfl, rfl, h3, r3⟩ := trodAll_cons r2
  obtain ⟨rfl, rfl, rfl⟩ := trodAll_nil r3
  obtain rfl : args = #[v0, v1, v2, v3] := by cases args; simp_all
  obtain ⟨m0, M0, rfl, hx0⟩ := arg_medl (hval 0 26 v0 rfl rfl) h0
  obtain ⟨t1, md1, rn1, sl1, mb1, rfl, wf1⟩ := arg_state (hval 1 28 v1 rfl rfl) h1
  obtain ⟨a2, rfl, _, _, wf2⟩ := open_int Tryz.underlying2 (hval 2 2 v2 rfl rfl) h2
  obtain ⟨a3, rfl, _, _, wf3⟩ := open_int Tryz.underlying2 (hval 3 2 v3 rfl rfl) h3
  refine (walk W m0 M0 hx0 t1 md1 rn1 sl1 mb1 wf1 a2 (I64_of_wf wf2) a3 (I64_of_wf wf3) (Lm_table hL hsh)).mono fun e W' ⟨he, hb⟩ => ?_
  subst he
  exact ⟨_, rfl, law_post laidOut (by
    rw [show Tryz.f5.params.toList = [26, 28, 2, 2] from rfl]
    intro t ht
    simp only [List.mem_cons, List.not_mem_nil, or_false] at ht
    rcases ht with rfl | rfl | rfl | rfl <;> exact ⟨by kernel_rfl, of_decide_eq_true (by kernel_rfl)⟩) rfl Tryz.underlying4 rfl rfl hW' hb⟩

theorem laid_met (os : Os) : laidMetH Tryz.prog Rows.fnExactFrameForRow.laid ((LmWorld os).forCall (fun _ _ => 0) ⟨#[], #[.agg #[.int .i64 0, .slice none 0 0, .slice none 0 0, .slice none 0 0], .agg #[.int .i64 0, .int .i64 0, .int .i64 0, .int .i64 0, .int .i64 0], .int .i64 0, .int .i64 0], []⟩).memory :=
  Lm_met os _
theorem reads (os : Os) {H : Type} (enc : TypeId × Value → H) : ∃ places, DataW.whole enc Tryz.prog ((LmWorld os).forCall (fun _ _ => 0) ⟨#[], #[.agg #[.int .i64 0, .slice none 0 0, .slice none 0 0, .slice none 0 0], .agg #[.int .i64 0, .int .i64 0, .int .i64 0, .int .i64 0, .int .i64 0], .int .i64 0, .int .i64 0], []⟩).memory Tryz.f5.params.toList Rows.fnExactFrameForSpec.vars false #[(.agg #[.int .i64 0, .slice none 0 0, .slice none 0 0, .slice none 0 0] : Value), (.agg #[.int .i64 0, .int .i64 0, .int .i64 0, .int .i64 0, .int .i64 0] : Value), (.int .i64 0 : Value), (.int .i64 0 : Value)].toList 8 = some ([.agg [.lit (.int .i64 0), .nil, .nil, .nil], .agg [.lit (.int .i64 0), .lit (.int .i64 0), .lit (.int .i64 0), .lit (.int .i64 0), .lit (.int .i64 0)], .lit (.int .i64 0), .lit (.int .i64 0)], [], places) :=
  ⟨[], by kernel_rfl⟩

set_option maxRecDepth 100000 in
theorem lifted (os : Os) (started : os.Started) (H : Type) (enc : TypeId × Value → H) (F : Stop.Interp) :
    ReturnsInHanded {} Tryz.checked os 5 .any ((OpenSpec.ofChange Rows.fnExactFrameForSpec).preRow enc Tryz.prog Tryz.f5 Rows.fnExactFrameForRow.domain false Rows.fnExactFrameForRow.laid) (((OpenSpec.ofChange Rows.fnExactFrameForSpec).at F).post enc Tryz.prog Tryz.f5 false true false false) := by
  obtain ⟨places, hx⟩ := reads os enc
  refine returnsInHanded_of_row (C := Tryz.checked) (s := OpenSpec.ofChange Rows.fnExactFrameForSpec) own started (by kernel_rfl) Tryz.func5
    (Lm_witness (enc := enc) (C := Tryz.checked) false (LmWorld os) #[.agg #[.int .i64 0, .slice none 0 0, .slice none 0 0, .slice none 0 0], .agg #[.int .i64 0, .int .i64 0, .int .i64 0, .int .i64 0, .int .i64 0], .int .i64 0, .int .i64 0] rfl (by kernel_rfl) (by kernel_rfl) (by kernel_rfl)
      (OpenSpec.preRow_of_cond 8 hx (by kernel_rfl) (fun k hk => by cases hk) (by kernel_rfl) (laid_met os))) ?_
  intro W base args ds gs before hval hW _ _ _ hL hsh _
  exact contract H enc W base args ds gs before hval hW hL hsh

theorem said : Rows.FnExactFrameForSaid :=
  OpenClaim.holds_of_cond 5 Tryz.f5 rfl rfl rfl rfl rfl rfl rfl ⟨rfl, rfl, rfl, rfl, rfl⟩ rfl rfl rfl rfl rfl (by kernel_rfl) Tryz.func5 (by kernel_rfl)
    (of_decide_eq_true (by kernel_rfl)) (by unfold Func.isWrapper; first | (rw [if_pos (by decide +kernel)]; kernel_rfl) | (rw [if_neg (by decide +kernel)]; exact ⟨rfl, rfl⟩))
    (fun os started H enc _ F => by rw [OpenClaim.pre_eq_preRow]; exact lifted os started H enc F)

theorem plain (f : FuncId) (fn : Func) (hf : Tryz.pinned.checked.prog.funcNamed Rows.fnExactFrameForRow.func = some f) (hfn : Tryz.pinned.checked.prog.funcs[f]? = some fn) :
    false = Tryz.pinned.checked.prog.looks [] ∧ ∀ (j : Nat) t, fn.params[j]? = some t → Tryz.pinned.checked.prog.wantsStandIn t = false := by
  obtain rfl : f = 5 := Option.some.inj ((show Tryz.prog.funcNamed Rows.fnExactFrameForRow.func = some 5 by kernel_rfl).symm.trans hf) |>.symm
  obtain rfl : fn = Tryz.f5 := (Option.some.inj (Tryz.func5.symm.trans hfn)).symm
  refine ⟨by kernel_rfl, fun j t ht => ?_⟩
  rw [Tryz.params5] at ht
  have hm := Array.mem_of_getElem? ht
  have ho : t = 26 ∨ t = 28 ∨ t = 2 ∨ t = 2 := by simpa using hm
  rcases ho with rfl | rfl | rfl | rfl
  · exact (show Tryz.prog.wantsStandIn 26 = false by kernel_rfl)
  · exact (show Tryz.prog.wantsStandIn 28 = false by kernel_rfl)
  · exact (show Tryz.prog.wantsStandIn 2 = false by kernel_rfl)
  · exact (show Tryz.prog.wantsStandIn 2 = false by kernel_rfl)

theorem card : Rows.FnExactFrameForCardSaid :=
  Claim7.holds_tied_plain_at .later [] _ _ _ _ said (fun _ h => by cases h) (by kernel_rfl) (fun _ h => by cases h) fnExactFrameFor_row_tie rfl ⟨rfl, rfl⟩ (by kernel_rfl) rfl plain (by kernel_rfl)
end FrameFor
end Go.Proofs.YtlmmhnddlmgaiaaGreatDoor
