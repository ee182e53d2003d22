/- FnExactSilentSlot: the program's SilentSlot returns what the reference's returns, for all arguments. Conditions: the card's listed variables, as it ties them. -/
import Derived.Test.YtlmmhnddlmgaiaaGreatDoorB12
import Derived.Test.YtlmmhnddlmgaiaaGreatDoorB15
import Derived.Test.YtlmmhnddlmgaiaaGreatDoorB14
import Derived.Test.YtlmmhnddlmgaiaaGreatDoorB11
import Derived.Deep.RegionHeldLaw
import Derived.Deep.DeepCutAuto
namespace Go.Proofs.YtlmmhnddlmgaiaaGreatDoor
open Go.ChangeShapes Go.WideShapes Go.ChangeAt Go.RowKit
namespace SilentSlot
set_option maxRecDepth 200000 in
set_option maxHeartbeats 40000000 in
theorem walk (w : World) (m : Mdv) (M : Mdl) (hx : MX w m M) (t md rn sl mb : Int) (_ : I64 t ∧ I64 md ∧ I64 rn ∧ I64 sl ∧ I64 mb) (_ : True) :
    Calls Tryz.prog 4 #[.agg #[.int .i64 m.id, .slice m.An m.nn m.cn, .slice m.Am m.nm m.cm, .slice m.As m.ns m.cs], .agg #[.int .i64 t, .int .i64 md, .int .i64 rn, .int .i64 sl, .int .i64 mb]] w fun e w' => e = .returned (.bool true) ∧ Below w.heap.size w w' := by
  obtain ⟨w0, hw0⟩ : ∃ v, v = (w.alloc (.cells #[.int .i64 m.id, .slice m.An m.nn m.cn, .slice m.Am m.nm m.cm, .slice m.As m.ns m.cs] 26)).alloc (.cells #[.int .i64 t, .int .i64 md, .int .i64 rn, .int .i64 sl, .int .i64 mb] 28) := ⟨_, rfl⟩
  have k0 : BlkL w0 (w.heap.size) 26 [.int .i64 m.id, .slice m.An m.nn m.cn, .slice m.Am m.nm m.cm, .slice m.As m.ns m.cs] := by rw [hw0]; exact (BlkL.new _ _ _ (by simp)).alloc _
  have k1 : BlkL w0 (w.heap.size + 1) 28 [.int .i64 t, .int .i64 md, .int .i64 rn, .int .i64 sl, .int .i64 mb] := by rw [hw0]; exact BlkL.new _ _ _ (by simp)
  have gb : Below w.heap.size w w0 := by rw [hw0]; go_grown
  have L := Lib.hid ((LW.one gb k0).snoc k1)
  clear k0 k1
  go_enter Tryz.func4, Tryz.ntmps4
  go_wp2_with fail
  rw [← hw0]
  clear hw0
  refine (szMedl_any m M 1048576 _ (hx.rn.up gb) (hx.rm.up gb) hx.bn hx.bm hx.bs hx.nm (by omega) (by omega)).mono ?_
  rintro e w1 ⟨v1, rfl, hv1, hb1⟩
  clear gb
  replace L := Lib.hid (L.out.next hb1)
  clear hb1
  rcases hv1 with rfl | ⟨p1, p2, p3, p4, p5, p6, p7⟩
  · go_wp2
    go_ret
    exact ⟨rfl, L.out.bel⟩
  have P6 := Lib.hid p6
  have P7 := Lib.hid p7
  clear p6 p7
  have hR : RD w w.heap.size m M := ⟨hx.id, hx.rn, hx.rm, hx.rs, by omega, by omega, by omega⟩
  have hX7 : ∀ i, i < m.nm → (ge M.ms i).nx.length ≤ 1099511627776 := fun i hi => by have := P7.out i hi; omega
  have hX8 : ∀ i, i < m.nm → (ge M.ms i).nx.length ≤ 1048576 := fun i hi => by have := P7.out i hi; omega
  have hX6 : ∀ i, i < m.nn → (ge M.ns i).nm.size ≤ 1099511627776 := fun i hi => by have := P6.out i hi; omega
  have q3 : m.nn ≤ 1048576 := by omega
  have q4 : m.nm ≤ 1048576 := by omega
  have q5 : m.ns ≤ 1048576 := by omega
  have HX6 := Lib.hid hX6
  have HX7 := Lib.hid hX7
  have HX8 := Lib.hid hX8
  have HR := Lib.hid hR
  clear hX6 hX7 hX8 hR hx P6 P7 p2 p3 p4 p5
  obtain ⟨R, hR⟩ : ∃ x, silL M t md rn sl mb = x := ⟨_, rfl⟩
  obtain ⟨CD, hCD⟩ : ∃ x, codeM M t md rn sl mb = x := ⟨_, rfl⟩
  have hRl : R.length ≤ 1099511627776 := by rw [← hR]; exact Nat.le_trans (silL_len M t md rn sl mb) (by omega)
  have hHS := fun (u : World) (m' : Mdv) (hrd : RD u u.heap.size m' M) (hx' : RX m' M) => sSilent_any m' M t md rn sl mb u hrd hx'
  rw [hR, hCD] at hHS
  have HS := Lib.hid hHS
  clear hHS
  have hHI := fun (u : World) (m' : Mdv) (hrd : RD u u.heap.size m' M) (hx' : RX m' M) => iSilent_any m' M t md rn sl mb u hrd hx'
  rw [hR, hCD] at hHI
  have HI := Lib.hid hHI
  clear hHI
  clear hR hCD
  go_upto_region 5 with fail
  have hV : Below w1.heap.size w1 w1.drew := (Below.refl _ _).drew
  have hcells : ∀ u, Below w1.heap.size w1 u → (Below w1.heap.size w1 u ∧ u.cell? ⟨w.heap.size, 0, none⟩ = some (.int .i64 m.id) ∧ u.cell? ⟨w.heap.size, 1, none⟩ = some (.slice m.An m.nn m.cn) ∧ u.cell? ⟨w.heap.size, 2, none⟩ = some (.slice m.Am m.nm m.cm) ∧ u.cell? ⟨w.heap.size, 3, none⟩ = some (.slice m.As m.ns m.cs) ∧ u.cell? ⟨w.heap.size + 1, 0, none⟩ = some (.int .i64 t) ∧ u.cell? ⟨w.heap.size + 1, 1, none⟩ = some (.int .i64 md) ∧ u.cell? ⟨w.heap.size + 1, 2, none⟩ = some (.int .i64 rn) ∧ u.cell? ⟨w.heap.size + 1, 3, none⟩ = some (.int .i64 sl) ∧ u.cell? ⟨w.heap.size + 1, 4, none⟩ = some (.int .i64 mb)) := fun u hu => ⟨hu, ((L.out.bx 0 _ rfl).next hu).c 0 rfl, ((L.out.bx 0 _ rfl).next hu).c 1 rfl, ((L.out.bx 0 _ rfl).next hu).c 2 rfl, ((L.out.bx 0 _ rfl).next hu).c 3 rfl, ((L.out.bx 1 _ rfl).next hu).c 0 rfl, ((L.out.bx 1 _ rfl).next hu).c 1 rfl, ((L.out.bx 1 _ rfl).next hu).c 2 rfl, ((L.out.bx 1 _ rfl).next hu).c 3 rfl, ((L.out.bx 1 _ rfl).next hu).c 4 rfl⟩
  have HC := Lib.hid hcells
  clear hcells
  have HTM := Lib.hid (fun u (hu : Below w1.heap.size w1 u) => toMedl_any m M u (HR.out.up (below_next hu L.out.bel (Nat.le_refl _))) HX7.out)
  have HTS := Lib.hid (fun u => toState_any t md rn sl mb u)
  go_cut [6, 7] (fun v6 v7 wc => ∃ A n c, v6 = .slice A n c ∧ v7 = .int .i64 CD ∧ OwnI 2 wc w1.heap.size A n c R ∧ Below w1.heap.size w1 wc)
  case first =>
    go_region_held_law (fun u => Below w1.heap.size w1 u ∧ u.cell? ⟨w.heap.size, 0, none⟩ = some (.int .i64 m.id) ∧ u.cell? ⟨w.heap.size, 1, none⟩ = some (.slice m.An m.nn m.cn) ∧ u.cell? ⟨w.heap.size, 2, none⟩ = some (.slice m.Am m.nm m.cm) ∧ u.cell? ⟨w.heap.size, 3, none⟩ = some (.slice m.As m.ns m.cs) ∧ u.cell? ⟨w.heap.size + 1, 0, none⟩ = some (.int .i64 t) ∧ u.cell? ⟨w.heap.size + 1, 1, none⟩ = some (.int .i64 md) ∧ u.cell? ⟨w.heap.size + 1, 2, none⟩ = some (.int .i64 rn) ∧ u.cell? ⟨w.heap.size + 1, 3, none⟩ = some (.int .i64 sl) ∧ u.cell? ⟨w.heap.size + 1, 4, none⟩ = some (.int .i64 mb)) (first | (with_reducible exact HC.out _ hV) | (with_reducible refine HC.out _ ?_; with_reducible assumption) | (with_reducible refine HC.out _ ?_; go_grown)) (first
      | (go_at_call 12; (have hgv : Below w1.heap.size w1 _ := And.left (‹Below w1.heap.size w1 _ ∧ _›)); (with_reducible refine (HTM.out _ hgv).mono ?_); rintro e cc ⟨A1, c1, A2, c2, A3, c3, rfl, hRD, hcap, hb⟩; (have hv := below_next hb hgv (Nat.le_refl _)); (try (replace HRI := Lib.hid (HRI.out.up hb))); have HRD := Lib.hid hRD; have HCP := Lib.hid hcap; clear hRD hcap hgv hb)
      | (go_at_call 13; (have hgv : Below w1.heap.size w1 _ := And.left (‹Below w1.heap.size w1 _ ∧ _›)); (with_reducible refine (HTS.out _).mono ?_); rintro e cc ⟨rfl, hb⟩; (have hv := below_next hb hgv (Nat.le_refl _)); (try (replace HRD := Lib.hid (HRD.out.up hb))); (try (replace HRI := Lib.hid (HRI.out.up hb))); clear hgv hb)
      | (go_at_call 18; (have hgv : Below w1.heap.size w1 _ := And.left (‹Below w1.heap.size w1 _ ∧ _›)); (refine (HS.out _ ⟨m.id, A1, m.nn, c1, A2, m.nm, c2, A3, m.ns, c3⟩ HRD.out ⟨HX6.out, HX7.out, HCP.out⟩).mono ?_); rintro e cc ⟨A, n, c, rfl, hown, hb⟩; (have hv := below_next hb hgv (Nat.le_refl _)); have HOW := Lib.hid (hown.weaken hgv.size); clear hown; have HV9 := Lib.hid hv; clear hgv hb))
    all_goals
      go_wp2_with fail
      go_meet
      exact ⟨_, _, _, rfl, rfl, HOW.out, HV9.out⟩
  case rest =>
    clear HC hV HTM HTS
    obtain ⟨An0, nn0, cn0, rfl, rfl, how, hbc⟩ := hcut
    obtain ⟨w2, hw9⟩ : ∃ v, v = wc := ⟨_, rfl⟩
    rw [← hw9] at how hbc ⊢
    clear hw9
    replace L := Lib.hid (L.out.next hbc)
    have WR := Lib.hid (Rw.of how)
    have z1 := hbc.size
    have z0 := L.out.bel.size
    have y1 := (L.out.bx 1 _ rfl).lt
    clear how hbc
    have hnw : nn0 ≤ 1099511627776 := by rw [← WR.out.len]; exact hRl
    have c0_0 : w2.cell? ⟨w.heap.size, 0, none⟩ = some (.int .i64 m.id) := (L.out.bx 0 _ rfl).c 0 rfl
    have c0_1 : w2.cell? ⟨w.heap.size, 1, none⟩ = some (.slice m.An m.nn m.cn) := (L.out.bx 0 _ rfl).c 1 rfl
    have c0_2 : w2.cell? ⟨w.heap.size, 2, none⟩ = some (.slice m.Am m.nm m.cm) := (L.out.bx 0 _ rfl).c 2 rfl
    have c0_3 : w2.cell? ⟨w.heap.size, 3, none⟩ = some (.slice m.As m.ns m.cs) := (L.out.bx 0 _ rfl).c 3 rfl
    go_wp2_with fail
    refine (toMedl_own m M _ (HR.out.up L.out.bel) HX7.out).mono ?_
    rintro e w3 ⟨A1, c1, A2, c2, A3, c3, rfl, hRD, hcap, hb3, hn1, hn2, hn3⟩
    have XR := Lib.hid hRD
    have XO := Lib.hid (MO.of (id := m.id) hn1 hn2 hn3 HX8.out)
    have HCX := Lib.hid hcap
    replace L := Lib.hid (L.out.next hb3)
    replace WR := Lib.hid (WR.out.next hb3)
    clear c0_0 c0_1 c0_2 c0_3
    have z2 := hb3.size
    clear hRD hcap hb3 hn1 hn2 hn3
    obtain ⟨w4, hw4⟩ : ∃ v, v = w3.alloc (.cells #[.int .i64 m.id, .slice A1 m.nn c1, .slice A2 m.nm c2, .slice A3 m.ns c3] 39) := ⟨_, rfl⟩
    have kx : BlkL w4 w3.heap.size 39 [.int .i64 m.id, .slice A1 m.nn c1, .slice A2 m.nm c2, .slice A3 m.ns c3] := by rw [hw4]; exact BlkL.new _ _ _ rfl
    have hb4 : Below w3.heap.size w3 w4 := by rw [hw4]; go_grown
    have z3 : w3.heap.size < w4.heap.size := kx.lt
    replace L := Lib.hid (L.out.next hb4)
    replace WR := Lib.hid (WR.out.next hb4)
    replace XO := Lib.hid (XO.out.next hb4)
    replace XR := Lib.hid (XR.out.up hb4)
    replace L := Lib.hid (L.out.snoc kx)
    clear kx hb4
    go_upto_region 7 with fail
    rw [← hw4]
    clear hw4
    have hV : Below w4.heap.size w4 w4.drew := (Below.refl _ _).drew
    have hcells : ∀ u, Below w4.heap.size w4 u → (Below w4.heap.size w4 u ∧ u.cell? ⟨w3.heap.size, 0, none⟩ = some (.int .i64 m.id) ∧ u.cell? ⟨w3.heap.size, 1, none⟩ = some (.slice A1 m.nn c1) ∧ u.cell? ⟨w3.heap.size, 2, none⟩ = some (.slice A2 m.nm c2) ∧ u.cell? ⟨w3.heap.size, 3, none⟩ = some (.slice A3 m.ns c3) ∧ u.cell? ⟨w.heap.size + 1, 0, none⟩ = some (.int .i64 t) ∧ u.cell? ⟨w.heap.size + 1, 1, none⟩ = some (.int .i64 md) ∧ u.cell? ⟨w.heap.size + 1, 2, none⟩ = some (.int .i64 rn) ∧ u.cell? ⟨w.heap.size + 1, 3, none⟩ = some (.int .i64 sl) ∧ u.cell? ⟨w.heap.size + 1, 4, none⟩ = some (.int .i64 mb)) := fun u hu => ⟨hu, ((L.out.bx 2 _ rfl).next hu).c 0 rfl, ((L.out.bx 2 _ rfl).next hu).c 1 rfl, ((L.out.bx 2 _ rfl).next hu).c 2 rfl, ((L.out.bx 2 _ rfl).next hu).c 3 rfl, ((L.out.bx 1 _ rfl).next hu).c 0 rfl, ((L.out.bx 1 _ rfl).next hu).c 1 rfl, ((L.out.bx 1 _ rfl).next hu).c 2 rfl, ((L.out.bx 1 _ rfl).next hu).c 3 rfl, ((L.out.bx 1 _ rfl).next hu).c 4 rfl⟩
    have HC := Lib.hid hcells
    clear hcells
    have HTS := Lib.hid (fun u => toState_any t md rn sl mb u)
    go_cut [9, 10] (fun v9 v10 wc => ∃ A n c, v9 = .slice A n c ∧ v10 = .int .i64 CD ∧ OwnI 2 wc w4.heap.size A n c R ∧ Below w4.heap.size w4 wc)
    case first =>
      go_region_held_law (fun u => Below w4.heap.size w4 u ∧ u.cell? ⟨w3.heap.size, 0, none⟩ = some (.int .i64 m.id) ∧ u.cell? ⟨w3.heap.size, 1, none⟩ = some (.slice A1 m.nn c1) ∧ u.cell? ⟨w3.heap.size, 2, none⟩ = some (.slice A2 m.nm c2) ∧ u.cell? ⟨w3.heap.size, 3, none⟩ = some (.slice A3 m.ns c3) ∧ u.cell? ⟨w.heap.size + 1, 0, none⟩ = some (.int .i64 t) ∧ u.cell? ⟨w.heap.size + 1, 1, none⟩ = some (.int .i64 md) ∧ u.cell? ⟨w.heap.size + 1, 2, none⟩ = some (.int .i64 rn) ∧ u.cell? ⟨w.heap.size + 1, 3, none⟩ = some (.int .i64 sl) ∧ u.cell? ⟨w.heap.size + 1, 4, none⟩ = some (.int .i64 mb)) (first | (with_reducible exact HC.out _ hV) | (with_reducible refine HC.out _ ?_; with_reducible assumption) | (with_reducible refine HC.out _ ?_; go_grown)) (first
        | (go_at_call 13; (have hgv : Below w4.heap.size w4 _ := And.left (‹Below w4.heap.size w4 _ ∧ _›)); (with_reducible refine (HTS.out _).mono ?_); rintro e cc ⟨rfl, hb⟩; (have hv := below_next hb hgv (Nat.le_refl _)); (try (replace HRD := Lib.hid (HRD.out.up hb))); (try (replace HRI := Lib.hid (HRI.out.up hb))); clear hgv hb)
        | (go_at_call 19; (have hgv : Below w4.heap.size w4 _ := And.left (‹Below w4.heap.size w4 _ ∧ _›)); (refine (HI.out _ ⟨m.id, A1, m.nn, c1, A2, m.nm, c2, A3, m.ns, c3⟩ (XR.out.up hgv) ⟨HX6.out, HX7.out, HCX.out⟩).mono ?_); rintro e cc ⟨A, n, c, rfl, hown, hb⟩; (have hv := below_next hb hgv (Nat.le_refl _)); have HOW := Lib.hid (hown.weaken hgv.size); clear hown; have HV9 := Lib.hid hv; clear hgv hb))
      all_goals
        go_wp2_with fail
        go_meet
        exact ⟨_, _, _, rfl, rfl, HOW.out, HV9.out⟩
    case rest =>
      clear HC hV HTS
      obtain ⟨Ag, ng, cg, rfl, rfl, how, hbc⟩ := hcut
      obtain ⟨w5, hw9⟩ : ∃ v, v = wc := ⟨_, rfl⟩
      rw [← hw9] at how hbc ⊢
      clear hw9
      replace L := Lib.hid (L.out.next hbc)
      replace WR := Lib.hid (WR.out.next hbc)
      replace XO := Lib.hid (XO.out.next hbc)
      replace XR := Lib.hid (XR.out.up hbc)
      have GR := Lib.hid (Rw.of how)
      have z6 := hbc.size
      clear how hbc
      have hng : ng ≤ 1099511627776 := by rw [← GR.out.len]; exact hRl
      go_wp2_with fail
      refine (eqInt64S_any _ _ _ _ _ _ R R _ GR.out.reads WR.out.reads hng hnw).mono ?_
      rw [eqI_self]
      rintro e w6 ⟨rfl, hb⟩
      replace L := Lib.hid (L.out.next hb)
      replace WR := Lib.hid (WR.out.next hb)
      replace XO := Lib.hid (XO.out.next hb)
      replace XR := Lib.hid (XR.out.up hb)
      replace GR := Lib.hid (GR.out.next hb)
      clear hb
      go_upto_region 10 with fail
      have hV : Below w6.heap.size w6 w6.drew := (Below.refl _ _).drew
      have hcells : ∀ u, Below w6.heap.size w6 u → (Below w6.heap.size w6 u ∧ u.cell? ⟨w3.heap.size, 0, none⟩ = some (.int .i64 m.id) ∧ u.cell? ⟨w3.heap.size, 1, none⟩ = some (.slice A1 m.nn c1) ∧ u.cell? ⟨w3.heap.size, 2, none⟩ = some (.slice A2 m.nm c2) ∧ u.cell? ⟨w3.heap.size, 3, none⟩ = some (.slice A3 m.ns c3) ∧ u.cell? ⟨w.heap.size, 0, none⟩ = some (.int .i64 m.id) ∧ u.cell? ⟨w.heap.size, 1, none⟩ = some (.slice m.An m.nn m.cn) ∧ u.cell? ⟨w.heap.size, 2, none⟩ = some (.slice m.Am m.nm m.cm) ∧ u.cell? ⟨w.heap.size, 3, none⟩ = some (.slice m.As m.ns m.cs)) := fun u hu => ⟨hu, ((L.out.bx 2 _ rfl).next hu).c 0 rfl, ((L.out.bx 2 _ rfl).next hu).c 1 rfl, ((L.out.bx 2 _ rfl).next hu).c 2 rfl, ((L.out.bx 2 _ rfl).next hu).c 3 rfl, ((L.out.bx 0 _ rfl).next hu).c 0 rfl, ((L.out.bx 0 _ rfl).next hu).c 1 rfl, ((L.out.bx 0 _ rfl).next hu).c 2 rfl, ((L.out.bx 0 _ rfl).next hu).c 3 rfl⟩
      have HC := Lib.hid hcells
      clear hcells
      have HTM := Lib.hid (fun u (hu : Below w6.heap.size w6 u) => toMedl_any m M u (HR.out.up (below_next hu L.out.bel (Nat.le_refl _))) HX7.out)
      go_cut [51] (fun v wc => v = .bool false ∧ Below w6.heap.size w6 wc)
      case first =>
        go_region_held_law (fun u => Below w6.heap.size w6 u ∧ u.cell? ⟨w3.heap.size, 0, none⟩ = some (.int .i64 m.id) ∧ u.cell? ⟨w3.heap.size, 1, none⟩ = some (.slice A1 m.nn c1) ∧ u.cell? ⟨w3.heap.size, 2, none⟩ = some (.slice A2 m.nm c2) ∧ u.cell? ⟨w3.heap.size, 3, none⟩ = some (.slice A3 m.ns c3) ∧ u.cell? ⟨w.heap.size, 0, none⟩ = some (.int .i64 m.id) ∧ u.cell? ⟨w.heap.size, 1, none⟩ = some (.slice m.An m.nn m.cn) ∧ u.cell? ⟨w.heap.size, 2, none⟩ = some (.slice m.Am m.nm m.cm) ∧ u.cell? ⟨w.heap.size, 3, none⟩ = some (.slice m.As m.ns m.cs)) (first | (with_reducible exact HC.out _ hV) | (with_reducible refine HC.out _ ?_; with_reducible assumption) | (with_reducible refine HC.out _ ?_; go_grown)) (first
          | (go_at_call 12; (have hgv : Below w6.heap.size w6 _ := And.left (‹Below w6.heap.size w6 _ ∧ _›)); (with_reducible refine (HTM.out _ hgv).mono ?_); rintro e cc ⟨B1, d1, B2, d2, B3, d3, rfl, hRD, hcap, hb⟩; (have hv := below_next hb hgv (Nat.le_refl _)); (try (replace HRI := Lib.hid (HRI.out.up hb))); have HRD := Lib.hid hRD; have HCP := Lib.hid hcap; clear hRD hcap hgv hb)
          | (go_at_call 16; (have hgv : Below w6.heap.size w6 _ := And.left (‹Below w6.heap.size w6 _ ∧ _›)); (refine (eqMedl_self ⟨m.id, A1, m.nn, c1, A2, m.nm, c2, A3, m.ns, c3⟩ ⟨m.id, B1, m.nn, d1, B2, m.nm, d2, B3, m.ns, d3⟩ M _ (XR.out.up hgv) HRD.out HX7.out).mono ?_); rintro e cc ⟨rfl, hb⟩; (have hv := below_next hb hgv (Nat.le_refl _)); have HV9 := Lib.hid hv; clear hgv hb))
        all_goals
          go_wp2_with fail
          go_meet
          exact ⟨rfl, HV9.out⟩
      case rest =>
        clear HC hV HTM
        obtain ⟨rfl, hbc⟩ := hcut
        obtain ⟨w7, hw9⟩ : ∃ v, v = wc := ⟨_, rfl⟩
        rw [← hw9] at hbc ⊢
        clear hw9
        replace L := Lib.hid (L.out.next hbc)
        replace WR := Lib.hid (WR.out.next hbc)
        replace XO := Lib.hid (XO.out.next hbc)
        replace XR := Lib.hid (XR.out.up hbc)
        replace GR := Lib.hid (GR.out.next hbc)
        clear hbc
        have c2_0 : w7.cell? ⟨w3.heap.size, 0, none⟩ = some (.int .i64 m.id) := (L.out.bx 2 _ rfl).c 0 rfl
        have c2_1 : w7.cell? ⟨w3.heap.size, 1, none⟩ = some (.slice A1 m.nn c1) := (L.out.bx 2 _ rfl).c 1 rfl
        have c2_2 : w7.cell? ⟨w3.heap.size, 2, none⟩ = some (.slice A2 m.nm c2) := (L.out.bx 2 _ rfl).c 2 rfl
        have c2_3 : w7.cell? ⟨w3.heap.size, 3, none⟩ = some (.slice A3 m.ns c3) := (L.out.bx 2 _ rfl).c 3 rfl
        have zz := (XO.out.next (Below.refl _ _))
        clear zz
        go_wp2_with fail
        have hsx : w3.heap.size ≤ w7.heap.size := by have := (L.out.bx 2 _ rfl).lt; omega
        refine (markMedl_any ⟨m.id, A1, m.nn, c1, A2, m.nm, c2, A3, m.ns, c3⟩ w2.heap.size w3.heap.size 1 _ XO.out hsx q3 q4 q5 (by omega) (by omega)).mono ?_
        rintro e w8 ⟨kv, rfl, hk0, hk1, hmk⟩
        clear c2_0 c2_1 c2_2 c2_3
        replace L := Lib.hid (L.out.mkb hmk (by omega) (fun i b e => by match i, e with | 0, e => (obtain rfl := Option.some.inj e; left; show w.heap.size < w2.heap.size; omega) | 1, e => (obtain rfl := Option.some.inj e; left; show w.heap.size + 1 < w2.heap.size; omega) | 2, e => (obtain rfl := Option.some.inj e; right; show w3.heap.size ≤ w3.heap.size; omega) | i + 3, e => simp at e))
        replace WR := Lib.hid (WR.out.mkb hmk (by omega))
        replace GR := Lib.hid (GR.out.mkb hmk (by omega))
        clear hmk XO XR HCX hsx
        go_wp2_with fail
        refine (eqInt64S_any _ _ _ _ _ _ R R _ GR.out.reads WR.out.reads hng hnw).mono ?_
        rw [eqI_self]
        rintro e w9 ⟨rfl, hb⟩
        replace L := Lib.hid (L.out.next hb)
        replace WR := Lib.hid (WR.out.next hb)
        replace GR := Lib.hid (GR.out.next hb)
        clear hb
        go_wp2_with fail
        refine (markInt64S_any _ _ _ _ R 1 _ GR.out.own hng (by omega) (by omega)).mono ?_
        rintro e w10 ⟨rfl, hown, hg⟩
        have hmm := GR.out.marked hg hown
        have hmk := hmm.1
        clear hg hown
        replace L := Lib.hid (L.out.mkb hmk (by omega) (fun i b e => by match i, e with | 0, e => (obtain rfl := Option.some.inj e; left; show w.heap.size < w4.heap.size; omega) | 1, e => (obtain rfl := Option.some.inj e; left; show w.heap.size + 1 < w4.heap.size; omega) | 2, e => (obtain rfl := Option.some.inj e; left; show w3.heap.size < w4.heap.size; omega) | i + 3, e => simp at e))
        replace WR := Lib.hid (WR.out.mkb hmk (by omega))
        replace GR := Lib.hid hmm.2
        clear hmm hmk
        go_wp2_with fail
        refine (heldInt64S_any _ _ _ 1 _ GR.out.reads hng (by omega) (by omega)).mono ?_
        rintro e w' ⟨rfl, rfl⟩
        go_upto_region 24 with fail
        have hV : Below w10.heap.size w10 w10.drew := (Below.refl _ _).drew
        have hcells : ∀ u, Below w10.heap.size w10 u → (Below w10.heap.size w10 u ∧ u.cell? ⟨w.heap.size, 0, none⟩ = some (.int .i64 m.id) ∧ u.cell? ⟨w.heap.size, 1, none⟩ = some (.slice m.An m.nn m.cn) ∧ u.cell? ⟨w.heap.size, 2, none⟩ = some (.slice m.Am m.nm m.cm) ∧ u.cell? ⟨w.heap.size, 3, none⟩ = some (.slice m.As m.ns m.cs) ∧ u.cell? ⟨w.heap.size + 1, 0, none⟩ = some (.int .i64 t) ∧ u.cell? ⟨w.heap.size + 1, 1, none⟩ = some (.int .i64 md) ∧ u.cell? ⟨w.heap.size + 1, 2, none⟩ = some (.int .i64 rn) ∧ u.cell? ⟨w.heap.size + 1, 3, none⟩ = some (.int .i64 sl) ∧ u.cell? ⟨w.heap.size + 1, 4, none⟩ = some (.int .i64 mb)) := fun u hu => ⟨hu, ((L.out.bx 0 _ rfl).next hu).c 0 rfl, ((L.out.bx 0 _ rfl).next hu).c 1 rfl, ((L.out.bx 0 _ rfl).next hu).c 2 rfl, ((L.out.bx 0 _ rfl).next hu).c 3 rfl, ((L.out.bx 1 _ rfl).next hu).c 0 rfl, ((L.out.bx 1 _ rfl).next hu).c 1 rfl, ((L.out.bx 1 _ rfl).next hu).c 2 rfl, ((L.out.bx 1 _ rfl).next hu).c 3 rfl, ((L.out.bx 1 _ rfl).next hu).c 4 rfl⟩
        have HC := Lib.hid hcells
        clear hcells
        have HTM := Lib.hid (fun u (hu : Below w10.heap.size w10 u) => toMedl_any m M u (HR.out.up (below_next hu L.out.bel (Nat.le_refl _))) HX7.out)
        have HTS := Lib.hid (fun u => toState_any t md rn sl mb u)
        go_cut [14, 15] (fun v14 v15 wc => ∃ A n c, v14 = .slice A n c ∧ v15 = .int .i64 CD ∧ OwnI 2 wc w10.heap.size A n c R ∧ Below w10.heap.size w10 wc)
        case first =>
          go_region_held_law (fun u => Below w10.heap.size w10 u ∧ u.cell? ⟨w.heap.size, 0, none⟩ = some (.int .i64 m.id) ∧ u.cell? ⟨w.heap.size, 1, none⟩ = some (.slice m.An m.nn m.cn) ∧ u.cell? ⟨w.heap.size, 2, none⟩ = some (.slice m.Am m.nm m.cm) ∧ u.cell? ⟨w.heap.size, 3, none⟩ = some (.slice m.As m.ns m.cs) ∧ u.cell? ⟨w.heap.size + 1, 0, none⟩ = some (.int .i64 t) ∧ u.cell? ⟨w.heap.size + 1, 1, none⟩ = some (.int .i64 md) ∧ u.cell? ⟨w.heap.size + 1, 2, none⟩ = some (.int .i64 rn) ∧ u.cell? ⟨w.heap.size + 1, 3, none⟩ = some (.int .i64 sl) ∧ u.cell? ⟨w.heap.size + 1, 4, none⟩ = some (.int .i64 mb)) (first | (with_reducible exact HC.out _ hV) | (with_reducible refine HC.out _ ?_; with_reducible assumption) | (with_reducible refine HC.out _ ?_; go_grown)) (first
            | (go_at_call 12; (have hgv : Below w10.heap.size w10 _ := And.left (‹Below w10.heap.size w10 _ ∧ _›)); (with_reducible refine (HTM.out _ hgv).mono ?_); rintro e cc ⟨A1, c1, A2, c2, A3, c3, rfl, hRD, hcap, hb⟩; (have hv := below_next hb hgv (Nat.le_refl _)); (try (replace HRI := Lib.hid (HRI.out.up hb))); have HRD := Lib.hid hRD; have HCP := Lib.hid hcap; clear hRD hcap hgv hb)
            | (go_at_call 13; (have hgv : Below w10.heap.size w10 _ := And.left (‹Below w10.heap.size w10 _ ∧ _›)); (with_reducible refine (HTS.out _).mono ?_); rintro e cc ⟨rfl, hb⟩; (have hv := below_next hb hgv (Nat.le_refl _)); (try (replace HRD := Lib.hid (HRD.out.up hb))); (try (replace HRI := Lib.hid (HRI.out.up hb))); clear hgv hb)
            | (go_at_call 19; (have hgv : Below w10.heap.size w10 _ := And.left (‹Below w10.heap.size w10 _ ∧ _›)); (refine (HI.out _ ⟨m.id, A1, m.nn, c1, A2, m.nm, c2, A3, m.ns, c3⟩ HRD.out ⟨HX6.out, HX7.out, HCP.out⟩).mono ?_); rintro e cc ⟨A, n, c, rfl, hown, hb⟩; (have hv := below_next hb hgv (Nat.le_refl _)); have HOW := Lib.hid (hown.weaken hgv.size); clear hown; have HV9 := Lib.hid hv; clear hgv hb))
          all_goals
            go_wp2_with fail
            go_meet
            exact ⟨_, _, _, rfl, rfl, HOW.out, HV9.out⟩
        case rest =>
          clear HC hV HTM HTS
          obtain ⟨Ah, nh, ch, rfl, rfl, how, hbc⟩ := hcut
          obtain ⟨w11, hw9⟩ : ∃ v, v = wc := ⟨_, rfl⟩
          rw [← hw9] at how hbc ⊢
          clear hw9
          replace L := Lib.hid (L.out.next hbc)
          replace WR := Lib.hid (WR.out.next hbc)
          replace GR := Lib.hid (GR.out.next hbc)
          have HH := Lib.hid (Rw.of how)
          clear how hbc
          have hnh : nh ≤ 1099511627776 := by rw [← HH.out.len]; exact hRl
          go_wp2_with fail
          refine (eqInt64S_any _ _ _ _ _ _ R R _ HH.out.reads WR.out.reads hnh hnw).mono ?_
          rw [eqI_self]
          rintro e w12 ⟨rfl, hb⟩
          replace L := Lib.hid (L.out.next hb)
          replace WR := Lib.hid (WR.out.next hb)
          replace GR := Lib.hid (GR.out.next hb)
          replace HH := Lib.hid (HH.out.next hb)
          clear hb
          go_wp2_with fail
          refine (heldInt64S_any _ _ _ 1 _ GR.out.reads hng (by omega) (by omega)).mono ?_
          rintro e w' ⟨rfl, rfl⟩
          go_wp2
          go_ret
          exact ⟨rfl, L.out.bel⟩

set_option maxRecDepth 100000 in
theorem contract (H : Type) (enc : TypeId × Value → H) (W : World) (base : Nat) (args : Array Value) (ds gs : List (DataW H)) (before : List MemPlace)
    (hval : ∀ (j : Nat) t v, Tryz.f4.params[j]? = some t → args[j]? = some v → Value.okWide Tryz.prog W .any base t v)
    (hW : DataW.Whole enc Tryz.prog Tryz.f4.params.toList Rows.fnExactSilentSlotSpec.vars false W args.toList ds gs before) (hL : laidMetH Tryz.prog Rows.fnExactSilentSlotRow.laid W) (hsh : W.ShapedOpen Tryz.prog) :
    Calls Tryz.prog 4 args W fun e W' => ∃ v, e = .returned v ∧ Rows.fnExactSilentSlotSpec.post enc Tryz.prog Tryz.f4 false true false false W args v W' := by
  have hW' := hW
  obtain ⟨p, q, hA0, hV, rfl, hfz, hnd⟩ := hW
  have hA : DataW.TrodAll enc Tryz.prog W 0 (fun _ => true) true Tryz.f4.params.toList args.toList ds p := hA0
  rw [Tryz.params4] at hA hval
  obtain ⟨v0, vs0, d0, ds0, p0, q0, hargs, rfl, rfl, h0, r0⟩ := trodAll_cons hA
  obtain ⟨v1, vs1, d1, ds1, p1, q1, rfl, rfl, rfl, h1, r1⟩ := trodAll_cons r0
  obtain ⟨rfl, rfl, rfl⟩ := trodAll_nil r1
  obtain rfl : args = #[v0, v1] := by cases args; simp_all
  obtain ⟨m0, M0, rfl, hx0⟩ := arg_medl (hval 0 26 v0 rfl rfl) h0
  obtain ⟨t1, md1, rn1, sl1, mb1, rfl, wf1⟩ := arg_state (hval 1 28 v1 rfl rfl) h1
  refine (walk W m0 M0 hx0 t1 md1 rn1 sl1 mb1 wf1 (Lm_table hL hsh)).mono fun e W' ⟨he, hb⟩ => ?_
  subst he
  exact ⟨_, rfl, law_post laidOut (by
    rw [show Tryz.f4.params.toList = [26, 28] from rfl]
    intro t ht
    simp only [List.mem_cons, List.not_mem_nil, or_false] at ht
    rcases ht with rfl | rfl <;> exact ⟨by kernel_rfl, of_decide_eq_true (by kernel_rfl)⟩) rfl Tryz.underlying4 rfl rfl hW' hb⟩

theorem laid_met (os : Os) : laidMetH Tryz.prog Rows.fnExactSilentSlotRow.laid ((LmWorld os).forCall (fun _ _ => 0) ⟨#[], #[.agg #[.int .i64 0, .slice none 0 0, .slice none 0 0, .slice none 0 0], .agg #[.int .i64 0, .int .i64 0, .int .i64 0, .int .i64 0, .int .i64 0]], []⟩).memory :=
  Lm_met os _
theorem reads (os : Os) {H : Type} (enc : TypeId × Value → H) : ∃ places, DataW.whole enc Tryz.prog ((LmWorld os).forCall (fun _ _ => 0) ⟨#[], #[.agg #[.int .i64 0, .slice none 0 0, .slice none 0 0, .slice none 0 0], .agg #[.int .i64 0, .int .i64 0, .int .i64 0, .int .i64 0, .int .i64 0]], []⟩).memory Tryz.f4.params.toList Rows.fnExactSilentSlotSpec.vars false #[(.agg #[.int .i64 0, .slice none 0 0, .slice none 0 0, .slice none 0 0] : Value), (.agg #[.int .i64 0, .int .i64 0, .int .i64 0, .int .i64 0, .int .i64 0] : Value)].toList 8 = some ([.agg [.lit (.int .i64 0), .nil, .nil, .nil], .agg [.lit (.int .i64 0), .lit (.int .i64 0), .lit (.int .i64 0), .lit (.int .i64 0), .lit (.int .i64 0)]], [], places) :=
  ⟨[], by kernel_rfl⟩

set_option maxRecDepth 100000 in
theorem lifted (os : Os) (started : os.Started) (H : Type) (enc : TypeId × Value → H) (F : Stop.Interp) :
    ReturnsInHanded {} Tryz.checked os 4 .any ((OpenSpec.ofChange Rows.fnExactSilentSlotSpec).preRow enc Tryz.prog Tryz.f4 Rows.fnExactSilentSlotRow.domain false Rows.fnExactSilentSlotRow.laid) (((OpenSpec.ofChange Rows.fnExactSilentSlotSpec).at F).post enc Tryz.prog Tryz.f4 false true false false) := by
  obtain ⟨places, hx⟩ := reads os enc
  refine returnsInHanded_of_row (C := Tryz.checked) (s := OpenSpec.ofChange Rows.fnExactSilentSlotSpec) own started (by kernel_rfl) Tryz.func4
    (Lm_witness (enc := enc) (C := Tryz.checked) false (LmWorld os) #[.agg #[.int .i64 0, .slice none 0 0, .slice none 0 0, .slice none 0 0], .agg #[.int .i64 0, .int .i64 0, .int .i64 0, .int .i64 0, .int .i64 0]] rfl (by kernel_rfl) (by kernel_rfl) (by kernel_rfl)
      (OpenSpec.preRow_of_cond 8 hx (by kernel_rfl) (fun k hk => by cases hk) (by kernel_rfl) (laid_met os))) ?_
  intro W base args ds gs before hval hW _ _ _ hL hsh _
  exact contract H enc W base args ds gs before hval hW hL hsh

theorem said : Rows.FnExactSilentSlotSaid :=
  OpenClaim.holds_of_cond 4 Tryz.f4 rfl rfl rfl rfl rfl rfl rfl ⟨rfl, rfl, rfl, rfl, rfl⟩ rfl rfl rfl rfl rfl (by kernel_rfl) Tryz.func4 (by kernel_rfl)
    (of_decide_eq_true (by kernel_rfl)) (by unfold Func.isWrapper; first | (rw [if_pos (by decide +kernel)]; kernel_rfl) | (rw [if_neg (by decide +kernel)]; exact ⟨rfl, rfl⟩))
    (fun os started H enc _ F => by rw [OpenClaim.pre_eq_preRow]; exact lifted os started H enc F)

theorem plain (f : FuncId) (fn : Func) (hf : Tryz.pinned.checked.prog.funcNamed Rows.fnExactSilentSlotRow.func = some f) (hfn : Tryz.pinned.checked.prog.funcs[f]? = some fn) :
    false = Tryz.pinned.checked.prog.looks [] ∧ ∀ (j : Nat) t, fn.params[j]? = some t → Tryz.pinned.checked.prog.wantsStandIn t = false := by
  obtain rfl : f = 4 := Option.some.inj ((show Tryz.prog.funcNamed Rows.fnExactSilentSlotRow.func = some 4 by kernel_rfl).symm.trans hf) |>.symm
  obtain rfl : fn = Tryz.f4 := (Option.some.inj (Tryz.func4.symm.trans hfn)).symm
  refine ⟨by kernel_rfl, fun j t ht => ?_⟩
  rw [Tryz.params4] at ht
  have hm := Array.mem_of_getElem? ht
  have ho : t = 26 ∨ t = 28 := by simpa using hm
  rcases ho with rfl | rfl
  · exact (show Tryz.prog.wantsStandIn 26 = false by kernel_rfl)
  · exact (show Tryz.prog.wantsStandIn 28 = false by kernel_rfl)

theorem card : Rows.FnExactSilentSlotCardSaid :=
  Claim7.holds_tied_plain_at .later [] _ _ _ _ said (fun _ h => by cases h) (by kernel_rfl) (fun _ h => by cases h) fnExactSilentSlot_row_tie rfl ⟨rfl, rfl⟩ (by kernel_rfl) rfl plain (by kernel_rfl)
end SilentSlot
end Go.Proofs.YtlmmhnddlmgaiaaGreatDoor
