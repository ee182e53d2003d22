/- Walks, laws and small notions for the claims of this seat, several texts as one (CoLawW). Conditions: as each theorem states them. -/
import Derived.Test.YtjgmpiefndbnaaaGreatDoorB12
import Derived.Test.YtjgmpiefndbnaaaGreatDoorB39
import Derived.Test.YtjgmpiefndbnaaaGreatDoorB29
import Derived.Test.YtjgmpiefndbnaaaGreatDoorB14
import Derived.Test.YtjgmpiefndbnaaaGreatDoorB11
import Derived.Deep.RegionHeldLaw
import Derived.Deep.DeepCutAuto
namespace Go.Proofs.YtjgmpiefndbnaaaGreatDoor
open Go.ChangeShapes Go.WideShapes Go.ChangeAt Go.RowKit
namespace CauseOf
set_option maxRecDepth 200000 in
set_option maxHeartbeats 40000000 in
theorem walk (w : World) (m : Mdv) (M : Mdl) (hx : MX w m M) (t md rn sl mb : Int) (_ : I64 t ∧ I64 md ∧ I64 rn ∧ I64 sl ∧ I64 mb) (Az : Option Addr) (nz cz : Nat) (zs : List Int) (hz : RI w w.heap.size Az nz zs) (_ : ∀ i, i < nz → I64 (gi zs i)) (hmz : nz ≤ maxLen) (_ : True) :
    Calls Tryz.prog 3 #[.agg #[.int .i64 m.id, .slice m.An m.nn m.cn, .slice m.Am m.nm m.cm, .slice m.As m.ns m.cs], .agg #[.int .i64 t, .int .i64 md, .int .i64 rn, .int .i64 sl, .int .i64 mb], .slice Az nz cz] w fun e w' => e = .returned (.bool true) ∧ Below w.heap.size w w' := by
  obtain ⟨w0, hw0⟩ : ∃ v, v = (w.alloc (.cells #[.int .i64 m.id, .slice m.An m.nn m.cn, .slice m.Am m.nm m.cm, .slice m.As m.ns m.cs] 26)).alloc (.cells #[.int .i64 t, .int .i64 md, .int .i64 rn, .int .i64 sl, .int .i64 mb] 28) := ⟨_, rfl⟩
  have k0 : BlkL w0 (w.heap.size) 26 [.int .i64 m.id, .slice m.An m.nn m.cn, .slice m.Am m.nm m.cm, .slice m.As m.ns m.cs] := by rw [hw0]; exact (BlkL.new _ _ _ (by simp)).alloc _
  have k1 : BlkL w0 (w.heap.size + 1) 28 [.int .i64 t, .int .i64 md, .int .i64 rn, .int .i64 sl, .int .i64 mb] := by rw [hw0]; exact BlkL.new _ _ _ (by simp)
  have gb : Below w.heap.size w w0 := by rw [hw0]; go_grown
  have hmz2 := hmz
  unfold maxLen at hmz2
  rcases Nat.lt_or_ge 1048576 nz with hle | hle
  · go_enter Tryz.func3, Tryz.ntmps3
    go_wp2
    go_ret
    exact ⟨rfl, by go_grown⟩
  have L := Lib.hid ((LW.one gb k0).snoc k1)
  clear k0 k1
  have hnz : nz ≤ 1099511627776 := by omega
  have HZ := Lib.hid hz
  clear hz hmz hmz2
  go_enter Tryz.func3, Tryz.ntmps3
  go_wp2_with fail
  rw [← hw0]
  clear hw0
  refine (szMedl_any m M 1048576 _ (hx.rn.up gb) (hx.rm.up gb) hx.bn hx.bm hx.bs hx.nm (by omega) (by omega)).mono ?_
  rintro e w1 ⟨v1, rfl, hv1, hb1⟩
  clear gb
  replace L := Lib.hid (L.out.next hb1)
  clear hb1
  rcases hv1 with rfl | ⟨p1, p2, p3, p4, p5, p6, p7⟩
  · go_wp2
    go_ret
    exact ⟨rfl, L.out.bel⟩
  have P6 := Lib.hid p6
  have P7 := Lib.hid p7
  clear p6 p7
  have hR : RD w w.heap.size m M := ⟨hx.id, hx.rn, hx.rm, hx.rs, by omega, by omega, by omega⟩
  have hX7 : ∀ i, i < m.nm → (ge M.ms i).nx.length ≤ 1099511627776 := fun i hi => by have := P7.out i hi; omega
  have hX8 : ∀ i, i < m.nm → (ge M.ms i).nx.length ≤ 1048576 := fun i hi => by have := P7.out i hi; omega
  have hX6 : ∀ i, i < m.nn → (ge M.ns i).nm.size ≤ 1099511627776 := fun i hi => by have := P6.out i hi; omega
  have q3 : m.nn ≤ 1048576 := by omega
  have q4 : m.nm ≤ 1048576 := by omega
  have q5 : m.ns ≤ 1048576 := by omega
  have HX6 := Lib.hid hX6
  have HX7 := Lib.hid hX7
  have HX8 := Lib.hid hX8
  have HR := Lib.hid hR
  clear hX6 hX7 hX8 hR hx P6 P7 p2 p3 p4 p5
  have hHS := fun (u : World) (m' : Mdv) (A' : Option Addr) (c' : Nat) (hrd : RD u u.heap.size m' M) (hx' : RX m' M) (hz' : RI u u.heap.size A' nz zs) => sCause_any m' M t md rn sl mb A' nz c' zs u hrd hx' hz' hle
  have hHI := fun (u : World) (m' : Mdv) (A' : Option Addr) (c' : Nat) (hrd : RD u u.heap.size m' M) (hx' : RX m' M) (hz' : RI u u.heap.size A' nz zs) => iCause_any m' M t md rn sl mb A' nz c' zs u hrd hx' hz' hle
  obtain ⟨X, hX⟩ : ∃ x, cauV M t md rn sl mb zs = x := ⟨_, rfl⟩
  obtain ⟨CD, hCD⟩ : ∃ x, codeCS M t md rn sl mb zs = x := ⟨_, rfl⟩
  rw [hX, hCD] at hHS hHI
  clear hX hCD
  have HS := Lib.hid hHS
  have HI := Lib.hid hHI
  clear hHS hHI
  go_upto_region 7 with fail
  have hV : Below w1.heap.size w1 w1.drew := (Below.refl _ _).drew
  have hcells : ∀ u, Below w1.heap.size w1 u → (Below w1.heap.size w1 u ∧ u.cell? ⟨w.heap.size, 0, none⟩ = some (.int .i64 m.id) ∧ u.cell? ⟨w.heap.size, 1, none⟩ = some (.slice m.An m.nn m.cn) ∧ u.cell? ⟨w.heap.size, 2, none⟩ = some (.slice m.Am m.nm m.cm) ∧ u.cell? ⟨w.heap.size, 3, none⟩ = some (.slice m.As m.ns m.cs) ∧ u.cell? ⟨w.heap.size + 1, 0, none⟩ = some (.int .i64 t) ∧ u.cell? ⟨w.heap.size + 1, 1, none⟩ = some (.int .i64 md) ∧ u.cell? ⟨w.heap.size + 1, 2, none⟩ = some (.int .i64 rn) ∧ u.cell? ⟨w.heap.size + 1, 3, none⟩ = some (.int .i64 sl) ∧ u.cell? ⟨w.heap.size + 1, 4, none⟩ = some (.int .i64 mb)) := fun u hu => ⟨hu, ((L.out.bx 0 _ rfl).next hu).c 0 rfl, ((L.out.bx 0 _ rfl).next hu).c 1 rfl, ((L.out.bx 0 _ rfl).next hu).c 2 rfl, ((L.out.bx 0 _ rfl).next hu).c 3 rfl, ((L.out.bx 1 _ rfl).next hu).c 0 rfl, ((L.out.bx 1 _ rfl).next hu).c 1 rfl, ((L.out.bx 1 _ rfl).next hu).c 2 rfl, ((L.out.bx 1 _ rfl).next hu).c 3 rfl, ((L.out.bx 1 _ rfl).next hu).c 4 rfl⟩
  have HC := Lib.hid hcells
  clear hcells
  have HTM := Lib.hid (fun u (hu : Below w1.heap.size w1 u) => toMedl_any m M u (HR.out.up (below_next hu L.out.bel (Nat.le_refl _))) HX7.out)
  have HTS := Lib.hid (fun u => toState_any t md rn sl mb u)
  have HTI := Lib.hid (fun u (hu : Below w1.heap.size w1 u) => toInt64S_any Az nz cz zs u (HZ.out.up (below_next hu L.out.bel (Nat.le_refl _))) hnz)
  go_cut [8, 9] (fun v8 v9 wc => v8 = .int .i64 X ∧ v9 = .int .i64 CD ∧ Below w1.heap.size w1 wc)
  case first =>
    go_region_held_law (fun u => Below w1.heap.size w1 u ∧ u.cell? ⟨w.heap.size, 0, none⟩ = some (.int .i64 m.id) ∧ u.cell? ⟨w.heap.size, 1, none⟩ = some (.slice m.An m.nn m.cn) ∧ u.cell? ⟨w.heap.size, 2, none⟩ = some (.slice m.Am m.nm m.cm) ∧ u.cell? ⟨w.heap.size, 3, none⟩ = some (.slice m.As m.ns m.cs) ∧ u.cell? ⟨w.heap.size + 1, 0, none⟩ = some (.int .i64 t) ∧ u.cell? ⟨w.heap.size + 1, 1, none⟩ = some (.int .i64 md) ∧ u.cell? ⟨w.heap.size + 1, 2, none⟩ = some (.int .i64 rn) ∧ u.cell? ⟨w.heap.size + 1, 3, none⟩ = some (.int .i64 sl) ∧ u.cell? ⟨w.heap.size + 1, 4, none⟩ = some (.int .i64 mb)) (first | (with_reducible exact HC.out _ hV) | (with_reducible refine HC.out _ ?_; with_reducible assumption) | (with_reducible refine HC.out _ ?_; go_grown)) (first
      | (go_at_call 10; (have hgv : Below w1.heap.size w1 _ := And.left (‹Below w1.heap.size w1 _ ∧ _›)); (with_reducible refine (HTM.out _ hgv).mono ?_); rintro e cc ⟨A1, c1, A2, c2, A3, c3, rfl, hRD, hcap, hb⟩; (have hv := below_next hb hgv (Nat.le_refl _)); (try (first | (replace HRI := Lib.hid (HRI.out.up hb)) | (replace HRI := Lib.hid ((HRI.out.up (below_alloc (Below.refl _ _) (Nat.le_refl _) _)).up hb)))); (try (first | (replace HNC := Lib.hid (HNC.out.next hb)) | (replace HNC := Lib.hid ((HNC.out.next (below_alloc (Below.refl _ _) (Nat.le_refl _) _)).next hb)))); have HRD := Lib.hid hRD; have HCP := Lib.hid hcap; clear hRD hcap hgv hb)
      | (go_at_call 11; (have hgv : Below w1.heap.size w1 _ := And.left (‹Below w1.heap.size w1 _ ∧ _›)); (with_reducible refine (HTS.out _).mono ?_); rintro e cc ⟨rfl, hb⟩; (have hv := below_next hb hgv (Nat.le_refl _)); (try (first | (replace HRD := Lib.hid (HRD.out.up hb)) | (replace HRD := Lib.hid ((HRD.out.up (below_alloc (Below.refl _ _) (Nat.le_refl _) _)).up hb)))); (try (first | (replace HRI := Lib.hid (HRI.out.up hb)) | (replace HRI := Lib.hid ((HRI.out.up (below_alloc (Below.refl _ _) (Nat.le_refl _) _)).up hb)))); (try (first | (replace HNC := Lib.hid (HNC.out.next hb)) | (replace HNC := Lib.hid ((HNC.out.next (below_alloc (Below.refl _ _) (Nat.le_refl _) _)).next hb)))); clear hgv hb)
      | (go_at_call 12; (have hgv : Below w1.heap.size w1 _ := And.left (‹Below w1.heap.size w1 _ ∧ _›)); (with_reducible refine (HTI.out _ hgv).mono ?_); rintro e cc ⟨A4, c4, rfl, hown, hb⟩; (have hv := below_next hb hgv (Nat.le_refl _)); (try (first | (replace HRD := Lib.hid (HRD.out.up hb)) | (replace HRD := Lib.hid ((HRD.out.up (below_alloc (Below.refl _ _) (Nat.le_refl _) _)).up hb)))); have HRI := Lib.hid hown.reads; have HNC := Lib.hid (SL.own hown); clear hown hgv hb)
      | (go_at_call 9; (have hgv : Below w1.heap.size w1 _ := And.left (‹Below w1.heap.size w1 _ ∧ _›)); (refine (HS.out _ ⟨m.id, A1, m.nn, c1, A2, m.nm, c2, A3, m.ns, c3⟩ A4 c4 HRD.out ⟨HX6.out, HX7.out, HCP.out⟩ HRI.out).mono ?_); rintro e cc ⟨rfl, hb⟩; (have hv := below_next hb hgv (Nat.le_refl _)); have SV := Lib.hid hv.size; have HV9 := Lib.hid hv; clear hgv hb))
    all_goals
      go_wp2_with fail
      go_meet
      exact ⟨rfl, rfl, HV9.out⟩
  case rest =>
    clear HC hV HTM HTS HTI
    obtain ⟨rfl, rfl, hbc⟩ := hcut
    obtain ⟨w2, hw9⟩ : ∃ v, v = wc := ⟨_, rfl⟩
    rw [← hw9] at hbc ⊢
    clear hw9
    replace L := Lib.hid (L.out.next hbc)
    clear hbc
    have c0_0 : w2.cell? ⟨w.heap.size, 0, none⟩ = some (.int .i64 m.id) := (L.out.bx 0 _ rfl).c 0 rfl
    have c0_1 : w2.cell? ⟨w.heap.size, 1, none⟩ = some (.slice m.An m.nn m.cn) := (L.out.bx 0 _ rfl).c 1 rfl
    have c0_2 : w2.cell? ⟨w.heap.size, 2, none⟩ = some (.slice m.Am m.nm m.cm) := (L.out.bx 0 _ rfl).c 2 rfl
    have c0_3 : w2.cell? ⟨w.heap.size, 3, none⟩ = some (.slice m.As m.ns m.cs) := (L.out.bx 0 _ rfl).c 3 rfl
    go_wp2_with fail
    refine (toMedl_own m M _ (HR.out.up L.out.bel) HX7.out).mono ?_
    rintro e w3 ⟨A1, c1, A2, c2, A3, c3, rfl, hRD, hcap, hb3, hn1, hn2, hn3⟩
    have XR := Lib.hid hRD
    have XO := Lib.hid (MO.of (id := m.id) hn1 hn2 hn3 HX8.out)
    have HCX := Lib.hid hcap
    replace L := Lib.hid (L.out.next hb3)
    clear c0_0 c0_1 c0_2 c0_3
    have z2 := hb3.size
    clear hRD hcap hb3 hn1 hn2 hn3
    obtain ⟨w4, hw4⟩ : ∃ v, v = w3.alloc (.cells #[.int .i64 m.id, .slice A1 m.nn c1, .slice A2 m.nm c2, .slice A3 m.ns c3] 37) := ⟨_, rfl⟩
    have kx : BlkL w4 w3.heap.size 37 [.int .i64 m.id, .slice A1 m.nn c1, .slice A2 m.nm c2, .slice A3 m.ns c3] := by rw [hw4]; exact BlkL.new _ _ _ rfl
    have hb4 : Below w3.heap.size w3 w4 := by rw [hw4]; go_grown
    have z3 : w3.heap.size < w4.heap.size := kx.lt
    replace L := Lib.hid (L.out.next hb4)
    replace XO := Lib.hid (XO.out.next hb4)
    replace XR := Lib.hid (XR.out.up hb4)
    replace L := Lib.hid (L.out.snoc kx)
    clear kx hb4
    go_wp2_with fail
    rw [← hw4]
    clear hw4
    refine (toInt64S_any Az nz cz zs _ (HZ.out.up L.out.bel) hnz).mono ?_
    rintro e w5 ⟨A4, c4, rfl, hown, hb5⟩
    have FR := Lib.hid (Rw.of hown)
    have z4 := hb5.size
    replace L := Lib.hid (L.out.next hb5)
    replace XO := Lib.hid (XO.out.next hb5)
    replace XR := Lib.hid (XR.out.up hb5)
    clear hown hb5
    go_upto_region 10 with fail
    have hV : Below w5.heap.size w5 w5.drew := (Below.refl _ _).drew
    have hcells : ∀ u, Below w5.heap.size w5 u → (Below w5.heap.size w5 u ∧ u.cell? ⟨w3.heap.size, 0, none⟩ = some (.int .i64 m.id) ∧ u.cell? ⟨w3.heap.size, 1, none⟩ = some (.slice A1 m.nn c1) ∧ u.cell? ⟨w3.heap.size, 2, none⟩ = some (.slice A2 m.nm c2) ∧ u.cell? ⟨w3.heap.size, 3, none⟩ = some (.slice A3 m.ns c3) ∧ u.cell? ⟨w.heap.size + 1, 0, none⟩ = some (.int .i64 t) ∧ u.cell? ⟨w.heap.size + 1, 1, none⟩ = some (.int .i64 md) ∧ u.cell? ⟨w.heap.size + 1, 2, none⟩ = some (.int .i64 rn) ∧ u.cell? ⟨w.heap.size + 1, 3, none⟩ = some (.int .i64 sl) ∧ u.cell? ⟨w.heap.size + 1, 4, none⟩ = some (.int .i64 mb)) := fun u hu => ⟨hu, ((L.out.bx 2 _ rfl).next hu).c 0 rfl, ((L.out.bx 2 _ rfl).next hu).c 1 rfl, ((L.out.bx 2 _ rfl).next hu).c 2 rfl, ((L.out.bx 2 _ rfl).next hu).c 3 rfl, ((L.out.bx 1 _ rfl).next hu).c 0 rfl, ((L.out.bx 1 _ rfl).next hu).c 1 rfl, ((L.out.bx 1 _ rfl).next hu).c 2 rfl, ((L.out.bx 1 _ rfl).next hu).c 3 rfl, ((L.out.bx 1 _ rfl).next hu).c 4 rfl⟩
    have HC := Lib.hid hcells
    clear hcells
    have HTS := Lib.hid (fun u => toState_any t md rn sl mb u)
    go_cut [12, 13] (fun v12 v13 wc => v12 = .int .i64 X ∧ v13 = .int .i64 CD ∧ Below w5.heap.size w5 wc)
    case first =>
      go_region_held_law (fun u => Below w5.heap.size w5 u ∧ u.cell? ⟨w3.heap.size, 0, none⟩ = some (.int .i64 m.id) ∧ u.cell? ⟨w3.heap.size, 1, none⟩ = some (.slice A1 m.nn c1) ∧ u.cell? ⟨w3.heap.size, 2, none⟩ = some (.slice A2 m.nm c2) ∧ u.cell? ⟨w3.heap.size, 3, none⟩ = some (.slice A3 m.ns c3) ∧ u.cell? ⟨w.heap.size + 1, 0, none⟩ = some (.int .i64 t) ∧ u.cell? ⟨w.heap.size + 1, 1, none⟩ = some (.int .i64 md) ∧ u.cell? ⟨w.heap.size + 1, 2, none⟩ = some (.int .i64 rn) ∧ u.cell? ⟨w.heap.size + 1, 3, none⟩ = some (.int .i64 sl) ∧ u.cell? ⟨w.heap.size + 1, 4, none⟩ = some (.int .i64 mb)) (first | (with_reducible exact HC.out _ hV) | (with_reducible refine HC.out _ ?_; with_reducible assumption) | (with_reducible refine HC.out _ ?_; go_grown)) (first
        | (go_at_call 11; (have hgv : Below w5.heap.size w5 _ := And.left (‹Below w5.heap.size w5 _ ∧ _›)); (with_reducible refine (HTS.out _).mono ?_); rintro e cc ⟨rfl, hb⟩; (have hv := below_next hb hgv (Nat.le_refl _)); (try (first | (replace HRD := Lib.hid (HRD.out.up hb)) | (replace HRD := Lib.hid ((HRD.out.up (below_alloc (Below.refl _ _) (Nat.le_refl _) _)).up hb)))); (try (first | (replace HRI := Lib.hid (HRI.out.up hb)) | (replace HRI := Lib.hid ((HRI.out.up (below_alloc (Below.refl _ _) (Nat.le_refl _) _)).up hb)))); (try (first | (replace HNC := Lib.hid (HNC.out.next hb)) | (replace HNC := Lib.hid ((HNC.out.next (below_alloc (Below.refl _ _) (Nat.le_refl _) _)).next hb)))); clear hgv hb)
        | (go_at_call 13; (have hgv : Below w5.heap.size w5 _ := And.left (‹Below w5.heap.size w5 _ ∧ _›)); (refine (HI.out _ ⟨m.id, A1, m.nn, c1, A2, m.nm, c2, A3, m.ns, c3⟩ A4 c4 (XR.out.up hgv) ⟨HX6.out, HX7.out, HCX.out⟩ ((FR.out.next hgv).reads)).mono ?_); rintro e cc ⟨rfl, hb⟩; (have hv := below_next hb hgv (Nat.le_refl _)); have SV := Lib.hid hv.size; have HV9 := Lib.hid hv; clear hgv hb))
      all_goals
        go_wp2_with fail
        go_meet
        exact ⟨rfl, rfl, HV9.out⟩
    case rest =>
      clear HC hV HTS
      obtain ⟨rfl, rfl, hbc⟩ := hcut
      obtain ⟨w6, hw9⟩ : ∃ v, v = wc := ⟨_, rfl⟩
      rw [← hw9] at hbc ⊢
      clear hw9
      replace L := Lib.hid (L.out.next hbc)
      replace XO := Lib.hid (XO.out.next hbc)
      replace XR := Lib.hid (XR.out.up hbc)
      replace FR := Lib.hid (FR.out.next hbc)
      clear hbc
      go_upto_region 13 with fail
      have hV : Below w6.heap.size w6 w6.drew := (Below.refl _ _).drew
      have hcells : ∀ u, Below w6.heap.size w6 u → (Below w6.heap.size w6 u ∧ u.cell? ⟨w3.heap.size, 0, none⟩ = some (.int .i64 m.id) ∧ u.cell? ⟨w3.heap.size, 1, none⟩ = some (.slice A1 m.nn c1) ∧ u.cell? ⟨w3.heap.size, 2, none⟩ = some (.slice A2 m.nm c2) ∧ u.cell? ⟨w3.heap.size, 3, none⟩ = some (.slice A3 m.ns c3) ∧ u.cell? ⟨w.heap.size, 0, none⟩ = some (.int .i64 m.id) ∧ u.cell? ⟨w.heap.size, 1, none⟩ = some (.slice m.An m.nn m.cn) ∧ u.cell? ⟨w.heap.size, 2, none⟩ = some (.slice m.Am m.nm m.cm) ∧ u.cell? ⟨w.heap.size, 3, none⟩ = some (.slice m.As m.ns m.cs)) := fun u hu => ⟨hu, ((L.out.bx 2 _ rfl).next hu).c 0 rfl, ((L.out.bx 2 _ rfl).next hu).c 1 rfl, ((L.out.bx 2 _ rfl).next hu).c 2 rfl, ((L.out.bx 2 _ rfl).next hu).c 3 rfl, ((L.out.bx 0 _ rfl).next hu).c 0 rfl, ((L.out.bx 0 _ rfl).next hu).c 1 rfl, ((L.out.bx 0 _ rfl).next hu).c 2 rfl, ((L.out.bx 0 _ rfl).next hu).c 3 rfl⟩
      have HC := Lib.hid hcells
      clear hcells
      have HTM := Lib.hid (fun u (hu : Below w6.heap.size w6 u) => toMedl_any m M u (HR.out.up (below_next hu L.out.bel (Nat.le_refl _))) HX7.out)
      go_cut [56] (fun v wc => v = .bool false ∧ Below w6.heap.size w6 wc)
      case first =>
        go_region_held_law (fun u => Below w6.heap.size w6 u ∧ u.cell? ⟨w3.heap.size, 0, none⟩ = some (.int .i64 m.id) ∧ u.cell? ⟨w3.heap.size, 1, none⟩ = some (.slice A1 m.nn c1) ∧ u.cell? ⟨w3.heap.size, 2, none⟩ = some (.slice A2 m.nm c2) ∧ u.cell? ⟨w3.heap.size, 3, none⟩ = some (.slice A3 m.ns c3) ∧ u.cell? ⟨w.heap.size, 0, none⟩ = some (.int .i64 m.id) ∧ u.cell? ⟨w.heap.size, 1, none⟩ = some (.slice m.An m.nn m.cn) ∧ u.cell? ⟨w.heap.size, 2, none⟩ = some (.slice m.Am m.nm m.cm) ∧ u.cell? ⟨w.heap.size, 3, none⟩ = some (.slice m.As m.ns m.cs)) (first | (with_reducible exact HC.out _ hV) | (with_reducible refine HC.out _ ?_; with_reducible assumption) | (with_reducible refine HC.out _ ?_; go_grown)) (first
          | (go_at_call 10; (have hgv : Below w6.heap.size w6 _ := And.left (‹Below w6.heap.size w6 _ ∧ _›)); (with_reducible refine (HTM.out _ hgv).mono ?_); rintro e cc ⟨B1, d1, B2, d2, B3, d3, rfl, hRD, hcap, hb⟩; (have hv := below_next hb hgv (Nat.le_refl _)); (try (first | (replace HRI := Lib.hid (HRI.out.up hb)) | (replace HRI := Lib.hid ((HRI.out.up (below_alloc (Below.refl _ _) (Nat.le_refl _) _)).up hb)))); (try (first | (replace HNC := Lib.hid (HNC.out.next hb)) | (replace HNC := Lib.hid ((HNC.out.next (below_alloc (Below.refl _ _) (Nat.le_refl _) _)).next hb)))); have HRD := Lib.hid hRD; have HCP := Lib.hid hcap; clear hRD hcap hgv hb)
          | (go_at_call 14; (have hgv : Below w6.heap.size w6 _ := And.left (‹Below w6.heap.size w6 _ ∧ _›)); (refine (eqMedl_self ⟨m.id, A1, m.nn, c1, A2, m.nm, c2, A3, m.ns, c3⟩ ⟨m.id, B1, m.nn, d1, B2, m.nm, d2, B3, m.ns, d3⟩ M _ (XR.out.up hgv) HRD.out HX7.out).mono ?_); rintro e cc ⟨rfl, hb⟩; (have hv := below_next hb hgv (Nat.le_refl _)); have SV := Lib.hid hv.size; have HV9 := Lib.hid hv; clear hgv hb))
        all_goals
          go_wp2_with fail
          go_meet
          exact ⟨rfl, HV9.out⟩
      case rest =>
        clear HC hV HTM
        obtain ⟨rfl, hbc⟩ := hcut
        obtain ⟨w7, hw9⟩ : ∃ v, v = wc := ⟨_, rfl⟩
        rw [← hw9] at hbc ⊢
        clear hw9
        replace L := Lib.hid (L.out.next hbc)
        replace XO := Lib.hid (XO.out.next hbc)
        replace XR := Lib.hid (XR.out.up hbc)
        replace FR := Lib.hid (FR.out.next hbc)
        clear hbc
        go_wp2_with fail
        refine (toInt64S_any Az nz cz zs _ (HZ.out.up L.out.bel) hnz).mono ?_
        rintro e w8 ⟨B4, d4, rfl, hown, hb⟩
        have HRI := Lib.hid hown.reads
        replace L := Lib.hid (L.out.next hb)
        replace XO := Lib.hid (XO.out.next hb)
        replace XR := Lib.hid (XR.out.up hb)
        replace FR := Lib.hid (FR.out.next hb)
        clear hown hb
        go_wp2_with fail
        refine (eqInt64S_any A4 B4 nz nz c4 d4 zs zs _ FR.out.reads HRI.out hnz hnz).mono ?_
        rw [eqI_self]
        rintro e w9 ⟨rfl, hb⟩
        replace L := Lib.hid (L.out.next hb)
        replace XO := Lib.hid (XO.out.next hb)
        replace XR := Lib.hid (XR.out.up hb)
        replace FR := Lib.hid (FR.out.next hb)
        clear HRI hb
        go_wp2
        go_ret
        exact ⟨rfl, L.out.bel⟩
end CauseOf
end Go.Proofs.YtjgmpiefndbnaaaGreatDoor
