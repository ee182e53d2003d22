/- Walks, laws and small notions for the claims of this seat, several texts as one (SndLawW). Conditions: as each theorem states them. -/
import Derived.Test.YtjgmpiefndbnaaaGreatDoorB12
import Derived.Test.YtjgmpiefndbnaaaGreatDoorB19
import Derived.Test.YtjgmpiefndbnaaaGreatDoorB28
import Derived.Test.YtjgmpiefndbnaaaGreatDoorB14
import Derived.Test.YtjgmpiefndbnaaaGreatDoorB11
import Derived.Deep.RegionHeldLaw
import Derived.Deep.DeepCutAuto
namespace Go.Proofs.YtjgmpiefndbnaaaGreatDoor
open Go.ChangeShapes Go.WideShapes Go.ChangeAt Go.RowKit
namespace SendScripted
set_option maxRecDepth 200000 in
set_option maxHeartbeats 40000000 in
theorem walk (w : World) (m : Mdv) (M : Mdl) (hx : MX w m M) (t md rn sl mb : Int) (_ : I64 t ∧ I64 md ∧ I64 rn ∧ I64 sl ∧ I64 mb) (k r ft fm fd fs fb : Int) (Az : Option Addr) (nz cz : Nat) (zs : List Int) (_ : I64 k ∧ I64 r ∧ I64 ft ∧ I64 fm ∧ I64 fd ∧ I64 fs ∧ I64 fb) (hz : RI w w.heap.size Az nz zs) (_ : ∀ i, i < nz → I64 (gi zs i)) (hmz : nz ≤ maxLen) (Ae : Option Addr) (ne ce : Nat) (es : List Flt) (hes : RE encF 4 w w.heap.size Ae ne es) (_ : ∀ i, i < ne → I64 (ge es i).kd ∧ I64 (ge es i).pos ∧ I64 (ge es i).len ∧ I64 (ge es i).val) (hme : ne ≤ maxLen) (_ : True) :
    Calls Tryz.prog 5 #[.agg #[.int .i64 m.id, .slice m.An m.nn m.cn, .slice m.Am m.nm m.cm, .slice m.As m.ns m.cs], .agg #[.int .i64 t, .int .i64 md, .int .i64 rn, .int .i64 sl, .int .i64 mb], .agg #[.int .i64 k, .int .i64 r, .int .i64 ft, .int .i64 fm, .int .i64 fd, .int .i64 fs, .int .i64 fb, .slice Az nz cz], .slice Ae ne ce] w fun e w' => e = .returned (.bool true) ∧ Below w.heap.size w w' := by
  obtain ⟨w0, hw0⟩ : ∃ v, v = ((w.alloc (.cells #[.int .i64 m.id, .slice m.An m.nn m.cn, .slice m.Am m.nm m.cm, .slice m.As m.ns m.cs] 26)).alloc (.cells #[.int .i64 t, .int .i64 md, .int .i64 rn, .int .i64 sl, .int .i64 mb] 28)).alloc (.cells #[.int .i64 k, .int .i64 r, .int .i64 ft, .int .i64 fm, .int .i64 fd, .int .i64 fs, .int .i64 fb, .slice Az nz cz] 58) := ⟨_, rfl⟩
  have k0 : BlkL w0 (w.heap.size) 26 [.int .i64 m.id, .slice m.An m.nn m.cn, .slice m.Am m.nm m.cm, .slice m.As m.ns m.cs] := by rw [hw0]; exact ((BlkL.new _ _ _ (by simp)).alloc _).alloc _
  have k1 : BlkL w0 (w.heap.size + 1) 28 [.int .i64 t, .int .i64 md, .int .i64 rn, .int .i64 sl, .int .i64 mb] := by rw [hw0]; exact (BlkL.new _ _ _ (by simp)).alloc _
  have k2 : BlkL w0 (w.heap.size + 1 + 1) 58 [.int .i64 k, .int .i64 r, .int .i64 ft, .int .i64 fm, .int .i64 fd, .int .i64 fs, .int .i64 fb, .slice Az nz cz] := by rw [hw0]; exact BlkL.new _ _ _ (by simp)
  have gb : Below w.heap.size w w0 := by rw [hw0]; go_grown
  have L := Lib.hid (((LW.one gb k0).snoc k1).snoc k2)
  clear k0 k1 k2
  go_enter Tryz.func5, Tryz.ntmps5
  go_wp2_with fail
  rw [← hw0]
  clear hw0
  refine (szMedl_any m M 1048576 _ (hx.rn.up gb) (hx.rm.up gb) hx.bn hx.bm hx.bs hx.nm (by omega) (by omega)).mono ?_
  rintro e w1 ⟨v1, rfl, hv1, hb1⟩
  clear gb
  replace L := Lib.hid (L.out.next hb1)
  clear hb1
  rcases hv1 with rfl | ⟨p1, p2, p3, p4, p5, p6, p7⟩
  · go_wp2
    go_ret
    exact ⟨rfl, L.out.bel⟩
  have P6 := Lib.hid p6
  have P7 := Lib.hid p7
  clear p6 p7
  have hmz2 := hmz
  unfold maxLen at hmz2
  have c2_0 : w1.cell? ⟨w.heap.size + 1 + 1, 0, none⟩ = some (.int .i64 k) := (L.out.bx 2 _ rfl).c 0 rfl
  have c2_1 : w1.cell? ⟨w.heap.size + 1 + 1, 1, none⟩ = some (.int .i64 r) := (L.out.bx 2 _ rfl).c 1 rfl
  have c2_2 : w1.cell? ⟨w.heap.size + 1 + 1, 2, none⟩ = some (.int .i64 ft) := (L.out.bx 2 _ rfl).c 2 rfl
  have c2_3 : w1.cell? ⟨w.heap.size + 1 + 1, 3, none⟩ = some (.int .i64 fm) := (L.out.bx 2 _ rfl).c 3 rfl
  have c2_4 : w1.cell? ⟨w.heap.size + 1 + 1, 4, none⟩ = some (.int .i64 fd) := (L.out.bx 2 _ rfl).c 4 rfl
  have c2_5 : w1.cell? ⟨w.heap.size + 1 + 1, 5, none⟩ = some (.int .i64 fs) := (L.out.bx 2 _ rfl).c 5 rfl
  have c2_6 : w1.cell? ⟨w.heap.size + 1 + 1, 6, none⟩ = some (.int .i64 fb) := (L.out.bx 2 _ rfl).c 6 rfl
  have c2_7 : w1.cell? ⟨w.heap.size + 1 + 1, 7, none⟩ = some (.slice Az nz cz) := (L.out.bx 2 _ rfl).c 7 rfl
  go_wp2_with fail
  refine (szFrame_any k r ft fm fd fs fb Az nz cz v1 _ hmz p1 (by omega)).mono ?_
  rcases (show (v1 < (nz : Int) ∧ szL nz v1 = -1) ∨ ((nz : Int) ≤ v1 ∧ szL nz v1 = v1 - nz) by
    by_cases hh : v1 < (nz : Int)
    · exact Or.inl ⟨hh, szL_neg hh⟩
    · exact Or.inr ⟨by omega, szL_pos (by omega)⟩) with ⟨hh, e0⟩ | ⟨hh, e0⟩
  all_goals
    rw [e0]
    clear e0
    rintro e w2 ⟨rfl, hb2⟩
    replace L := Lib.hid (L.out.next hb2)
    clear hb2
    clear c2_0 c2_1 c2_2 c2_3 c2_4 c2_5 c2_6 c2_7
  · go_wp2
    go_ret
    exact ⟨rfl, L.out.bel⟩
  have hnz : nz ≤ 1099511627776 := by omega
  have hqz : nz ≤ 1048576 := by omega
  have HZ := Lib.hid hz
  clear hz hmz hmz2
  have hle : (szF ne (v1 - (nz : Int)) = -1) ∨ ((ne : Int) ≤ v1 - nz ∧ szF ne (v1 - (nz : Int)) = v1 - nz - ne) := by
    unfold szF
    split
    · exact Or.inl rfl
    · exact Or.inr ⟨by omega, rfl⟩
  go_wp2_with fail
  refine (szFaultS_any Ae ne ce (v1 - (nz : Int)) _ hme (by omega) (by omega)).mono ?_
  rcases hle with e0 | ⟨hh2, e0⟩
  all_goals
    rw [e0]
    clear e0
    rintro e w9 ⟨rfl, rfl⟩
  · go_wp2
    go_ret
    exact ⟨rfl, L.out.bel⟩
  have hne : ne ≤ 1099511627776 := by omega
  have hqe : ne ≤ 1048576 := by omega
  have HE := Lib.hid hes
  clear hes hme
  have hR : RD w w.heap.size m M := ⟨hx.id, hx.rn, hx.rm, hx.rs, by omega, by omega, by omega⟩
  have hX7 : ∀ i, i < m.nm → (ge M.ms i).nx.length ≤ 1099511627776 := fun i hi => by have := P7.out i hi; omega
  have hX8 : ∀ i, i < m.nm → (ge M.ms i).nx.length ≤ 1048576 := fun i hi => by have := P7.out i hi; omega
  have hX6 : ∀ i, i < m.nn → (ge M.ns i).nm.size ≤ 1099511627776 := fun i hi => by have := P6.out i hi; omega
  have q3 : m.nn ≤ 1048576 := by omega
  have q4 : m.nm ≤ 1048576 := by omega
  have q5 : m.ns ≤ 1048576 := by omega
  have HX6 := Lib.hid hX6
  have HX7 := Lib.hid hX7
  have HX8 := Lib.hid hX8
  have HR := Lib.hid hR
  clear hX6 hX7 hX8 hR hx P6 P7 p2 p3 p4 p5
  obtain ⟨R, hR⟩ : ∃ x, sndL M t md rn sl mb k r ft fm fd fs fb zs es = x := ⟨_, rfl⟩
  obtain ⟨CD, hCD⟩ : ∃ x, codeSS M t md rn sl mb k r ft fm fd fs fb zs es = x := ⟨_, rfl⟩
  have hRl : R.length ≤ 1099511627776 := by rw [← hR]; exact Nat.le_trans (sndL_len M t md rn sl mb k r ft fm fd fs fb zs es) (by omega)
  have hHS := fun (u : World) (m' : Mdv) (A' : Option Addr) (c' : Nat) (B' : Option Addr) (d' : Nat) (hrd : RD u u.heap.size m' M) (hx' : RX m' M) (hz' : RI u u.heap.size A' nz zs) (hA' : A' = none → c' = 0) (hf' : RE encF 4 u u.heap.size B' ne es) => sSendScr_any m' M t md rn sl mb k r ft fm fd fs fb A' nz c' zs B' ne d' es u hrd hx' hz' hA' hnz hf' hne
  rw [hR, hCD] at hHS
  have HS := Lib.hid hHS
  clear hHS
  have hHI := fun (u : World) (m' : Mdv) (A' : Option Addr) (c' : Nat) (B' : Option Addr) (d' : Nat) (hrd : RD u u.heap.size m' M) (hx' : RX m' M) (hz' : RI u u.heap.size A' nz zs) (hA' : A' = none → c' = 0) (hf' : RE encF 4 u u.heap.size B' ne es) => iSendScr_any m' M t md rn sl mb k r ft fm fd fs fb A' nz c' zs B' ne d' es u hrd hx' hz' hA' hnz hf' hne
  rw [hR, hCD] at hHI
  have HI := Lib.hid hHI
  clear hHI
  clear hR hCD
  go_upto_region 11 with fail
  have hV : Below w2.heap.size w2 w2.drew := (Below.refl _ _).drew
  have hcells : ∀ u, Below w2.heap.size w2 u → (Below w2.heap.size w2 u ∧ u.cell? ⟨w.heap.size, 0, none⟩ = some (.int .i64 m.id) ∧ u.cell? ⟨w.heap.size, 1, none⟩ = some (.slice m.An m.nn m.cn) ∧ u.cell? ⟨w.heap.size, 2, none⟩ = some (.slice m.Am m.nm m.cm) ∧ u.cell? ⟨w.heap.size, 3, none⟩ = some (.slice m.As m.ns m.cs) ∧ u.cell? ⟨w.heap.size + 1, 0, none⟩ = some (.int .i64 t) ∧ u.cell? ⟨w.heap.size + 1, 1, none⟩ = some (.int .i64 md) ∧ u.cell? ⟨w.heap.size + 1, 2, none⟩ = some (.int .i64 rn) ∧ u.cell? ⟨w.heap.size + 1, 3, none⟩ = some (.int .i64 sl) ∧ u.cell? ⟨w.heap.size + 1, 4, none⟩ = some (.int .i64 mb) ∧ u.cell? ⟨w.heap.size + 1 + 1, 0, none⟩ = some (.int .i64 k) ∧ u.cell? ⟨w.heap.size + 1 + 1, 1, none⟩ = some (.int .i64 r) ∧ u.cell? ⟨w.heap.size + 1 + 1, 2, none⟩ = some (.int .i64 ft) ∧ u.cell? ⟨w.heap.size + 1 + 1, 3, none⟩ = some (.int .i64 fm) ∧ u.cell? ⟨w.heap.size + 1 + 1, 4, none⟩ = some (.int .i64 fd) ∧ u.cell? ⟨w.heap.size + 1 + 1, 5, none⟩ = some (.int .i64 fs) ∧ u.cell? ⟨w.heap.size + 1 + 1, 6, none⟩ = some (.int .i64 fb) ∧ u.cell? ⟨w.heap.size + 1 + 1, 7, none⟩ = some (.slice Az nz cz)) := fun u hu => ⟨hu, ((L.out.bx 0 _ rfl).next hu).c 0 rfl, ((L.out.bx 0 _ rfl).next hu).c 1 rfl, ((L.out.bx 0 _ rfl).next hu).c 2 rfl, ((L.out.bx 0 _ rfl).next hu).c 3 rfl, ((L.out.bx 1 _ rfl).next hu).c 0 rfl, ((L.out.bx 1 _ rfl).next hu).c 1 rfl, ((L.out.bx 1 _ rfl).next hu).c 2 rfl, ((L.out.bx 1 _ rfl).next hu).c 3 rfl, ((L.out.bx 1 _ rfl).next hu).c 4 rfl, ((L.out.bx 2 _ rfl).next hu).c 0 rfl, ((L.out.bx 2 _ rfl).next hu).c 1 rfl, ((L.out.bx 2 _ rfl).next hu).c 2 rfl, ((L.out.bx 2 _ rfl).next hu).c 3 rfl, ((L.out.bx 2 _ rfl).next hu).c 4 rfl, ((L.out.bx 2 _ rfl).next hu).c 5 rfl, ((L.out.bx 2 _ rfl).next hu).c 6 rfl, ((L.out.bx 2 _ rfl).next hu).c 7 rfl⟩
  have HC := Lib.hid hcells
  clear hcells
  have HTM := Lib.hid (fun u (hu : Below w2.heap.size w2 u) => toMedl_any m M u (HR.out.up (below_next hu L.out.bel (Nat.le_refl _))) HX7.out)
  have HTS := Lib.hid (fun u => toState_any t md rn sl mb u)
  have HTF := Lib.hid (fun u (hu : Below w2.heap.size w2 u) => toFrame_any k r ft fm fd fs fb Az nz cz zs u (HZ.out.up (below_next hu L.out.bel (Nat.le_refl _))) hnz)
  have HTE := Lib.hid (fun u (hu : Below w2.heap.size w2 u) => toFaultS_any Ae ne ce es u (HE.out.up (below_next hu L.out.bel (Nat.le_refl _))) hne)
  go_cut [10, 11] (fun v10 v11 wc => ∃ A n c, v10 = .slice A n c ∧ v11 = .int .i64 CD ∧ OwnI 2 wc w2.heap.size A n c R ∧ Below w2.heap.size w2 wc)
  case first =>
    go_region_held_law (fun u => Below w2.heap.size w2 u ∧ u.cell? ⟨w.heap.size, 0, none⟩ = some (.int .i64 m.id) ∧ u.cell? ⟨w.heap.size, 1, none⟩ = some (.slice m.An m.nn m.cn) ∧ u.cell? ⟨w.heap.size, 2, none⟩ = some (.slice m.Am m.nm m.cm) ∧ u.cell? ⟨w.heap.size, 3, none⟩ = some (.slice m.As m.ns m.cs) ∧ u.cell? ⟨w.heap.size + 1, 0, none⟩ = some (.int .i64 t) ∧ u.cell? ⟨w.heap.size + 1, 1, none⟩ = some (.int .i64 md) ∧ u.cell? ⟨w.heap.size + 1, 2, none⟩ = some (.int .i64 rn) ∧ u.cell? ⟨w.heap.size + 1, 3, none⟩ = some (.int .i64 sl) ∧ u.cell? ⟨w.heap.size + 1, 4, none⟩ = some (.int .i64 mb) ∧ u.cell? ⟨w.heap.size + 1 + 1, 0, none⟩ = some (.int .i64 k) ∧ u.cell? ⟨w.heap.size + 1 + 1, 1, none⟩ = some (.int .i64 r) ∧ u.cell? ⟨w.heap.size + 1 + 1, 2, none⟩ = some (.int .i64 ft) ∧ u.cell? ⟨w.heap.size + 1 + 1, 3, none⟩ = some (.int .i64 fm) ∧ u.cell? ⟨w.heap.size + 1 + 1, 4, none⟩ = some (.int .i64 fd) ∧ u.cell? ⟨w.heap.size + 1 + 1, 5, none⟩ = some (.int .i64 fs) ∧ u.cell? ⟨w.heap.size + 1 + 1, 6, none⟩ = some (.int .i64 fb) ∧ u.cell? ⟨w.heap.size + 1 + 1, 7, none⟩ = some (.slice Az nz cz)) (first | (with_reducible exact HC.out _ hV) | (with_reducible refine HC.out _ ?_; with_reducible assumption) | (with_reducible refine HC.out _ ?_; go_grown)) (first
      | (go_at_call 10; (have hgv : Below w2.heap.size w2 _ := And.left (‹Below w2.heap.size w2 _ ∧ _›)); (with_reducible refine (HTM.out _ hgv).mono ?_); rintro e cc ⟨A1, c1, A2, c2, A3, c3, rfl, hRD, hcap, hb⟩; (have hv := below_next hb hgv (Nat.le_refl _)); (try (replace HRI := Lib.hid (HRI.out.up hb))); (try (replace HRE := Lib.hid (HRE.out.up hb))); have HRD := Lib.hid hRD; have HCP := Lib.hid hcap; clear hRD hcap hgv hb)
      | (go_at_call 11; (have hgv : Below w2.heap.size w2 _ := And.left (‹Below w2.heap.size w2 _ ∧ _›)); (with_reducible refine (HTS.out _).mono ?_); rintro e cc ⟨rfl, hb⟩; (have hv := below_next hb hgv (Nat.le_refl _)); (try (replace HRD := Lib.hid (HRD.out.up hb))); (try (replace HRI := Lib.hid (HRI.out.up hb))); (try (replace HRE := Lib.hid (HRE.out.up hb))); clear hgv hb)
      | (go_at_call 26; (have hgv : Below w2.heap.size w2 _ := And.left (‹Below w2.heap.size w2 _ ∧ _›)); (with_reducible refine (HTF.out _ hgv).mono ?_); rintro e cc ⟨A4, c4, rfl, hown, hb⟩; (have hv := below_next hb hgv (Nat.le_refl _)); (try (replace HRD := Lib.hid (HRD.out.up hb))); (try (replace HRE := Lib.hid (HRE.out.up hb))); have HRI := Lib.hid hown.reads; have HNC := Lib.hid (ownI_zero hown); clear hown hgv hb)
      | (go_at_call 27; (have hgv : Below w2.heap.size w2 _ := And.left (‹Below w2.heap.size w2 _ ∧ _›)); (with_reducible refine (HTE.out _ hgv).mono ?_); rintro e cc ⟨A5, c5, rfl, hown, hb⟩; (have hv := below_next hb hgv (Nat.le_refl _)); (try (replace HRD := Lib.hid (HRD.out.up hb))); (try (replace HRI := Lib.hid (HRI.out.up hb))); have HRE := Lib.hid (hown.reads encF_len); clear hown hgv hb)
      | (go_at_call 19; (have hgv : Below w2.heap.size w2 _ := And.left (‹Below w2.heap.size w2 _ ∧ _›)); (refine (HS.out _ ⟨m.id, A1, m.nn, c1, A2, m.nm, c2, A3, m.ns, c3⟩ A4 c4 A5 c5 HRD.out ⟨HX6.out, HX7.out, HCP.out⟩ HRI.out HNC.out HRE.out).mono ?_); rintro e cc ⟨A, n, c, rfl, hown, hb⟩; (have hv := below_next hb hgv (Nat.le_refl _)); have HOW := Lib.hid (hown.weaken hgv.size); clear hown; have HV9 := Lib.hid hv; clear hgv hb))
    all_goals
      go_wp2_with fail
      go_meet
      exact ⟨_, _, _, rfl, rfl, HOW.out, HV9.out⟩
  case rest =>
    clear HC hV HTM HTS HTF HTE
    obtain ⟨An0, nn0, cn0, rfl, rfl, how, hbc⟩ := hcut
    obtain ⟨w3, hw9⟩ : ∃ v, v = wc := ⟨_, rfl⟩
    rw [← hw9] at how hbc ⊢
    clear hw9
    replace L := Lib.hid (L.out.next hbc)
    have WR := Lib.hid (Rw.of how)
    have z1 := hbc.size
    have z0 := L.out.bel.size
    have y1 := (L.out.bx 2 _ rfl).lt
    clear how hbc
    have hnw : nn0 ≤ 1099511627776 := by rw [← WR.out.len]; exact hRl
    have c0_0 : w3.cell? ⟨w.heap.size, 0, none⟩ = some (.int .i64 m.id) := (L.out.bx 0 _ rfl).c 0 rfl
    have c0_1 : w3.cell? ⟨w.heap.size, 1, none⟩ = some (.slice m.An m.nn m.cn) := (L.out.bx 0 _ rfl).c 1 rfl
    have c0_2 : w3.cell? ⟨w.heap.size, 2, none⟩ = some (.slice m.Am m.nm m.cm) := (L.out.bx 0 _ rfl).c 2 rfl
    have c0_3 : w3.cell? ⟨w.heap.size, 3, none⟩ = some (.slice m.As m.ns m.cs) := (L.out.bx 0 _ rfl).c 3 rfl
    go_wp2_with fail
    refine (toMedl_own m M _ (HR.out.up L.out.bel) HX7.out).mono ?_
    rintro e w4 ⟨A1, c1, A2, c2, A3, c3, rfl, hRD, hcap, hb3, hn1, hn2, hn3⟩
    have XR := Lib.hid hRD
    have XO := Lib.hid (MO.of (id := m.id) hn1 hn2 hn3 HX8.out)
    have HCX := Lib.hid hcap
    replace L := Lib.hid (L.out.next hb3)
    replace WR := Lib.hid (WR.out.next hb3)
    clear c0_0 c0_1 c0_2 c0_3
    have z2 := hb3.size
    clear hRD hcap hb3 hn1 hn2 hn3
    have c2_0 : w4.cell? ⟨w.heap.size + 1 + 1, 0, none⟩ = some (.int .i64 k) := (L.out.bx 2 _ rfl).c 0 rfl
    have c2_1 : w4.cell? ⟨w.heap.size + 1 + 1, 1, none⟩ = some (.int .i64 r) := (L.out.bx 2 _ rfl).c 1 rfl
    have c2_2 : w4.cell? ⟨w.heap.size + 1 + 1, 2, none⟩ = some (.int .i64 ft) := (L.out.bx 2 _ rfl).c 2 rfl
    have c2_3 : w4.cell? ⟨w.heap.size + 1 + 1, 3, none⟩ = some (.int .i64 fm) := (L.out.bx 2 _ rfl).c 3 rfl
    have c2_4 : w4.cell? ⟨w.heap.size + 1 + 1, 4, none⟩ = some (.int .i64 fd) := (L.out.bx 2 _ rfl).c 4 rfl
    have c2_5 : w4.cell? ⟨w.heap.size + 1 + 1, 5, none⟩ = some (.int .i64 fs) := (L.out.bx 2 _ rfl).c 5 rfl
    have c2_6 : w4.cell? ⟨w.heap.size + 1 + 1, 6, none⟩ = some (.int .i64 fb) := (L.out.bx 2 _ rfl).c 6 rfl
    have c2_7 : w4.cell? ⟨w.heap.size + 1 + 1, 7, none⟩ = some (.slice Az nz cz) := (L.out.bx 2 _ rfl).c 7 rfl
    have hlx := (L.out.bx 2 _ rfl).lt
    obtain ⟨w5, hw4⟩ : ∃ v, v = w4.alloc (.cells #[.int .i64 m.id, .slice A1 m.nn c1, .slice A2 m.nm c2, .slice A3 m.ns c3] 37) := ⟨_, rfl⟩
    have kx : BlkL w5 w4.heap.size 37 [.int .i64 m.id, .slice A1 m.nn c1, .slice A2 m.nm c2, .slice A3 m.ns c3] := by rw [hw4]; exact BlkL.new _ _ _ rfl
    have hb4 : Below w4.heap.size w4 w5 := by rw [hw4]; go_grown
    have z3 : w4.heap.size < w5.heap.size := kx.lt
    replace L := Lib.hid (L.out.next hb4)
    replace WR := Lib.hid (WR.out.next hb4)
    replace XO := Lib.hid (XO.out.next hb4)
    replace XR := Lib.hid (XR.out.up hb4)
    replace L := Lib.hid (L.out.snoc kx)
    clear kx hb4
    go_wp2_with fail
    rw [← hw4]
    clear hw4 hlx
    refine (toFrame_any k r ft fm fd fs fb Az nz cz zs _ (HZ.out.up L.out.bel) hnz).mono ?_
    rintro e w6 ⟨A4, c4, rfl, hown, hb5⟩
    have FR := Lib.hid (Rw.of hown)
    replace L := Lib.hid (L.out.next hb5)
    replace WR := Lib.hid (WR.out.next hb5)
    replace XO := Lib.hid (XO.out.next hb5)
    replace XR := Lib.hid (XR.out.up hb5)
    clear c2_0 c2_1 c2_2 c2_3 c2_4 c2_5 c2_6 c2_7
    have z4 := hb5.size
    clear hown hb5
    obtain ⟨w7, hw4⟩ : ∃ v, v = w6.alloc (.cells #[.int .i64 k, .int .i64 r, .int .i64 ft, .int .i64 fm, .int .i64 fd, .int .i64 fs, .int .i64 fb, .slice A4 nz c4] 48) := ⟨_, rfl⟩
    have kx : BlkL w7 w6.heap.size 48 [.int .i64 k, .int .i64 r, .int .i64 ft, .int .i64 fm, .int .i64 fd, .int .i64 fs, .int .i64 fb, .slice A4 nz c4] := by rw [hw4]; exact BlkL.new _ _ _ rfl
    have hb4 : Below w6.heap.size w6 w7 := by rw [hw4]; go_grown
    have z5 : w6.heap.size < w7.heap.size := kx.lt
    replace L := Lib.hid (L.out.next hb4)
    replace WR := Lib.hid (WR.out.next hb4)
    replace XO := Lib.hid (XO.out.next hb4)
    replace XR := Lib.hid (XR.out.up hb4)
    replace FR := Lib.hid (FR.out.next hb4)
    replace L := Lib.hid (L.out.snoc kx)
    clear kx hb4
    go_wp2_with fail
    rw [← hw4]
    clear hw4
    refine (toFaultS_any Ae ne ce es _ (HE.out.up L.out.bel) hne).mono ?_
    rintro e w8 ⟨A5, c5, rfl, hown, hb5⟩
    have ER := Lib.hid (RwE.of hown)
    replace L := Lib.hid (L.out.next hb5)
    replace WR := Lib.hid (WR.out.next hb5)
    replace XO := Lib.hid (XO.out.next hb5)
    replace XR := Lib.hid (XR.out.up hb5)
    replace FR := Lib.hid (FR.out.next hb5)
    have z7 := hb5.size
    clear hown hb5
    go_upto_region 15 with fail
    have hV : Below w8.heap.size w8 w8.drew := (Below.refl _ _).drew
    have hcells : ∀ u, Below w8.heap.size w8 u → (Below w8.heap.size w8 u ∧ u.cell? ⟨w4.heap.size, 0, none⟩ = some (.int .i64 m.id) ∧ u.cell? ⟨w4.heap.size, 1, none⟩ = some (.slice A1 m.nn c1) ∧ u.cell? ⟨w4.heap.size, 2, none⟩ = some (.slice A2 m.nm c2) ∧ u.cell? ⟨w4.heap.size, 3, none⟩ = some (.slice A3 m.ns c3) ∧ u.cell? ⟨w.heap.size + 1, 0, none⟩ = some (.int .i64 t) ∧ u.cell? ⟨w.heap.size + 1, 1, none⟩ = some (.int .i64 md) ∧ u.cell? ⟨w.heap.size + 1, 2, none⟩ = some (.int .i64 rn) ∧ u.cell? ⟨w.heap.size + 1, 3, none⟩ = some (.int .i64 sl) ∧ u.cell? ⟨w.heap.size + 1, 4, none⟩ = some (.int .i64 mb) ∧ u.cell? ⟨w6.heap.size, 0, none⟩ = some (.int .i64 k) ∧ u.cell? ⟨w6.heap.size, 1, none⟩ = some (.int .i64 r) ∧ u.cell? ⟨w6.heap.size, 2, none⟩ = some (.int .i64 ft) ∧ u.cell? ⟨w6.heap.size, 3, none⟩ = some (.int .i64 fm) ∧ u.cell? ⟨w6.heap.size, 4, none⟩ = some (.int .i64 fd) ∧ u.cell? ⟨w6.heap.size, 5, none⟩ = some (.int .i64 fs) ∧ u.cell? ⟨w6.heap.size, 6, none⟩ = some (.int .i64 fb) ∧ u.cell? ⟨w6.heap.size, 7, none⟩ = some (.slice A4 nz c4)) := fun u hu => ⟨hu, ((L.out.bx 3 _ rfl).next hu).c 0 rfl, ((L.out.bx 3 _ rfl).next hu).c 1 rfl, ((L.out.bx 3 _ rfl).next hu).c 2 rfl, ((L.out.bx 3 _ rfl).next hu).c 3 rfl, ((L.out.bx 1 _ rfl).next hu).c 0 rfl, ((L.out.bx 1 _ rfl).next hu).c 1 rfl, ((L.out.bx 1 _ rfl).next hu).c 2 rfl, ((L.out.bx 1 _ rfl).next hu).c 3 rfl, ((L.out.bx 1 _ rfl).next hu).c 4 rfl, ((L.out.bx 4 _ rfl).next hu).c 0 rfl, ((L.out.bx 4 _ rfl).next hu).c 1 rfl, ((L.out.bx 4 _ rfl).next hu).c 2 rfl, ((L.out.bx 4 _ rfl).next hu).c 3 rfl, ((L.out.bx 4 _ rfl).next hu).c 4 rfl, ((L.out.bx 4 _ rfl).next hu).c 5 rfl, ((L.out.bx 4 _ rfl).next hu).c 6 rfl, ((L.out.bx 4 _ rfl).next hu).c 7 rfl⟩
    have HC := Lib.hid hcells
    clear hcells
    have HTS := Lib.hid (fun u => toState_any t md rn sl mb u)
    go_cut [15, 16] (fun v15 v16 wc => ∃ A n c, v15 = .slice A n c ∧ v16 = .int .i64 CD ∧ OwnI 2 wc w8.heap.size A n c R ∧ Below w8.heap.size w8 wc)
    case first =>
      go_region_held_law (fun u => Below w8.heap.size w8 u ∧ u.cell? ⟨w4.heap.size, 0, none⟩ = some (.int .i64 m.id) ∧ u.cell? ⟨w4.heap.size, 1, none⟩ = some (.slice A1 m.nn c1) ∧ u.cell? ⟨w4.heap.size, 2, none⟩ = some (.slice A2 m.nm c2) ∧ u.cell? ⟨w4.heap.size, 3, none⟩ = some (.slice A3 m.ns c3) ∧ u.cell? ⟨w.heap.size + 1, 0, none⟩ = some (.int .i64 t) ∧ u.cell? ⟨w.heap.size + 1, 1, none⟩ = some (.int .i64 md) ∧ u.cell? ⟨w.heap.size + 1, 2, none⟩ = some (.int .i64 rn) ∧ u.cell? ⟨w.heap.size + 1, 3, none⟩ = some (.int .i64 sl) ∧ u.cell? ⟨w.heap.size + 1, 4, none⟩ = some (.int .i64 mb) ∧ u.cell? ⟨w6.heap.size, 0, none⟩ = some (.int .i64 k) ∧ u.cell? ⟨w6.heap.size, 1, none⟩ = some (.int .i64 r) ∧ u.cell? ⟨w6.heap.size, 2, none⟩ = some (.int .i64 ft) ∧ u.cell? ⟨w6.heap.size, 3, none⟩ = some (.int .i64 fm) ∧ u.cell? ⟨w6.heap.size, 4, none⟩ = some (.int .i64 fd) ∧ u.cell? ⟨w6.heap.size, 5, none⟩ = some (.int .i64 fs) ∧ u.cell? ⟨w6.heap.size, 6, none⟩ = some (.int .i64 fb) ∧ u.cell? ⟨w6.heap.size, 7, none⟩ = some (.slice A4 nz c4)) (first | (with_reducible exact HC.out _ hV) | (with_reducible refine HC.out _ ?_; with_reducible assumption) | (with_reducible refine HC.out _ ?_; go_grown)) (first
        | (go_at_call 11; (have hgv : Below w8.heap.size w8 _ := And.left (‹Below w8.heap.size w8 _ ∧ _›)); (with_reducible refine (HTS.out _).mono ?_); rintro e cc ⟨rfl, hb⟩; (have hv := below_next hb hgv (Nat.le_refl _)); (try (replace HRD := Lib.hid (HRD.out.up hb))); (try (replace HRI := Lib.hid (HRI.out.up hb))); clear hgv hb)
        | (go_at_call 18; (have hgv : Below w8.heap.size w8 _ := And.left (‹Below w8.heap.size w8 _ ∧ _›)); (refine (HI.out _ ⟨m.id, A1, m.nn, c1, A2, m.nm, c2, A3, m.ns, c3⟩ A4 c4 A5 c5 (XR.out.up hgv) ⟨HX6.out, HX7.out, HCX.out⟩ ((FR.out.next hgv).reads) (ownI_zero FR.out.own) ((ER.out.next hgv).reads encF_len)).mono ?_); rintro e cc ⟨A, n, c, rfl, hown, hb⟩; (have hv := below_next hb hgv (Nat.le_refl _)); have HOW := Lib.hid (hown.weaken hgv.size); clear hown; have HV9 := Lib.hid hv; clear hgv hb))
      all_goals
        go_wp2_with fail
        go_meet
        exact ⟨_, _, _, rfl, rfl, HOW.out, HV9.out⟩
    case rest =>
      clear HC hV HTS
      obtain ⟨Ag, ng, cg, rfl, rfl, how, hbc⟩ := hcut
      obtain ⟨w9, hw9⟩ : ∃ v, v = wc := ⟨_, rfl⟩
      rw [← hw9] at how hbc ⊢
      clear hw9
      replace L := Lib.hid (L.out.next hbc)
      replace WR := Lib.hid (WR.out.next hbc)
      replace XO := Lib.hid (XO.out.next hbc)
      replace XR := Lib.hid (XR.out.up hbc)
      replace FR := Lib.hid (FR.out.next hbc)
      replace ER := Lib.hid (ER.out.next hbc)
      have GR := Lib.hid (Rw.of how)
      have z6 := hbc.size
      clear how hbc
      have hng : ng ≤ 1099511627776 := by rw [← GR.out.len]; exact hRl
      go_wp2_with fail
      refine (eqInt64S_any _ _ _ _ _ _ R R _ GR.out.reads WR.out.reads hng hnw).mono ?_
      rw [eqI_self]
      rintro e w10 ⟨rfl, hb⟩
      replace L := Lib.hid (L.out.next hb)
      replace WR := Lib.hid (WR.out.next hb)
      replace XO := Lib.hid (XO.out.next hb)
      replace XR := Lib.hid (XR.out.up hb)
      replace FR := Lib.hid (FR.out.next hb)
      replace ER := Lib.hid (ER.out.next hb)
      replace GR := Lib.hid (GR.out.next hb)
      clear hb
      go_upto_region 18 with fail
      have hV : Below w10.heap.size w10 w10.drew := (Below.refl _ _).drew
      have hcells : ∀ u, Below w10.heap.size w10 u → (Below w10.heap.size w10 u ∧ u.cell? ⟨w4.heap.size, 0, none⟩ = some (.int .i64 m.id) ∧ u.cell? ⟨w4.heap.size, 1, none⟩ = some (.slice A1 m.nn c1) ∧ u.cell? ⟨w4.heap.size, 2, none⟩ = some (.slice A2 m.nm c2) ∧ u.cell? ⟨w4.heap.size, 3, none⟩ = some (.slice A3 m.ns c3) ∧ u.cell? ⟨w.heap.size, 0, none⟩ = some (.int .i64 m.id) ∧ u.cell? ⟨w.heap.size, 1, none⟩ = some (.slice m.An m.nn m.cn) ∧ u.cell? ⟨w.heap.size, 2, none⟩ = some (.slice m.Am m.nm m.cm) ∧ u.cell? ⟨w.heap.size, 3, none⟩ = some (.slice m.As m.ns m.cs)) := fun u hu => ⟨hu, ((L.out.bx 3 _ rfl).next hu).c 0 rfl, ((L.out.bx 3 _ rfl).next hu).c 1 rfl, ((L.out.bx 3 _ rfl).next hu).c 2 rfl, ((L.out.bx 3 _ rfl).next hu).c 3 rfl, ((L.out.bx 0 _ rfl).next hu).c 0 rfl, ((L.out.bx 0 _ rfl).next hu).c 1 rfl, ((L.out.bx 0 _ rfl).next hu).c 2 rfl, ((L.out.bx 0 _ rfl).next hu).c 3 rfl⟩
      have HC := Lib.hid hcells
      clear hcells
      have HTM := Lib.hid (fun u (hu : Below w10.heap.size w10 u) => toMedl_any m M u (HR.out.up (below_next hu L.out.bel (Nat.le_refl _))) HX7.out)
      go_cut [77] (fun v wc => v = .bool false ∧ Below w10.heap.size w10 wc)
      case first =>
        go_region_held_law (fun u => Below w10.heap.size w10 u ∧ u.cell? ⟨w4.heap.size, 0, none⟩ = some (.int .i64 m.id) ∧ u.cell? ⟨w4.heap.size, 1, none⟩ = some (.slice A1 m.nn c1) ∧ u.cell? ⟨w4.heap.size, 2, none⟩ = some (.slice A2 m.nm c2) ∧ u.cell? ⟨w4.heap.size, 3, none⟩ = some (.slice A3 m.ns c3) ∧ u.cell? ⟨w.heap.size, 0, none⟩ = some (.int .i64 m.id) ∧ u.cell? ⟨w.heap.size, 1, none⟩ = some (.slice m.An m.nn m.cn) ∧ u.cell? ⟨w.heap.size, 2, none⟩ = some (.slice m.Am m.nm m.cm) ∧ u.cell? ⟨w.heap.size, 3, none⟩ = some (.slice m.As m.ns m.cs)) (first | (with_reducible exact HC.out _ hV) | (with_reducible refine HC.out _ ?_; with_reducible assumption) | (with_reducible refine HC.out _ ?_; go_grown)) (first
          | (go_at_call 10; (have hgv : Below w10.heap.size w10 _ := And.left (‹Below w10.heap.size w10 _ ∧ _›)); (with_reducible refine (HTM.out _ hgv).mono ?_); rintro e cc ⟨B1, d1, B2, d2, B3, d3, rfl, hRD, hcap, hb⟩; (have hv := below_next hb hgv (Nat.le_refl _)); (try (replace HRI := Lib.hid (HRI.out.up hb))); have HRD := Lib.hid hRD; have HCP := Lib.hid hcap; clear hRD hcap hgv hb)
          | (go_at_call 14; (have hgv : Below w10.heap.size w10 _ := And.left (‹Below w10.heap.size w10 _ ∧ _›)); (refine (eqMedl_self ⟨m.id, A1, m.nn, c1, A2, m.nm, c2, A3, m.ns, c3⟩ ⟨m.id, B1, m.nn, d1, B2, m.nm, d2, B3, m.ns, d3⟩ M _ (XR.out.up hgv) HRD.out HX7.out).mono ?_); rintro e cc ⟨rfl, hb⟩; (have hv := below_next hb hgv (Nat.le_refl _)); have HV9 := Lib.hid hv; clear hgv hb))
        all_goals
          go_wp2_with fail
          go_meet
          exact ⟨rfl, HV9.out⟩
      case rest =>
        clear HC hV HTM
        obtain ⟨rfl, hbc⟩ := hcut
        obtain ⟨w11, hw9⟩ : ∃ v, v = wc := ⟨_, rfl⟩
        rw [← hw9] at hbc ⊢
        clear hw9
        replace L := Lib.hid (L.out.next hbc)
        replace WR := Lib.hid (WR.out.next hbc)
        replace XO := Lib.hid (XO.out.next hbc)
        replace XR := Lib.hid (XR.out.up hbc)
        replace FR := Lib.hid (FR.out.next hbc)
        replace ER := Lib.hid (ER.out.next hbc)
        replace GR := Lib.hid (GR.out.next hbc)
        clear hbc
        go_upto_region 20 with fail
        have hV : Below w11.heap.size w11 w11.drew := (Below.refl _ _).drew
        have hcells : ∀ u, Below w11.heap.size w11 u → (Below w11.heap.size w11 u ∧ u.cell? ⟨w6.heap.size, 0, none⟩ = some (.int .i64 k) ∧ u.cell? ⟨w6.heap.size, 1, none⟩ = some (.int .i64 r) ∧ u.cell? ⟨w6.heap.size, 2, none⟩ = some (.int .i64 ft) ∧ u.cell? ⟨w6.heap.size, 3, none⟩ = some (.int .i64 fm) ∧ u.cell? ⟨w6.heap.size, 4, none⟩ = some (.int .i64 fd) ∧ u.cell? ⟨w6.heap.size, 5, none⟩ = some (.int .i64 fs) ∧ u.cell? ⟨w6.heap.size, 6, none⟩ = some (.int .i64 fb) ∧ u.cell? ⟨w6.heap.size, 7, none⟩ = some (.slice A4 nz c4) ∧ u.cell? ⟨w.heap.size + 1 + 1, 0, none⟩ = some (.int .i64 k) ∧ u.cell? ⟨w.heap.size + 1 + 1, 1, none⟩ = some (.int .i64 r) ∧ u.cell? ⟨w.heap.size + 1 + 1, 2, none⟩ = some (.int .i64 ft) ∧ u.cell? ⟨w.heap.size + 1 + 1, 3, none⟩ = some (.int .i64 fm) ∧ u.cell? ⟨w.heap.size + 1 + 1, 4, none⟩ = some (.int .i64 fd) ∧ u.cell? ⟨w.heap.size + 1 + 1, 5, none⟩ = some (.int .i64 fs) ∧ u.cell? ⟨w.heap.size + 1 + 1, 6, none⟩ = some (.int .i64 fb) ∧ u.cell? ⟨w.heap.size + 1 + 1, 7, none⟩ = some (.slice Az nz cz)) := fun u hu => ⟨hu, ((L.out.bx 4 _ rfl).next hu).c 0 rfl, ((L.out.bx 4 _ rfl).next hu).c 1 rfl, ((L.out.bx 4 _ rfl).next hu).c 2 rfl, ((L.out.bx 4 _ rfl).next hu).c 3 rfl, ((L.out.bx 4 _ rfl).next hu).c 4 rfl, ((L.out.bx 4 _ rfl).next hu).c 5 rfl, ((L.out.bx 4 _ rfl).next hu).c 6 rfl, ((L.out.bx 4 _ rfl).next hu).c 7 rfl, ((L.out.bx 2 _ rfl).next hu).c 0 rfl, ((L.out.bx 2 _ rfl).next hu).c 1 rfl, ((L.out.bx 2 _ rfl).next hu).c 2 rfl, ((L.out.bx 2 _ rfl).next hu).c 3 rfl, ((L.out.bx 2 _ rfl).next hu).c 4 rfl, ((L.out.bx 2 _ rfl).next hu).c 5 rfl, ((L.out.bx 2 _ rfl).next hu).c 6 rfl, ((L.out.bx 2 _ rfl).next hu).c 7 rfl⟩
        have HC := Lib.hid hcells
        clear hcells
        have HTF := Lib.hid (fun u (hu : Below w11.heap.size w11 u) => toFrame_any k r ft fm fd fs fb Az nz cz zs u (HZ.out.up (below_next hu L.out.bel (Nat.le_refl _))) hnz)
        go_cut [82] (fun v wc => v = .bool false ∧ Below w11.heap.size w11 wc)
        case first =>
          go_region_held_law (fun u => Below w11.heap.size w11 u ∧ u.cell? ⟨w6.heap.size, 0, none⟩ = some (.int .i64 k) ∧ u.cell? ⟨w6.heap.size, 1, none⟩ = some (.int .i64 r) ∧ u.cell? ⟨w6.heap.size, 2, none⟩ = some (.int .i64 ft) ∧ u.cell? ⟨w6.heap.size, 3, none⟩ = some (.int .i64 fm) ∧ u.cell? ⟨w6.heap.size, 4, none⟩ = some (.int .i64 fd) ∧ u.cell? ⟨w6.heap.size, 5, none⟩ = some (.int .i64 fs) ∧ u.cell? ⟨w6.heap.size, 6, none⟩ = some (.int .i64 fb) ∧ u.cell? ⟨w6.heap.size, 7, none⟩ = some (.slice A4 nz c4) ∧ u.cell? ⟨w.heap.size + 1 + 1, 0, none⟩ = some (.int .i64 k) ∧ u.cell? ⟨w.heap.size + 1 + 1, 1, none⟩ = some (.int .i64 r) ∧ u.cell? ⟨w.heap.size + 1 + 1, 2, none⟩ = some (.int .i64 ft) ∧ u.cell? ⟨w.heap.size + 1 + 1, 3, none⟩ = some (.int .i64 fm) ∧ u.cell? ⟨w.heap.size + 1 + 1, 4, none⟩ = some (.int .i64 fd) ∧ u.cell? ⟨w.heap.size + 1 + 1, 5, none⟩ = some (.int .i64 fs) ∧ u.cell? ⟨w.heap.size + 1 + 1, 6, none⟩ = some (.int .i64 fb) ∧ u.cell? ⟨w.heap.size + 1 + 1, 7, none⟩ = some (.slice Az nz cz)) (first | (with_reducible exact HC.out _ hV) | (with_reducible refine HC.out _ ?_; with_reducible assumption) | (with_reducible refine HC.out _ ?_; go_grown)) (first
            | (go_at_call 26; (have hgv : Below w11.heap.size w11 _ := And.left (‹Below w11.heap.size w11 _ ∧ _›)); (with_reducible refine (HTF.out _ hgv).mono ?_); rintro e cc ⟨B4, d4, rfl, hown, hb⟩; (have hv := below_next hb hgv (Nat.le_refl _)); (try (replace HRD := Lib.hid (HRD.out.up hb))); have HRI := Lib.hid hown.reads; have HNC := Lib.hid (ownI_zero hown); clear hown hgv hb)
            | (go_at_call 28; (have hgv : Below w11.heap.size w11 _ := And.left (‹Below w11.heap.size w11 _ ∧ _›)); (refine (eqFrame_self k r ft fm fd fs fb A4 B4 nz c4 d4 zs _ ((FR.out.next hgv).reads) HRI.out hnz).mono ?_); rintro e cc ⟨rfl, hb⟩; (have hv := below_next hb hgv (Nat.le_refl _)); have HV9 := Lib.hid hv; clear hgv hb))
          all_goals
            go_wp2_with fail
            go_meet
            exact ⟨rfl, HV9.out⟩
        case rest =>
          clear HC hV HTF
          obtain ⟨rfl, hbc⟩ := hcut
          obtain ⟨w12, hw9⟩ : ∃ v, v = wc := ⟨_, rfl⟩
          rw [← hw9] at hbc ⊢
          clear hw9
          replace L := Lib.hid (L.out.next hbc)
          replace WR := Lib.hid (WR.out.next hbc)
          replace XO := Lib.hid (XO.out.next hbc)
          replace XR := Lib.hid (XR.out.up hbc)
          replace FR := Lib.hid (FR.out.next hbc)
          replace ER := Lib.hid (ER.out.next hbc)
          replace GR := Lib.hid (GR.out.next hbc)
          clear hbc
          go_wp2_with fail
          refine (toFaultS_any Ae ne ce es _ (HE.out.up L.out.bel) hne).mono ?_
          rintro e w13 ⟨B5, d5, rfl, hown, hb⟩
          have HRE := Lib.hid (hown.reads encF_len)
          replace L := Lib.hid (L.out.next hb)
          replace WR := Lib.hid (WR.out.next hb)
          replace XO := Lib.hid (XO.out.next hb)
          replace XR := Lib.hid (XR.out.up hb)
          replace FR := Lib.hid (FR.out.next hb)
          replace ER := Lib.hid (ER.out.next hb)
          replace GR := Lib.hid (GR.out.next hb)
          clear hown hb
          go_wp2_with fail
          refine (eqFaultS_self A5 B5 ne ne c5 d5 es _ (ER.out.reads encF_len) HRE.out hne).mono ?_
          rintro e w14 ⟨rfl, hb⟩
          replace L := Lib.hid (L.out.next hb)
          replace WR := Lib.hid (WR.out.next hb)
          replace XO := Lib.hid (XO.out.next hb)
          replace XR := Lib.hid (XR.out.up hb)
          replace FR := Lib.hid (FR.out.next hb)
          replace ER := Lib.hid (ER.out.next hb)
          replace GR := Lib.hid (GR.out.next hb)
          clear HRE hb
          have c3_0 : w14.cell? ⟨w4.heap.size, 0, none⟩ = some (.int .i64 m.id) := (L.out.bx 3 _ rfl).c 0 rfl
          have c3_1 : w14.cell? ⟨w4.heap.size, 1, none⟩ = some (.slice A1 m.nn c1) := (L.out.bx 3 _ rfl).c 1 rfl
          have c3_2 : w14.cell? ⟨w4.heap.size, 2, none⟩ = some (.slice A2 m.nm c2) := (L.out.bx 3 _ rfl).c 2 rfl
          have c3_3 : w14.cell? ⟨w4.heap.size, 3, none⟩ = some (.slice A3 m.ns c3) := (L.out.bx 3 _ rfl).c 3 rfl
          have zz := (XO.out.next (Below.refl _ _))
          clear zz
          go_wp2_with fail
          have hsx : w4.heap.size ≤ w14.heap.size := by have := (L.out.bx 3 _ rfl).lt; omega
          refine (markMedl_any ⟨m.id, A1, m.nn, c1, A2, m.nm, c2, A3, m.ns, c3⟩ w3.heap.size w4.heap.size 1 _ XO.out hsx q3 q4 q5 (by omega) (by omega)).mono ?_
          rintro e w15 ⟨kv, rfl, hk0, hk1, hmk⟩
          clear c3_0 c3_1 c3_2 c3_3
          replace L := Lib.hid (L.out.mkb hmk (by omega) (fun i b e => by match i, e with | 0, e => (obtain rfl := Option.some.inj e; left; show w.heap.size < w3.heap.size; omega) | 1, e => (obtain rfl := Option.some.inj e; left; show w.heap.size + 1 < w3.heap.size; omega) | 2, e => (obtain rfl := Option.some.inj e; left; show w.heap.size + 1 + 1 < w3.heap.size; omega) | 3, e => (obtain rfl := Option.some.inj e; right; show w4.heap.size ≤ w4.heap.size; omega) | 4, e => (obtain rfl := Option.some.inj e; right; show w4.heap.size ≤ w6.heap.size; omega) | i + 5, e => simp at e))
          replace WR := Lib.hid (WR.out.mkb hmk (by omega))
          replace FR := Lib.hid (FR.out.mkb hmk (by omega))
          replace ER := Lib.hid (ER.out.mkb hmk (by omega))
          replace GR := Lib.hid (GR.out.mkb hmk (by omega))
          clear hmk XO XR HCX hsx
          have hkv : kv ≤ 1125899906842624 := by omega
          have c4_0 : w15.cell? ⟨w6.heap.size, 0, none⟩ = some (.int .i64 k) := (L.out.bx 4 _ rfl).c 0 rfl
          have c4_1 : w15.cell? ⟨w6.heap.size, 1, none⟩ = some (.int .i64 r) := (L.out.bx 4 _ rfl).c 1 rfl
          have c4_2 : w15.cell? ⟨w6.heap.size, 2, none⟩ = some (.int .i64 ft) := (L.out.bx 4 _ rfl).c 2 rfl
          have c4_3 : w15.cell? ⟨w6.heap.size, 3, none⟩ = some (.int .i64 fm) := (L.out.bx 4 _ rfl).c 3 rfl
          have c4_4 : w15.cell? ⟨w6.heap.size, 4, none⟩ = some (.int .i64 fd) := (L.out.bx 4 _ rfl).c 4 rfl
          have c4_5 : w15.cell? ⟨w6.heap.size, 5, none⟩ = some (.int .i64 fs) := (L.out.bx 4 _ rfl).c 5 rfl
          have c4_6 : w15.cell? ⟨w6.heap.size, 6, none⟩ = some (.int .i64 fb) := (L.out.bx 4 _ rfl).c 6 rfl
          have c4_7 : w15.cell? ⟨w6.heap.size, 7, none⟩ = some (.slice A4 nz c4) := (L.out.bx 4 _ rfl).c 7 rfl
          have hsf : w6.heap.size ≤ w15.heap.size := by have := (L.out.bx 4 _ rfl).lt; omega
          go_wp2_with fail
          refine (markFrame_any k r ft fm fd fs fb A4 nz c4 w5.heap.size w6.heap.size kv _ FR.out.rm hqz hk0 hkv).mono ?_
          rintro e w16 ⟨rfl, hmk⟩
          clear c4_0 c4_1 c4_2 c4_3 c4_4 c4_5 c4_6 c4_7
          have hkw : 0 ≤ kv + (nz : Int) := by omega
          replace L := Lib.hid (L.out.mkb hmk (by omega) (fun i b e => by match i, e with | 0, e => (obtain rfl := Option.some.inj e; left; show w.heap.size < w5.heap.size; omega) | 1, e => (obtain rfl := Option.some.inj e; left; show w.heap.size + 1 < w5.heap.size; omega) | 2, e => (obtain rfl := Option.some.inj e; left; show w.heap.size + 1 + 1 < w5.heap.size; omega) | 3, e => (obtain rfl := Option.some.inj e; left; show w4.heap.size < w5.heap.size; omega) | 4, e => (obtain rfl := Option.some.inj e; right; show w6.heap.size ≤ w6.heap.size; omega) | i + 5, e => simp at e))
          replace WR := Lib.hid (WR.out.mkb hmk (by omega))
          replace ER := Lib.hid (ER.out.mkb hmk (by omega))
          replace GR := Lib.hid (GR.out.mkb hmk (by omega))
          clear hmk FR hsf
          go_wp2_with fail
          refine (markFaultS_any A5 ne c5 _ es (kv + (nz : Int)) _ ER.out.own hne hkw (by omega)).mono ?_
          rintro e w17 ⟨rfl, hown, hg⟩
          have hmm := ER.out.marked hg hown
          have hmk := hmm.1
          have hkx : 0 ≤ kv + (nz : Int) + 4 * (ne : Int) := by omega
          clear hown hg hmm
          replace L := Lib.hid (L.out.mkb hmk (by omega) (fun i b e => by match i, e with | 0, e => (obtain rfl := Option.some.inj e; left; show w.heap.size < w7.heap.size; omega) | 1, e => (obtain rfl := Option.some.inj e; left; show w.heap.size + 1 < w7.heap.size; omega) | 2, e => (obtain rfl := Option.some.inj e; left; show w.heap.size + 1 + 1 < w7.heap.size; omega) | 3, e => (obtain rfl := Option.some.inj e; left; show w4.heap.size < w7.heap.size; omega) | 4, e => (obtain rfl := Option.some.inj e; left; show w6.heap.size < w7.heap.size; omega) | i + 5, e => simp at e))
          replace WR := Lib.hid (WR.out.mkb hmk (by omega))
          replace GR := Lib.hid (GR.out.mkb hmk (by omega))
          clear hmk ER
          go_wp2_with fail
          refine (eqInt64S_any _ _ _ _ _ _ R R _ GR.out.reads WR.out.reads hng hnw).mono ?_
          rw [eqI_self]
          rintro e w18 ⟨rfl, hb⟩
          replace L := Lib.hid (L.out.next hb)
          replace WR := Lib.hid (WR.out.next hb)
          replace GR := Lib.hid (GR.out.next hb)
          clear hb
          go_wp2_with fail
          refine (markInt64S_any _ _ _ _ R 1 _ GR.out.own hng (by omega) (by omega)).mono ?_
          rintro e w19 ⟨rfl, hown, hg⟩
          have hmm := GR.out.marked hg hown
          have hmk := hmm.1
          clear hg hown
          replace L := Lib.hid (L.out.mkb hmk (by omega) (fun i b e => by match i, e with | 0, e => (obtain rfl := Option.some.inj e; left; show w.heap.size < w8.heap.size; omega) | 1, e => (obtain rfl := Option.some.inj e; left; show w.heap.size + 1 < w8.heap.size; omega) | 2, e => (obtain rfl := Option.some.inj e; left; show w.heap.size + 1 + 1 < w8.heap.size; omega) | 3, e => (obtain rfl := Option.some.inj e; left; show w4.heap.size < w8.heap.size; omega) | 4, e => (obtain rfl := Option.some.inj e; left; show w6.heap.size < w8.heap.size; omega) | i + 5, e => simp at e))
          replace WR := Lib.hid (WR.out.mkb hmk (by omega))
          replace GR := Lib.hid hmm.2
          clear hmm hmk
          go_wp2_with fail
          refine (heldInt64S_any _ _ _ 1 _ GR.out.reads hng (by omega) (by omega)).mono ?_
          rintro e w' ⟨rfl, rfl⟩
          go_upto_region 38 with fail
          have hV : Below w19.heap.size w19 w19.drew := (Below.refl _ _).drew
          have hcells : ∀ u, Below w19.heap.size w19 u → (Below w19.heap.size w19 u ∧ u.cell? ⟨w.heap.size, 0, none⟩ = some (.int .i64 m.id) ∧ u.cell? ⟨w.heap.size, 1, none⟩ = some (.slice m.An m.nn m.cn) ∧ u.cell? ⟨w.heap.size, 2, none⟩ = some (.slice m.Am m.nm m.cm) ∧ u.cell? ⟨w.heap.size, 3, none⟩ = some (.slice m.As m.ns m.cs) ∧ u.cell? ⟨w.heap.size + 1, 0, none⟩ = some (.int .i64 t) ∧ u.cell? ⟨w.heap.size + 1, 1, none⟩ = some (.int .i64 md) ∧ u.cell? ⟨w.heap.size + 1, 2, none⟩ = some (.int .i64 rn) ∧ u.cell? ⟨w.heap.size + 1, 3, none⟩ = some (.int .i64 sl) ∧ u.cell? ⟨w.heap.size + 1, 4, none⟩ = some (.int .i64 mb) ∧ u.cell? ⟨w.heap.size + 1 + 1, 0, none⟩ = some (.int .i64 k) ∧ u.cell? ⟨w.heap.size + 1 + 1, 1, none⟩ = some (.int .i64 r) ∧ u.cell? ⟨w.heap.size + 1 + 1, 2, none⟩ = some (.int .i64 ft) ∧ u.cell? ⟨w.heap.size + 1 + 1, 3, none⟩ = some (.int .i64 fm) ∧ u.cell? ⟨w.heap.size + 1 + 1, 4, none⟩ = some (.int .i64 fd) ∧ u.cell? ⟨w.heap.size + 1 + 1, 5, none⟩ = some (.int .i64 fs) ∧ u.cell? ⟨w.heap.size + 1 + 1, 6, none⟩ = some (.int .i64 fb) ∧ u.cell? ⟨w.heap.size + 1 + 1, 7, none⟩ = some (.slice Az nz cz)) := fun u hu => ⟨hu, ((L.out.bx 0 _ rfl).next hu).c 0 rfl, ((L.out.bx 0 _ rfl).next hu).c 1 rfl, ((L.out.bx 0 _ rfl).next hu).c 2 rfl, ((L.out.bx 0 _ rfl).next hu).c 3 rfl, ((L.out.bx 1 _ rfl).next hu).c 0 rfl, ((L.out.bx 1 _ rfl).next hu).c 1 rfl, ((L.out.bx 1 _ rfl).next hu).c 2 rfl, ((L.out.bx 1 _ rfl).next hu).c 3 rfl, ((L.out.bx 1 _ rfl).next hu).c 4 rfl, ((L.out.bx 2 _ rfl).next hu).c 0 rfl, ((L.out.bx 2 _ rfl).next hu).c 1 rfl, ((L.out.bx 2 _ rfl).next hu).c 2 rfl, ((L.out.bx 2 _ rfl).next hu).c 3 rfl, ((L.out.bx 2 _ rfl).next hu).c 4 rfl, ((L.out.bx 2 _ rfl).next hu).c 5 rfl, ((L.out.bx 2 _ rfl).next hu).c 6 rfl, ((L.out.bx 2 _ rfl).next hu).c 7 rfl⟩
          have HC := Lib.hid hcells
          clear hcells
          have HTM := Lib.hid (fun u (hu : Below w19.heap.size w19 u) => toMedl_any m M u (HR.out.up (below_next hu L.out.bel (Nat.le_refl _))) HX7.out)
          have HTS := Lib.hid (fun u => toState_any t md rn sl mb u)
          have HTF := Lib.hid (fun u (hu : Below w19.heap.size w19 u) => toFrame_any k r ft fm fd fs fb Az nz cz zs u (HZ.out.up (below_next hu L.out.bel (Nat.le_refl _))) hnz)
          have HTE := Lib.hid (fun u (hu : Below w19.heap.size w19 u) => toFaultS_any Ae ne ce es u (HE.out.up (below_next hu L.out.bel (Nat.le_refl _))) hne)
          go_cut [20, 21] (fun v20 v21 wc => ∃ A n c, v20 = .slice A n c ∧ v21 = .int .i64 CD ∧ OwnI 2 wc w19.heap.size A n c R ∧ Below w19.heap.size w19 wc)
          case first =>
            go_region_held_law (fun u => Below w19.heap.size w19 u ∧ u.cell? ⟨w.heap.size, 0, none⟩ = some (.int .i64 m.id) ∧ u.cell? ⟨w.heap.size, 1, none⟩ = some (.slice m.An m.nn m.cn) ∧ u.cell? ⟨w.heap.size, 2, none⟩ = some (.slice m.Am m.nm m.cm) ∧ u.cell? ⟨w.heap.size, 3, none⟩ = some (.slice m.As m.ns m.cs) ∧ u.cell? ⟨w.heap.size + 1, 0, none⟩ = some (.int .i64 t) ∧ u.cell? ⟨w.heap.size + 1, 1, none⟩ = some (.int .i64 md) ∧ u.cell? ⟨w.heap.size + 1, 2, none⟩ = some (.int .i64 rn) ∧ u.cell? ⟨w.heap.size + 1, 3, none⟩ = some (.int .i64 sl) ∧ u.cell? ⟨w.heap.size + 1, 4, none⟩ = some (.int .i64 mb) ∧ u.cell? ⟨w.heap.size + 1 + 1, 0, none⟩ = some (.int .i64 k) ∧ u.cell? ⟨w.heap.size + 1 + 1, 1, none⟩ = some (.int .i64 r) ∧ u.cell? ⟨w.heap.size + 1 + 1, 2, none⟩ = some (.int .i64 ft) ∧ u.cell? ⟨w.heap.size + 1 + 1, 3, none⟩ = some (.int .i64 fm) ∧ u.cell? ⟨w.heap.size + 1 + 1, 4, none⟩ = some (.int .i64 fd) ∧ u.cell? ⟨w.heap.size + 1 + 1, 5, none⟩ = some (.int .i64 fs) ∧ u.cell? ⟨w.heap.size + 1 + 1, 6, none⟩ = some (.int .i64 fb) ∧ u.cell? ⟨w.heap.size + 1 + 1, 7, none⟩ = some (.slice Az nz cz)) (first | (with_reducible exact HC.out _ hV) | (with_reducible refine HC.out _ ?_; with_reducible assumption) | (with_reducible refine HC.out _ ?_; go_grown)) (first
              | (go_at_call 10; (have hgv : Below w19.heap.size w19 _ := And.left (‹Below w19.heap.size w19 _ ∧ _›)); (with_reducible refine (HTM.out _ hgv).mono ?_); rintro e cc ⟨A1, c1, A2, c2, A3, c3, rfl, hRD, hcap, hb⟩; (have hv := below_next hb hgv (Nat.le_refl _)); (try (replace HRI := Lib.hid (HRI.out.up hb))); (try (replace HRE := Lib.hid (HRE.out.up hb))); have HRD := Lib.hid hRD; have HCP := Lib.hid hcap; clear hRD hcap hgv hb)
              | (go_at_call 11; (have hgv : Below w19.heap.size w19 _ := And.left (‹Below w19.heap.size w19 _ ∧ _›)); (with_reducible refine (HTS.out _).mono ?_); rintro e cc ⟨rfl, hb⟩; (have hv := below_next hb hgv (Nat.le_refl _)); (try (replace HRD := Lib.hid (HRD.out.up hb))); (try (replace HRI := Lib.hid (HRI.out.up hb))); (try (replace HRE := Lib.hid (HRE.out.up hb))); clear hgv hb)
              | (go_at_call 26; (have hgv : Below w19.heap.size w19 _ := And.left (‹Below w19.heap.size w19 _ ∧ _›)); (with_reducible refine (HTF.out _ hgv).mono ?_); rintro e cc ⟨A4, c4, rfl, hown, hb⟩; (have hv := below_next hb hgv (Nat.le_refl _)); (try (replace HRD := Lib.hid (HRD.out.up hb))); (try (replace HRE := Lib.hid (HRE.out.up hb))); have HRI := Lib.hid hown.reads; have HNC := Lib.hid (ownI_zero hown); clear hown hgv hb)
              | (go_at_call 27; (have hgv : Below w19.heap.size w19 _ := And.left (‹Below w19.heap.size w19 _ ∧ _›)); (with_reducible refine (HTE.out _ hgv).mono ?_); rintro e cc ⟨A5, c5, rfl, hown, hb⟩; (have hv := below_next hb hgv (Nat.le_refl _)); (try (replace HRD := Lib.hid (HRD.out.up hb))); (try (replace HRI := Lib.hid (HRI.out.up hb))); have HRE := Lib.hid (hown.reads encF_len); clear hown hgv hb)
              | (go_at_call 18; (have hgv : Below w19.heap.size w19 _ := And.left (‹Below w19.heap.size w19 _ ∧ _›)); (refine (HI.out _ ⟨m.id, A1, m.nn, c1, A2, m.nm, c2, A3, m.ns, c3⟩ A4 c4 A5 c5 HRD.out ⟨HX6.out, HX7.out, HCP.out⟩ HRI.out HNC.out HRE.out).mono ?_); rintro e cc ⟨A, n, c, rfl, hown, hb⟩; (have hv := below_next hb hgv (Nat.le_refl _)); have HOW := Lib.hid (hown.weaken hgv.size); clear hown; have HV9 := Lib.hid hv; clear hgv hb))
            all_goals
              go_wp2_with fail
              go_meet
              exact ⟨_, _, _, rfl, rfl, HOW.out, HV9.out⟩
          case rest =>
            clear HC hV HTM HTS HTF HTE
            obtain ⟨Ah, nh, ch, rfl, rfl, how, hbc⟩ := hcut
            obtain ⟨w20, hw9⟩ : ∃ v, v = wc := ⟨_, rfl⟩
            rw [← hw9] at how hbc ⊢
            clear hw9
            replace L := Lib.hid (L.out.next hbc)
            replace WR := Lib.hid (WR.out.next hbc)
            replace GR := Lib.hid (GR.out.next hbc)
            have HH := Lib.hid (Rw.of how)
            clear how hbc
            have hnh : nh ≤ 1099511627776 := by rw [← HH.out.len]; exact hRl
            go_wp2_with fail
            refine (eqInt64S_any _ _ _ _ _ _ R R _ HH.out.reads WR.out.reads hnh hnw).mono ?_
            rw [eqI_self]
            rintro e w21 ⟨rfl, hb⟩
            replace L := Lib.hid (L.out.next hb)
            replace WR := Lib.hid (WR.out.next hb)
            replace GR := Lib.hid (GR.out.next hb)
            replace HH := Lib.hid (HH.out.next hb)
            clear hb
            go_wp2_with fail
            refine (heldInt64S_any _ _ _ 1 _ GR.out.reads hng (by omega) (by omega)).mono ?_
            rintro e w' ⟨rfl, rfl⟩
            go_wp2
            go_ret
            exact ⟨rfl, L.out.bel⟩
end SendScripted
end Go.Proofs.YtjgmpiefndbnaaaGreatDoor
