/- Walks, laws and small notions for the claims of this seat, several texts as one (RbLawW). Conditions: as each theorem states them. -/
import Derived.Test.YtjgmpiefndbnaaaGreatDoorB12
import Derived.Test.YtjgmpiefndbnaaaGreatDoorB39
import Derived.Test.YtjgmpiefndbnaaaGreatDoorB29
import Derived.Test.YtjgmpiefndbnaaaGreatDoorB14
import Derived.Test.YtjgmpiefndbnaaaGreatDoorB11
import Derived.Deep.RegionHeldLaw
import Derived.Deep.DeepCutAuto
namespace Go.Proofs.YtjgmpiefndbnaaaGreatDoor
open Go.ChangeShapes Go.WideShapes Go.ChangeAt Go.RowKit
namespace ReceiveBytes
set_option maxHeartbeats 400000 in
theorem markWide (A : Option Addr) (n c base : Nat) (zs : List Int) (q : Int) (w : World) (h : OwnI 2 w base A n c zs) (hn : n ≤ 1099511627776) (hq : 0 ≤ q) (hq2 : q ≤ 2199023255552) :
    Calls Tryz.prog 33 #[.slice A n c, .int .i64 q] w fun e w' => e = .returned (.int .i64 (q + n)) ∧ OwnI 2 w' base A n c (marks q n) ∧ w.grownBy w' (Value.slice A n c).ownBlock := by
  have L := Lib.hid h.len
  go_enter Tryz.func33, Tryz.ntmps33
  go_wp2
  go_loopw [1, 5] (fun j i wr => ∃ k : Nat, k ≤ n ∧ i = .int .i64 k ∧ j = .int .i64 (q + k) ∧ OwnI 2 wr base A n c (markTo zs q k) ∧ w.grownBy wr (Value.slice A n c).ownBlock) (fun _ i _ => n - (intOf i).toNat)
  case atStart => exact ⟨0, Nat.zero_le _, rfl, by go_num, by rw [markTo_zero]; exact h, World.grownBy.refl _ _⟩
  case round =>
    obtain ⟨k, hk, rfl, rfl, hown, hg⟩ := hrel
    by_cases hlt : k < n
    · obtain ⟨g, rfl, _, _⟩ := hown.form (by omega)
      have hold := hown.cell hlt
      have hfr := hown.frozen k
      go_wp2
      go_roundw
      case rel =>
        have := hown.stored k (q + k)
        rw [markTo_set L.out hlt] at this
        exact ⟨k + 1, by omega, by go_num, by congr 1; omega, this.1, grown_tr hg this.2⟩
      case measure => simp [intOf]; omega
    · have hkn : k = n := by omega
      have HK := Lib.hid hkn
      clear hkn
      go_wp2
      go_ret
      have := HK.out
      subst this
      rw [markTo_all L.out] at hown
      exact ⟨rfl, hown, hg⟩

set_option maxRecDepth 200000 in
set_option maxHeartbeats 40000000 in
theorem walk (w : World) (m : Mdv) (M : Mdl) (hx : MX w m M) (t md rn sl mb : Int) (_ : I64 t ∧ I64 md ∧ I64 rn ∧ I64 sl ∧ I64 mb) (Az : Option Addr) (nz cz : Nat) (zs : List Int) (hz : RI w w.heap.size Az nz zs) (_ : ∀ i, i < nz → I64 (gi zs i)) (hmz : nz ≤ maxLen) (_ : True) :
    Calls Tryz.prog 6 #[.agg #[.int .i64 m.id, .slice m.An m.nn m.cn, .slice m.Am m.nm m.cm, .slice m.As m.ns m.cs], .agg #[.int .i64 t, .int .i64 md, .int .i64 rn, .int .i64 sl, .int .i64 mb], .slice Az nz cz] w fun e w' => e = .returned (.bool true) ∧ Below w.heap.size w w' := by
  obtain ⟨w0, hw0⟩ : ∃ v, v = (w.alloc (.cells #[.int .i64 m.id, .slice m.An m.nn m.cn, .slice m.Am m.nm m.cm, .slice m.As m.ns m.cs] 26)).alloc (.cells #[.int .i64 t, .int .i64 md, .int .i64 rn, .int .i64 sl, .int .i64 mb] 28) := ⟨_, rfl⟩
  have k0 : BlkL w0 (w.heap.size) 26 [.int .i64 m.id, .slice m.An m.nn m.cn, .slice m.Am m.nm m.cm, .slice m.As m.ns m.cs] := by rw [hw0]; exact (BlkL.new _ _ _ (by simp)).alloc _
  have k1 : BlkL w0 (w.heap.size + 1) 28 [.int .i64 t, .int .i64 md, .int .i64 rn, .int .i64 sl, .int .i64 mb] := by rw [hw0]; exact BlkL.new _ _ _ (by simp)
  have gb : Below w.heap.size w w0 := by rw [hw0]; go_grown
  have hmz2 := hmz
  unfold maxLen at hmz2
  rcases Nat.lt_or_ge 1048576 nz with hle | hle
  · go_enter Tryz.func6, Tryz.ntmps6
    go_wp2
    go_ret
    exact ⟨rfl, by go_grown⟩
  have L := Lib.hid ((LW.one gb k0).snoc k1)
  clear k0 k1
  have hnz : nz ≤ 1099511627776 := by omega
  have HZ := Lib.hid hz
  clear hz hmz hmz2
  go_enter Tryz.func6, Tryz.ntmps6
  go_wp2_with fail
  rw [← hw0]
  clear hw0
  refine (szMedl_any m M 1048576 _ (hx.rn.up gb) (hx.rm.up gb) hx.bn hx.bm hx.bs hx.nm (by omega) (by omega)).mono ?_
  rintro e w1 ⟨v1, rfl, hv1, hb1⟩
  clear gb
  replace L := Lib.hid (L.out.next hb1)
  clear hb1
  rcases hv1 with rfl | ⟨p1, p2, p3, p4, p5, p6, p7⟩
  · go_wp2
    go_ret
    exact ⟨rfl, L.out.bel⟩
  have P6 := Lib.hid p6
  have P7 := Lib.hid p7
  clear p6 p7
  have hR : RD w w.heap.size m M := ⟨hx.id, hx.rn, hx.rm, hx.rs, by omega, by omega, by omega⟩
  have hX7 : ∀ i, i < m.nm → (ge M.ms i).nx.length ≤ 1099511627776 := fun i hi => by have := P7.out i hi; omega
  have hX8 : ∀ i, i < m.nm → (ge M.ms i).nx.length ≤ 1048576 := fun i hi => by have := P7.out i hi; omega
  have hX6 : ∀ i, i < m.nn → (ge M.ns i).nm.size ≤ 1099511627776 := fun i hi => by have := P6.out i hi; omega
  have q3 : m.nn ≤ 1048576 := by omega
  have q4 : m.nm ≤ 1048576 := by omega
  have q5 : m.ns ≤ 1048576 := by omega
  have HX6 := Lib.hid hX6
  have HX7 := Lib.hid hX7
  have HX8 := Lib.hid hX8
  have HR := Lib.hid hR
  clear hX6 hX7 hX8 hR hx P6 P7 p2 p3 p4 p5
  have hHS := fun (u : World) (m' : Mdv) (A' : Option Addr) (c' : Nat) (hrd : RD u u.heap.size m' M) (hx' : RX m' M) (hz' : SL u A' nz c' zs) => sRecB_any m' M t md rn sl mb A' nz c' zs u hrd hx' hz' hle
  have hHI := fun (u : World) (m' : Mdv) (A' : Option Addr) (c' : Nat) (hrd : RD u u.heap.size m' M) (hx' : RX m' M) (hz' : SL u A' nz c' zs) => iRecB_any m' M t md rn sl mb A' nz c' zs u hrd hx' hz' hle
  have hLn : (if causeR M t md rn sl mb zs = 0 then bdt (bdy zs) else []).length ≤ nz := vbL_len HZ.out.len
  change ∀ u m' A' c', _ → _ → _ → Calls _ _ _ u (RetVC u _ _ _ _ _ _ _ _ _ _) at hHS
  change ∀ u m' A' c', _ → _ → _ → Calls _ _ _ u (RetVC u _ _ _ _ _ _ _ _ _ _) at hHI
  obtain ⟨K0, hK0⟩ : ∃ x : Int, statR M t md rn sl mb zs = x := ⟨_, rfl⟩
  obtain ⟨K1, hK1⟩ : ∃ x : Int, ifz (causeR M t md rn sl mb zs) (bk (bdy zs)) = x := ⟨_, rfl⟩
  obtain ⟨K2, hK2⟩ : ∃ x : Int, ifz (causeR M t md rn sl mb zs) (br (bdy zs)) = x := ⟨_, rfl⟩
  obtain ⟨K3, hK3⟩ : ∃ x : Int, ifz (causeR M t md rn sl mb zs) (bq (bdy zs) 0 16) = x := ⟨_, rfl⟩
  obtain ⟨K4, hK4⟩ : ∃ x : Int, ifz (causeR M t md rn sl mb zs) (bq (bdy zs) 16 4) = x := ⟨_, rfl⟩
  obtain ⟨K5, hK5⟩ : ∃ x : Int, ifz (causeR M t md rn sl mb zs) (bq (bdy zs) 20 4) = x := ⟨_, rfl⟩
  obtain ⟨K6, hK6⟩ : ∃ x : Int, ifz (causeR M t md rn sl mb zs) (bq (bdy zs) 24 8) = x := ⟨_, rfl⟩
  obtain ⟨K7, hK7⟩ : ∃ x : Int, ifz (causeR M t md rn sl mb zs) (bq (bdy zs) 32 32) = x := ⟨_, rfl⟩
  obtain ⟨R, hR⟩ : ∃ x : List Int, (if causeR M t md rn sl mb zs = 0 then bdt (bdy zs) else []) = x := ⟨_, rfl⟩
  obtain ⟨CD, hCD⟩ : ∃ x : Int, codeRB M t md rn sl mb zs = x := ⟨_, rfl⟩
  rw [hR] at hLn
  rw [hK0, hK1, hK2, hK3, hK4, hK5, hK6, hK7, hR, hCD] at hHS hHI
  clear hK0 hK1 hK2 hK3 hK4 hK5 hK6 hK7 hR hCD
  obtain ⟨NR, hNR⟩ : ∃ x, R.length = x := ⟨_, rfl⟩
  rw [hNR] at hLn
  have HNR := Lib.hid hNR
  have HS := Lib.hid hHS
  have HI := Lib.hid hHI
  clear hHS hHI hNR
  have hng : NR ≤ 1099511627776 := by omega
  go_upto_region 7 with fail
  have hV : Below w1.heap.size w1 w1.drew := (Below.refl _ _).drew
  have hcells : ∀ u, Below w1.heap.size w1 u → (Below w1.heap.size w1 u ∧ u.cell? ⟨w.heap.size, 0, none⟩ = some (.int .i64 m.id) ∧ u.cell? ⟨w.heap.size, 1, none⟩ = some (.slice m.An m.nn m.cn) ∧ u.cell? ⟨w.heap.size, 2, none⟩ = some (.slice m.Am m.nm m.cm) ∧ u.cell? ⟨w.heap.size, 3, none⟩ = some (.slice m.As m.ns m.cs) ∧ u.cell? ⟨w.heap.size + 1, 0, none⟩ = some (.int .i64 t) ∧ u.cell? ⟨w.heap.size + 1, 1, none⟩ = some (.int .i64 md) ∧ u.cell? ⟨w.heap.size + 1, 2, none⟩ = some (.int .i64 rn) ∧ u.cell? ⟨w.heap.size + 1, 3, none⟩ = some (.int .i64 sl) ∧ u.cell? ⟨w.heap.size + 1, 4, none⟩ = some (.int .i64 mb)) := fun u hu => ⟨hu, ((L.out.bx 0 _ rfl).next hu).c 0 rfl, ((L.out.bx 0 _ rfl).next hu).c 1 rfl, ((L.out.bx 0 _ rfl).next hu).c 2 rfl, ((L.out.bx 0 _ rfl).next hu).c 3 rfl, ((L.out.bx 1 _ rfl).next hu).c 0 rfl, ((L.out.bx 1 _ rfl).next hu).c 1 rfl, ((L.out.bx 1 _ rfl).next hu).c 2 rfl, ((L.out.bx 1 _ rfl).next hu).c 3 rfl, ((L.out.bx 1 _ rfl).next hu).c 4 rfl⟩
  have HC := Lib.hid hcells
  clear hcells
  have HTM := Lib.hid (fun u (hu : Below w1.heap.size w1 u) => toMedl_any m M u (HR.out.up (below_next hu L.out.bel (Nat.le_refl _))) HX7.out)
  have HTS := Lib.hid (fun u => toState_any t md rn sl mb u)
  have HTI := Lib.hid (fun u (hu : Below w1.heap.size w1 u) => toInt64S_any Az nz cz zs u (HZ.out.up (below_next hu L.out.bel (Nat.le_refl _))) hnz)
  go_cut [8, 9] (fun v8 v9 wc => ∃ g A c, v8 = .pointer (some ⟨g, 0, none⟩) ∧ v9 = .int .i64 CD ∧ w1.heap.size ≤ g ∧ BlkL wc g 72 [.int .i64 K0, .int .i64 K1, .int .i64 K2, .int .i64 K3, .int .i64 K4, .int .i64 K5, .int .i64 K6, .int .i64 K7, .slice A NR c] ∧ OwnI 2 wc w1.heap.size A NR c R ∧ Below w1.heap.size w1 wc)
  case first =>
    go_region_held_law (fun u => Below w1.heap.size w1 u ∧ u.cell? ⟨w.heap.size, 0, none⟩ = some (.int .i64 m.id) ∧ u.cell? ⟨w.heap.size, 1, none⟩ = some (.slice m.An m.nn m.cn) ∧ u.cell? ⟨w.heap.size, 2, none⟩ = some (.slice m.Am m.nm m.cm) ∧ u.cell? ⟨w.heap.size, 3, none⟩ = some (.slice m.As m.ns m.cs) ∧ u.cell? ⟨w.heap.size + 1, 0, none⟩ = some (.int .i64 t) ∧ u.cell? ⟨w.heap.size + 1, 1, none⟩ = some (.int .i64 md) ∧ u.cell? ⟨w.heap.size + 1, 2, none⟩ = some (.int .i64 rn) ∧ u.cell? ⟨w.heap.size + 1, 3, none⟩ = some (.int .i64 sl) ∧ u.cell? ⟨w.heap.size + 1, 4, none⟩ = some (.int .i64 mb)) (first | (with_reducible exact HC.out _ hV) | (with_reducible refine HC.out _ ?_; with_reducible assumption) | (with_reducible exact HC.out _ (below_alloc hv (Nat.le_refl _) _)) | (with_reducible exact HC.out _ (below_alloc hV (Nat.le_refl _) _)) | (with_reducible refine HC.out _ ?_; go_grown)) (first
      | (go_at_call 10; (have hgv : Below w1.heap.size w1 _ := And.left (‹Below w1.heap.size w1 _ ∧ _›)); (with_reducible refine (HTM.out _ hgv).mono ?_); rintro e cc ⟨A1, c1, A2, c2, A3, c3, rfl, hRD, hcap, hb⟩; (have hv := below_next hb hgv (Nat.le_refl _)); (have SZ1 := hv.size); (try (first | (replace KB := Lib.hid (KB.out.next hb)) | (with_reducible have KB := Lib.hid (blkB hb)) | (with_reducible have KB := Lib.hid (blkBd hb)))); (try (first | (replace HRI := Lib.hid (HRI.out.up hb)) | (replace HRI := Lib.hid ((HRI.out.up (below_alloc (Below.refl _ _) (Nat.le_refl _) _)).up hb)))); (try (first | (replace HNC := Lib.hid (HNC.out.next hb)) | (replace HNC := Lib.hid ((HNC.out.next (below_alloc (Below.refl _ _) (Nat.le_refl _) _)).next hb)))); have HRD := Lib.hid hRD; have HCP := Lib.hid hcap; clear hRD hcap hgv hb)
      | (go_at_call 11; (have hgv : Below w1.heap.size w1 _ := And.left (‹Below w1.heap.size w1 _ ∧ _›)); (with_reducible refine (HTS.out _).mono ?_); rintro e cc ⟨rfl, hb⟩; (have hv := below_next hb hgv (Nat.le_refl _)); (have SZ1 := hv.size); (try (first | (replace KB := Lib.hid (KB.out.next hb)) | (with_reducible have KB := Lib.hid (blkB hb)) | (with_reducible have KB := Lib.hid (blkBd hb)))); (try (first | (replace HRD := Lib.hid (HRD.out.up hb)) | (replace HRD := Lib.hid ((HRD.out.up (below_alloc (Below.refl _ _) (Nat.le_refl _) _)).up hb)))); (try (first | (replace HRI := Lib.hid (HRI.out.up hb)) | (replace HRI := Lib.hid ((HRI.out.up (below_alloc (Below.refl _ _) (Nat.le_refl _) _)).up hb)))); (try (first | (replace HNC := Lib.hid (HNC.out.next hb)) | (replace HNC := Lib.hid ((HNC.out.next (below_alloc (Below.refl _ _) (Nat.le_refl _) _)).next hb)))); clear hgv hb)
      | (go_at_call 12; (have hgv : Below w1.heap.size w1 _ := And.left (‹Below w1.heap.size w1 _ ∧ _›)); (with_reducible refine (HTI.out _ hgv).mono ?_); rintro e cc ⟨A4, c4, rfl, hown, hb⟩; (have hv := below_next hb hgv (Nat.le_refl _)); (have SZ1 := hv.size); (try (first | (replace KB := Lib.hid (KB.out.next hb)) | (with_reducible have KB := Lib.hid (blkB hb)) | (with_reducible have KB := Lib.hid (blkBd hb)))); (try (first | (replace HRD := Lib.hid (HRD.out.up hb)) | (replace HRD := Lib.hid ((HRD.out.up (below_alloc (Below.refl _ _) (Nat.le_refl _) _)).up hb)))); have HRI := Lib.hid hown.reads; have HNC := Lib.hid (SL.own hown); clear hown hgv hb)
      | (go_at_call 35; (have hgv : Below w1.heap.size w1 _ := And.left (‹Below w1.heap.size w1 _ ∧ _›)); (first | (with_reducible refine (HS.out _ ⟨m.id, A1, m.nn, c1, A2, m.nm, c2, A3, m.ns, c3⟩ A4 c4 HRD.out ⟨HX6.out, HX7.out, HCP.out⟩ HNC.out).mono ?_) | (with_reducible refine (HS.out _ ⟨m.id, A1, m.nn, c1, A2, m.nm, c2, A3, m.ns, c3⟩ A4 c4 (HRD.out.up (below_alloc (Below.refl _ _) (Nat.le_refl _) _)) ⟨HX6.out, HX7.out, HCP.out⟩ (HNC.out.next (below_alloc (Below.refl _ _) (Nat.le_refl _) _))).mono ?_)); rintro e cc ⟨Aq, nq, cq, rfl, hown, hb⟩; (have hv := below_next hb hgv (Nat.le_refl _)); (have SZ1 := hv.size); (try (first | (replace KB := Lib.hid (KB.out.next hb)) | (with_reducible have KB := Lib.hid (blkB hb)) | (with_reducible have KB := Lib.hid (blkBd hb)))); (obtain rfl : NR = nq := by rw [← HNR.out]; exact hown.len); have HOW := Lib.hid (hown.weaken hgv.size); clear hown; have SV := Lib.hid hv.size; have HV9 := Lib.hid hv; (try (have y0 := KB.out.free 0; have y1 := KB.out.free 1; have y2 := KB.out.free 2; have y3 := KB.out.free 3; have y4 := KB.out.free 4; have y5 := KB.out.free 5; have y6 := KB.out.free 6; have y7 := KB.out.free 7; have y8 := KB.out.free 8; have e0 := KB.out.c 0 rfl; have e1 := KB.out.c 1 rfl; have e2 := KB.out.c 2 rfl; have e3 := KB.out.c 3 rfl; have e4 := KB.out.c 4 rfl; have e5 := KB.out.c 5 rfl; have e6 := KB.out.c 6 rfl; have e7 := KB.out.c 7 rfl; have e8 := KB.out.c 8 rfl)); clear hgv hb))
    all_goals
      go_wp2_with fail
      go_meet
      first
      | exact ⟨_, Aq, cq, rfl, rfl, SV.out, BlkL.new _ _ _ rfl, HOW.out.alloc _, below_alloc HV9.out (Nat.le_refl _) _⟩
      | (have ko := ((((((((((show KO 72 2 cc _ _ w1.heap.size Aq NR cq _ from ⟨KB.out, HOW.out⟩).set (by decide) 0 (.int .i64 K0)).set (by decide) 1 (.int .i64 K1)).set (by decide) 2 (.int .i64 K2)).set (by decide) 3 (.int .i64 K3)).set (by decide) 4 (.int .i64 K4)).set (by decide) 5 (.int .i64 K5)).set (by decide) 6 (.int .i64 K6)).set (by decide) 7 (.int .i64 K7)).set (by decide) 8 (.slice Aq NR cq))
         have hv := HV9.out
         exact ⟨_, Aq, cq, rfl, rfl, by first | exact Nat.le_refl _ | assumption, ko.1, ko.2, by go_grown⟩)
  case rest =>
    clear HC hV HTM HTS HTI
    obtain ⟨g0, Aw, cw, rfl, rfl, hgw, hkb, how, hbc⟩ := hcut
    obtain ⟨w2, hw9⟩ : ∃ v, v = wc := ⟨_, rfl⟩
    rw [← hw9] at hkb how hbc ⊢
    clear hw9
    replace L := Lib.hid (L.out.next hbc)
    have WR := Lib.hid (Rw.of how)
    have zlw := hkb.lt
    have zmw := hbc.size
    replace L := Lib.hid (L.out.snoc hkb)
    clear hkb how hbc
    have z0 := L.out.bel.size
    have y1 := (L.out.bx 1 _ rfl).lt
    have c0_0 : w2.cell? ⟨w.heap.size, 0, none⟩ = some (.int .i64 m.id) := (L.out.bx 0 _ rfl).c 0 rfl
    have c0_1 : w2.cell? ⟨w.heap.size, 1, none⟩ = some (.slice m.An m.nn m.cn) := (L.out.bx 0 _ rfl).c 1 rfl
    have c0_2 : w2.cell? ⟨w.heap.size, 2, none⟩ = some (.slice m.Am m.nm m.cm) := (L.out.bx 0 _ rfl).c 2 rfl
    have c0_3 : w2.cell? ⟨w.heap.size, 3, none⟩ = some (.slice m.As m.ns m.cs) := (L.out.bx 0 _ rfl).c 3 rfl
    go_wp2_with fail
    refine (toMedl_own m M _ (HR.out.up L.out.bel) HX7.out).mono ?_
    rintro e w3 ⟨A1, c1, A2, c2, A3, c3, rfl, hRD, hcap, hb3, hn1, hn2, hn3⟩
    have XR := Lib.hid hRD
    have XO := Lib.hid (MO.of (id := m.id) hn1 hn2 hn3 HX8.out)
    have HCX := Lib.hid hcap
    replace L := Lib.hid (L.out.next hb3)
    replace WR := Lib.hid (WR.out.next hb3)
    clear c0_0 c0_1 c0_2 c0_3
    have z2 := hb3.size
    clear hRD hcap hb3 hn1 hn2 hn3
    obtain ⟨w4, hw4⟩ : ∃ v, v = w3.alloc (.cells #[.int .i64 m.id, .slice A1 m.nn c1, .slice A2 m.nm c2, .slice A3 m.ns c3] 37) := ⟨_, rfl⟩
    have kx : BlkL w4 w3.heap.size 37 [.int .i64 m.id, .slice A1 m.nn c1, .slice A2 m.nm c2, .slice A3 m.ns c3] := by rw [hw4]; exact BlkL.new _ _ _ rfl
    have hb4 : Below w3.heap.size w3 w4 := by rw [hw4]; go_grown
    have z3 : w3.heap.size < w4.heap.size := kx.lt
    replace L := Lib.hid (L.out.next hb4)
    replace WR := Lib.hid (WR.out.next hb4)
    replace XO := Lib.hid (XO.out.next hb4)
    replace XR := Lib.hid (XR.out.up hb4)
    replace L := Lib.hid (L.out.snoc kx)
    clear kx hb4
    go_wp2_with fail
    rw [← hw4]
    clear hw4
    refine (toInt64S_any Az nz cz zs _ (HZ.out.up L.out.bel) hnz).mono ?_
    rintro e w5 ⟨A4, c4, rfl, hown, hb5⟩
    have FR := Lib.hid (Rw.of hown)
    have z4 := hb5.size
    replace L := Lib.hid (L.out.next hb5)
    replace WR := Lib.hid (WR.out.next hb5)
    replace XO := Lib.hid (XO.out.next hb5)
    replace XR := Lib.hid (XR.out.up hb5)
    clear hown hb5
    go_upto_region 10 with fail
    have hV : Below w5.heap.size w5 w5.drew := (Below.refl _ _).drew
    have hcells : ∀ u, Below w5.heap.size w5 u → (Below w5.heap.size w5 u ∧ u.cell? ⟨w3.heap.size, 0, none⟩ = some (.int .i64 m.id) ∧ u.cell? ⟨w3.heap.size, 1, none⟩ = some (.slice A1 m.nn c1) ∧ u.cell? ⟨w3.heap.size, 2, none⟩ = some (.slice A2 m.nm c2) ∧ u.cell? ⟨w3.heap.size, 3, none⟩ = some (.slice A3 m.ns c3) ∧ u.cell? ⟨w.heap.size + 1, 0, none⟩ = some (.int .i64 t) ∧ u.cell? ⟨w.heap.size + 1, 1, none⟩ = some (.int .i64 md) ∧ u.cell? ⟨w.heap.size + 1, 2, none⟩ = some (.int .i64 rn) ∧ u.cell? ⟨w.heap.size + 1, 3, none⟩ = some (.int .i64 sl) ∧ u.cell? ⟨w.heap.size + 1, 4, none⟩ = some (.int .i64 mb)) := fun u hu => ⟨hu, ((L.out.bx 3 _ rfl).next hu).c 0 rfl, ((L.out.bx 3 _ rfl).next hu).c 1 rfl, ((L.out.bx 3 _ rfl).next hu).c 2 rfl, ((L.out.bx 3 _ rfl).next hu).c 3 rfl, ((L.out.bx 1 _ rfl).next hu).c 0 rfl, ((L.out.bx 1 _ rfl).next hu).c 1 rfl, ((L.out.bx 1 _ rfl).next hu).c 2 rfl, ((L.out.bx 1 _ rfl).next hu).c 3 rfl, ((L.out.bx 1 _ rfl).next hu).c 4 rfl⟩
    have HC := Lib.hid hcells
    clear hcells
    have HTS := Lib.hid (fun u => toState_any t md rn sl mb u)
    go_cut [12, 13] (fun v12 v13 wc => ∃ g A c, v12 = .pointer (some ⟨g, 0, none⟩) ∧ v13 = .int .i64 CD ∧ w5.heap.size ≤ g ∧ BlkL wc g 72 [.int .i64 K0, .int .i64 K1, .int .i64 K2, .int .i64 K3, .int .i64 K4, .int .i64 K5, .int .i64 K6, .int .i64 K7, .slice A NR c] ∧ OwnI 2 wc w5.heap.size A NR c R ∧ Below w5.heap.size w5 wc)
    case first =>
      go_region_held_law (fun u => Below w5.heap.size w5 u ∧ u.cell? ⟨w3.heap.size, 0, none⟩ = some (.int .i64 m.id) ∧ u.cell? ⟨w3.heap.size, 1, none⟩ = some (.slice A1 m.nn c1) ∧ u.cell? ⟨w3.heap.size, 2, none⟩ = some (.slice A2 m.nm c2) ∧ u.cell? ⟨w3.heap.size, 3, none⟩ = some (.slice A3 m.ns c3) ∧ u.cell? ⟨w.heap.size + 1, 0, none⟩ = some (.int .i64 t) ∧ u.cell? ⟨w.heap.size + 1, 1, none⟩ = some (.int .i64 md) ∧ u.cell? ⟨w.heap.size + 1, 2, none⟩ = some (.int .i64 rn) ∧ u.cell? ⟨w.heap.size + 1, 3, none⟩ = some (.int .i64 sl) ∧ u.cell? ⟨w.heap.size + 1, 4, none⟩ = some (.int .i64 mb)) (first | (with_reducible exact HC.out _ hV) | (with_reducible refine HC.out _ ?_; with_reducible assumption) | (with_reducible exact HC.out _ (below_alloc hv (Nat.le_refl _) _)) | (with_reducible exact HC.out _ (below_alloc hV (Nat.le_refl _) _)) | (with_reducible refine HC.out _ ?_; go_grown)) (first
        | (go_at_call 11; (have hgv : Below w5.heap.size w5 _ := And.left (‹Below w5.heap.size w5 _ ∧ _›)); (with_reducible refine (HTS.out _).mono ?_); rintro e cc ⟨rfl, hb⟩; (have hv := below_next hb hgv (Nat.le_refl _)); (have SZ1 := hv.size); (try (first | (replace KB := Lib.hid (KB.out.next hb)) | (with_reducible have KB := Lib.hid (blkB hb)) | (with_reducible have KB := Lib.hid (blkBd hb)))); (try (first | (replace HRD := Lib.hid (HRD.out.up hb)) | (replace HRD := Lib.hid ((HRD.out.up (below_alloc (Below.refl _ _) (Nat.le_refl _) _)).up hb)))); (try (first | (replace HRI := Lib.hid (HRI.out.up hb)) | (replace HRI := Lib.hid ((HRI.out.up (below_alloc (Below.refl _ _) (Nat.le_refl _) _)).up hb)))); (try (first | (replace HNC := Lib.hid (HNC.out.next hb)) | (replace HNC := Lib.hid ((HNC.out.next (below_alloc (Below.refl _ _) (Nat.le_refl _) _)).next hb)))); clear hgv hb)
        | (go_at_call 36; (have hgv : Below w5.heap.size w5 _ := And.left (‹Below w5.heap.size w5 _ ∧ _›)); (refine (HI.out _ ⟨m.id, A1, m.nn, c1, A2, m.nm, c2, A3, m.ns, c3⟩ A4 c4 (XR.out.up hgv) ⟨HX6.out, HX7.out, HCX.out⟩ (SL.own (FR.out.next hgv).own)).mono ?_); rintro e cc ⟨Aq, nq, cq, rfl, hown, hb⟩; (have hv := below_next hb hgv (Nat.le_refl _)); (have SZ1 := hv.size); (try (first | (replace KB := Lib.hid (KB.out.next hb)) | (with_reducible have KB := Lib.hid (blkB hb)) | (with_reducible have KB := Lib.hid (blkBd hb)))); (obtain rfl : NR = nq := by rw [← HNR.out]; exact hown.len); have HOW := Lib.hid (hown.weaken hgv.size); clear hown; have SV := Lib.hid hv.size; have HV9 := Lib.hid hv; (try (have y0 := KB.out.free 0; have y1 := KB.out.free 1; have y2 := KB.out.free 2; have y3 := KB.out.free 3; have y4 := KB.out.free 4; have y5 := KB.out.free 5; have y6 := KB.out.free 6; have y7 := KB.out.free 7; have y8 := KB.out.free 8; have e0 := KB.out.c 0 rfl; have e1 := KB.out.c 1 rfl; have e2 := KB.out.c 2 rfl; have e3 := KB.out.c 3 rfl; have e4 := KB.out.c 4 rfl; have e5 := KB.out.c 5 rfl; have e6 := KB.out.c 6 rfl; have e7 := KB.out.c 7 rfl; have e8 := KB.out.c 8 rfl)); clear hgv hb))
      all_goals
        go_wp2_with fail
        go_meet
        first
        | exact ⟨_, Aq, cq, rfl, rfl, SV.out, BlkL.new _ _ _ rfl, HOW.out.alloc _, below_alloc HV9.out (Nat.le_refl _) _⟩
        | (have ko := ((((((((((show KO 72 2 cc _ _ w5.heap.size Aq NR cq _ from ⟨KB.out, HOW.out⟩).set (by decide) 0 (.int .i64 K0)).set (by decide) 1 (.int .i64 K1)).set (by decide) 2 (.int .i64 K2)).set (by decide) 3 (.int .i64 K3)).set (by decide) 4 (.int .i64 K4)).set (by decide) 5 (.int .i64 K5)).set (by decide) 6 (.int .i64 K6)).set (by decide) 7 (.int .i64 K7)).set (by decide) 8 (.slice Aq NR cq))
           have hv := HV9.out
           exact ⟨_, Aq, cq, rfl, rfl, by first | exact Nat.le_refl _ | assumption, ko.1, ko.2, by go_grown⟩)
    case rest =>
      clear HC hV HTS
      obtain ⟨g1, Ag, cg, rfl, rfl, hgg, hkb, how, hbc⟩ := hcut
      obtain ⟨w6, hw9⟩ : ∃ v, v = wc := ⟨_, rfl⟩
      rw [← hw9] at hkb how hbc ⊢
      clear hw9
      replace L := Lib.hid (L.out.next hbc)
      replace WR := Lib.hid (WR.out.next hbc)
      replace XO := Lib.hid (XO.out.next hbc)
      replace XR := Lib.hid (XR.out.up hbc)
      replace FR := Lib.hid (FR.out.next hbc)
      have GR := Lib.hid (Rw.of how)
      have zlg := hkb.lt
      have zmg := hbc.size
      replace L := Lib.hid (L.out.snoc hkb)
      clear hkb how hbc
      have c4_0 : w6.cell? ⟨g1, 0, none⟩ = some (.int .i64 K0) := (L.out.bx 4 _ rfl).c 0 rfl
      have c4_1 : w6.cell? ⟨g1, 1, none⟩ = some (.int .i64 K1) := (L.out.bx 4 _ rfl).c 1 rfl
      have c4_2 : w6.cell? ⟨g1, 2, none⟩ = some (.int .i64 K2) := (L.out.bx 4 _ rfl).c 2 rfl
      have c4_3 : w6.cell? ⟨g1, 3, none⟩ = some (.int .i64 K3) := (L.out.bx 4 _ rfl).c 3 rfl
      have c4_4 : w6.cell? ⟨g1, 4, none⟩ = some (.int .i64 K4) := (L.out.bx 4 _ rfl).c 4 rfl
      have c4_5 : w6.cell? ⟨g1, 5, none⟩ = some (.int .i64 K5) := (L.out.bx 4 _ rfl).c 5 rfl
      have c4_6 : w6.cell? ⟨g1, 6, none⟩ = some (.int .i64 K6) := (L.out.bx 4 _ rfl).c 6 rfl
      have c4_7 : w6.cell? ⟨g1, 7, none⟩ = some (.int .i64 K7) := (L.out.bx 4 _ rfl).c 7 rfl
      have c4_8 : w6.cell? ⟨g1, 8, none⟩ = some (.slice Ag NR cg) := (L.out.bx 4 _ rfl).c 8 rfl
      have c2_0 : w6.cell? ⟨g0, 0, none⟩ = some (.int .i64 K0) := (L.out.bx 2 _ rfl).c 0 rfl
      have c2_1 : w6.cell? ⟨g0, 1, none⟩ = some (.int .i64 K1) := (L.out.bx 2 _ rfl).c 1 rfl
      have c2_2 : w6.cell? ⟨g0, 2, none⟩ = some (.int .i64 K2) := (L.out.bx 2 _ rfl).c 2 rfl
      have c2_3 : w6.cell? ⟨g0, 3, none⟩ = some (.int .i64 K3) := (L.out.bx 2 _ rfl).c 3 rfl
      have c2_4 : w6.cell? ⟨g0, 4, none⟩ = some (.int .i64 K4) := (L.out.bx 2 _ rfl).c 4 rfl
      have c2_5 : w6.cell? ⟨g0, 5, none⟩ = some (.int .i64 K5) := (L.out.bx 2 _ rfl).c 5 rfl
      have c2_6 : w6.cell? ⟨g0, 6, none⟩ = some (.int .i64 K6) := (L.out.bx 2 _ rfl).c 6 rfl
      have c2_7 : w6.cell? ⟨g0, 7, none⟩ = some (.int .i64 K7) := (L.out.bx 2 _ rfl).c 7 rfl
      have c2_8 : w6.cell? ⟨g0, 8, none⟩ = some (.slice Aw NR cw) := (L.out.bx 2 _ rfl).c 8 rfl
      go_wp2_with fail
      refine (eqVr_self K0 K1 K2 K3 K4 K5 K6 K7 _ _ NR _ _ R _ GR.out.reads WR.out.reads hng).mono ?_
      rintro e w7 ⟨rfl, hb⟩
      replace L := Lib.hid (L.out.next hb)
      replace WR := Lib.hid (WR.out.next hb)
      replace XO := Lib.hid (XO.out.next hb)
      replace XR := Lib.hid (XR.out.up hb)
      replace FR := Lib.hid (FR.out.next hb)
      replace GR := Lib.hid (GR.out.next hb)
      clear c4_0 c4_1 c4_2 c4_3 c4_4 c4_5 c4_6 c4_7 c4_8 c2_0 c2_1 c2_2 c2_3 c2_4 c2_5 c2_6 c2_7 c2_8
      clear hb
      go_upto_region 13 with fail
      have hV : Below w7.heap.size w7 w7.drew := (Below.refl _ _).drew
      have hcells : ∀ u, Below w7.heap.size w7 u → (Below w7.heap.size w7 u ∧ u.cell? ⟨w3.heap.size, 0, none⟩ = some (.int .i64 m.id) ∧ u.cell? ⟨w3.heap.size, 1, none⟩ = some (.slice A1 m.nn c1) ∧ u.cell? ⟨w3.heap.size, 2, none⟩ = some (.slice A2 m.nm c2) ∧ u.cell? ⟨w3.heap.size, 3, none⟩ = some (.slice A3 m.ns c3) ∧ u.cell? ⟨w.heap.size, 0, none⟩ = some (.int .i64 m.id) ∧ u.cell? ⟨w.heap.size, 1, none⟩ = some (.slice m.An m.nn m.cn) ∧ u.cell? ⟨w.heap.size, 2, none⟩ = some (.slice m.Am m.nm m.cm) ∧ u.cell? ⟨w.heap.size, 3, none⟩ = some (.slice m.As m.ns m.cs)) := fun u hu => ⟨hu, ((L.out.bx 3 _ rfl).next hu).c 0 rfl, ((L.out.bx 3 _ rfl).next hu).c 1 rfl, ((L.out.bx 3 _ rfl).next hu).c 2 rfl, ((L.out.bx 3 _ rfl).next hu).c 3 rfl, ((L.out.bx 0 _ rfl).next hu).c 0 rfl, ((L.out.bx 0 _ rfl).next hu).c 1 rfl, ((L.out.bx 0 _ rfl).next hu).c 2 rfl, ((L.out.bx 0 _ rfl).next hu).c 3 rfl⟩
      have HC := Lib.hid hcells
      clear hcells
      have HTM := Lib.hid (fun u (hu : Below w7.heap.size w7 u) => toMedl_any m M u (HR.out.up (below_next hu L.out.bel (Nat.le_refl _))) HX7.out)
      go_cut [62] (fun v wc => v = .bool false ∧ Below w7.heap.size w7 wc)
      case first =>
        go_region_held_law (fun u => Below w7.heap.size w7 u ∧ u.cell? ⟨w3.heap.size, 0, none⟩ = some (.int .i64 m.id) ∧ u.cell? ⟨w3.heap.size, 1, none⟩ = some (.slice A1 m.nn c1) ∧ u.cell? ⟨w3.heap.size, 2, none⟩ = some (.slice A2 m.nm c2) ∧ u.cell? ⟨w3.heap.size, 3, none⟩ = some (.slice A3 m.ns c3) ∧ u.cell? ⟨w.heap.size, 0, none⟩ = some (.int .i64 m.id) ∧ u.cell? ⟨w.heap.size, 1, none⟩ = some (.slice m.An m.nn m.cn) ∧ u.cell? ⟨w.heap.size, 2, none⟩ = some (.slice m.Am m.nm m.cm) ∧ u.cell? ⟨w.heap.size, 3, none⟩ = some (.slice m.As m.ns m.cs)) (first | (with_reducible exact HC.out _ hV) | (with_reducible refine HC.out _ ?_; with_reducible assumption) | (with_reducible refine HC.out _ ?_; go_grown)) (first
          | (go_at_call 10; (have hgv : Below w7.heap.size w7 _ := And.left (‹Below w7.heap.size w7 _ ∧ _›)); (with_reducible refine (HTM.out _ hgv).mono ?_); rintro e cc ⟨B1, d1, B2, d2, B3, d3, rfl, hRD, hcap, hb⟩; (have hv := below_next hb hgv (Nat.le_refl _)); (try (first | (replace HRI := Lib.hid (HRI.out.up hb)) | (replace HRI := Lib.hid ((HRI.out.up (below_alloc (Below.refl _ _) (Nat.le_refl _) _)).up hb)))); (try (first | (replace HNC := Lib.hid (HNC.out.next hb)) | (replace HNC := Lib.hid ((HNC.out.next (below_alloc (Below.refl _ _) (Nat.le_refl _) _)).next hb)))); have HRD := Lib.hid hRD; have HCP := Lib.hid hcap; clear hRD hcap hgv hb)
          | (go_at_call 14; (have hgv : Below w7.heap.size w7 _ := And.left (‹Below w7.heap.size w7 _ ∧ _›)); (refine (eqMedl_self ⟨m.id, A1, m.nn, c1, A2, m.nm, c2, A3, m.ns, c3⟩ ⟨m.id, B1, m.nn, d1, B2, m.nm, d2, B3, m.ns, d3⟩ M _ (XR.out.up hgv) HRD.out HX7.out).mono ?_); rintro e cc ⟨rfl, hb⟩; (have hv := below_next hb hgv (Nat.le_refl _)); have SV := Lib.hid hv.size; have HV9 := Lib.hid hv; clear hgv hb))
        all_goals
          go_wp2_with fail
          go_meet
          exact ⟨rfl, HV9.out⟩
      case rest =>
        clear HC hV HTM
        obtain ⟨rfl, hbc⟩ := hcut
        obtain ⟨w8, hw9⟩ : ∃ v, v = wc := ⟨_, rfl⟩
        rw [← hw9] at hbc ⊢
        clear hw9
        replace L := Lib.hid (L.out.next hbc)
        replace WR := Lib.hid (WR.out.next hbc)
        replace XO := Lib.hid (XO.out.next hbc)
        replace XR := Lib.hid (XR.out.up hbc)
        replace FR := Lib.hid (FR.out.next hbc)
        replace GR := Lib.hid (GR.out.next hbc)
        clear hbc
        go_wp2_with fail
        refine (toInt64S_any Az nz cz zs _ (HZ.out.up L.out.bel) hnz).mono ?_
        rintro e w9 ⟨B4, d4, rfl, hown, hb⟩
        have HRI := Lib.hid hown.reads
        replace L := Lib.hid (L.out.next hb)
        replace WR := Lib.hid (WR.out.next hb)
        replace XO := Lib.hid (XO.out.next hb)
        replace XR := Lib.hid (XR.out.up hb)
        replace FR := Lib.hid (FR.out.next hb)
        replace GR := Lib.hid (GR.out.next hb)
        clear hown hb
        go_wp2_with fail
        refine (eqInt64S_any A4 B4 nz nz c4 d4 zs zs _ FR.out.reads HRI.out hnz hnz).mono ?_
        rw [eqI_self]
        rintro e w10 ⟨rfl, hb⟩
        replace L := Lib.hid (L.out.next hb)
        replace WR := Lib.hid (WR.out.next hb)
        replace XO := Lib.hid (XO.out.next hb)
        replace XR := Lib.hid (XR.out.up hb)
        replace FR := Lib.hid (FR.out.next hb)
        replace GR := Lib.hid (GR.out.next hb)
        clear HRI hb
        have c3_0 : w10.cell? ⟨w3.heap.size, 0, none⟩ = some (.int .i64 m.id) := (L.out.bx 3 _ rfl).c 0 rfl
        have c3_1 : w10.cell? ⟨w3.heap.size, 1, none⟩ = some (.slice A1 m.nn c1) := (L.out.bx 3 _ rfl).c 1 rfl
        have c3_2 : w10.cell? ⟨w3.heap.size, 2, none⟩ = some (.slice A2 m.nm c2) := (L.out.bx 3 _ rfl).c 2 rfl
        have c3_3 : w10.cell? ⟨w3.heap.size, 3, none⟩ = some (.slice A3 m.ns c3) := (L.out.bx 3 _ rfl).c 3 rfl
        go_wp2_with fail
        have hsx : w3.heap.size ≤ w10.heap.size := by have := (L.out.bx 3 _ rfl).lt; omega
        refine (markMedl_any ⟨m.id, A1, m.nn, c1, A2, m.nm, c2, A3, m.ns, c3⟩ w2.heap.size w3.heap.size 1 _ XO.out hsx q3 q4 q5 (by omega) (by omega)).mono ?_
        rintro e w11 ⟨kv, rfl, hk0, hk1, hmk⟩
        clear c3_0 c3_1 c3_2 c3_3
        replace L := Lib.hid (L.out.mkb hmk (by omega) (fun i b e => by match i, e with | 0, e => (obtain rfl := Option.some.inj e; left; show w.heap.size < w2.heap.size; omega) | 1, e => (obtain rfl := Option.some.inj e; left; show w.heap.size + 1 < w2.heap.size; omega) | 2, e => (obtain rfl := Option.some.inj e; left; show g0 < w2.heap.size; omega) | 3, e => (obtain rfl := Option.some.inj e; right; show w3.heap.size ≤ w3.heap.size; omega) | 4, e => (obtain rfl := Option.some.inj e; right; show w3.heap.size ≤ g1; omega) | i + 5, e => simp at e))
        replace WR := Lib.hid (WR.out.mkb hmk (by omega))
        replace FR := Lib.hid (FR.out.mkb hmk (by omega))
        replace GR := Lib.hid (GR.out.mkb hmk (by omega))
        clear hmk XO XR HCX hsx
        go_wp2_with fail
        refine (markWide _ _ _ _ zs kv _ FR.out.own hnz (by omega) (by omega)).mono ?_
        rintro e w12 ⟨rfl, hown, hg⟩
        have hmm := FR.out.marked hg hown
        have hmk := hmm.1
        clear hg hown hmm
        have hkw : 0 ≤ kv + (nz : Int) := by omega
        replace L := Lib.hid (L.out.mkb hmk (by omega) (fun i b e => by match i, e with | 0, e => (obtain rfl := Option.some.inj e; left; show w.heap.size < w4.heap.size; omega) | 1, e => (obtain rfl := Option.some.inj e; left; show w.heap.size + 1 < w4.heap.size; omega) | 2, e => (obtain rfl := Option.some.inj e; left; show g0 < w4.heap.size; omega) | 3, e => (obtain rfl := Option.some.inj e; left; show w3.heap.size < w4.heap.size; omega) | 4, e => (obtain rfl := Option.some.inj e; right; show w5.heap.size ≤ g1; omega) | i + 5, e => simp at e))
        replace WR := Lib.hid (WR.out.mkb hmk (by omega))
        replace GR := Lib.hid (GR.out.mkb hmk (by omega))
        clear hmk FR
        have c4_0 : w12.cell? ⟨g1, 0, none⟩ = some (.int .i64 K0) := (L.out.bx 4 _ rfl).c 0 rfl
        have c4_1 : w12.cell? ⟨g1, 1, none⟩ = some (.int .i64 K1) := (L.out.bx 4 _ rfl).c 1 rfl
        have c4_2 : w12.cell? ⟨g1, 2, none⟩ = some (.int .i64 K2) := (L.out.bx 4 _ rfl).c 2 rfl
        have c4_3 : w12.cell? ⟨g1, 3, none⟩ = some (.int .i64 K3) := (L.out.bx 4 _ rfl).c 3 rfl
        have c4_4 : w12.cell? ⟨g1, 4, none⟩ = some (.int .i64 K4) := (L.out.bx 4 _ rfl).c 4 rfl
        have c4_5 : w12.cell? ⟨g1, 5, none⟩ = some (.int .i64 K5) := (L.out.bx 4 _ rfl).c 5 rfl
        have c4_6 : w12.cell? ⟨g1, 6, none⟩ = some (.int .i64 K6) := (L.out.bx 4 _ rfl).c 6 rfl
        have c4_7 : w12.cell? ⟨g1, 7, none⟩ = some (.int .i64 K7) := (L.out.bx 4 _ rfl).c 7 rfl
        have c4_8 : w12.cell? ⟨g1, 8, none⟩ = some (.slice Ag NR cg) := (L.out.bx 4 _ rfl).c 8 rfl
        have c2_0 : w12.cell? ⟨g0, 0, none⟩ = some (.int .i64 K0) := (L.out.bx 2 _ rfl).c 0 rfl
        have c2_1 : w12.cell? ⟨g0, 1, none⟩ = some (.int .i64 K1) := (L.out.bx 2 _ rfl).c 1 rfl
        have c2_2 : w12.cell? ⟨g0, 2, none⟩ = some (.int .i64 K2) := (L.out.bx 2 _ rfl).c 2 rfl
        have c2_3 : w12.cell? ⟨g0, 3, none⟩ = some (.int .i64 K3) := (L.out.bx 2 _ rfl).c 3 rfl
        have c2_4 : w12.cell? ⟨g0, 4, none⟩ = some (.int .i64 K4) := (L.out.bx 2 _ rfl).c 4 rfl
        have c2_5 : w12.cell? ⟨g0, 5, none⟩ = some (.int .i64 K5) := (L.out.bx 2 _ rfl).c 5 rfl
        have c2_6 : w12.cell? ⟨g0, 6, none⟩ = some (.int .i64 K6) := (L.out.bx 2 _ rfl).c 6 rfl
        have c2_7 : w12.cell? ⟨g0, 7, none⟩ = some (.int .i64 K7) := (L.out.bx 2 _ rfl).c 7 rfl
        have c2_8 : w12.cell? ⟨g0, 8, none⟩ = some (.slice Aw NR cw) := (L.out.bx 2 _ rfl).c 8 rfl
        go_wp2_with fail
        refine (eqVr_self K0 K1 K2 K3 K4 K5 K6 K7 _ _ NR _ _ R _ GR.out.reads WR.out.reads hng).mono ?_
        rintro e w13 ⟨rfl, hb⟩
        replace L := Lib.hid (L.out.next hb)
        replace WR := Lib.hid (WR.out.next hb)
        replace GR := Lib.hid (GR.out.next hb)
        clear c4_0 c4_1 c4_2 c4_3 c4_4 c4_5 c4_6 c4_7 c4_8 c2_0 c2_1 c2_2 c2_3 c2_4 c2_5 c2_6 c2_7 c2_8
        clear hb
        have c4_0 : w13.cell? ⟨g1, 0, none⟩ = some (.int .i64 K0) := (L.out.bx 4 _ rfl).c 0 rfl
        have c4_1 : w13.cell? ⟨g1, 1, none⟩ = some (.int .i64 K1) := (L.out.bx 4 _ rfl).c 1 rfl
        have c4_2 : w13.cell? ⟨g1, 2, none⟩ = some (.int .i64 K2) := (L.out.bx 4 _ rfl).c 2 rfl
        have c4_3 : w13.cell? ⟨g1, 3, none⟩ = some (.int .i64 K3) := (L.out.bx 4 _ rfl).c 3 rfl
        have c4_4 : w13.cell? ⟨g1, 4, none⟩ = some (.int .i64 K4) := (L.out.bx 4 _ rfl).c 4 rfl
        have c4_5 : w13.cell? ⟨g1, 5, none⟩ = some (.int .i64 K5) := (L.out.bx 4 _ rfl).c 5 rfl
        have c4_6 : w13.cell? ⟨g1, 6, none⟩ = some (.int .i64 K6) := (L.out.bx 4 _ rfl).c 6 rfl
        have c4_7 : w13.cell? ⟨g1, 7, none⟩ = some (.int .i64 K7) := (L.out.bx 4 _ rfl).c 7 rfl
        have c4_8 : w13.cell? ⟨g1, 8, none⟩ = some (.slice Ag NR cg) := (L.out.bx 4 _ rfl).c 8 rfl
        go_wp2_with fail
        refine (markVr_any K0 K1 K2 K3 K4 K5 K6 K7 _ NR _ _ R 1 _ GR.out.own hng (by omega) (by omega)).mono ?_
        rintro e w14 ⟨rfl, hown, hg⟩
        clear c4_0 c4_1 c4_2 c4_3 c4_4 c4_5 c4_6 c4_7 c4_8
        have hmm := GR.out.marked hg hown
        have hmk := hmm.1
        replace L := Lib.hid (L.out.kept (fun i b e => by match i, e with | 0, e => (obtain rfl := Option.some.inj e; show 26 ≠ 2; decide) | 1, e => (obtain rfl := Option.some.inj e; show 28 ≠ 2; decide) | 2, e => (obtain rfl := Option.some.inj e; show 72 ≠ 2; decide) | 3, e => (obtain rfl := Option.some.inj e; show 37 ≠ 2; decide) | 4, e => (obtain rfl := Option.some.inj e; show 72 ≠ 2; decide) | i + 5, e => simp at e) GR.out.own (by omega) hg)
        replace WR := Lib.hid (WR.out.mkb hmk (by omega))
        replace GR := Lib.hid hmm.2
        clear hmm hmk hown hg
        have c4_0 : w14.cell? ⟨g1, 0, none⟩ = some (.int .i64 K0) := (L.out.bx 4 _ rfl).c 0 rfl
        have c4_1 : w14.cell? ⟨g1, 1, none⟩ = some (.int .i64 K1) := (L.out.bx 4 _ rfl).c 1 rfl
        have c4_2 : w14.cell? ⟨g1, 2, none⟩ = some (.int .i64 K2) := (L.out.bx 4 _ rfl).c 2 rfl
        have c4_3 : w14.cell? ⟨g1, 3, none⟩ = some (.int .i64 K3) := (L.out.bx 4 _ rfl).c 3 rfl
        have c4_4 : w14.cell? ⟨g1, 4, none⟩ = some (.int .i64 K4) := (L.out.bx 4 _ rfl).c 4 rfl
        have c4_5 : w14.cell? ⟨g1, 5, none⟩ = some (.int .i64 K5) := (L.out.bx 4 _ rfl).c 5 rfl
        have c4_6 : w14.cell? ⟨g1, 6, none⟩ = some (.int .i64 K6) := (L.out.bx 4 _ rfl).c 6 rfl
        have c4_7 : w14.cell? ⟨g1, 7, none⟩ = some (.int .i64 K7) := (L.out.bx 4 _ rfl).c 7 rfl
        have c4_8 : w14.cell? ⟨g1, 8, none⟩ = some (.slice Ag NR cg) := (L.out.bx 4 _ rfl).c 8 rfl
        go_wp2_with fail
        refine (heldVr_any K0 K1 K2 K3 K4 K5 K6 K7 _ NR _ 1 _ GR.out.reads hng (by omega) (by omega)).mono ?_
        rintro e w15 ⟨rfl, hb⟩
        replace L := Lib.hid (L.out.next hb)
        replace WR := Lib.hid (WR.out.next hb)
        replace GR := Lib.hid (GR.out.next hb)
        clear c4_0 c4_1 c4_2 c4_3 c4_4 c4_5 c4_6 c4_7 c4_8
        clear hb
        go_upto_region 30 with fail
        have hV : Below w15.heap.size w15 w15.drew := (Below.refl _ _).drew
        have hcells : ∀ u, Below w15.heap.size w15 u → (Below w15.heap.size w15 u ∧ u.cell? ⟨w.heap.size, 0, none⟩ = some (.int .i64 m.id) ∧ u.cell? ⟨w.heap.size, 1, none⟩ = some (.slice m.An m.nn m.cn) ∧ u.cell? ⟨w.heap.size, 2, none⟩ = some (.slice m.Am m.nm m.cm) ∧ u.cell? ⟨w.heap.size, 3, none⟩ = some (.slice m.As m.ns m.cs) ∧ u.cell? ⟨w.heap.size + 1, 0, none⟩ = some (.int .i64 t) ∧ u.cell? ⟨w.heap.size + 1, 1, none⟩ = some (.int .i64 md) ∧ u.cell? ⟨w.heap.size + 1, 2, none⟩ = some (.int .i64 rn) ∧ u.cell? ⟨w.heap.size + 1, 3, none⟩ = some (.int .i64 sl) ∧ u.cell? ⟨w.heap.size + 1, 4, none⟩ = some (.int .i64 mb)) := fun u hu => ⟨hu, ((L.out.bx 0 _ rfl).next hu).c 0 rfl, ((L.out.bx 0 _ rfl).next hu).c 1 rfl, ((L.out.bx 0 _ rfl).next hu).c 2 rfl, ((L.out.bx 0 _ rfl).next hu).c 3 rfl, ((L.out.bx 1 _ rfl).next hu).c 0 rfl, ((L.out.bx 1 _ rfl).next hu).c 1 rfl, ((L.out.bx 1 _ rfl).next hu).c 2 rfl, ((L.out.bx 1 _ rfl).next hu).c 3 rfl, ((L.out.bx 1 _ rfl).next hu).c 4 rfl⟩
        have HC := Lib.hid hcells
        clear hcells
        have HTM := Lib.hid (fun u (hu : Below w15.heap.size w15 u) => toMedl_any m M u (HR.out.up (below_next hu L.out.bel (Nat.le_refl _))) HX7.out)
        have HTS := Lib.hid (fun u => toState_any t md rn sl mb u)
        have HTI := Lib.hid (fun u (hu : Below w15.heap.size w15 u) => toInt64S_any Az nz cz zs u (HZ.out.up (below_next hu L.out.bel (Nat.le_refl _))) hnz)
        go_cut [17, 18] (fun v17 v18 wc => ∃ g A c, v17 = .pointer (some ⟨g, 0, none⟩) ∧ v18 = .int .i64 CD ∧ w15.heap.size ≤ g ∧ BlkL wc g 72 [.int .i64 K0, .int .i64 K1, .int .i64 K2, .int .i64 K3, .int .i64 K4, .int .i64 K5, .int .i64 K6, .int .i64 K7, .slice A NR c] ∧ OwnI 2 wc w15.heap.size A NR c R ∧ Below w15.heap.size w15 wc)
        case first =>
          go_region_held_law (fun u => Below w15.heap.size w15 u ∧ u.cell? ⟨w.heap.size, 0, none⟩ = some (.int .i64 m.id) ∧ u.cell? ⟨w.heap.size, 1, none⟩ = some (.slice m.An m.nn m.cn) ∧ u.cell? ⟨w.heap.size, 2, none⟩ = some (.slice m.Am m.nm m.cm) ∧ u.cell? ⟨w.heap.size, 3, none⟩ = some (.slice m.As m.ns m.cs) ∧ u.cell? ⟨w.heap.size + 1, 0, none⟩ = some (.int .i64 t) ∧ u.cell? ⟨w.heap.size + 1, 1, none⟩ = some (.int .i64 md) ∧ u.cell? ⟨w.heap.size + 1, 2, none⟩ = some (.int .i64 rn) ∧ u.cell? ⟨w.heap.size + 1, 3, none⟩ = some (.int .i64 sl) ∧ u.cell? ⟨w.heap.size + 1, 4, none⟩ = some (.int .i64 mb)) (first | (with_reducible exact HC.out _ hV) | (with_reducible refine HC.out _ ?_; with_reducible assumption) | (with_reducible exact HC.out _ (below_alloc hv (Nat.le_refl _) _)) | (with_reducible exact HC.out _ (below_alloc hV (Nat.le_refl _) _)) | (with_reducible refine HC.out _ ?_; go_grown)) (first
            | (go_at_call 10; (have hgv : Below w15.heap.size w15 _ := And.left (‹Below w15.heap.size w15 _ ∧ _›)); (with_reducible refine (HTM.out _ hgv).mono ?_); rintro e cc ⟨A1, c1, A2, c2, A3, c3, rfl, hRD, hcap, hb⟩; (have hv := below_next hb hgv (Nat.le_refl _)); (have SZ1 := hv.size); (try (first | (replace KB := Lib.hid (KB.out.next hb)) | (with_reducible have KB := Lib.hid (blkB hb)) | (with_reducible have KB := Lib.hid (blkBd hb)))); (try (first | (replace HRI := Lib.hid (HRI.out.up hb)) | (replace HRI := Lib.hid ((HRI.out.up (below_alloc (Below.refl _ _) (Nat.le_refl _) _)).up hb)))); (try (first | (replace HNC := Lib.hid (HNC.out.next hb)) | (replace HNC := Lib.hid ((HNC.out.next (below_alloc (Below.refl _ _) (Nat.le_refl _) _)).next hb)))); have HRD := Lib.hid hRD; have HCP := Lib.hid hcap; clear hRD hcap hgv hb)
            | (go_at_call 11; (have hgv : Below w15.heap.size w15 _ := And.left (‹Below w15.heap.size w15 _ ∧ _›)); (with_reducible refine (HTS.out _).mono ?_); rintro e cc ⟨rfl, hb⟩; (have hv := below_next hb hgv (Nat.le_refl _)); (have SZ1 := hv.size); (try (first | (replace KB := Lib.hid (KB.out.next hb)) | (with_reducible have KB := Lib.hid (blkB hb)) | (with_reducible have KB := Lib.hid (blkBd hb)))); (try (first | (replace HRD := Lib.hid (HRD.out.up hb)) | (replace HRD := Lib.hid ((HRD.out.up (below_alloc (Below.refl _ _) (Nat.le_refl _) _)).up hb)))); (try (first | (replace HRI := Lib.hid (HRI.out.up hb)) | (replace HRI := Lib.hid ((HRI.out.up (below_alloc (Below.refl _ _) (Nat.le_refl _) _)).up hb)))); (try (first | (replace HNC := Lib.hid (HNC.out.next hb)) | (replace HNC := Lib.hid ((HNC.out.next (below_alloc (Below.refl _ _) (Nat.le_refl _) _)).next hb)))); clear hgv hb)
            | (go_at_call 12; (have hgv : Below w15.heap.size w15 _ := And.left (‹Below w15.heap.size w15 _ ∧ _›)); (with_reducible refine (HTI.out _ hgv).mono ?_); rintro e cc ⟨A4, c4, rfl, hown, hb⟩; (have hv := below_next hb hgv (Nat.le_refl _)); (have SZ1 := hv.size); (try (first | (replace KB := Lib.hid (KB.out.next hb)) | (with_reducible have KB := Lib.hid (blkB hb)) | (with_reducible have KB := Lib.hid (blkBd hb)))); (try (first | (replace HRD := Lib.hid (HRD.out.up hb)) | (replace HRD := Lib.hid ((HRD.out.up (below_alloc (Below.refl _ _) (Nat.le_refl _) _)).up hb)))); have HRI := Lib.hid hown.reads; have HNC := Lib.hid (SL.own hown); clear hown hgv hb)
            | (go_at_call 36; (have hgv : Below w15.heap.size w15 _ := And.left (‹Below w15.heap.size w15 _ ∧ _›)); (first | (with_reducible refine (HI.out _ ⟨m.id, A1, m.nn, c1, A2, m.nm, c2, A3, m.ns, c3⟩ A4 c4 HRD.out ⟨HX6.out, HX7.out, HCP.out⟩ HNC.out).mono ?_) | (with_reducible refine (HI.out _ ⟨m.id, A1, m.nn, c1, A2, m.nm, c2, A3, m.ns, c3⟩ A4 c4 (HRD.out.up (below_alloc (Below.refl _ _) (Nat.le_refl _) _)) ⟨HX6.out, HX7.out, HCP.out⟩ (HNC.out.next (below_alloc (Below.refl _ _) (Nat.le_refl _) _))).mono ?_)); rintro e cc ⟨Aq, nq, cq, rfl, hown, hb⟩; (have hv := below_next hb hgv (Nat.le_refl _)); (have SZ1 := hv.size); (try (first | (replace KB := Lib.hid (KB.out.next hb)) | (with_reducible have KB := Lib.hid (blkB hb)) | (with_reducible have KB := Lib.hid (blkBd hb)))); (obtain rfl : NR = nq := by rw [← HNR.out]; exact hown.len); have HOW := Lib.hid (hown.weaken hgv.size); clear hown; have SV := Lib.hid hv.size; have HV9 := Lib.hid hv; (try (have y0 := KB.out.free 0; have y1 := KB.out.free 1; have y2 := KB.out.free 2; have y3 := KB.out.free 3; have y4 := KB.out.free 4; have y5 := KB.out.free 5; have y6 := KB.out.free 6; have y7 := KB.out.free 7; have y8 := KB.out.free 8; have e0 := KB.out.c 0 rfl; have e1 := KB.out.c 1 rfl; have e2 := KB.out.c 2 rfl; have e3 := KB.out.c 3 rfl; have e4 := KB.out.c 4 rfl; have e5 := KB.out.c 5 rfl; have e6 := KB.out.c 6 rfl; have e7 := KB.out.c 7 rfl; have e8 := KB.out.c 8 rfl)); clear hgv hb))
          all_goals
            go_wp2_with fail
            go_meet
            first
            | exact ⟨_, Aq, cq, rfl, rfl, SV.out, BlkL.new _ _ _ rfl, HOW.out.alloc _, below_alloc HV9.out (Nat.le_refl _) _⟩
            | (have ko := ((((((((((show KO 72 2 cc _ _ w15.heap.size Aq NR cq _ from ⟨KB.out, HOW.out⟩).set (by decide) 0 (.int .i64 K0)).set (by decide) 1 (.int .i64 K1)).set (by decide) 2 (.int .i64 K2)).set (by decide) 3 (.int .i64 K3)).set (by decide) 4 (.int .i64 K4)).set (by decide) 5 (.int .i64 K5)).set (by decide) 6 (.int .i64 K6)).set (by decide) 7 (.int .i64 K7)).set (by decide) 8 (.slice Aq NR cq))
               have hv := HV9.out
               exact ⟨_, Aq, cq, rfl, rfl, by first | exact Nat.le_refl _ | assumption, ko.1, ko.2, by go_grown⟩)
        case rest =>
          clear HC hV HTM HTS HTI
          obtain ⟨g2, Ah, ch, rfl, rfl, hgh, hkb, how, hbc⟩ := hcut
          obtain ⟨w16, hw9⟩ : ∃ v, v = wc := ⟨_, rfl⟩
          rw [← hw9] at hkb how hbc ⊢
          clear hw9
          replace L := Lib.hid (L.out.next hbc)
          replace WR := Lib.hid (WR.out.next hbc)
          replace GR := Lib.hid (GR.out.next hbc)
          have HH := Lib.hid (Rw.of how)
          have zlh := hkb.lt
          have zmh := hbc.size
          replace L := Lib.hid (L.out.snoc hkb)
          clear hkb how hbc
          have c5_0 : w16.cell? ⟨g2, 0, none⟩ = some (.int .i64 K0) := (L.out.bx 5 _ rfl).c 0 rfl
          have c5_1 : w16.cell? ⟨g2, 1, none⟩ = some (.int .i64 K1) := (L.out.bx 5 _ rfl).c 1 rfl
          have c5_2 : w16.cell? ⟨g2, 2, none⟩ = some (.int .i64 K2) := (L.out.bx 5 _ rfl).c 2 rfl
          have c5_3 : w16.cell? ⟨g2, 3, none⟩ = some (.int .i64 K3) := (L.out.bx 5 _ rfl).c 3 rfl
          have c5_4 : w16.cell? ⟨g2, 4, none⟩ = some (.int .i64 K4) := (L.out.bx 5 _ rfl).c 4 rfl
          have c5_5 : w16.cell? ⟨g2, 5, none⟩ = some (.int .i64 K5) := (L.out.bx 5 _ rfl).c 5 rfl
          have c5_6 : w16.cell? ⟨g2, 6, none⟩ = some (.int .i64 K6) := (L.out.bx 5 _ rfl).c 6 rfl
          have c5_7 : w16.cell? ⟨g2, 7, none⟩ = some (.int .i64 K7) := (L.out.bx 5 _ rfl).c 7 rfl
          have c5_8 : w16.cell? ⟨g2, 8, none⟩ = some (.slice Ah NR ch) := (L.out.bx 5 _ rfl).c 8 rfl
          have c2_0 : w16.cell? ⟨g0, 0, none⟩ = some (.int .i64 K0) := (L.out.bx 2 _ rfl).c 0 rfl
          have c2_1 : w16.cell? ⟨g0, 1, none⟩ = some (.int .i64 K1) := (L.out.bx 2 _ rfl).c 1 rfl
          have c2_2 : w16.cell? ⟨g0, 2, none⟩ = some (.int .i64 K2) := (L.out.bx 2 _ rfl).c 2 rfl
          have c2_3 : w16.cell? ⟨g0, 3, none⟩ = some (.int .i64 K3) := (L.out.bx 2 _ rfl).c 3 rfl
          have c2_4 : w16.cell? ⟨g0, 4, none⟩ = some (.int .i64 K4) := (L.out.bx 2 _ rfl).c 4 rfl
          have c2_5 : w16.cell? ⟨g0, 5, none⟩ = some (.int .i64 K5) := (L.out.bx 2 _ rfl).c 5 rfl
          have c2_6 : w16.cell? ⟨g0, 6, none⟩ = some (.int .i64 K6) := (L.out.bx 2 _ rfl).c 6 rfl
          have c2_7 : w16.cell? ⟨g0, 7, none⟩ = some (.int .i64 K7) := (L.out.bx 2 _ rfl).c 7 rfl
          have c2_8 : w16.cell? ⟨g0, 8, none⟩ = some (.slice Aw NR cw) := (L.out.bx 2 _ rfl).c 8 rfl
          go_wp2_with fail
          refine (eqVr_self K0 K1 K2 K3 K4 K5 K6 K7 _ _ NR _ _ R _ HH.out.reads WR.out.reads hng).mono ?_
          rintro e w17 ⟨rfl, hb⟩
          replace L := Lib.hid (L.out.next hb)
          replace WR := Lib.hid (WR.out.next hb)
          replace GR := Lib.hid (GR.out.next hb)
          replace HH := Lib.hid (HH.out.next hb)
          clear c5_0 c5_1 c5_2 c5_3 c5_4 c5_5 c5_6 c5_7 c5_8 c2_0 c2_1 c2_2 c2_3 c2_4 c2_5 c2_6 c2_7 c2_8
          clear hb
          have c4_0 : w17.cell? ⟨g1, 0, none⟩ = some (.int .i64 K0) := (L.out.bx 4 _ rfl).c 0 rfl
          have c4_1 : w17.cell? ⟨g1, 1, none⟩ = some (.int .i64 K1) := (L.out.bx 4 _ rfl).c 1 rfl
          have c4_2 : w17.cell? ⟨g1, 2, none⟩ = some (.int .i64 K2) := (L.out.bx 4 _ rfl).c 2 rfl
          have c4_3 : w17.cell? ⟨g1, 3, none⟩ = some (.int .i64 K3) := (L.out.bx 4 _ rfl).c 3 rfl
          have c4_4 : w17.cell? ⟨g1, 4, none⟩ = some (.int .i64 K4) := (L.out.bx 4 _ rfl).c 4 rfl
          have c4_5 : w17.cell? ⟨g1, 5, none⟩ = some (.int .i64 K5) := (L.out.bx 4 _ rfl).c 5 rfl
          have c4_6 : w17.cell? ⟨g1, 6, none⟩ = some (.int .i64 K6) := (L.out.bx 4 _ rfl).c 6 rfl
          have c4_7 : w17.cell? ⟨g1, 7, none⟩ = some (.int .i64 K7) := (L.out.bx 4 _ rfl).c 7 rfl
          have c4_8 : w17.cell? ⟨g1, 8, none⟩ = some (.slice Ag NR cg) := (L.out.bx 4 _ rfl).c 8 rfl
          go_wp2_with fail
          refine (heldVr_any K0 K1 K2 K3 K4 K5 K6 K7 _ NR _ 1 _ GR.out.reads hng (by omega) (by omega)).mono ?_
          rintro e w18 ⟨rfl, hb⟩
          replace L := Lib.hid (L.out.next hb)
          replace WR := Lib.hid (WR.out.next hb)
          replace GR := Lib.hid (GR.out.next hb)
          replace HH := Lib.hid (HH.out.next hb)
          clear c4_0 c4_1 c4_2 c4_3 c4_4 c4_5 c4_6 c4_7 c4_8
          clear hb
          go_wp2
          go_ret
          exact ⟨rfl, L.out.bel⟩
end ReceiveBytes
end Go.Proofs.YtjgmpiefndbnaaaGreatDoor
