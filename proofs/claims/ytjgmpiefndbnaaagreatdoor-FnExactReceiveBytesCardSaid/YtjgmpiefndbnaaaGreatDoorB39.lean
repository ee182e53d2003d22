/- Walks, laws and small notions for the claims of this seat, several texts as one (Rc). Conditions: as each theorem states them. -/
import Derived.Test.YtjgmpiefndbnaaaGreatDoorB38
import Derived.Test.YtjgmpiefndbnaaaGreatDoorB46
import Derived.Test.YtjgmpiefndbnaaaGreatDoorB47
import Derived.Test.YtjgmpiefndbnaaaGreatDoorB30
import Derived.Test.YtjgmpiefndbnaaaGreatDoorB15
import Derived.Test.YtjgmpiefndbnaaaGreatDoorB10
namespace Go.Proofs.YtjgmpiefndbnaaaGreatDoor
open Go.RowKit
theorem bel_state {M : Mdl} {t md rn sl mb : Int} (h : bel M t md rn sl mb = true) : isState t md rn sl mb = true := by
  unfold bel at h
  rw [Bool.and_eq_true] at h
  exact h.1
theorem OF_get {zs : List Int} {w : World} {e : Ending} {w' : World} (h : OF zs 0 w e w') : ∃ A n c, e = .returned (.tuple #[.agg #[.int .i64 (bk (bdy zs) : Nat), .int .i64 (br (bdy zs) : Nat), .int .i64 (bq (bdy zs) 0 16 : Nat), .int .i64 (bq (bdy zs) 16 4 : Nat), .int .i64 (bq (bdy zs) 20 4 : Nat), .int .i64 (bq (bdy zs) 24 8 : Nat), .int .i64 (bq (bdy zs) 32 32 : Nat), .slice A n c], .int .i64 0]) ∧ OwnI 2 w' w.heap.size A n c (bdt (bdy zs)) ∧ Below w.heap.size w w' := h
theorem OF_bad {zs : List Int} {C : Int} {w : World} {e : Ending} {w' : World} (hC : C ≠ 0) (h : OF zs C w e w') : ∃ A n c, e = .returned (.tuple #[.agg #[.int .i64 0, .int .i64 0, .int .i64 0, .int .i64 0, .int .i64 0, .int .i64 0, .int .i64 0, .slice A n c], .int .i64 C]) ∧ OwnI 2 w' w.heap.size A n c [] ∧ Below w.heap.size w w' := by
  unfold OF ifz at h
  rw [if_neg hC, if_neg hC, if_neg hC, if_neg hC, if_neg hC, if_neg hC, if_neg hC, if_neg hC] at h
  exact h
theorem opC_cases (zs : List Int) (id t md rn sl mb : Nat) : opC zs id t md rn sl mb = 0 ∨ opC zs id t md rn sl mb = 5 ∨ opC zs id t md rn sl mb = 6 ∨ opC zs id t md rn sl mb = 7 := by
  unfold opC
  split
  · exact .inr (.inr (.inl rfl))
  · split
    · split
      · split
        · exact .inl rfl
        · exact .inr (.inl rfl)
      · exact .inr (.inr (.inl rfl))
    · exact .inr (.inr (.inr rfl))
theorem VB_ok {zs : List Int} {x0 x1 x2 x3 x4 x5 x6 S R : Int} {w w' : World} (A : Option Addr) (n c : Nat) (h : x0 = bk (bdy zs) ∧ x1 = br (bdy zs) ∧ x2 = bq (bdy zs) 0 16 ∧ x3 = bq (bdy zs) 16 4 ∧ x4 = bq (bdy zs) 20 4 ∧ x5 = bq (bdy zs) 24 8 ∧ x6 = bq (bdy zs) 32 32) (ho : OwnI 2 w' w.heap.size A n c (bdt (bdy zs))) (hb : Below w.heap.size w w') (e : Ending) (he : e = .returned (.tuple #[.agg #[.int .i64 S, .int .i64 x0, .int .i64 x1, .int .i64 x2, .int .i64 x3, .int .i64 x4, .int .i64 x5, .int .i64 x6, .slice A n c], .int .i64 R])) : VB zs S 0 R w e w' := by
  obtain ⟨rfl, rfl, rfl, rfl, rfl, rfl, rfl⟩ := h
  exact ⟨A, n, c, he, ho, hb⟩
theorem opC_bok {zs : List Int} {id t md rn sl mb : Nat} (h : opC zs id t md rn sl mb = 0) : bok (bdy zs) = true := by
  unfold opC at h
  unfold bdy
  split at h
  · exact absurd h (by decide)
  · split at h
    · split at h
      · assumption
      · exact absurd h (by decide)
    · exact absurd h (by decide)
theorem fitX_of {M : Mdl} {t md rn sl mb : Int} {zs : List Int} (hM : isMedl M = true) (hb : bel M t md rn sl mb = true) (h : bok zs = true) :
    fitX (ge M.ss (findI M.ss md rn sl)) zs = fitF (ge M.ss (findI M.ss md rn sl)).kd (ge M.ss (findI M.ss md rn sl)).sz (ge M.ss (findI M.ss md rn sl)).ch (bk zs) (br zs) (bdt zs).length := by
  have h1 := isST_sl (isMedl_nt hM).2.2.1 (bel_find hM hb)
  unfold isSl at h1
  simp only [Bool.and_eq_true] at h1
  unfold bok at h
  simp only [Bool.and_eq_true] at h
  unfold fitX fitD
  rw [h1.2.2.2, h.2.2.1]
  rfl
/-- some verdict and a code are handed back -/
def RetVX (w0 : World) (code : Int) (e : Ending) (w' : World) : Prop :=
  ∃ (st k r ft fm fd fs fb : Int) (A : Option Addr) (n c : Nat), e = .returned (.tuple #[.agg #[.int .i64 st, .int .i64 k, .int .i64 r, .int .i64 ft, .int .i64 fm, .int .i64 fd, .int .i64 fs, .int .i64 fb, .slice A n c], .int .i64 code]) ∧ Below w0.heap.size w0 w'
/-- the cause of samples -/
def causeS (M : Mdl) (t md rn sl mb : Int) (zs : List Int) : Int := if DecodeSamples.cod zs = 0 then causeB M t md rn sl mb (DecodeSamples.res zs) else DecodeSamples.cod zs
def cauV (M : Mdl) (t md rn sl mb : Int) (zs : List Int) : Int := if codeCS M t md rn sl mb zs = 0 then causeS M t md rn sl mb zs else 0

theorem SL.own {w : World} {base n c : Nat} {A : Option Addr} {zs : List Int} (h : OwnI 2 w base A n c zs) : SL w A n c zs := ⟨h.reads, ownI_zero h, h.cap.1, h.cap.2⟩

set_option maxRecDepth 200000 in
set_option maxHeartbeats 16000000 in
theorem sJudge_any (m : Mdv) (M : Mdl) (t md rn sl mb : Int) (A : Option Addr) (n c : Nat) (zs : List Int) (w : World) (h : RD w w.heap.size m M) (hz : SL w A n c zs) (hby : isBytes zs = true) (hM : isMedl M = true) (hbe : bel M t md rn sl mb = true) :
    Calls Tryz.prog 83 #[.agg #[.int .i64 m.id, .slice m.An m.nn m.cn, .slice m.Am m.nm m.cm, .slice m.As m.ns m.cs], .agg #[.int .i64 t, .int .i64 md, .int .i64 rn, .int .i64 sl, .int .i64 mb], .slice A n c] w (VB zs (if causeB M t md rn sl mb zs = 0 then 3 else 2) (causeB M t md rn sl mb zs) (causeB M t md rn sl mb zs) w) := by
  have hst := bel_state hbe
  have hid := isMedl_id hM
  rw [h.id] at hid
  have hsa := isState_all hst
  have LS := h.rs.len
  have hfl := bel_find hM hbe
  have hfi := find_idx hfl
  obtain ⟨I, hI⟩ : ∃ I : Nat, m.id = (I : Int) := ⟨m.id.toNat, by omega⟩
  obtain ⟨t, rfl⟩ : ∃ z : Nat, t = (z : Int) := ⟨t.toNat, by omega⟩
  obtain ⟨md, rfl⟩ : ∃ z : Nat, md = (z : Int) := ⟨md.toNat, by omega⟩
  obtain ⟨rn, rfl⟩ : ∃ z : Nat, rn = (z : Int) := ⟨rn.toNat, by omega⟩
  obtain ⟨sl, rfl⟩ : ∃ z : Nat, sl = (z : Int) := ⟨sl.toNat, by omega⟩
  obtain ⟨mb, rfl⟩ : ∃ z : Nat, mb = (z : Int) := ⟨mb.toNat, by omega⟩
  have HCA := Lib.hid (show causeB M t md rn sl mb zs = (if opC zs I t md rn sl mb = 0 then (if fitX (ge M.ss (findI M.ss md rn sl)) (bdy zs) = true then 0 else 5) else opC zs I t md rn sl mb) by unfold causeB; rw [show M.id.toNat = I from by rw [h.id, hI]; rfl]; rfl)
  have hop := fun (u : World) (hu : SL u A n c zs) => sOpen_any A n c zs I t md rn sl mb u hu hby (by omega) hst sFrm_any
  rw [← hI] at hop
  have hds := fun (u : World) (hu : RD u u.heap.size m M) => sDesc_any m M t md rn sl mb (findI M.ss md rn sl) u hu hfi (by rw [← LS]; exact hfl)
  have HFX := Lib.hid (show fitX (ge M.ss (findI M.ss md rn sl)) (bdy zs) = fitD (ge M.ss (findI M.ss md rn sl)).nd (ge M.ss (findI M.ss md rn sl)).kd (ge M.ss (findI M.ss md rn sl)).sz (ge M.ss (findI M.ss md rn sl)).du (ge M.ss (findI M.ss md rn sl)).ch (bk (bdy zs)) (br (bdy zs)) (bq (bdy zs) 0 16) (bq (bdy zs) 16 4) (bq (bdy zs) 20 4) (bq (bdy zs) 24 8) (bq (bdy zs) 32 32) (bdt (bdy zs)) from rfl)
  have hfw : opC zs I t md rn sl mb = 0 → fitF (ge M.ss (findI M.ss md rn sl)).kd (ge M.ss (findI M.ss md rn sl)).sz (ge M.ss (findI M.ss md rn sl)).ch (bk (bdy zs)) (br (bdy zs)) (bdt (bdy zs)).length = fitX (ge M.ss (findI M.ss md rn sl)) (bdy zs) := fun h => (fitX_of hM hbe (opC_bok h)).symm
  obtain ⟨X, hX⟩ : ∃ x, ge M.ss (findI M.ss md rn sl) = x := ⟨_, rfl⟩
  have hfx := HFX.out
  have hca := HCA.out
  rw [hX] at hds hfx hca hfw
  obtain ⟨fx, hf⟩ : ∃ b, fitX X (bdy zs) = b := ⟨_, rfl⟩
  rw [hf] at hfx hca hfw
  have hco := opC_cases zs I t md rn sl mb
  obtain ⟨C, hC⟩ : ∃ x, opC zs I t md rn sl mb = x := ⟨_, rfl⟩
  rw [hC] at hop hca hco hfw
  have HFW := Lib.hid hfw
  replace HCA := Lib.hid hca
  have HFV := Lib.hid hfx.symm
  have HOP := Lib.hid hop
  have HDS := Lib.hid hds
  have HCO := Lib.hid hco
  have HI := Lib.hid hI
  have hnl : (bdt (bdy zs)).length ≤ 1024 := by have h1 := bdt_len (zs := bdy zs); have h2 : (bdy zs).length ≤ zs.length := (by unfold bdy; rw [List.length_take]; omega); have h3 := isBytes_len hby; omega
  obtain ⟨SS, hSS⟩ : ∃ x, (if causeB M t md rn sl mb zs = 0 then (3 : Int) else 2) = x := ⟨_, rfl⟩
  rw [hSS]
  have HSS := Lib.hid hSS
  clear hst hid hsa hfl hfi hX hfx hca hfw hf hC hop hds hco HFX hI hby hM hbe hSS
  obtain ⟨w0, hw0⟩ : ∃ v, v = ((w.alloc (.cells #[.int .i64 m.id, .slice m.An m.nn m.cn, .slice m.Am m.nm m.cm, .slice m.As m.ns m.cs] 37)).alloc (.cells #[.int .i64 t, .int .i64 md, .int .i64 rn, .int .i64 sl, .int .i64 mb] 39)).alloc (.cells #[.int .i64 0, .int .i64 0, .int .i64 0, .int .i64 0, .int .i64 0, .int .i64 0, .int .i64 0, .int .i64 0, .slice none 0 0] 72) := ⟨_, rfl⟩
  have hB : BM w w.heap.size m M w0 := by rw [hw0]; exact (BM.box h).next (by go_grown)
  have hS : BlkL w0 (w.heap.size + 1) 39 [.int .i64 t, .int .i64 md, .int .i64 rn, .int .i64 sl, .int .i64 mb] := by rw [hw0]; exact (BlkL.new _ _ _ (by simp)).alloc _
  have hQ : BlkL w0 (w.heap.size + 1 + 1) 72 [.int .i64 0, .int .i64 0, .int .i64 0, .int .i64 0, .int .i64 0, .int .i64 0, .int .i64 0, .int .i64 0, .slice none 0 0] := by rw [hw0]; exact BlkL.new _ _ _ (by simp)
  have hZ := hz.next hB.bel
  have m0 := hB.k.c 0 rfl; have m1 := hB.k.c 1 rfl; have m2 := hB.k.c 2 rfl; have m3 := hB.k.c 3 rfl
  have s0 := hS.c 0 rfl; have s1 := hS.c 1 rfl; have s2 := hS.c 2 rfl; have s3 := hS.c 3 rfl; have s4 := hS.c 4 rfl
  go_enter Tryz.func83, Tryz.ntmps83
  go_wp2_with fail
  rw [← hw0]
  clear hw0
  refine (HOP.out _ hZ).mono ?_
  rintro e w1 hof
  rcases HCO.out with rfl | hbad
  case inr =>
    have hc0 : C ≠ 0 := by omega
    have HC0 := Lib.hid hc0
    obtain ⟨A1, n1, c1, rfl, own1, hb1⟩ := OF_bad hc0 hof
    have e1 : (C == 0) = false := by simpa using hc0
    have e2 : (C != 0) = true := by simpa using hc0
    clear hof hc0 hbad
    have E := Lib.hid (show causeB M t md rn sl mb zs = C from HCA.out.trans (if_neg HC0.out))
    obtain ⟨u1, hu1⟩ : ∃ X, X = w1.alloc (.cells #[.int .i64 0, .int .i64 0, .int .i64 0, .int .i64 0, .int .i64 0, .int .i64 0, .int .i64 0, .slice A1 n1 c1] 48) := ⟨_, rfl⟩
    have f1 : BlkL u1 w1.heap.size 48 [.int .i64 0, .int .i64 0, .int .i64 0, .int .i64 0, .int .i64 0, .int .i64 0, .int .i64 0, .slice A1 n1 c1] := by rw [hu1]; exact BlkL.new _ _ _ rfl
    have hbu : Below w0.heap.size w0 u1 := by rw [hu1]; exact below_alloc hb1 (Nat.le_refl _) _
    have HBX := Lib.hid (show Below w1.heap.size w1 u1 by rw [hu1]; go_grown)
    have hs0 := hB.bel.size
    have OW := Lib.hid ((own1.below HBX.out).weaken hs0)
    have LOW := Lib.hid own1.len
    replace hB := hB.next hbu
    replace hS := hS.next hbu
    replace hQ := hQ.next hbu
    clear hb1 hbu own1 hs0 hZ m0 m1 m2 m3 s0 s1 s2 s3 s4
    go_upto_region 2 with fail
    rw [← hu1]
    clear hu1
    have hV0 : GB u1 u1.drew := (Below.refl _ _).drew
    haveI hne : Nonempty (Cls (GB u1)) := ⟨⟨_, hV0⟩⟩
    refine wp_region_cls (GB u1) (by kernel_rfl) (by kernel_rfl) hV0 ?_
    repeat (go_big_quiet_step (fail))
    refine wpQuiet_nil ?_
    rintro _ ⟨x5, rfl⟩
    obtain ⟨w2, hw2⟩ : ∃ v, v = x5.w := ⟨_, rfl⟩
    have hb2 : Below u1.heap.size u1 w2 := hw2 ▸ x5.h
    rw [← hw2]
    clear hw2 x5 hV0
    replace hB := hB.next hb2
    replace hS := hS.next hb2
    replace hQ := hQ.next hb2
    have gb2 := hB.bel
    have y0 := hQ.free 0; have y1 := hQ.free 1; have y2 := hQ.free 2; have y3 := hQ.free 3; have y4 := hQ.free 4; have y5 := hQ.free 5; have y6 := hQ.free 6; have y7 := hQ.free 7; have y8 := hQ.free 8
    have e0 := hQ.c 0 rfl; have e1 := hQ.c 1 rfl; have e2 := hQ.c 2 rfl; have e3 := hQ.c 3 rfl; have e4 := hQ.c 4 rfl; have e5 := hQ.c 5 rfl; have e6 := hQ.c 6 rfl; have e7 := hQ.c 7 rfl; have e8 := hQ.c 8 rfl
    go_wp2_with fail
    refine bp_forget (fun v => BlkL v (w.heap.size + 1 + 1) 72 [.int .i64 2, .int .i64 0, .int .i64 0, .int .i64 0, .int .i64 0, .int .i64 0, .int .i64 0, .int .i64 0, .slice none 0 0] ∧ Below w.heap.size w v) ⟨(((((((((hQ.set 0 _).set 1 _).set 2 _).set 3 _).set 4 _).set 5 _).set 6 _).set 7 _).set 8 _), by go_grown⟩ ?_
    rintro v9 ⟨ko9, gb9⟩
    have d0 := ko9.c 0 rfl; have d1 := ko9.c 1 rfl; have d2 := ko9.c 2 rfl; have d3 := ko9.c 3 rfl; have d4 := ko9.c 4 rfl; have d5 := ko9.c 5 rfl; have d6 := ko9.c 6 rfl; have d7 := ko9.c 7 rfl; have d8 := ko9.c 8 rfl
    exact bodyPost_ret (v := .tuple #[.agg #[.int .i64 2, .int .i64 0, .int .i64 0, .int .i64 0, .int .i64 0, .int .i64 0, .int .i64 0, .int .i64 0, .slice none 0 0], .int .i64 C]) (by simp [results, Tryz.results83, go_sem, d0, d1, d2, d3, d4, d5, d6, d7, d8]) rfl (by rw [← HSS.out, E.out, if_neg HC0.out]; exact VB_zero HC0.out gb9 _ rfl)
  case inl =>
    obtain ⟨A1, n1, c1, rfl, own1, hb1⟩ := OF_get hof
    clear hof
    obtain ⟨Y0, hY0⟩ : ∃ z, bk (bdy zs) = z := ⟨_, rfl⟩
    obtain ⟨Y1, hY1⟩ : ∃ z, br (bdy zs) = z := ⟨_, rfl⟩
    obtain ⟨Y2, hY2⟩ : ∃ z, bq (bdy zs) 0 16 = z := ⟨_, rfl⟩
    obtain ⟨Y3, hY3⟩ : ∃ z, bq (bdy zs) 16 4 = z := ⟨_, rfl⟩
    obtain ⟨Y4, hY4⟩ : ∃ z, bq (bdy zs) 20 4 = z := ⟨_, rfl⟩
    obtain ⟨Y5, hY5⟩ : ∃ z, bq (bdy zs) 24 8 = z := ⟨_, rfl⟩
    obtain ⟨Y6, hY6⟩ : ∃ z, bq (bdy zs) 32 32 = z := ⟨_, rfl⟩
    obtain ⟨ds, hds⟩ : ∃ z, bdt (bdy zs) = z := ⟨_, rfl⟩
    have hfv := HFV.out
    rw [hds] at own1 hnl
    rw [hY0, hY1, hY2, hY3, hY4, hY5, hY6, hds] at hfv
    rw [hY0, hY1, hY2, hY3, hY4, hY5, hY6]
    have HY := Lib.hid (show ((Y0 : Nat) : Int) = bk (bdy zs) ∧ ((Y1 : Nat) : Int) = br (bdy zs) ∧ ((Y2 : Nat) : Int) = bq (bdy zs) 0 16 ∧ ((Y3 : Nat) : Int) = bq (bdy zs) 16 4 ∧ ((Y4 : Nat) : Int) = bq (bdy zs) 20 4 ∧ ((Y5 : Nat) : Int) = bq (bdy zs) 24 8 ∧ ((Y6 : Nat) : Int) = bq (bdy zs) 32 32 by rw [hY0, hY1, hY2, hY3, hY4, hY5, hY6]; exact ⟨rfl, rfl, rfl, rfl, rfl, rfl, rfl⟩)
    have HDD := Lib.hid hds
    have hft := fun (u : World) (hu : RI u u.heap.size A1 n1 ds) => sFits_any X.nd X.kd X.sz X.du X.ch Y0 Y1 Y2 Y3 Y4 Y5 Y6 A1 n1 c1 ds u hu (by have := own1.len; omega)
    rw [hfv] at hft
    have HFT := Lib.hid hft
    clear hft hfv HFV HFW HCO HOP hds hY0 hY1 hY2 hY3 hY4 hY5 hY6
    have E := Lib.hid (show causeB M t md rn sl mb zs = (if fx = true then 0 else 5) from HCA.out.trans (if_pos rfl))
    obtain ⟨u1, hu1⟩ : ∃ X, X = w1.alloc (.cells #[.int .i64 (Y0 : Nat), .int .i64 (Y1 : Nat), .int .i64 (Y2 : Nat), .int .i64 (Y3 : Nat), .int .i64 (Y4 : Nat), .int .i64 (Y5 : Nat), .int .i64 (Y6 : Nat), .slice A1 n1 c1] 48) := ⟨_, rfl⟩
    have f1 : BlkL u1 w1.heap.size 48 [.int .i64 (Y0 : Nat), .int .i64 (Y1 : Nat), .int .i64 (Y2 : Nat), .int .i64 (Y3 : Nat), .int .i64 (Y4 : Nat), .int .i64 (Y5 : Nat), .int .i64 (Y6 : Nat), .slice A1 n1 c1] := by rw [hu1]; exact BlkL.new _ _ _ rfl
    have hbu : Below w0.heap.size w0 u1 := by rw [hu1]; exact below_alloc hb1 (Nat.le_refl _) _
    have HBX := Lib.hid (show Below w1.heap.size w1 u1 by rw [hu1]; go_grown)
    have hs0 := hB.bel.size
    have OW := Lib.hid ((own1.below HBX.out).weaken hs0)
    have LOW := Lib.hid own1.len
    replace hB := hB.next hbu
    replace hS := hS.next hbu
    replace hQ := hQ.next hbu
    clear hb1 hbu own1 hs0 hZ m0 m1 m2 m3 s0 s1 s2 s3 s4
    go_upto_region 2 with fail
    rw [← hu1]
    clear hu1
    have HBB := Lib.hid hB
    have HOW := Lib.hid OW.out.reads
    have hV0 : GB u1 u1.drew := (Below.refl _ _).drew
    haveI hne : Nonempty (Cls (GB u1)) := ⟨⟨_, hV0⟩⟩
    have k0 : ∀ x : Cls (GB u1), x.w.cell? ⟨w.heap.size, 0, none⟩ = some (.int .i64 m.id) := fun x => GB.c x (hB.k.c 0 rfl)
    have k1 : ∀ x : Cls (GB u1), x.w.cell? ⟨w.heap.size, 1, none⟩ = some (.slice m.An m.nn m.cn) := fun x => GB.c x (hB.k.c 1 rfl)
    have k2 : ∀ x : Cls (GB u1), x.w.cell? ⟨w.heap.size, 2, none⟩ = some (.slice m.Am m.nm m.cm) := fun x => GB.c x (hB.k.c 2 rfl)
    have k3 : ∀ x : Cls (GB u1), x.w.cell? ⟨w.heap.size, 3, none⟩ = some (.slice m.As m.ns m.cs) := fun x => GB.c x (hB.k.c 3 rfl)
    have l0 : ∀ x : Cls (GB u1), x.w.cell? ⟨w.heap.size + 1, 0, none⟩ = some (.int .i64 (t : Nat)) := fun x => GB.c x (hS.c 0 rfl)
    have l1 : ∀ x : Cls (GB u1), x.w.cell? ⟨w.heap.size + 1, 1, none⟩ = some (.int .i64 (md : Nat)) := fun x => GB.c x (hS.c 1 rfl)
    have l2 : ∀ x : Cls (GB u1), x.w.cell? ⟨w.heap.size + 1, 2, none⟩ = some (.int .i64 (rn : Nat)) := fun x => GB.c x (hS.c 2 rfl)
    have l3 : ∀ x : Cls (GB u1), x.w.cell? ⟨w.heap.size + 1, 3, none⟩ = some (.int .i64 (sl : Nat)) := fun x => GB.c x (hS.c 3 rfl)
    have l4 : ∀ x : Cls (GB u1), x.w.cell? ⟨w.heap.size + 1, 4, none⟩ = some (.int .i64 (mb : Nat)) := fun x => GB.c x (hS.c 4 rfl)
    have p0 : ∀ x : Cls (GB u1), x.w.cell? ⟨w1.heap.size, 0, none⟩ = some (.int .i64 (Y0 : Nat)) := fun x => GB.c x (f1.c 0 rfl)
    have p1 : ∀ x : Cls (GB u1), x.w.cell? ⟨w1.heap.size, 1, none⟩ = some (.int .i64 (Y1 : Nat)) := fun x => GB.c x (f1.c 1 rfl)
    have p2 : ∀ x : Cls (GB u1), x.w.cell? ⟨w1.heap.size, 2, none⟩ = some (.int .i64 (Y2 : Nat)) := fun x => GB.c x (f1.c 2 rfl)
    have p3 : ∀ x : Cls (GB u1), x.w.cell? ⟨w1.heap.size, 3, none⟩ = some (.int .i64 (Y3 : Nat)) := fun x => GB.c x (f1.c 3 rfl)
    have p4 : ∀ x : Cls (GB u1), x.w.cell? ⟨w1.heap.size, 4, none⟩ = some (.int .i64 (Y4 : Nat)) := fun x => GB.c x (f1.c 4 rfl)
    have p5 : ∀ x : Cls (GB u1), x.w.cell? ⟨w1.heap.size, 5, none⟩ = some (.int .i64 (Y5 : Nat)) := fun x => GB.c x (f1.c 5 rfl)
    have p6 : ∀ x : Cls (GB u1), x.w.cell? ⟨w1.heap.size, 6, none⟩ = some (.int .i64 (Y6 : Nat)) := fun x => GB.c x (f1.c 6 rfl)
    have p7 : ∀ x : Cls (GB u1), x.w.cell? ⟨w1.heap.size, 7, none⟩ = some (.slice A1 n1 c1) := fun x => GB.c x (f1.c 7 rfl)
    cases fx
    case false =>
      refine wp_region_cls (GB u1) (by kernel_rfl) (by kernel_rfl) hV0 ?_
      repeat (go_big_quiet_step (first | (go_at_call 97; rename_i x; exact cls_call (fun h1 h2 => GB.next h1 h2) (HDS.out _ (HBB.out.rd.up x.h))) | (go_at_call 137; rename_i x; exact cls_call (fun h1 h2 => GB.next h1 h2) (HFT.out _ (HOW.out.up x.h)))))
      refine wpQuiet_nil ?_
      rintro _ ⟨x5, rfl⟩
      obtain ⟨w2, hw2⟩ : ∃ v, v = x5.w := ⟨_, rfl⟩
      have hb2 : Below u1.heap.size u1 w2 := hw2 ▸ x5.h
      rw [← hw2]
      clear hw2 x5 hV0 hne k0 k1 k2 k3 l0 l1 l2 l3 l4 p0 p1 p2 p3 p4 p5 p6 p7 HBB HOW
      have OW2 := Lib.hid (OW.out.below hb2)
      replace f1 := f1.next hb2
      replace hB := hB.next hb2
      replace hS := hS.next hb2
      replace hQ := hQ.next hb2
      have gb2 := hB.bel
      have y0 := hQ.free 0; have y1 := hQ.free 1; have y2 := hQ.free 2; have y3 := hQ.free 3; have y4 := hQ.free 4; have y5 := hQ.free 5; have y6 := hQ.free 6; have y7 := hQ.free 7; have y8 := hQ.free 8
      have e0 := hQ.c 0 rfl; have e1 := hQ.c 1 rfl; have e2 := hQ.c 2 rfl; have e3 := hQ.c 3 rfl; have e4 := hQ.c 4 rfl; have e5 := hQ.c 5 rfl; have e6 := hQ.c 6 rfl; have e7 := hQ.c 7 rfl; have e8 := hQ.c 8 rfl
      go_wp2_with fail
      refine bp_forget (fun v => BlkL v (w.heap.size + 1 + 1) 72 [.int .i64 2, .int .i64 0, .int .i64 0, .int .i64 0, .int .i64 0, .int .i64 0, .int .i64 0, .int .i64 0, .slice none 0 0] ∧ Below w.heap.size w v) ⟨(((((((((hQ.set 0 _).set 1 _).set 2 _).set 3 _).set 4 _).set 5 _).set 6 _).set 7 _).set 8 _), by go_grown⟩ ?_
      rintro v9 ⟨ko9, gb9⟩
      have d0 := ko9.c 0 rfl; have d1 := ko9.c 1 rfl; have d2 := ko9.c 2 rfl; have d3 := ko9.c 3 rfl; have d4 := ko9.c 4 rfl; have d5 := ko9.c 5 rfl; have d6 := ko9.c 6 rfl; have d7 := ko9.c 7 rfl; have d8 := ko9.c 8 rfl
      exact bodyPost_ret (v := .tuple #[.agg #[.int .i64 2, .int .i64 0, .int .i64 0, .int .i64 0, .int .i64 0, .int .i64 0, .int .i64 0, .int .i64 0, .slice none 0 0], .int .i64 5]) (by simp [results, Tryz.results83, go_sem, d0, d1, d2, d3, d4, d5, d6, d7, d8]) rfl (by rw [← HSS.out, show causeB M t md rn sl mb zs = 5 from E.out, if_neg (by decide)]; exact VB_zero (by decide) gb9 _ rfl)
    case true =>
      refine wp_region_cls (GB u1) (by kernel_rfl) (by kernel_rfl) hV0 ?_
      repeat (go_big_quiet_step (first | (go_at_call 97; rename_i x; exact cls_call (fun h1 h2 => GB.next h1 h2) (HDS.out _ (HBB.out.rd.up x.h))) | (go_at_call 137; rename_i x; exact cls_call (fun h1 h2 => GB.next h1 h2) (HFT.out _ (HOW.out.up x.h)))))
      refine wpQuiet_nil ?_
      rintro _ ⟨x5, rfl⟩
      obtain ⟨w2, hw2⟩ : ∃ v, v = x5.w := ⟨_, rfl⟩
      have hb2 : Below u1.heap.size u1 w2 := hw2 ▸ x5.h
      rw [← hw2]
      clear hw2 x5 hV0 hne k0 k1 k2 k3 l0 l1 l2 l3 l4 p0 p1 p2 p3 p4 p5 p6 p7 HBB HOW
      have OW2 := Lib.hid (OW.out.below hb2)
      replace f1 := f1.next hb2
      replace hB := hB.next hb2
      replace hS := hS.next hb2
      replace hQ := hQ.next hb2
      have gb2 := hB.bel
      have x0 := f1.c 0 rfl; have x1 := f1.c 1 rfl; have x2 := f1.c 2 rfl; have x3 := f1.c 3 rfl; have x4 := f1.c 4 rfl; have x5 := f1.c 5 rfl; have x6 := f1.c 6 rfl; have x7 := f1.c 7 rfl
      have y0 := hQ.free 0; have y1 := hQ.free 1; have y2 := hQ.free 2; have y3 := hQ.free 3; have y4 := hQ.free 4; have y5 := hQ.free 5; have y6 := hQ.free 6; have y7 := hQ.free 7; have y8 := hQ.free 8
      have e0 := hQ.c 0 rfl; have e1 := hQ.c 1 rfl; have e2 := hQ.c 2 rfl; have e3 := hQ.c 3 rfl; have e4 := hQ.c 4 rfl; have e5 := hQ.c 5 rfl; have e6 := hQ.c 6 rfl; have e7 := hQ.c 7 rfl; have e8 := hQ.c 8 rfl
      go_wp2_with fail
      refine bp_forget (fun v => KO 72 2 v (w.heap.size + 1 + 1) [.int .i64 3, .int .i64 (Y0 : Nat), .int .i64 (Y1 : Nat), .int .i64 (Y2 : Nat), .int .i64 (Y3 : Nat), .int .i64 (Y4 : Nat), .int .i64 (Y5 : Nat), .int .i64 (Y6 : Nat), .slice A1 n1 c1] w.heap.size _ _ _ _ ∧ Below w.heap.size w v) ⟨((((((((((show KO 72 2 _ _ _ _ _ _ _ _ from ⟨hQ, OW2.out⟩).set (by decide) 0 _).set (by decide) 1 _).set (by decide) 2 _).set (by decide) 3 _).set (by decide) 4 _).set (by decide) 5 _).set (by decide) 6 _).set (by decide) 7 _).set (by decide) 8 _), by go_grown⟩ ?_
      rintro v9 ⟨ko9, gb9⟩
      have OW9 := ko9.2
      have d0 := ko9.1.c 0 rfl; have d1 := ko9.1.c 1 rfl; have d2 := ko9.1.c 2 rfl; have d3 := ko9.1.c 3 rfl; have d4 := ko9.1.c 4 rfl; have d5 := ko9.1.c 5 rfl; have d6 := ko9.1.c 6 rfl; have d7 := ko9.1.c 7 rfl; have d8 := ko9.1.c 8 rfl
      exact bodyPost_ret (v := .tuple #[.agg #[.int .i64 3, .int .i64 (Y0 : Nat), .int .i64 (Y1 : Nat), .int .i64 (Y2 : Nat), .int .i64 (Y3 : Nat), .int .i64 (Y4 : Nat), .int .i64 (Y5 : Nat), .int .i64 (Y6 : Nat), .slice A1 n1 c1], .int .i64 0]) (by simp [results, Tryz.results83, go_sem, d0, d1, d2, d3, d4, d5, d6, d7, d8]) rfl (by rw [← HSS.out, show causeB M t md rn sl mb zs = 0 from E.out, if_pos rfl]; exact VB_ok A1 n1 c1 HY.out (by rw [HDD.out]; exact OW9) gb9 _ rfl)

set_option maxRecDepth 200000 in
set_option maxHeartbeats 16000000 in
theorem iJudge_any (m : Mdv) (M : Mdl) (t md rn sl mb : Int) (A : Option Addr) (n c : Nat) (zs : List Int) (w : World) (h : RD w w.heap.size m M) (hz : SL w A n c zs) (hby : isBytes zs = true) (hM : isMedl M = true) (hbe : bel M t md rn sl mb = true) :
    Calls Tryz.prog 85 #[.agg #[.int .i64 m.id, .slice m.An m.nn m.cn, .slice m.Am m.nm m.cm, .slice m.As m.ns m.cs], .agg #[.int .i64 t, .int .i64 md, .int .i64 rn, .int .i64 sl, .int .i64 mb], .slice A n c] w (VB zs (if causeB M t md rn sl mb zs = 0 then 3 else 2) (causeB M t md rn sl mb zs) (causeB M t md rn sl mb zs) w) := by
  have hst := bel_state hbe
  have hid := isMedl_id hM
  rw [h.id] at hid
  have hsa := isState_all hst
  have LS := h.rs.len
  have hfl := bel_find hM hbe
  have hfi := find_idx hfl
  obtain ⟨I, hI⟩ : ∃ I : Nat, m.id = (I : Int) := ⟨m.id.toNat, by omega⟩
  obtain ⟨t, rfl⟩ : ∃ z : Nat, t = (z : Int) := ⟨t.toNat, by omega⟩
  obtain ⟨md, rfl⟩ : ∃ z : Nat, md = (z : Int) := ⟨md.toNat, by omega⟩
  obtain ⟨rn, rfl⟩ : ∃ z : Nat, rn = (z : Int) := ⟨rn.toNat, by omega⟩
  obtain ⟨sl, rfl⟩ : ∃ z : Nat, sl = (z : Int) := ⟨sl.toNat, by omega⟩
  obtain ⟨mb, rfl⟩ : ∃ z : Nat, mb = (z : Int) := ⟨mb.toNat, by omega⟩
  have HCA := Lib.hid (show causeB M t md rn sl mb zs = (if opC zs I t md rn sl mb = 0 then (if fitX (ge M.ss (findI M.ss md rn sl)) (bdy zs) = true then 0 else 5) else opC zs I t md rn sl mb) by unfold causeB; rw [show M.id.toNat = I from by rw [h.id, hI]; rfl]; rfl)
  have hop := fun (u : World) (hu : SL u A n c zs) => iOpen_any A n c zs I t md rn sl mb u hu hby (by omega) hst iFrm_any
  rw [← hI] at hop
  have hds := fun (u : World) (hu : RD u u.heap.size m M) => iDesc_any m M t md rn sl mb (findI M.ss md rn sl) u hu hfi (by rw [← LS]; exact hfl)
  have HFX := Lib.hid (show fitX (ge M.ss (findI M.ss md rn sl)) (bdy zs) = fitD (ge M.ss (findI M.ss md rn sl)).nd (ge M.ss (findI M.ss md rn sl)).kd (ge M.ss (findI M.ss md rn sl)).sz (ge M.ss (findI M.ss md rn sl)).du (ge M.ss (findI M.ss md rn sl)).ch (bk (bdy zs)) (br (bdy zs)) (bq (bdy zs) 0 16) (bq (bdy zs) 16 4) (bq (bdy zs) 20 4) (bq (bdy zs) 24 8) (bq (bdy zs) 32 32) (bdt (bdy zs)) from rfl)
  have hfw : opC zs I t md rn sl mb = 0 → fitF (ge M.ss (findI M.ss md rn sl)).kd (ge M.ss (findI M.ss md rn sl)).sz (ge M.ss (findI M.ss md rn sl)).ch (bk (bdy zs)) (br (bdy zs)) (bdt (bdy zs)).length = fitX (ge M.ss (findI M.ss md rn sl)) (bdy zs) := fun h => (fitX_of hM hbe (opC_bok h)).symm
  obtain ⟨X, hX⟩ : ∃ x, ge M.ss (findI M.ss md rn sl) = x := ⟨_, rfl⟩
  have hfx := HFX.out
  have hca := HCA.out
  rw [hX] at hds hfx hca hfw
  obtain ⟨fx, hf⟩ : ∃ b, fitX X (bdy zs) = b := ⟨_, rfl⟩
  rw [hf] at hfx hca hfw
  have hco := opC_cases zs I t md rn sl mb
  obtain ⟨C, hC⟩ : ∃ x, opC zs I t md rn sl mb = x := ⟨_, rfl⟩
  rw [hC] at hop hca hco hfw
  have HFW := Lib.hid hfw
  replace HCA := Lib.hid hca
  have HFV := Lib.hid hfx.symm
  have HOP := Lib.hid hop
  have HDS := Lib.hid hds
  have HCO := Lib.hid hco
  have HI := Lib.hid hI
  have hnl : (bdt (bdy zs)).length ≤ 1024 := by have h1 := bdt_len (zs := bdy zs); have h2 : (bdy zs).length ≤ zs.length := (by unfold bdy; rw [List.length_take]; omega); have h3 := isBytes_len hby; omega
  obtain ⟨SS, hSS⟩ : ∃ x, (if causeB M t md rn sl mb zs = 0 then (3 : Int) else 2) = x := ⟨_, rfl⟩
  rw [hSS]
  have HSS := Lib.hid hSS
  clear hst hid hsa hfl hfi hX hfx hca hfw hf hC hop hds hco HFX hI hby hM hbe hSS
  obtain ⟨w0, hw0⟩ : ∃ v, v = ((w.alloc (.cells #[.int .i64 m.id, .slice m.An m.nn m.cn, .slice m.Am m.nm m.cm, .slice m.As m.ns m.cs] 37)).alloc (.cells #[.int .i64 t, .int .i64 md, .int .i64 rn, .int .i64 sl, .int .i64 mb] 39)).alloc (.cells #[.int .i64 0, .int .i64 0, .int .i64 0, .int .i64 0, .int .i64 0, .int .i64 0, .int .i64 0, .int .i64 0, .slice none 0 0] 72) := ⟨_, rfl⟩
  have hB : BM w w.heap.size m M w0 := by rw [hw0]; exact (BM.box h).next (by go_grown)
  have hS : BlkL w0 (w.heap.size + 1) 39 [.int .i64 t, .int .i64 md, .int .i64 rn, .int .i64 sl, .int .i64 mb] := by rw [hw0]; exact (BlkL.new _ _ _ (by simp)).alloc _
  have hQ : BlkL w0 (w.heap.size + 1 + 1) 72 [.int .i64 0, .int .i64 0, .int .i64 0, .int .i64 0, .int .i64 0, .int .i64 0, .int .i64 0, .int .i64 0, .slice none 0 0] := by rw [hw0]; exact BlkL.new _ _ _ (by simp)
  have hZ := hz.next hB.bel
  have m0 := hB.k.c 0 rfl; have m1 := hB.k.c 1 rfl; have m2 := hB.k.c 2 rfl; have m3 := hB.k.c 3 rfl
  have s0 := hS.c 0 rfl; have s1 := hS.c 1 rfl; have s2 := hS.c 2 rfl; have s3 := hS.c 3 rfl; have s4 := hS.c 4 rfl
  go_enter Tryz.func85, Tryz.ntmps85
  go_wp2_with fail
  rw [← hw0]
  clear hw0
  refine (HOP.out _ hZ).mono ?_
  rintro e w1 hof
  rcases HCO.out with rfl | hbad
  case inr =>
    have hc0 : C ≠ 0 := by omega
    have HC0 := Lib.hid hc0
    obtain ⟨A1, n1, c1, rfl, own1, hb1⟩ := OF_bad hc0 hof
    have e1 : (C == 0) = false := by simpa using hc0
    have e2 : (C != 0) = true := by simpa using hc0
    clear hof hc0 hbad
    have E := Lib.hid (show causeB M t md rn sl mb zs = C from HCA.out.trans (if_neg HC0.out))
    obtain ⟨u1, hu1⟩ : ∃ X, X = w1.alloc (.cells #[.int .i64 0, .int .i64 0, .int .i64 0, .int .i64 0, .int .i64 0, .int .i64 0, .int .i64 0, .slice A1 n1 c1] 48) := ⟨_, rfl⟩
    have f1 : BlkL u1 w1.heap.size 48 [.int .i64 0, .int .i64 0, .int .i64 0, .int .i64 0, .int .i64 0, .int .i64 0, .int .i64 0, .slice A1 n1 c1] := by rw [hu1]; exact BlkL.new _ _ _ rfl
    have hbu : Below w0.heap.size w0 u1 := by rw [hu1]; exact below_alloc hb1 (Nat.le_refl _) _
    have HBX := Lib.hid (show Below w1.heap.size w1 u1 by rw [hu1]; go_grown)
    have hs0 := hB.bel.size
    have OW := Lib.hid ((own1.below HBX.out).weaken hs0)
    have LOW := Lib.hid own1.len
    replace hB := hB.next hbu
    replace hS := hS.next hbu
    replace hQ := hQ.next hbu
    clear hb1 hbu own1 hs0 hZ m0 m1 m2 m3 s0 s1 s2 s3 s4
    go_upto_region 2 with fail
    rw [← hu1]
    clear hu1
    have hV0 : GB u1 u1.drew := (Below.refl _ _).drew
    haveI hne : Nonempty (Cls (GB u1)) := ⟨⟨_, hV0⟩⟩
    refine wp_region_cls (GB u1) (by kernel_rfl) (by kernel_rfl) hV0 ?_
    repeat (go_big_quiet_step (fail))
    refine wpQuiet_nil ?_
    rintro _ ⟨x5, rfl⟩
    obtain ⟨w2, hw2⟩ : ∃ v, v = x5.w := ⟨_, rfl⟩
    have hb2 : Below u1.heap.size u1 w2 := hw2 ▸ x5.h
    rw [← hw2]
    clear hw2 x5 hV0
    replace hB := hB.next hb2
    replace hS := hS.next hb2
    replace hQ := hQ.next hb2
    have gb2 := hB.bel
    have y0 := hQ.free 0; have y1 := hQ.free 1; have y2 := hQ.free 2; have y3 := hQ.free 3; have y4 := hQ.free 4; have y5 := hQ.free 5; have y6 := hQ.free 6; have y7 := hQ.free 7; have y8 := hQ.free 8
    have e0 := hQ.c 0 rfl; have e1 := hQ.c 1 rfl; have e2 := hQ.c 2 rfl; have e3 := hQ.c 3 rfl; have e4 := hQ.c 4 rfl; have e5 := hQ.c 5 rfl; have e6 := hQ.c 6 rfl; have e7 := hQ.c 7 rfl; have e8 := hQ.c 8 rfl
    go_wp2_with fail
    refine bp_forget (fun v => BlkL v (w.heap.size + 1 + 1) 72 [.int .i64 2, .int .i64 0, .int .i64 0, .int .i64 0, .int .i64 0, .int .i64 0, .int .i64 0, .int .i64 0, .slice none 0 0] ∧ Below w.heap.size w v) ⟨(((((((((hQ.set 0 _).set 1 _).set 2 _).set 3 _).set 4 _).set 5 _).set 6 _).set 7 _).set 8 _), by go_grown⟩ ?_
    rintro v9 ⟨ko9, gb9⟩
    have d0 := ko9.c 0 rfl; have d1 := ko9.c 1 rfl; have d2 := ko9.c 2 rfl; have d3 := ko9.c 3 rfl; have d4 := ko9.c 4 rfl; have d5 := ko9.c 5 rfl; have d6 := ko9.c 6 rfl; have d7 := ko9.c 7 rfl; have d8 := ko9.c 8 rfl
    exact bodyPost_ret (v := .tuple #[.agg #[.int .i64 2, .int .i64 0, .int .i64 0, .int .i64 0, .int .i64 0, .int .i64 0, .int .i64 0, .int .i64 0, .slice none 0 0], .int .i64 C]) (by simp [results, Tryz.results85, go_sem, d0, d1, d2, d3, d4, d5, d6, d7, d8]) rfl (by rw [← HSS.out, E.out, if_neg HC0.out]; exact VB_zero HC0.out gb9 _ rfl)
  case inl =>
    obtain ⟨A1, n1, c1, rfl, own1, hb1⟩ := OF_get hof
    clear hof
    obtain ⟨Y0, hY0⟩ : ∃ z, bk (bdy zs) = z := ⟨_, rfl⟩
    obtain ⟨Y1, hY1⟩ : ∃ z, br (bdy zs) = z := ⟨_, rfl⟩
    obtain ⟨Y2, hY2⟩ : ∃ z, bq (bdy zs) 0 16 = z := ⟨_, rfl⟩
    obtain ⟨Y3, hY3⟩ : ∃ z, bq (bdy zs) 16 4 = z := ⟨_, rfl⟩
    obtain ⟨Y4, hY4⟩ : ∃ z, bq (bdy zs) 20 4 = z := ⟨_, rfl⟩
    obtain ⟨Y5, hY5⟩ : ∃ z, bq (bdy zs) 24 8 = z := ⟨_, rfl⟩
    obtain ⟨Y6, hY6⟩ : ∃ z, bq (bdy zs) 32 32 = z := ⟨_, rfl⟩
    obtain ⟨ds, hds⟩ : ∃ z, bdt (bdy zs) = z := ⟨_, rfl⟩
    have hfv := HFW.out rfl
    rw [hds] at own1 hnl
    rw [hY0, hY1, hds, own1.len] at hfv
    rw [hY0, hY1, hY2, hY3, hY4, hY5, hY6]
    have HY := Lib.hid (show ((Y0 : Nat) : Int) = bk (bdy zs) ∧ ((Y1 : Nat) : Int) = br (bdy zs) ∧ ((Y2 : Nat) : Int) = bq (bdy zs) 0 16 ∧ ((Y3 : Nat) : Int) = bq (bdy zs) 16 4 ∧ ((Y4 : Nat) : Int) = bq (bdy zs) 20 4 ∧ ((Y5 : Nat) : Int) = bq (bdy zs) 24 8 ∧ ((Y6 : Nat) : Int) = bq (bdy zs) 32 32 by rw [hY0, hY1, hY2, hY3, hY4, hY5, hY6]; exact ⟨rfl, rfl, rfl, rfl, rfl, rfl, rfl⟩)
    have HDD := Lib.hid hds
    have hft := fun (u : World) => fits_any X.nd X.kd X.sz X.du X.ch Y0 Y1 Y2 Y3 Y4 Y5 Y6 A1 n1 c1 u
    rw [hfv] at hft
    have HFT := Lib.hid hft
    clear hft hfv HFV HFW HCO HOP hds hY0 hY1 hY2 hY3 hY4 hY5 hY6
    have E := Lib.hid (show causeB M t md rn sl mb zs = (if fx = true then 0 else 5) from HCA.out.trans (if_pos rfl))
    obtain ⟨u1, hu1⟩ : ∃ X, X = w1.alloc (.cells #[.int .i64 (Y0 : Nat), .int .i64 (Y1 : Nat), .int .i64 (Y2 : Nat), .int .i64 (Y3 : Nat), .int .i64 (Y4 : Nat), .int .i64 (Y5 : Nat), .int .i64 (Y6 : Nat), .slice A1 n1 c1] 48) := ⟨_, rfl⟩
    have f1 : BlkL u1 w1.heap.size 48 [.int .i64 (Y0 : Nat), .int .i64 (Y1 : Nat), .int .i64 (Y2 : Nat), .int .i64 (Y3 : Nat), .int .i64 (Y4 : Nat), .int .i64 (Y5 : Nat), .int .i64 (Y6 : Nat), .slice A1 n1 c1] := by rw [hu1]; exact BlkL.new _ _ _ rfl
    have hbu : Below w0.heap.size w0 u1 := by rw [hu1]; exact below_alloc hb1 (Nat.le_refl _) _
    have HBX := Lib.hid (show Below w1.heap.size w1 u1 by rw [hu1]; go_grown)
    have hs0 := hB.bel.size
    have OW := Lib.hid ((own1.below HBX.out).weaken hs0)
    have LOW := Lib.hid own1.len
    replace hB := hB.next hbu
    replace hS := hS.next hbu
    replace hQ := hQ.next hbu
    clear hb1 hbu own1 hs0 hZ m0 m1 m2 m3 s0 s1 s2 s3 s4
    go_upto_region 2 with fail
    rw [← hu1]
    clear hu1
    have HBB := Lib.hid hB
    have HOW := Lib.hid OW.out.reads
    have hV0 : GB u1 u1.drew := (Below.refl _ _).drew
    haveI hne : Nonempty (Cls (GB u1)) := ⟨⟨_, hV0⟩⟩
    have k0 : ∀ x : Cls (GB u1), x.w.cell? ⟨w.heap.size, 0, none⟩ = some (.int .i64 m.id) := fun x => GB.c x (hB.k.c 0 rfl)
    have k1 : ∀ x : Cls (GB u1), x.w.cell? ⟨w.heap.size, 1, none⟩ = some (.slice m.An m.nn m.cn) := fun x => GB.c x (hB.k.c 1 rfl)
    have k2 : ∀ x : Cls (GB u1), x.w.cell? ⟨w.heap.size, 2, none⟩ = some (.slice m.Am m.nm m.cm) := fun x => GB.c x (hB.k.c 2 rfl)
    have k3 : ∀ x : Cls (GB u1), x.w.cell? ⟨w.heap.size, 3, none⟩ = some (.slice m.As m.ns m.cs) := fun x => GB.c x (hB.k.c 3 rfl)
    have l0 : ∀ x : Cls (GB u1), x.w.cell? ⟨w.heap.size + 1, 0, none⟩ = some (.int .i64 (t : Nat)) := fun x => GB.c x (hS.c 0 rfl)
    have l1 : ∀ x : Cls (GB u1), x.w.cell? ⟨w.heap.size + 1, 1, none⟩ = some (.int .i64 (md : Nat)) := fun x => GB.c x (hS.c 1 rfl)
    have l2 : ∀ x : Cls (GB u1), x.w.cell? ⟨w.heap.size + 1, 2, none⟩ = some (.int .i64 (rn : Nat)) := fun x => GB.c x (hS.c 2 rfl)
    have l3 : ∀ x : Cls (GB u1), x.w.cell? ⟨w.heap.size + 1, 3, none⟩ = some (.int .i64 (sl : Nat)) := fun x => GB.c x (hS.c 3 rfl)
    have l4 : ∀ x : Cls (GB u1), x.w.cell? ⟨w.heap.size + 1, 4, none⟩ = some (.int .i64 (mb : Nat)) := fun x => GB.c x (hS.c 4 rfl)
    have p0 : ∀ x : Cls (GB u1), x.w.cell? ⟨w1.heap.size, 0, none⟩ = some (.int .i64 (Y0 : Nat)) := fun x => GB.c x (f1.c 0 rfl)
    have p1 : ∀ x : Cls (GB u1), x.w.cell? ⟨w1.heap.size, 1, none⟩ = some (.int .i64 (Y1 : Nat)) := fun x => GB.c x (f1.c 1 rfl)
    have p2 : ∀ x : Cls (GB u1), x.w.cell? ⟨w1.heap.size, 2, none⟩ = some (.int .i64 (Y2 : Nat)) := fun x => GB.c x (f1.c 2 rfl)
    have p3 : ∀ x : Cls (GB u1), x.w.cell? ⟨w1.heap.size, 3, none⟩ = some (.int .i64 (Y3 : Nat)) := fun x => GB.c x (f1.c 3 rfl)
    have p4 : ∀ x : Cls (GB u1), x.w.cell? ⟨w1.heap.size, 4, none⟩ = some (.int .i64 (Y4 : Nat)) := fun x => GB.c x (f1.c 4 rfl)
    have p5 : ∀ x : Cls (GB u1), x.w.cell? ⟨w1.heap.size, 5, none⟩ = some (.int .i64 (Y5 : Nat)) := fun x => GB.c x (f1.c 5 rfl)
    have p6 : ∀ x : Cls (GB u1), x.w.cell? ⟨w1.heap.size, 6, none⟩ = some (.int .i64 (Y6 : Nat)) := fun x => GB.c x (f1.c 6 rfl)
    have p7 : ∀ x : Cls (GB u1), x.w.cell? ⟨w1.heap.size, 7, none⟩ = some (.slice A1 n1 c1) := fun x => GB.c x (f1.c 7 rfl)
    cases fx
    case false =>
      refine wp_region_cls (GB u1) (by kernel_rfl) (by kernel_rfl) hV0 ?_
      repeat (go_big_quiet_step (first | (go_at_call 90; rename_i x; exact cls_call (fun h1 h2 => GB.next h1 h2) (HDS.out _ (HBB.out.rd.up x.h))) | (go_at_call 139; rename_i x; exact cls_call (fun h1 h2 => GB.next h1 h2) (HFT.out _))))
      refine wpQuiet_nil ?_
      rintro _ ⟨x5, rfl⟩
      obtain ⟨w2, hw2⟩ : ∃ v, v = x5.w := ⟨_, rfl⟩
      have hb2 : Below u1.heap.size u1 w2 := hw2 ▸ x5.h
      rw [← hw2]
      clear hw2 x5 hV0 hne k0 k1 k2 k3 l0 l1 l2 l3 l4 p0 p1 p2 p3 p4 p5 p6 p7 HBB HOW
      have OW2 := Lib.hid (OW.out.below hb2)
      replace f1 := f1.next hb2
      replace hB := hB.next hb2
      replace hS := hS.next hb2
      replace hQ := hQ.next hb2
      have gb2 := hB.bel
      have y0 := hQ.free 0; have y1 := hQ.free 1; have y2 := hQ.free 2; have y3 := hQ.free 3; have y4 := hQ.free 4; have y5 := hQ.free 5; have y6 := hQ.free 6; have y7 := hQ.free 7; have y8 := hQ.free 8
      have e0 := hQ.c 0 rfl; have e1 := hQ.c 1 rfl; have e2 := hQ.c 2 rfl; have e3 := hQ.c 3 rfl; have e4 := hQ.c 4 rfl; have e5 := hQ.c 5 rfl; have e6 := hQ.c 6 rfl; have e7 := hQ.c 7 rfl; have e8 := hQ.c 8 rfl
      go_wp2_with fail
      refine bp_forget (fun v => BlkL v (w.heap.size + 1 + 1) 72 [.int .i64 2, .int .i64 0, .int .i64 0, .int .i64 0, .int .i64 0, .int .i64 0, .int .i64 0, .int .i64 0, .slice none 0 0] ∧ Below w.heap.size w v) ⟨(((((((((hQ.set 0 _).set 1 _).set 2 _).set 3 _).set 4 _).set 5 _).set 6 _).set 7 _).set 8 _), by go_grown⟩ ?_
      rintro v9 ⟨ko9, gb9⟩
      have d0 := ko9.c 0 rfl; have d1 := ko9.c 1 rfl; have d2 := ko9.c 2 rfl; have d3 := ko9.c 3 rfl; have d4 := ko9.c 4 rfl; have d5 := ko9.c 5 rfl; have d6 := ko9.c 6 rfl; have d7 := ko9.c 7 rfl; have d8 := ko9.c 8 rfl
      exact bodyPost_ret (v := .tuple #[.agg #[.int .i64 2, .int .i64 0, .int .i64 0, .int .i64 0, .int .i64 0, .int .i64 0, .int .i64 0, .int .i64 0, .slice none 0 0], .int .i64 5]) (by simp [results, Tryz.results85, go_sem, d0, d1, d2, d3, d4, d5, d6, d7, d8]) rfl (by rw [← HSS.out, show causeB M t md rn sl mb zs = 5 from E.out, if_neg (by decide)]; exact VB_zero (by decide) gb9 _ rfl)
    case true =>
      refine wp_region_cls (GB u1) (by kernel_rfl) (by kernel_rfl) hV0 ?_
      repeat (go_big_quiet_step (first | (go_at_call 90; rename_i x; exact cls_call (fun h1 h2 => GB.next h1 h2) (HDS.out _ (HBB.out.rd.up x.h))) | (go_at_call 139; rename_i x; exact cls_call (fun h1 h2 => GB.next h1 h2) (HFT.out _))))
      refine wpQuiet_nil ?_
      rintro _ ⟨x5, rfl⟩
      obtain ⟨w2, hw2⟩ : ∃ v, v = x5.w := ⟨_, rfl⟩
      have hb2 : Below u1.heap.size u1 w2 := hw2 ▸ x5.h
      rw [← hw2]
      clear hw2 x5 hV0 hne k0 k1 k2 k3 l0 l1 l2 l3 l4 p0 p1 p2 p3 p4 p5 p6 p7 HBB HOW
      have OW2 := Lib.hid (OW.out.below hb2)
      replace f1 := f1.next hb2
      replace hB := hB.next hb2
      replace hS := hS.next hb2
      replace hQ := hQ.next hb2
      have gb2 := hB.bel
      have x0 := f1.c 0 rfl; have x1 := f1.c 1 rfl; have x2 := f1.c 2 rfl; have x3 := f1.c 3 rfl; have x4 := f1.c 4 rfl; have x5 := f1.c 5 rfl; have x6 := f1.c 6 rfl; have x7 := f1.c 7 rfl
      have y0 := hQ.free 0; have y1 := hQ.free 1; have y2 := hQ.free 2; have y3 := hQ.free 3; have y4 := hQ.free 4; have y5 := hQ.free 5; have y6 := hQ.free 6; have y7 := hQ.free 7; have y8 := hQ.free 8
      have e0 := hQ.c 0 rfl; have e1 := hQ.c 1 rfl; have e2 := hQ.c 2 rfl; have e3 := hQ.c 3 rfl; have e4 := hQ.c 4 rfl; have e5 := hQ.c 5 rfl; have e6 := hQ.c 6 rfl; have e7 := hQ.c 7 rfl; have e8 := hQ.c 8 rfl
      go_wp2_with fail
      refine bp_forget (fun v => KO 72 2 v (w.heap.size + 1 + 1) [.int .i64 3, .int .i64 (Y0 : Nat), .int .i64 (Y1 : Nat), .int .i64 (Y2 : Nat), .int .i64 (Y3 : Nat), .int .i64 (Y4 : Nat), .int .i64 (Y5 : Nat), .int .i64 (Y6 : Nat), .slice A1 n1 c1] w.heap.size _ _ _ _ ∧ Below w.heap.size w v) ⟨((((((((((show KO 72 2 _ _ _ _ _ _ _ _ from ⟨hQ, OW2.out⟩).set (by decide) 0 _).set (by decide) 1 _).set (by decide) 2 _).set (by decide) 3 _).set (by decide) 4 _).set (by decide) 5 _).set (by decide) 6 _).set (by decide) 7 _).set (by decide) 8 _), by go_grown⟩ ?_
      rintro v9 ⟨ko9, gb9⟩
      have OW9 := ko9.2
      have d0 := ko9.1.c 0 rfl; have d1 := ko9.1.c 1 rfl; have d2 := ko9.1.c 2 rfl; have d3 := ko9.1.c 3 rfl; have d4 := ko9.1.c 4 rfl; have d5 := ko9.1.c 5 rfl; have d6 := ko9.1.c 6 rfl; have d7 := ko9.1.c 7 rfl; have d8 := ko9.1.c 8 rfl
      exact bodyPost_ret (v := .tuple #[.agg #[.int .i64 3, .int .i64 (Y0 : Nat), .int .i64 (Y1 : Nat), .int .i64 (Y2 : Nat), .int .i64 (Y3 : Nat), .int .i64 (Y4 : Nat), .int .i64 (Y5 : Nat), .int .i64 (Y6 : Nat), .slice A1 n1 c1], .int .i64 0]) (by simp [results, Tryz.results85, go_sem, d0, d1, d2, d3, d4, d5, d6, d7, d8]) rfl (by rw [← HSS.out, show causeB M t md rn sl mb zs = 0 from E.out, if_pos rfl]; exact VB_ok A1 n1 c1 HY.out (by rw [HDD.out]; exact OW9) gb9 _ rfl)

set_option maxRecDepth 200000 in
set_option maxHeartbeats 8000000 in
theorem iRcode_any (m : Mdv) (M : Mdl) (t md rn sl mb : Int) (b : Bool) (w : World) (h : RD w w.heap.size m M) (hx : RX m M) :
    Calls Tryz.prog 56 #[.agg #[.int .i64 m.id, .slice m.An m.nn m.cn, .slice m.Am m.nm m.cm, .slice m.As m.ns m.cs], .agg #[.int .i64 t, .int .i64 md, .int .i64 rn, .int .i64 sl, .int .i64 mb], .bool b] w (RetV w (.int .i64 (if codeM M t md rn sl mb = 0 then (if b = true then 0 else 2) else codeM M t md rn sl mb))) := by
  have hcm := codeM_cases M t md rn sl mb
  have hco := fun (u : World) (hu : RD u u.heap.size m M) => iCode_any m M t md rn sl mb u hu hx
  obtain ⟨cd, h1⟩ : ∃ b, codeM M t md rn sl mb = b := ⟨_, rfl⟩
  rw [h1] at hcm hco
  rw [h1]
  obtain ⟨V, hV⟩ : ∃ x, (if cd = 0 then (if b = true then (0 : Int) else 2) else cd) = x := ⟨_, rfl⟩
  rw [hV]
  have HV := Lib.hid hV
  have HCO := Lib.hid hco
  clear hco h1 hV
  obtain ⟨w0, hw0⟩ : ∃ v, v = (w.alloc (.cells #[.int .i64 m.id, .slice m.An m.nn m.cn, .slice m.Am m.nm m.cm, .slice m.As m.ns m.cs] 37)).alloc (.cells #[.int .i64 t, .int .i64 md, .int .i64 rn, .int .i64 sl, .int .i64 mb] 39) := ⟨_, rfl⟩
  have hB : BM w w.heap.size m M w0 := by rw [hw0]; exact (BM.box h).next (by go_grown)
  have hS : BlkL w0 (w.heap.size + 1) 39 [.int .i64 t, .int .i64 md, .int .i64 rn, .int .i64 sl, .int .i64 mb] := by rw [hw0]; exact BlkL.new _ _ _ (by simp)
  have m0 := hB.k.c 0 rfl; have m1 := hB.k.c 1 rfl; have m2 := hB.k.c 2 rfl; have m3 := hB.k.c 3 rfl
  have s0 := hS.c 0 rfl; have s1 := hS.c 1 rfl; have s2 := hS.c 2 rfl; have s3 := hS.c 3 rfl; have s4 := hS.c 4 rfl
  go_enter Tryz.func56, Tryz.ntmps56
  go_wp2_with fail
  rw [← hw0]
  clear hw0
  refine (HCO.out _ hB.rd).mono ?_
  rintro e w1 ⟨rfl, hb1⟩
  have gb := (hB.next hb1).bel
  clear hB hS HCO hb1 m0 m1 m2 m3 s0 s1 s2 s3 s4
  rcases hcm with rfl | rfl | ⟨rfl, hi1, hi2⟩
  · go_wp2
    go_ret
    exact ⟨ret_int HV.out, gb⟩
  · go_wp2
    go_ret
    exact ⟨ret_int HV.out, gb⟩
  cases b
  all_goals
    go_wp2
    go_ret
    exact ⟨ret_int HV.out, gb⟩

set_option maxRecDepth 200000 in
set_option maxHeartbeats 16000000 in
theorem sRecB_any (m : Mdv) (M : Mdl) (t md rn sl mb : Int) (A : Option Addr) (n c : Nat) (zs : List Int) (w : World) (h : RD w w.heap.size m M) (hx : RX m M) (hz : SL w A n c zs) (hn : n ≤ 1048576) :
    Calls Tryz.prog 35 #[.agg #[.int .i64 m.id, .slice m.An m.nn m.cn, .slice m.Am m.nm m.cm, .slice m.As m.ns m.cs], .agg #[.int .i64 t, .int .i64 md, .int .i64 rn, .int .i64 sl, .int .i64 mb], .slice A n c] w (VB zs (statR M t md rn sl mb zs) (causeR M t md rn sl mb zs) (codeRB M t md rn sl mb zs) w) := by
  have L := hz.ri.len
  have hcm := codeM_cases M t md rn sl mb
  have hcr : codeRB M t md rn sl mb zs = (if codeM M t md rn sl mb = 0 then (if isBytes zs = true then 0 else 2) else codeM M t md rn sl mb) := rfl
  have HST := Lib.hid (show statR M t md rn sl mb zs = (if codeRB M t md rn sl mb zs = 0 then (if causeB M t md rn sl mb zs = 0 then 3 else 2) else 0) from rfl)
  have HCU := Lib.hid (show causeR M t md rn sl mb zs = (if codeRB M t md rn sl mb zs = 0 then causeB M t md rn sl mb zs else 1) from rfl)
  obtain ⟨by0, hby⟩ : ∃ b, isBytes zs = b := ⟨_, rfl⟩
  have hco := fun (u : World) (hu : RD u u.heap.size m M) => sCode_any m M t md rn sl mb u hu hx
  have hib := fun (u : World) (hu : RI u u.heap.size A n zs) => sIsBytes_any A n c zs u hu (by omega)
  rw [hby] at hib hcr
  have HIB := Lib.hid hib
  clear hib
  have HJ := Lib.hid (fun (u : World) (hu : RD u u.heap.size m M) (hv : SL u A n c zs) (h1 : isBytes zs = true) (h2 : isMedl M = true) (h3 : bel M t md rn sl mb = true) => sJudge_any m M t md rn sl mb A n c zs u hu hv h1 h2 h3)
  have HBY := Lib.hid hby
  obtain ⟨cd, h1⟩ : ∃ b, codeM M t md rn sl mb = b := ⟨_, rfl⟩
  rw [h1] at hcr hcm hco
  have HCR := Lib.hid hcr
  have HCO := Lib.hid hco
  clear hcr hco h1 hby
  obtain ⟨S0, hS0⟩ : ∃ x, statR M t md rn sl mb zs = x := ⟨_, rfl⟩
  obtain ⟨C0, hC0⟩ : ∃ x, causeR M t md rn sl mb zs = x := ⟨_, rfl⟩
  obtain ⟨R0, hR0⟩ : ∃ x, codeRB M t md rn sl mb zs = x := ⟨_, rfl⟩
  rw [hS0, hC0, hR0]
  have hst9 := HST.out
  have hcu9 := HCU.out
  have hcr9 := HCR.out
  rw [hS0, hR0] at hst9
  rw [hC0, hR0] at hcu9
  rw [hR0] at hcr9
  replace HST := Lib.hid hst9
  replace HCU := Lib.hid hcu9
  replace HCR := Lib.hid hcr9
  clear hst9 hcu9 hcr9 hS0 hC0 hR0
  obtain ⟨w0, hw0⟩ : ∃ v, v = ((w.alloc (.cells #[.int .i64 m.id, .slice m.An m.nn m.cn, .slice m.Am m.nm m.cm, .slice m.As m.ns m.cs] 37)).alloc (.cells #[.int .i64 t, .int .i64 md, .int .i64 rn, .int .i64 sl, .int .i64 mb] 39)).alloc (.cells #[.int .i64 0, .int .i64 0, .int .i64 0, .int .i64 0, .int .i64 0, .int .i64 0, .int .i64 0, .int .i64 0, .slice none 0 0] 72) := ⟨_, rfl⟩
  have hB : BM w w.heap.size m M w0 := by rw [hw0]; exact (BM.box h).next (by go_grown)
  have hS : BlkL w0 (w.heap.size + 1) 39 [.int .i64 t, .int .i64 md, .int .i64 rn, .int .i64 sl, .int .i64 mb] := by rw [hw0]; exact (BlkL.new _ _ _ (by simp)).alloc _
  have hQ : BlkL w0 (w.heap.size + 1 + 1) 72 [.int .i64 0, .int .i64 0, .int .i64 0, .int .i64 0, .int .i64 0, .int .i64 0, .int .i64 0, .int .i64 0, .slice none 0 0] := by rw [hw0]; exact BlkL.new _ _ _ (by simp)
  have hZ := hz.next hB.bel
  have m0 := hB.k.c 0 rfl; have m1 := hB.k.c 1 rfl; have m2 := hB.k.c 2 rfl; have m3 := hB.k.c 3 rfl
  have s0 := hS.c 0 rfl; have s1 := hS.c 1 rfl; have s2 := hS.c 2 rfl; have s3 := hS.c 3 rfl; have s4 := hS.c 4 rfl
  go_enter Tryz.func35, Tryz.ntmps35
  go_wp2_with fail
  rw [← hw0]
  clear hw0
  refine (HCO.out _ hB.rd).mono ?_
  rintro e w1 ⟨rfl, hb1⟩
  replace hB := hB.next hb1
  replace hS := hS.next hb1
  replace hQ := hQ.next hb1
  replace hZ := hZ.next hb1
  clear hb1 HCO m0 m1 m2 m3 s0 s1 s2 s3 s4
  have m0 := hB.k.c 0 rfl; have m1 := hB.k.c 1 rfl; have m2 := hB.k.c 2 rfl; have m3 := hB.k.c 3 rfl
  have s0 := hS.c 0 rfl; have s1 := hS.c 1 rfl; have s2 := hS.c 2 rfl; have s3 := hS.c 3 rfl; have s4 := hS.c 4 rfl
  rcases hcm with rfl | rfl | ⟨rfl, hi1, hi2⟩
  · have HE := Lib.hid (show R0 = 1 from HCR.out.trans (if_neg (by decide)))
    have hR1 := HE.out
    subst hR1
    have ES := HST.out.trans (if_neg (by decide))
    have EC := HCU.out.trans (if_neg (by decide))
    have EE := Lib.hid (And.intro ES EC)
    have gb2 := hB.bel
    clear ES EC
    have y0 := hQ.free 0; have y1 := hQ.free 1; have y2 := hQ.free 2; have y3 := hQ.free 3; have y4 := hQ.free 4; have y5 := hQ.free 5; have y6 := hQ.free 6; have y7 := hQ.free 7; have y8 := hQ.free 8
    have e0 := hQ.c 0 rfl; have e1 := hQ.c 1 rfl; have e2 := hQ.c 2 rfl; have e3 := hQ.c 3 rfl; have e4 := hQ.c 4 rfl; have e5 := hQ.c 5 rfl; have e6 := hQ.c 6 rfl; have e7 := hQ.c 7 rfl; have e8 := hQ.c 8 rfl
    go_wp2_with (go_at_call 82; refine (HIB.out _ hZ.ri).mono ?_; rintro e w9 ⟨rfl, rfl⟩)
    refine bp_forget (fun v => BlkL v (w.heap.size + 1 + 1) 72 [.int .i64 0, .int .i64 0, .int .i64 0, .int .i64 0, .int .i64 0, .int .i64 0, .int .i64 0, .int .i64 0, .slice none 0 0] ∧ Below w.heap.size w v) ⟨(((((((((hQ.set 0 _).set 1 _).set 2 _).set 3 _).set 4 _).set 5 _).set 6 _).set 7 _).set 8 _), by go_grown⟩ ?_
    rintro v9 ⟨ko9, gb9⟩
    have d0 := ko9.c 0 rfl; have d1 := ko9.c 1 rfl; have d2 := ko9.c 2 rfl; have d3 := ko9.c 3 rfl; have d4 := ko9.c 4 rfl; have d5 := ko9.c 5 rfl; have d6 := ko9.c 6 rfl; have d7 := ko9.c 7 rfl; have d8 := ko9.c 8 rfl
    exact bodyPost_ret (v := .tuple #[.agg #[.int .i64 0, .int .i64 0, .int .i64 0, .int .i64 0, .int .i64 0, .int .i64 0, .int .i64 0, .int .i64 0, .slice none 0 0], .int .i64 1]) (by simp [results, Tryz.results35, go_sem, d0, d1, d2, d3, d4, d5, d6, d7, d8]) rfl (by rw [EE.out.1, EE.out.2]; exact VB_zero (by decide) gb9 _ rfl)
  · have HE := Lib.hid (show R0 = 2 from HCR.out.trans (if_neg (by decide)))
    have hR1 := HE.out
    subst hR1
    have ES := HST.out.trans (if_neg (by decide))
    have EC := HCU.out.trans (if_neg (by decide))
    have EE := Lib.hid (And.intro ES EC)
    have gb2 := hB.bel
    clear ES EC
    have y0 := hQ.free 0; have y1 := hQ.free 1; have y2 := hQ.free 2; have y3 := hQ.free 3; have y4 := hQ.free 4; have y5 := hQ.free 5; have y6 := hQ.free 6; have y7 := hQ.free 7; have y8 := hQ.free 8
    have e0 := hQ.c 0 rfl; have e1 := hQ.c 1 rfl; have e2 := hQ.c 2 rfl; have e3 := hQ.c 3 rfl; have e4 := hQ.c 4 rfl; have e5 := hQ.c 5 rfl; have e6 := hQ.c 6 rfl; have e7 := hQ.c 7 rfl; have e8 := hQ.c 8 rfl
    go_wp2_with (go_at_call 82; refine (HIB.out _ hZ.ri).mono ?_; rintro e w9 ⟨rfl, rfl⟩)
    refine bp_forget (fun v => BlkL v (w.heap.size + 1 + 1) 72 [.int .i64 0, .int .i64 0, .int .i64 0, .int .i64 0, .int .i64 0, .int .i64 0, .int .i64 0, .int .i64 0, .slice none 0 0] ∧ Below w.heap.size w v) ⟨(((((((((hQ.set 0 _).set 1 _).set 2 _).set 3 _).set 4 _).set 5 _).set 6 _).set 7 _).set 8 _), by go_grown⟩ ?_
    rintro v9 ⟨ko9, gb9⟩
    have d0 := ko9.c 0 rfl; have d1 := ko9.c 1 rfl; have d2 := ko9.c 2 rfl; have d3 := ko9.c 3 rfl; have d4 := ko9.c 4 rfl; have d5 := ko9.c 5 rfl; have d6 := ko9.c 6 rfl; have d7 := ko9.c 7 rfl; have d8 := ko9.c 8 rfl
    exact bodyPost_ret (v := .tuple #[.agg #[.int .i64 0, .int .i64 0, .int .i64 0, .int .i64 0, .int .i64 0, .int .i64 0, .int .i64 0, .int .i64 0, .slice none 0 0], .int .i64 2]) (by simp [results, Tryz.results35, go_sem, d0, d1, d2, d3, d4, d5, d6, d7, d8]) rfl (by rw [EE.out.1, EE.out.2]; exact VB_zero (by decide) gb9 _ rfl)
  cases by0
  · have HE := Lib.hid (show R0 = 2 from HCR.out.trans (if_pos rfl))
    have hR1 := HE.out
    subst hR1
    have ES := HST.out.trans (if_neg (by decide))
    have EC := HCU.out.trans (if_neg (by decide))
    have EE := Lib.hid (And.intro ES EC)
    have gb2 := hB.bel
    clear ES EC
    have y0 := hQ.free 0; have y1 := hQ.free 1; have y2 := hQ.free 2; have y3 := hQ.free 3; have y4 := hQ.free 4; have y5 := hQ.free 5; have y6 := hQ.free 6; have y7 := hQ.free 7; have y8 := hQ.free 8
    have e0 := hQ.c 0 rfl; have e1 := hQ.c 1 rfl; have e2 := hQ.c 2 rfl; have e3 := hQ.c 3 rfl; have e4 := hQ.c 4 rfl; have e5 := hQ.c 5 rfl; have e6 := hQ.c 6 rfl; have e7 := hQ.c 7 rfl; have e8 := hQ.c 8 rfl
    go_wp2_with (go_at_call 82; refine (HIB.out _ hZ.ri).mono ?_; rintro e w9 ⟨rfl, rfl⟩)
    refine bp_forget (fun v => BlkL v (w.heap.size + 1 + 1) 72 [.int .i64 0, .int .i64 0, .int .i64 0, .int .i64 0, .int .i64 0, .int .i64 0, .int .i64 0, .int .i64 0, .slice none 0 0] ∧ Below w.heap.size w v) ⟨(((((((((hQ.set 0 _).set 1 _).set 2 _).set 3 _).set 4 _).set 5 _).set 6 _).set 7 _).set 8 _), by go_grown⟩ ?_
    rintro v9 ⟨ko9, gb9⟩
    have d0 := ko9.c 0 rfl; have d1 := ko9.c 1 rfl; have d2 := ko9.c 2 rfl; have d3 := ko9.c 3 rfl; have d4 := ko9.c 4 rfl; have d5 := ko9.c 5 rfl; have d6 := ko9.c 6 rfl; have d7 := ko9.c 7 rfl; have d8 := ko9.c 8 rfl
    exact bodyPost_ret (v := .tuple #[.agg #[.int .i64 0, .int .i64 0, .int .i64 0, .int .i64 0, .int .i64 0, .int .i64 0, .int .i64 0, .int .i64 0, .slice none 0 0], .int .i64 2]) (by simp [results, Tryz.results35, go_sem, d0, d1, d2, d3, d4, d5, d6, d7, d8]) rfl (by rw [EE.out.1, EE.out.2]; exact VB_zero (by decide) gb9 _ rfl)
  have HE := Lib.hid (show R0 = 0 from HCR.out.trans (if_pos rfl))
  have hju := fun (u : World) (hu : RD u u.heap.size m M) (hv : SL u A n c zs) => HJ.out u hu hv HBY.out hi1 hi2
  clear HJ
  have hR1 := HE.out
  subst hR1
  have ES := HST.out.trans (if_pos rfl)
  have EC := HCU.out.trans (if_pos rfl)
  clear HST HCU
  obtain ⟨K0, hK0⟩ : ∃ x, (if causeB M t md rn sl mb zs = 0 then (3 : Int) else 2) = x := ⟨_, rfl⟩
  obtain ⟨C, hC⟩ : ∃ x, causeB M t md rn sl mb zs = x := ⟨_, rfl⟩
  rw [hK0] at hju ES
  rw [hC] at hju EC
  have EE := Lib.hid (And.intro ES EC)
  clear hK0 hC ES EC
  change ∀ u, _ → _ → Calls _ _ _ u (RetVC u _ _ _ _ _ _ _ _ _ _) at hju
  skip
  have HVB := Lib.hid (show ∀ (w9 : World) (e9 : Ending), RetVC w K0 (ifz C (bk (bdy zs))) (ifz C (br (bdy zs))) (ifz C (bq (bdy zs) 0 16)) (ifz C (bq (bdy zs) 16 4)) (ifz C (bq (bdy zs) 20 4)) (ifz C (bq (bdy zs) 24 8)) (ifz C (bq (bdy zs) 32 32)) (if C = 0 then bdt (bdy zs) else []) 0 e9 w9 → VB zs K0 C 0 w e9 w9 from fun _ _ h => h)
  obtain ⟨K1, hK1⟩ : ∃ x : Int, ifz C (bk (bdy zs)) = x := ⟨_, rfl⟩
  obtain ⟨K2, hK2⟩ : ∃ x : Int, ifz C (br (bdy zs)) = x := ⟨_, rfl⟩
  obtain ⟨K3, hK3⟩ : ∃ x : Int, ifz C (bq (bdy zs) 0 16) = x := ⟨_, rfl⟩
  obtain ⟨K4, hK4⟩ : ∃ x : Int, ifz C (bq (bdy zs) 16 4) = x := ⟨_, rfl⟩
  obtain ⟨K5, hK5⟩ : ∃ x : Int, ifz C (bq (bdy zs) 20 4) = x := ⟨_, rfl⟩
  obtain ⟨K6, hK6⟩ : ∃ x : Int, ifz C (bq (bdy zs) 24 8) = x := ⟨_, rfl⟩
  obtain ⟨K7, hK7⟩ : ∃ x : Int, ifz C (bq (bdy zs) 32 32) = x := ⟨_, rfl⟩
  obtain ⟨R, hR⟩ : ∃ x : List Int, (if C = 0 then bdt (bdy zs) else []) = x := ⟨_, rfl⟩
  have hvb := HVB.out
  rw [hK1, hK2, hK3, hK4, hK5, hK6, hK7, hR] at hvb hju
  clear hK1 hK2 hK3 hK4 hK5 hK6 hK7 hR HVB
  have HVB := Lib.hid hvb
  have HJU := Lib.hid hju
  clear hvb hju
  go_wp2_with (go_at_call 82; refine (HIB.out _ hZ.ri).mono ?_; rintro e w9 ⟨rfl, rfl⟩)
  refine (HJU.out _ hB.rd hZ).mono ?_
  rintro e w2 ⟨A2, n2, c2, rfl, own2, hb2⟩
  have hs1 := hB.bel.size
  replace hB := hB.next hb2
  replace hS := hS.next hb2
  replace hQ := hQ.next hb2
  have OW := Lib.hid (own2.weaken hs1)
  clear hb2 own2 m0 m1 m2 m3 s0 s1 s2 s3 s4 HJU hZ
  obtain ⟨u2, hu2⟩ : ∃ X, X = w2.alloc (.cells #[.int .i64 K0, .int .i64 K1, .int .i64 K2, .int .i64 K3, .int .i64 K4, .int .i64 K5, .int .i64 K6, .int .i64 K7, .slice A2 n2 c2] 72) := ⟨_, rfl⟩
  have f2 : BlkL u2 w2.heap.size 72 [.int .i64 K0, .int .i64 K1, .int .i64 K2, .int .i64 K3, .int .i64 K4, .int .i64 K5, .int .i64 K6, .int .i64 K7, .slice A2 n2 c2] := by rw [hu2]; exact BlkL.new _ _ _ rfl
  have hbu : Below w2.heap.size w2 u2 := by rw [hu2]; go_grown
  have OW2 := Lib.hid (OW.out.below hbu)
  replace hB := hB.next hbu
  replace hS := hS.next hbu
  replace hQ := hQ.next hbu
  have gb2 := hB.bel
  clear hbu OW
  go_upto_region 7 with fail
  rw [← hu2]
  clear hu2
  have x0 := f2.c 0 rfl; have x1 := f2.c 1 rfl; have x2 := f2.c 2 rfl; have x3 := f2.c 3 rfl; have x4 := f2.c 4 rfl; have x5 := f2.c 5 rfl; have x6 := f2.c 6 rfl; have x7 := f2.c 7 rfl; have x8 := f2.c 8 rfl
  have y0 := hQ.free 0; have y1 := hQ.free 1; have y2 := hQ.free 2; have y3 := hQ.free 3; have y4 := hQ.free 4; have y5 := hQ.free 5; have y6 := hQ.free 6; have y7 := hQ.free 7; have y8 := hQ.free 8
  have e0 := hQ.c 0 rfl; have e1 := hQ.c 1 rfl; have e2 := hQ.c 2 rfl; have e3 := hQ.c 3 rfl; have e4 := hQ.c 4 rfl; have e5 := hQ.c 5 rfl; have e6 := hQ.c 6 rfl; have e7 := hQ.c 7 rfl; have e8 := hQ.c 8 rfl
  go_wp2_with fail
  refine bp_forget (fun v => KO 72 2 v (w.heap.size + 1 + 1) [.int .i64 K0, .int .i64 K1, .int .i64 K2, .int .i64 K3, .int .i64 K4, .int .i64 K5, .int .i64 K6, .int .i64 K7, .slice A2 n2 c2] w.heap.size _ _ _ _ ∧ Below w.heap.size w v) ⟨((((((((((show KO 72 2 _ _ _ _ _ _ _ _ from ⟨hQ, OW2.out⟩).set (by decide) 0 _).set (by decide) 1 _).set (by decide) 2 _).set (by decide) 3 _).set (by decide) 4 _).set (by decide) 5 _).set (by decide) 6 _).set (by decide) 7 _).set (by decide) 8 _), by go_grown⟩ ?_
  rintro v9 ⟨ko9, gb9⟩
  have OW9 := ko9.2
  have d0 := ko9.1.c 0 rfl; have d1 := ko9.1.c 1 rfl; have d2 := ko9.1.c 2 rfl; have d3 := ko9.1.c 3 rfl; have d4 := ko9.1.c 4 rfl; have d5 := ko9.1.c 5 rfl; have d6 := ko9.1.c 6 rfl; have d7 := ko9.1.c 7 rfl; have d8 := ko9.1.c 8 rfl
  exact bodyPost_ret (v := .tuple #[.agg #[.int .i64 K0, .int .i64 K1, .int .i64 K2, .int .i64 K3, .int .i64 K4, .int .i64 K5, .int .i64 K6, .int .i64 K7, .slice A2 n2 c2], .int .i64 0]) (by simp [results, Tryz.results35, go_sem, d0, d1, d2, d3, d4, d5, d6, d7, d8]) rfl (by rw [EE.out.1, EE.out.2]; exact HVB.out _ _ ⟨A2, n2, c2, rfl, OW9, gb9⟩)

set_option maxRecDepth 200000 in
set_option maxHeartbeats 16000000 in
theorem iRecB_any (m : Mdv) (M : Mdl) (t md rn sl mb : Int) (A : Option Addr) (n c : Nat) (zs : List Int) (w : World) (h : RD w w.heap.size m M) (hx : RX m M) (hz : SL w A n c zs) (hn : n ≤ 1048576) :
    Calls Tryz.prog 36 #[.agg #[.int .i64 m.id, .slice m.An m.nn m.cn, .slice m.Am m.nm m.cm, .slice m.As m.ns m.cs], .agg #[.int .i64 t, .int .i64 md, .int .i64 rn, .int .i64 sl, .int .i64 mb], .slice A n c] w (VB zs (statR M t md rn sl mb zs) (causeR M t md rn sl mb zs) (codeRB M t md rn sl mb zs) w) := by
  have L := hz.ri.len
  have hcm := codeM_cases M t md rn sl mb
  have hcr : codeRB M t md rn sl mb zs = (if codeM M t md rn sl mb = 0 then (if isBytes zs = true then 0 else 2) else codeM M t md rn sl mb) := rfl
  have HST := Lib.hid (show statR M t md rn sl mb zs = (if codeRB M t md rn sl mb zs = 0 then (if causeB M t md rn sl mb zs = 0 then 3 else 2) else 0) from rfl)
  have HCU := Lib.hid (show causeR M t md rn sl mb zs = (if codeRB M t md rn sl mb zs = 0 then causeB M t md rn sl mb zs else 1) from rfl)
  obtain ⟨by0, hby⟩ : ∃ b, isBytes zs = b := ⟨_, rfl⟩
  have hco := fun (u : World) (hu : RD u u.heap.size m M) => iRcode_any m M t md rn sl mb by0 u hu hx
  have hib := fun (u : World) (hu : RI u u.heap.size A n zs) => iIsBytes_any A n c zs u hu (by omega)
  rw [hby] at hib hcr
  have HIB := Lib.hid hib
  clear hib
  have HJ := Lib.hid (fun (u : World) (hu : RD u u.heap.size m M) (hv : SL u A n c zs) (h1 : isBytes zs = true) (h2 : isMedl M = true) (h3 : bel M t md rn sl mb = true) => iJudge_any m M t md rn sl mb A n c zs u hu hv h1 h2 h3)
  have HBY := Lib.hid hby
  obtain ⟨cd, h1⟩ : ∃ b, codeM M t md rn sl mb = b := ⟨_, rfl⟩
  rw [h1] at hcr hcm hco
  rw [← hcr] at hco
  have HCR := Lib.hid hcr
  have HCO := Lib.hid hco
  clear hcr hco h1 hby
  obtain ⟨S0, hS0⟩ : ∃ x, statR M t md rn sl mb zs = x := ⟨_, rfl⟩
  obtain ⟨C0, hC0⟩ : ∃ x, causeR M t md rn sl mb zs = x := ⟨_, rfl⟩
  obtain ⟨R0, hR0⟩ : ∃ x, codeRB M t md rn sl mb zs = x := ⟨_, rfl⟩
  rw [hS0, hC0, hR0]
  have hst9 := HST.out
  have hcu9 := HCU.out
  have hcr9 := HCR.out
  rw [hS0, hR0] at hst9
  rw [hC0, hR0] at hcu9
  rw [hR0] at hcr9
  replace HST := Lib.hid hst9
  replace HCU := Lib.hid hcu9
  replace HCR := Lib.hid hcr9
  have hco9 := HCO.out
  rw [hR0] at hco9
  replace HCO := Lib.hid hco9
  clear hco9
  clear hst9 hcu9 hcr9 hS0 hC0 hR0
  obtain ⟨w0, hw0⟩ : ∃ v, v = ((w.alloc (.cells #[.int .i64 m.id, .slice m.An m.nn m.cn, .slice m.Am m.nm m.cm, .slice m.As m.ns m.cs] 37)).alloc (.cells #[.int .i64 t, .int .i64 md, .int .i64 rn, .int .i64 sl, .int .i64 mb] 39)).alloc (.cells #[.int .i64 0, .int .i64 0, .int .i64 0, .int .i64 0, .int .i64 0, .int .i64 0, .int .i64 0, .int .i64 0, .slice none 0 0] 72) := ⟨_, rfl⟩
  have hB : BM w w.heap.size m M w0 := by rw [hw0]; exact (BM.box h).next (by go_grown)
  have hS : BlkL w0 (w.heap.size + 1) 39 [.int .i64 t, .int .i64 md, .int .i64 rn, .int .i64 sl, .int .i64 mb] := by rw [hw0]; exact (BlkL.new _ _ _ (by simp)).alloc _
  have hQ : BlkL w0 (w.heap.size + 1 + 1) 72 [.int .i64 0, .int .i64 0, .int .i64 0, .int .i64 0, .int .i64 0, .int .i64 0, .int .i64 0, .int .i64 0, .slice none 0 0] := by rw [hw0]; exact BlkL.new _ _ _ (by simp)
  have hZ := hz.next hB.bel
  have m0 := hB.k.c 0 rfl; have m1 := hB.k.c 1 rfl; have m2 := hB.k.c 2 rfl; have m3 := hB.k.c 3 rfl
  have s0 := hS.c 0 rfl; have s1 := hS.c 1 rfl; have s2 := hS.c 2 rfl; have s3 := hS.c 3 rfl; have s4 := hS.c 4 rfl
  go_enter Tryz.func36, Tryz.ntmps36
  go_upto_region 1 with fail
  rw [← hw0]
  clear hw0
  have hVV : Below w0.heap.size w0 w0.drew := (Below.refl _ _).drew
  have hcells : ∀ u, Below w0.heap.size w0 u → (Below w0.heap.size w0 u ∧ u.cell? ⟨w.heap.size, 0, none⟩ = some (.int .i64 m.id) ∧ u.cell? ⟨w.heap.size, 1, none⟩ = some (.slice m.An m.nn m.cn) ∧ u.cell? ⟨w.heap.size, 2, none⟩ = some (.slice m.Am m.nm m.cm) ∧ u.cell? ⟨w.heap.size, 3, none⟩ = some (.slice m.As m.ns m.cs) ∧ u.cell? ⟨w.heap.size + 1, 0, none⟩ = some (.int .i64 t) ∧ u.cell? ⟨w.heap.size + 1, 1, none⟩ = some (.int .i64 md) ∧ u.cell? ⟨w.heap.size + 1, 2, none⟩ = some (.int .i64 rn) ∧ u.cell? ⟨w.heap.size + 1, 3, none⟩ = some (.int .i64 sl) ∧ u.cell? ⟨w.heap.size + 1, 4, none⟩ = some (.int .i64 mb)) := fun u hu => ⟨hu, (hB.k.next hu).c 0 rfl, (hB.k.next hu).c 1 rfl, (hB.k.next hu).c 2 rfl, (hB.k.next hu).c 3 rfl, (hS.next hu).c 0 rfl, (hS.next hu).c 1 rfl, (hS.next hu).c 2 rfl, (hS.next hu).c 3 rfl, (hS.next hu).c 4 rfl⟩
  have HC := Lib.hid hcells
  clear hcells
  have HBB := Lib.hid hB
  have HZZ := Lib.hid hZ
  go_cut [8] (fun v wc => v = .int .i64 R0 ∧ Below w0.heap.size w0 wc)
  case first =>
    first
    | go_region_held_law (fun u => Below w0.heap.size w0 u ∧ u.cell? ⟨w.heap.size, 0, none⟩ = some (.int .i64 m.id) ∧ u.cell? ⟨w.heap.size, 1, none⟩ = some (.slice m.An m.nn m.cn) ∧ u.cell? ⟨w.heap.size, 2, none⟩ = some (.slice m.Am m.nm m.cm) ∧ u.cell? ⟨w.heap.size, 3, none⟩ = some (.slice m.As m.ns m.cs) ∧ u.cell? ⟨w.heap.size + 1, 0, none⟩ = some (.int .i64 t) ∧ u.cell? ⟨w.heap.size + 1, 1, none⟩ = some (.int .i64 md) ∧ u.cell? ⟨w.heap.size + 1, 2, none⟩ = some (.int .i64 rn) ∧ u.cell? ⟨w.heap.size + 1, 3, none⟩ = some (.int .i64 sl) ∧ u.cell? ⟨w.heap.size + 1, 4, none⟩ = some (.int .i64 mb)) (first | (with_reducible exact HC.out _ hVV) | (with_reducible refine HC.out _ ?_; with_reducible assumption) | (with_reducible refine HC.out _ ?_; go_grown)) (first
        | (go_at_call 84; (have hgv : Below w0.heap.size w0 _ := And.left (‹Below w0.heap.size w0 _ ∧ _›)); (with_reducible refine (HIB.out _ (HZZ.out.ri.up hgv)).mono ?_); rintro e cc ⟨rfl, rfl⟩; clear hgv)
        | (go_at_call 56; (have hgv : Below w0.heap.size w0 _ := And.left (‹Below w0.heap.size w0 _ ∧ _›)); (with_reducible refine (HCO.out _ (HBB.out.rd.up hgv)).mono ?_); rintro e cc ⟨rfl, hb⟩; (have hv := below_next hb hgv (Nat.le_refl _)); have HV9 := Lib.hid hv; clear hgv hb))
    | fail
    all_goals
      go_wp2_with fail
      go_meet
      exact ⟨rfl, HV9.out⟩
  case rest =>
    obtain ⟨rfl, hb1⟩ := hcut
    obtain ⟨w1, hw1⟩ : ∃ v, v = wc := ⟨_, rfl⟩
    rw [← hw1] at hb1 ⊢
    clear hw1 HC hVV HBB HZZ
    replace hB := hB.next hb1
    replace hS := hS.next hb1
    replace hQ := hQ.next hb1
    replace hZ := hZ.next hb1
    clear hb1 HCO HIB m0 m1 m2 m3 s0 s1 s2 s3 s4
    have m0 := hB.k.c 0 rfl; have m1 := hB.k.c 1 rfl; have m2 := hB.k.c 2 rfl; have m3 := hB.k.c 3 rfl
    have s0 := hS.c 0 rfl; have s1 := hS.c 1 rfl; have s2 := hS.c 2 rfl; have s3 := hS.c 3 rfl; have s4 := hS.c 4 rfl
    rcases hcm with rfl | rfl | ⟨rfl, hi1, hi2⟩
    · have HE := Lib.hid (show R0 = 1 from HCR.out.trans (if_neg (by decide)))
      have hR1 := HE.out
      subst hR1
      have ES := HST.out.trans (if_neg (by decide))
      have EC := HCU.out.trans (if_neg (by decide))
      have EE := Lib.hid (And.intro ES EC)
      have gb2 := hB.bel
      clear ES EC
      have y0 := hQ.free 0; have y1 := hQ.free 1; have y2 := hQ.free 2; have y3 := hQ.free 3; have y4 := hQ.free 4; have y5 := hQ.free 5; have y6 := hQ.free 6; have y7 := hQ.free 7; have y8 := hQ.free 8
      have e0 := hQ.c 0 rfl; have e1 := hQ.c 1 rfl; have e2 := hQ.c 2 rfl; have e3 := hQ.c 3 rfl; have e4 := hQ.c 4 rfl; have e5 := hQ.c 5 rfl; have e6 := hQ.c 6 rfl; have e7 := hQ.c 7 rfl; have e8 := hQ.c 8 rfl
      go_wp2_with fail
      refine bp_forget (fun v => BlkL v (w.heap.size + 1 + 1) 72 [.int .i64 0, .int .i64 0, .int .i64 0, .int .i64 0, .int .i64 0, .int .i64 0, .int .i64 0, .int .i64 0, .slice none 0 0] ∧ Below w.heap.size w v) ⟨(((((((((hQ.set 0 _).set 1 _).set 2 _).set 3 _).set 4 _).set 5 _).set 6 _).set 7 _).set 8 _), by go_grown⟩ ?_
      rintro v9 ⟨ko9, gb9⟩
      have d0 := ko9.c 0 rfl; have d1 := ko9.c 1 rfl; have d2 := ko9.c 2 rfl; have d3 := ko9.c 3 rfl; have d4 := ko9.c 4 rfl; have d5 := ko9.c 5 rfl; have d6 := ko9.c 6 rfl; have d7 := ko9.c 7 rfl; have d8 := ko9.c 8 rfl
      exact bodyPost_ret (v := .tuple #[.agg #[.int .i64 0, .int .i64 0, .int .i64 0, .int .i64 0, .int .i64 0, .int .i64 0, .int .i64 0, .int .i64 0, .slice none 0 0], .int .i64 1]) (by simp [results, Tryz.results36, go_sem, d0, d1, d2, d3, d4, d5, d6, d7, d8]) rfl (by rw [EE.out.1, EE.out.2]; exact VB_zero (by decide) gb9 _ rfl)
    · have HE := Lib.hid (show R0 = 2 from HCR.out.trans (if_neg (by decide)))
      have hR1 := HE.out
      subst hR1
      have ES := HST.out.trans (if_neg (by decide))
      have EC := HCU.out.trans (if_neg (by decide))
      have EE := Lib.hid (And.intro ES EC)
      have gb2 := hB.bel
      clear ES EC
      have y0 := hQ.free 0; have y1 := hQ.free 1; have y2 := hQ.free 2; have y3 := hQ.free 3; have y4 := hQ.free 4; have y5 := hQ.free 5; have y6 := hQ.free 6; have y7 := hQ.free 7; have y8 := hQ.free 8
      have e0 := hQ.c 0 rfl; have e1 := hQ.c 1 rfl; have e2 := hQ.c 2 rfl; have e3 := hQ.c 3 rfl; have e4 := hQ.c 4 rfl; have e5 := hQ.c 5 rfl; have e6 := hQ.c 6 rfl; have e7 := hQ.c 7 rfl; have e8 := hQ.c 8 rfl
      go_wp2_with fail
      refine bp_forget (fun v => BlkL v (w.heap.size + 1 + 1) 72 [.int .i64 0, .int .i64 0, .int .i64 0, .int .i64 0, .int .i64 0, .int .i64 0, .int .i64 0, .int .i64 0, .slice none 0 0] ∧ Below w.heap.size w v) ⟨(((((((((hQ.set 0 _).set 1 _).set 2 _).set 3 _).set 4 _).set 5 _).set 6 _).set 7 _).set 8 _), by go_grown⟩ ?_
      rintro v9 ⟨ko9, gb9⟩
      have d0 := ko9.c 0 rfl; have d1 := ko9.c 1 rfl; have d2 := ko9.c 2 rfl; have d3 := ko9.c 3 rfl; have d4 := ko9.c 4 rfl; have d5 := ko9.c 5 rfl; have d6 := ko9.c 6 rfl; have d7 := ko9.c 7 rfl; have d8 := ko9.c 8 rfl
      exact bodyPost_ret (v := .tuple #[.agg #[.int .i64 0, .int .i64 0, .int .i64 0, .int .i64 0, .int .i64 0, .int .i64 0, .int .i64 0, .int .i64 0, .slice none 0 0], .int .i64 2]) (by simp [results, Tryz.results36, go_sem, d0, d1, d2, d3, d4, d5, d6, d7, d8]) rfl (by rw [EE.out.1, EE.out.2]; exact VB_zero (by decide) gb9 _ rfl)
    cases by0
    · have HE := Lib.hid (show R0 = 2 from HCR.out.trans (if_pos rfl))
      have hR1 := HE.out
      subst hR1
      have ES := HST.out.trans (if_neg (by decide))
      have EC := HCU.out.trans (if_neg (by decide))
      have EE := Lib.hid (And.intro ES EC)
      have gb2 := hB.bel
      clear ES EC
      have y0 := hQ.free 0; have y1 := hQ.free 1; have y2 := hQ.free 2; have y3 := hQ.free 3; have y4 := hQ.free 4; have y5 := hQ.free 5; have y6 := hQ.free 6; have y7 := hQ.free 7; have y8 := hQ.free 8
      have e0 := hQ.c 0 rfl; have e1 := hQ.c 1 rfl; have e2 := hQ.c 2 rfl; have e3 := hQ.c 3 rfl; have e4 := hQ.c 4 rfl; have e5 := hQ.c 5 rfl; have e6 := hQ.c 6 rfl; have e7 := hQ.c 7 rfl; have e8 := hQ.c 8 rfl
      go_wp2_with fail
      refine bp_forget (fun v => BlkL v (w.heap.size + 1 + 1) 72 [.int .i64 0, .int .i64 0, .int .i64 0, .int .i64 0, .int .i64 0, .int .i64 0, .int .i64 0, .int .i64 0, .slice none 0 0] ∧ Below w.heap.size w v) ⟨(((((((((hQ.set 0 _).set 1 _).set 2 _).set 3 _).set 4 _).set 5 _).set 6 _).set 7 _).set 8 _), by go_grown⟩ ?_
      rintro v9 ⟨ko9, gb9⟩
      have d0 := ko9.c 0 rfl; have d1 := ko9.c 1 rfl; have d2 := ko9.c 2 rfl; have d3 := ko9.c 3 rfl; have d4 := ko9.c 4 rfl; have d5 := ko9.c 5 rfl; have d6 := ko9.c 6 rfl; have d7 := ko9.c 7 rfl; have d8 := ko9.c 8 rfl
      exact bodyPost_ret (v := .tuple #[.agg #[.int .i64 0, .int .i64 0, .int .i64 0, .int .i64 0, .int .i64 0, .int .i64 0, .int .i64 0, .int .i64 0, .slice none 0 0], .int .i64 2]) (by simp [results, Tryz.results36, go_sem, d0, d1, d2, d3, d4, d5, d6, d7, d8]) rfl (by rw [EE.out.1, EE.out.2]; exact VB_zero (by decide) gb9 _ rfl)
    have HE := Lib.hid (show R0 = 0 from HCR.out.trans (if_pos rfl))
    have hju := fun (u : World) (hu : RD u u.heap.size m M) (hv : SL u A n c zs) => HJ.out u hu hv HBY.out hi1 hi2
    clear HJ
    have hR1 := HE.out
    subst hR1
    have ES := HST.out.trans (if_pos rfl)
    have EC := HCU.out.trans (if_pos rfl)
    clear HST HCU
    obtain ⟨K0, hK0⟩ : ∃ x, (if causeB M t md rn sl mb zs = 0 then (3 : Int) else 2) = x := ⟨_, rfl⟩
    obtain ⟨C, hC⟩ : ∃ x, causeB M t md rn sl mb zs = x := ⟨_, rfl⟩
    rw [hK0] at hju ES
    rw [hC] at hju EC
    have EE := Lib.hid (And.intro ES EC)
    clear hK0 hC ES EC
    change ∀ u, _ → _ → Calls _ _ _ u (RetVC u _ _ _ _ _ _ _ _ _ _) at hju
    skip
    have HVB := Lib.hid (show ∀ (w9 : World) (e9 : Ending), RetVC w K0 (ifz C (bk (bdy zs))) (ifz C (br (bdy zs))) (ifz C (bq (bdy zs) 0 16)) (ifz C (bq (bdy zs) 16 4)) (ifz C (bq (bdy zs) 20 4)) (ifz C (bq (bdy zs) 24 8)) (ifz C (bq (bdy zs) 32 32)) (if C = 0 then bdt (bdy zs) else []) 0 e9 w9 → VB zs K0 C 0 w e9 w9 from fun _ _ h => h)
    obtain ⟨K1, hK1⟩ : ∃ x : Int, ifz C (bk (bdy zs)) = x := ⟨_, rfl⟩
    obtain ⟨K2, hK2⟩ : ∃ x : Int, ifz C (br (bdy zs)) = x := ⟨_, rfl⟩
    obtain ⟨K3, hK3⟩ : ∃ x : Int, ifz C (bq (bdy zs) 0 16) = x := ⟨_, rfl⟩
    obtain ⟨K4, hK4⟩ : ∃ x : Int, ifz C (bq (bdy zs) 16 4) = x := ⟨_, rfl⟩
    obtain ⟨K5, hK5⟩ : ∃ x : Int, ifz C (bq (bdy zs) 20 4) = x := ⟨_, rfl⟩
    obtain ⟨K6, hK6⟩ : ∃ x : Int, ifz C (bq (bdy zs) 24 8) = x := ⟨_, rfl⟩
    obtain ⟨K7, hK7⟩ : ∃ x : Int, ifz C (bq (bdy zs) 32 32) = x := ⟨_, rfl⟩
    obtain ⟨R, hR⟩ : ∃ x : List Int, (if C = 0 then bdt (bdy zs) else []) = x := ⟨_, rfl⟩
    have hvb := HVB.out
    rw [hK1, hK2, hK3, hK4, hK5, hK6, hK7, hR] at hvb hju
    clear hK1 hK2 hK3 hK4 hK5 hK6 hK7 hR HVB
    have HVB := Lib.hid hvb
    have HJU := Lib.hid hju
    clear hvb hju
    go_wp2_with fail
    refine (HJU.out _ hB.rd hZ).mono ?_
    rintro e w2 ⟨A2, n2, c2, rfl, own2, hb2⟩
    have hs1 := hB.bel.size
    replace hB := hB.next hb2
    replace hS := hS.next hb2
    replace hQ := hQ.next hb2
    have OW := Lib.hid (own2.weaken hs1)
    clear hb2 own2 m0 m1 m2 m3 s0 s1 s2 s3 s4 HJU hZ
    obtain ⟨u2, hu2⟩ : ∃ X, X = w2.alloc (.cells #[.int .i64 K0, .int .i64 K1, .int .i64 K2, .int .i64 K3, .int .i64 K4, .int .i64 K5, .int .i64 K6, .int .i64 K7, .slice A2 n2 c2] 72) := ⟨_, rfl⟩
    have f2 : BlkL u2 w2.heap.size 72 [.int .i64 K0, .int .i64 K1, .int .i64 K2, .int .i64 K3, .int .i64 K4, .int .i64 K5, .int .i64 K6, .int .i64 K7, .slice A2 n2 c2] := by rw [hu2]; exact BlkL.new _ _ _ rfl
    have hbu : Below w2.heap.size w2 u2 := by rw [hu2]; go_grown
    have OW2 := Lib.hid (OW.out.below hbu)
    replace hB := hB.next hbu
    replace hS := hS.next hbu
    replace hQ := hQ.next hbu
    have gb2 := hB.bel
    clear hbu OW
    go_upto_region 5 with fail
    rw [← hu2]
    clear hu2
    have x0 := f2.c 0 rfl; have x1 := f2.c 1 rfl; have x2 := f2.c 2 rfl; have x3 := f2.c 3 rfl; have x4 := f2.c 4 rfl; have x5 := f2.c 5 rfl; have x6 := f2.c 6 rfl; have x7 := f2.c 7 rfl; have x8 := f2.c 8 rfl
    have y0 := hQ.free 0; have y1 := hQ.free 1; have y2 := hQ.free 2; have y3 := hQ.free 3; have y4 := hQ.free 4; have y5 := hQ.free 5; have y6 := hQ.free 6; have y7 := hQ.free 7; have y8 := hQ.free 8
    have e0 := hQ.c 0 rfl; have e1 := hQ.c 1 rfl; have e2 := hQ.c 2 rfl; have e3 := hQ.c 3 rfl; have e4 := hQ.c 4 rfl; have e5 := hQ.c 5 rfl; have e6 := hQ.c 6 rfl; have e7 := hQ.c 7 rfl; have e8 := hQ.c 8 rfl
    go_wp2_with fail
    refine bp_forget (fun v => KO 72 2 v (w.heap.size + 1 + 1) [.int .i64 K0, .int .i64 K1, .int .i64 K2, .int .i64 K3, .int .i64 K4, .int .i64 K5, .int .i64 K6, .int .i64 K7, .slice A2 n2 c2] w.heap.size _ _ _ _ ∧ Below w.heap.size w v) ⟨((((((((((show KO 72 2 _ _ _ _ _ _ _ _ from ⟨hQ, OW2.out⟩).set (by decide) 0 _).set (by decide) 1 _).set (by decide) 2 _).set (by decide) 3 _).set (by decide) 4 _).set (by decide) 5 _).set (by decide) 6 _).set (by decide) 7 _).set (by decide) 8 _), by go_grown⟩ ?_
    rintro v9 ⟨ko9, gb9⟩
    have OW9 := ko9.2
    have d0 := ko9.1.c 0 rfl; have d1 := ko9.1.c 1 rfl; have d2 := ko9.1.c 2 rfl; have d3 := ko9.1.c 3 rfl; have d4 := ko9.1.c 4 rfl; have d5 := ko9.1.c 5 rfl; have d6 := ko9.1.c 6 rfl; have d7 := ko9.1.c 7 rfl; have d8 := ko9.1.c 8 rfl
    exact bodyPost_ret (v := .tuple #[.agg #[.int .i64 K0, .int .i64 K1, .int .i64 K2, .int .i64 K3, .int .i64 K4, .int .i64 K5, .int .i64 K6, .int .i64 K7, .slice A2 n2 c2], .int .i64 0]) (by simp [results, Tryz.results36, go_sem, d0, d1, d2, d3, d4, d5, d6, d7, d8]) rfl (by rw [EE.out.1, EE.out.2]; exact HVB.out _ _ ⟨A2, n2, c2, rfl, OW9, gb9⟩)

set_option maxRecDepth 200000 in
set_option maxHeartbeats 16000000 in
theorem sSamp_any (m : Mdv) (M : Mdl) (t md rn sl mb : Int) (A : Option Addr) (n c : Nat) (zs : List Int) (w : World) (h : RD w w.heap.size m M) (hz : RI w w.heap.size A n zs) (hn : n ≤ 1048576) (hM : isMedl M = true) (hbe : bel M t md rn sl mb = true) :
    Calls Tryz.prog 52 #[.agg #[.int .i64 m.id, .slice m.An m.nn m.cn, .slice m.Am m.nm m.cm, .slice m.As m.ns m.cs], .agg #[.int .i64 t, .int .i64 md, .int .i64 rn, .int .i64 sl, .int .i64 mb], .slice A n c] w (RetVX w (causeS M t md rn sl mb zs)) := by
  have HCS := Lib.hid (show causeS M t md rn sl mb zs = (if DecodeSamples.cod zs = 0 then causeB M t md rn sl mb (DecodeSamples.res zs) else DecodeSamples.cod zs) from rfl)
  have HJ := Lib.hid (fun (u : World) (A2 : Option Addr) (n2 c2 : Nat) (hu : RD u u.heap.size m M) (hv : SL u A2 n2 c2 (DecodeSamples.res zs)) => sJudge_any m M t md rn sl mb A2 n2 c2 (DecodeSamples.res zs) u hu hv (decoded_bytes zs) hM hbe)
  have hde := fun (u : World) (hu : RI u u.heap.size A n zs) => DecodeSamples.spec_any A n c zs u hu (by omega) hn
  have hl := DecodeSamples.res_len zs
  rw [hz.len] at hl
  obtain ⟨cd, hcd⟩ : ∃ x, DecodeSamples.cod zs = x := ⟨_, rfl⟩
  have hcs := HCS.out
  rw [hcd] at hde hcs
  have hju := HJ.out
  obtain ⟨rs, hrs⟩ : ∃ x, DecodeSamples.res zs = x := ⟨_, rfl⟩
  rw [hrs] at hde hju hl hcs
  replace HCS := Lib.hid hcs
  have HDE := Lib.hid hde
  clear HJ hcs hde hcd hrs hM hbe
  have hju2 : ∀ (u : World) (A2 : Option Addr) (n2 c2 : Nat), RD u u.heap.size m M → SL u A2 n2 c2 rs → Calls Tryz.prog 83 #[.agg #[.int .i64 m.id, .slice m.An m.nn m.cn, .slice m.Am m.nm m.cm, .slice m.As m.ns m.cs], .agg #[.int .i64 t, .int .i64 md, .int .i64 rn, .int .i64 sl, .int .i64 mb], .slice A2 n2 c2] u (RetVX u (causeB M t md rn sl mb rs)) := fun u A2 n2 c2 hu hv => (hju u A2 n2 c2 hu hv).mono fun e w2 ⟨A3, n3, c3, he, _, hb⟩ => ⟨_, _, _, _, _, _, _, _, A3, n3, c3, he, hb⟩
  have HJU := Lib.hid hju2
  clear hju hju2
  obtain ⟨w0, hw0⟩ : ∃ v, v = ((w.alloc (.cells #[.int .i64 m.id, .slice m.An m.nn m.cn, .slice m.Am m.nm m.cm, .slice m.As m.ns m.cs] 37)).alloc (.cells #[.int .i64 t, .int .i64 md, .int .i64 rn, .int .i64 sl, .int .i64 mb] 39)).alloc (.cells #[.int .i64 0, .int .i64 0, .int .i64 0, .int .i64 0, .int .i64 0, .int .i64 0, .int .i64 0, .int .i64 0, .slice none 0 0] 72) := ⟨_, rfl⟩
  have hB : BM w w.heap.size m M w0 := by rw [hw0]; exact (BM.box h).next (by go_grown)
  have hS : BlkL w0 (w.heap.size + 1) 39 [.int .i64 t, .int .i64 md, .int .i64 rn, .int .i64 sl, .int .i64 mb] := by rw [hw0]; exact (BlkL.new _ _ _ (by simp)).alloc _
  have hQ : BlkL w0 (w.heap.size + 1 + 1) 72 [.int .i64 0, .int .i64 0, .int .i64 0, .int .i64 0, .int .i64 0, .int .i64 0, .int .i64 0, .int .i64 0, .slice none 0 0] := by rw [hw0]; exact BlkL.new _ _ _ (by simp)
  have hZ := hz.up hB.bel
  go_enter Tryz.func52, Tryz.ntmps52
  go_wp2_with fail
  rw [← hw0]
  clear hw0
  refine (HDE.out _ hZ).mono ?_
  rintro e w1 ⟨A1, n1, c1, rfl, own1, hb1⟩
  replace hB := hB.next hb1
  replace hS := hS.next hb1
  replace hQ := hQ.next hb1
  have HO1 := Lib.hid own1
  have gb1 := hB.bel
  clear hb1 own1 hZ hz
  by_cases h0 : cd = 0
  case pos =>
    have HCC := Lib.hid (show causeS M t md rn sl mb zs = causeB M t md rn sl mb rs from HCS.out.trans (if_pos h0))
    subst h0
    have m0 := hB.k.c 0 rfl; have m1 := hB.k.c 1 rfl; have m2 := hB.k.c 2 rfl; have m3 := hB.k.c 3 rfl
    have s0 := hS.c 0 rfl; have s1 := hS.c 1 rfl; have s2 := hS.c 2 rfl; have s3 := hS.c 3 rfl; have s4 := hS.c 4 rfl
    obtain ⟨C, hC⟩ : ∃ x, causeB M t md rn sl mb rs = x := ⟨_, rfl⟩
    have hju := HJU.out
    rw [hC] at hju
    have HJC := Lib.hid hju
    have HCX := Lib.hid (HCC.out.trans hC)
    clear hju hC HJU HCC
    go_wp2_with fail
    refine (HJC.out _ A1 n1 c1 hB.rd (SL.own HO1.out)).mono ?_
    rintro e w2 ⟨k0, k1, k2, k3, k4, k5, k6, k7, A2, n2, c2, rfl, hb2⟩
    replace hB := hB.next hb2
    replace hS := hS.next hb2
    replace hQ := hQ.next hb2
    have gb2 := hB.bel
    clear hb2 gb1 m0 m1 m2 m3 s0 s1 s2 s3 s4
    have y0 := hQ.free 0; have y1 := hQ.free 1; have y2 := hQ.free 2; have y3 := hQ.free 3; have y4 := hQ.free 4; have y5 := hQ.free 5; have y6 := hQ.free 6; have y7 := hQ.free 7; have y8 := hQ.free 8
    have e0 := hQ.c 0 rfl; have e1 := hQ.c 1 rfl; have e2 := hQ.c 2 rfl; have e3 := hQ.c 3 rfl; have e4 := hQ.c 4 rfl; have e5 := hQ.c 5 rfl; have e6 := hQ.c 6 rfl; have e7 := hQ.c 7 rfl; have e8 := hQ.c 8 rfl
    go_wp2_with fail
    refine bp_forget (fun v => BlkL v (w.heap.size + 1 + 1) 72 [.int .i64 k0, .int .i64 k1, .int .i64 k2, .int .i64 k3, .int .i64 k4, .int .i64 k5, .int .i64 k6, .int .i64 k7, .slice A2 n2 c2] ∧ Below w.heap.size w v) ⟨(((((((((hQ.set 0 _).set 1 _).set 2 _).set 3 _).set 4 _).set 5 _).set 6 _).set 7 _).set 8 _), by go_grown⟩ ?_
    rintro v9 ⟨ko9, gb9⟩
    have d0 := ko9.c 0 rfl; have d1 := ko9.c 1 rfl; have d2 := ko9.c 2 rfl; have d3 := ko9.c 3 rfl; have d4 := ko9.c 4 rfl; have d5 := ko9.c 5 rfl; have d6 := ko9.c 6 rfl; have d7 := ko9.c 7 rfl; have d8 := ko9.c 8 rfl
    exact bodyPost_ret (v := .tuple #[.agg #[.int .i64 k0, .int .i64 k1, .int .i64 k2, .int .i64 k3, .int .i64 k4, .int .i64 k5, .int .i64 k6, .int .i64 k7, .slice A2 n2 c2], .int .i64 C]) (by simp [results, Tryz.results52, go_sem, d0, d1, d2, d3, d4, d5, d6, d7, d8]) rfl (by rw [HCX.out]; exact ⟨_, _, _, _, _, _, _, _, _, _, _, rfl, gb9⟩)
  case neg =>
    have HCC := Lib.hid (show causeS M t md rn sl mb zs = cd from HCS.out.trans (if_neg h0))
    have e1 : (cd == 0) = false := by simpa using h0
    clear HJU HCS
    rcases num_cases cd 4 with ⟨e2, h4⟩ | ⟨e2, h4⟩
    · clear h4
      have y0 := hQ.free 0; have y1 := hQ.free 1; have y2 := hQ.free 2; have y3 := hQ.free 3; have y4 := hQ.free 4; have y5 := hQ.free 5; have y6 := hQ.free 6; have y7 := hQ.free 7; have y8 := hQ.free 8
      have e0 := hQ.c 0 rfl; have e1 := hQ.c 1 rfl; have e2 := hQ.c 2 rfl; have e3 := hQ.c 3 rfl; have e4 := hQ.c 4 rfl; have e5 := hQ.c 5 rfl; have e6 := hQ.c 6 rfl; have e7 := hQ.c 7 rfl; have e8 := hQ.c 8 rfl
      go_wp2_with fail
      refine bp_forget (fun v => BlkL v (w.heap.size + 1 + 1) 72 [.int .i64 0, .int .i64 0, .int .i64 0, .int .i64 0, .int .i64 0, .int .i64 0, .int .i64 0, .int .i64 0, .slice none 0 0] ∧ Below w.heap.size w v) ⟨(((((((((hQ.set 0 _).set 1 _).set 2 _).set 3 _).set 4 _).set 5 _).set 6 _).set 7 _).set 8 _), by go_grown⟩ ?_
      rintro v9 ⟨ko9, gb9⟩
      have d0 := ko9.c 0 rfl; have d1 := ko9.c 1 rfl; have d2 := ko9.c 2 rfl; have d3 := ko9.c 3 rfl; have d4 := ko9.c 4 rfl; have d5 := ko9.c 5 rfl; have d6 := ko9.c 6 rfl; have d7 := ko9.c 7 rfl; have d8 := ko9.c 8 rfl
      exact bodyPost_ret (v := .tuple #[.agg #[.int .i64 0, .int .i64 0, .int .i64 0, .int .i64 0, .int .i64 0, .int .i64 0, .int .i64 0, .int .i64 0, .slice none 0 0], .int .i64 cd]) (by simp [results, Tryz.results52, go_sem, d0, d1, d2, d3, d4, d5, d6, d7, d8]) rfl (by rw [HCC.out]; exact ⟨_, _, _, _, _, _, _, _, _, _, _, rfl, gb9⟩)
    · clear h4
      have y0 := hQ.free 0; have y1 := hQ.free 1; have y2 := hQ.free 2; have y3 := hQ.free 3; have y4 := hQ.free 4; have y5 := hQ.free 5; have y6 := hQ.free 6; have y7 := hQ.free 7; have y8 := hQ.free 8
      have e0 := hQ.c 0 rfl; have e1 := hQ.c 1 rfl; have e2 := hQ.c 2 rfl; have e3 := hQ.c 3 rfl; have e4 := hQ.c 4 rfl; have e5 := hQ.c 5 rfl; have e6 := hQ.c 6 rfl; have e7 := hQ.c 7 rfl; have e8 := hQ.c 8 rfl
      go_wp2_with fail
      refine bp_forget (fun v => BlkL v (w.heap.size + 1 + 1) 72 [.int .i64 1, .int .i64 0, .int .i64 0, .int .i64 0, .int .i64 0, .int .i64 0, .int .i64 0, .int .i64 0, .slice none 0 0] ∧ Below w.heap.size w v) ⟨(((((((((hQ.set 0 _).set 1 _).set 2 _).set 3 _).set 4 _).set 5 _).set 6 _).set 7 _).set 8 _), by go_grown⟩ ?_
      rintro v9 ⟨ko9, gb9⟩
      have d0 := ko9.c 0 rfl; have d1 := ko9.c 1 rfl; have d2 := ko9.c 2 rfl; have d3 := ko9.c 3 rfl; have d4 := ko9.c 4 rfl; have d5 := ko9.c 5 rfl; have d6 := ko9.c 6 rfl; have d7 := ko9.c 7 rfl; have d8 := ko9.c 8 rfl
      exact bodyPost_ret (v := .tuple #[.agg #[.int .i64 1, .int .i64 0, .int .i64 0, .int .i64 0, .int .i64 0, .int .i64 0, .int .i64 0, .int .i64 0, .slice none 0 0], .int .i64 cd]) (by simp [results, Tryz.results52, go_sem, d0, d1, d2, d3, d4, d5, d6, d7, d8]) rfl (by rw [HCC.out]; exact ⟨_, _, _, _, _, _, _, _, _, _, _, rfl, gb9⟩)

set_option maxRecDepth 200000 in
set_option maxHeartbeats 16000000 in
theorem iSamp_any (m : Mdv) (M : Mdl) (t md rn sl mb : Int) (A : Option Addr) (n c : Nat) (zs : List Int) (w : World) (h : RD w w.heap.size m M) (hz : RI w w.heap.size A n zs) (hn : n ≤ 1048576) (hM : isMedl M = true) (hbe : bel M t md rn sl mb = true) :
    Calls Tryz.prog 58 #[.agg #[.int .i64 m.id, .slice m.An m.nn m.cn, .slice m.Am m.nm m.cm, .slice m.As m.ns m.cs], .agg #[.int .i64 t, .int .i64 md, .int .i64 rn, .int .i64 sl, .int .i64 mb], .slice A n c] w (RetVX w (causeS M t md rn sl mb zs)) := by
  have HCS := Lib.hid (show causeS M t md rn sl mb zs = (if DecodeSamples.cod zs = 0 then causeB M t md rn sl mb (DecodeSamples.res zs) else DecodeSamples.cod zs) from rfl)
  have HJ := Lib.hid (fun (u : World) (A2 : Option Addr) (n2 c2 : Nat) (hu : RD u u.heap.size m M) (hv : SL u A2 n2 c2 (DecodeSamples.res zs)) => iJudge_any m M t md rn sl mb A2 n2 c2 (DecodeSamples.res zs) u hu hv (decoded_bytes zs) hM hbe)
  have hde := fun (u : World) (hu : RI u u.heap.size A n zs) => DecodeSamples.impl_any A n c zs u hu (by omega) hn
  have hl := DecodeSamples.res_len zs
  rw [hz.len] at hl
  obtain ⟨cd, hcd⟩ : ∃ x, DecodeSamples.cod zs = x := ⟨_, rfl⟩
  have hcs := HCS.out
  rw [hcd] at hde hcs
  have hju := HJ.out
  obtain ⟨rs, hrs⟩ : ∃ x, DecodeSamples.res zs = x := ⟨_, rfl⟩
  rw [hrs] at hde hju hl hcs
  replace HCS := Lib.hid hcs
  have HDE := Lib.hid hde
  clear HJ hcs hde hcd hrs hM hbe
  have hju2 : ∀ (u : World) (A2 : Option Addr) (n2 c2 : Nat), RD u u.heap.size m M → SL u A2 n2 c2 rs → Calls Tryz.prog 85 #[.agg #[.int .i64 m.id, .slice m.An m.nn m.cn, .slice m.Am m.nm m.cm, .slice m.As m.ns m.cs], .agg #[.int .i64 t, .int .i64 md, .int .i64 rn, .int .i64 sl, .int .i64 mb], .slice A2 n2 c2] u (RetVX u (causeB M t md rn sl mb rs)) := fun u A2 n2 c2 hu hv => (hju u A2 n2 c2 hu hv).mono fun e w2 ⟨A3, n3, c3, he, _, hb⟩ => ⟨_, _, _, _, _, _, _, _, A3, n3, c3, he, hb⟩
  have HJU := Lib.hid hju2
  clear hju hju2
  obtain ⟨w0, hw0⟩ : ∃ v, v = ((w.alloc (.cells #[.int .i64 m.id, .slice m.An m.nn m.cn, .slice m.Am m.nm m.cm, .slice m.As m.ns m.cs] 37)).alloc (.cells #[.int .i64 t, .int .i64 md, .int .i64 rn, .int .i64 sl, .int .i64 mb] 39)).alloc (.cells #[.int .i64 0, .int .i64 0, .int .i64 0, .int .i64 0, .int .i64 0, .int .i64 0, .int .i64 0, .int .i64 0, .slice none 0 0] 72) := ⟨_, rfl⟩
  have hB : BM w w.heap.size m M w0 := by rw [hw0]; exact (BM.box h).next (by go_grown)
  have hS : BlkL w0 (w.heap.size + 1) 39 [.int .i64 t, .int .i64 md, .int .i64 rn, .int .i64 sl, .int .i64 mb] := by rw [hw0]; exact (BlkL.new _ _ _ (by simp)).alloc _
  have hQ : BlkL w0 (w.heap.size + 1 + 1) 72 [.int .i64 0, .int .i64 0, .int .i64 0, .int .i64 0, .int .i64 0, .int .i64 0, .int .i64 0, .int .i64 0, .slice none 0 0] := by rw [hw0]; exact BlkL.new _ _ _ (by simp)
  have hZ := hz.up hB.bel
  go_enter Tryz.func58, Tryz.ntmps58
  go_wp2_with fail
  rw [← hw0]
  clear hw0
  refine (HDE.out _ hZ).mono ?_
  rintro e w1 ⟨A1, n1, c1, rfl, own1, hb1⟩
  replace hB := hB.next hb1
  replace hS := hS.next hb1
  replace hQ := hQ.next hb1
  have HO1 := Lib.hid own1
  have gb1 := hB.bel
  clear hb1 own1 hZ hz
  by_cases h0 : cd = 0
  case pos =>
    have HCC := Lib.hid (show causeS M t md rn sl mb zs = causeB M t md rn sl mb rs from HCS.out.trans (if_pos h0))
    subst h0
    have m0 := hB.k.c 0 rfl; have m1 := hB.k.c 1 rfl; have m2 := hB.k.c 2 rfl; have m3 := hB.k.c 3 rfl
    have s0 := hS.c 0 rfl; have s1 := hS.c 1 rfl; have s2 := hS.c 2 rfl; have s3 := hS.c 3 rfl; have s4 := hS.c 4 rfl
    obtain ⟨C, hC⟩ : ∃ x, causeB M t md rn sl mb rs = x := ⟨_, rfl⟩
    have hju := HJU.out
    rw [hC] at hju
    have HJC := Lib.hid hju
    have HCX := Lib.hid (HCC.out.trans hC)
    clear hju hC HJU HCC
    go_wp2_with fail
    refine (HJC.out _ A1 n1 c1 hB.rd (SL.own HO1.out)).mono ?_
    rintro e w2 ⟨k0, k1, k2, k3, k4, k5, k6, k7, A2, n2, c2, rfl, hb2⟩
    replace hB := hB.next hb2
    replace hS := hS.next hb2
    replace hQ := hQ.next hb2
    have gb2 := hB.bel
    clear hb2 gb1 m0 m1 m2 m3 s0 s1 s2 s3 s4
    have y0 := hQ.free 0; have y1 := hQ.free 1; have y2 := hQ.free 2; have y3 := hQ.free 3; have y4 := hQ.free 4; have y5 := hQ.free 5; have y6 := hQ.free 6; have y7 := hQ.free 7; have y8 := hQ.free 8
    have e0 := hQ.c 0 rfl; have e1 := hQ.c 1 rfl; have e2 := hQ.c 2 rfl; have e3 := hQ.c 3 rfl; have e4 := hQ.c 4 rfl; have e5 := hQ.c 5 rfl; have e6 := hQ.c 6 rfl; have e7 := hQ.c 7 rfl; have e8 := hQ.c 8 rfl
    go_wp2_with fail
    refine bp_forget (fun v => BlkL v (w.heap.size + 1 + 1) 72 [.int .i64 k0, .int .i64 k1, .int .i64 k2, .int .i64 k3, .int .i64 k4, .int .i64 k5, .int .i64 k6, .int .i64 k7, .slice A2 n2 c2] ∧ Below w.heap.size w v) ⟨(((((((((hQ.set 0 _).set 1 _).set 2 _).set 3 _).set 4 _).set 5 _).set 6 _).set 7 _).set 8 _), by go_grown⟩ ?_
    rintro v9 ⟨ko9, gb9⟩
    have d0 := ko9.c 0 rfl; have d1 := ko9.c 1 rfl; have d2 := ko9.c 2 rfl; have d3 := ko9.c 3 rfl; have d4 := ko9.c 4 rfl; have d5 := ko9.c 5 rfl; have d6 := ko9.c 6 rfl; have d7 := ko9.c 7 rfl; have d8 := ko9.c 8 rfl
    exact bodyPost_ret (v := .tuple #[.agg #[.int .i64 k0, .int .i64 k1, .int .i64 k2, .int .i64 k3, .int .i64 k4, .int .i64 k5, .int .i64 k6, .int .i64 k7, .slice A2 n2 c2], .int .i64 C]) (by simp [results, Tryz.results58, go_sem, d0, d1, d2, d3, d4, d5, d6, d7, d8]) rfl (by rw [HCX.out]; exact ⟨_, _, _, _, _, _, _, _, _, _, _, rfl, gb9⟩)
  case neg =>
    have HCC := Lib.hid (show causeS M t md rn sl mb zs = cd from HCS.out.trans (if_neg h0))
    have e1 : (cd == 0) = false := by simpa using h0
    clear HJU HCS
    rcases num_cases cd 4 with ⟨e2, h4⟩ | ⟨e2, h4⟩
    · clear h4
      have y0 := hQ.free 0; have y1 := hQ.free 1; have y2 := hQ.free 2; have y3 := hQ.free 3; have y4 := hQ.free 4; have y5 := hQ.free 5; have y6 := hQ.free 6; have y7 := hQ.free 7; have y8 := hQ.free 8
      have e0 := hQ.c 0 rfl; have e1 := hQ.c 1 rfl; have e2 := hQ.c 2 rfl; have e3 := hQ.c 3 rfl; have e4 := hQ.c 4 rfl; have e5 := hQ.c 5 rfl; have e6 := hQ.c 6 rfl; have e7 := hQ.c 7 rfl; have e8 := hQ.c 8 rfl
      go_wp2_with fail
      refine bp_forget (fun v => BlkL v (w.heap.size + 1 + 1) 72 [.int .i64 0, .int .i64 0, .int .i64 0, .int .i64 0, .int .i64 0, .int .i64 0, .int .i64 0, .int .i64 0, .slice none 0 0] ∧ Below w.heap.size w v) ⟨(((((((((hQ.set 0 _).set 1 _).set 2 _).set 3 _).set 4 _).set 5 _).set 6 _).set 7 _).set 8 _), by go_grown⟩ ?_
      rintro v9 ⟨ko9, gb9⟩
      have d0 := ko9.c 0 rfl; have d1 := ko9.c 1 rfl; have d2 := ko9.c 2 rfl; have d3 := ko9.c 3 rfl; have d4 := ko9.c 4 rfl; have d5 := ko9.c 5 rfl; have d6 := ko9.c 6 rfl; have d7 := ko9.c 7 rfl; have d8 := ko9.c 8 rfl
      exact bodyPost_ret (v := .tuple #[.agg #[.int .i64 0, .int .i64 0, .int .i64 0, .int .i64 0, .int .i64 0, .int .i64 0, .int .i64 0, .int .i64 0, .slice none 0 0], .int .i64 cd]) (by simp [results, Tryz.results58, go_sem, d0, d1, d2, d3, d4, d5, d6, d7, d8]) rfl (by rw [HCC.out]; exact ⟨_, _, _, _, _, _, _, _, _, _, _, rfl, gb9⟩)
    · clear h4
      have y0 := hQ.free 0; have y1 := hQ.free 1; have y2 := hQ.free 2; have y3 := hQ.free 3; have y4 := hQ.free 4; have y5 := hQ.free 5; have y6 := hQ.free 6; have y7 := hQ.free 7; have y8 := hQ.free 8
      have e0 := hQ.c 0 rfl; have e1 := hQ.c 1 rfl; have e2 := hQ.c 2 rfl; have e3 := hQ.c 3 rfl; have e4 := hQ.c 4 rfl; have e5 := hQ.c 5 rfl; have e6 := hQ.c 6 rfl; have e7 := hQ.c 7 rfl; have e8 := hQ.c 8 rfl
      go_wp2_with fail
      refine bp_forget (fun v => BlkL v (w.heap.size + 1 + 1) 72 [.int .i64 1, .int .i64 0, .int .i64 0, .int .i64 0, .int .i64 0, .int .i64 0, .int .i64 0, .int .i64 0, .slice none 0 0] ∧ Below w.heap.size w v) ⟨(((((((((hQ.set 0 _).set 1 _).set 2 _).set 3 _).set 4 _).set 5 _).set 6 _).set 7 _).set 8 _), by go_grown⟩ ?_
      rintro v9 ⟨ko9, gb9⟩
      have d0 := ko9.c 0 rfl; have d1 := ko9.c 1 rfl; have d2 := ko9.c 2 rfl; have d3 := ko9.c 3 rfl; have d4 := ko9.c 4 rfl; have d5 := ko9.c 5 rfl; have d6 := ko9.c 6 rfl; have d7 := ko9.c 7 rfl; have d8 := ko9.c 8 rfl
      exact bodyPost_ret (v := .tuple #[.agg #[.int .i64 1, .int .i64 0, .int .i64 0, .int .i64 0, .int .i64 0, .int .i64 0, .int .i64 0, .int .i64 0, .slice none 0 0], .int .i64 cd]) (by simp [results, Tryz.results58, go_sem, d0, d1, d2, d3, d4, d5, d6, d7, d8]) rfl (by rw [HCC.out]; exact ⟨_, _, _, _, _, _, _, _, _, _, _, rfl, gb9⟩)

set_option maxRecDepth 200000 in
set_option maxHeartbeats 8000000 in
theorem sScode_any (m : Mdv) (M : Mdl) (t md rn sl mb : Int) (A : Option Addr) (n c : Nat) (zs : List Int) (w : World) (h : RD w w.heap.size m M) (hx : RX m M) (hz : RI w w.heap.size A n zs) (hn : n ≤ 1048576) :
    Calls Tryz.prog 51 #[.agg #[.int .i64 m.id, .slice m.An m.nn m.cn, .slice m.Am m.nm m.cm, .slice m.As m.ns m.cs], .agg #[.int .i64 t, .int .i64 md, .int .i64 rn, .int .i64 sl, .int .i64 mb], .slice A n c] w (RetV w (.int .i64 (codeCS M t md rn sl mb zs))) := by
  have hcm := codeM_cases M t md rn sl mb
  have hco := fun (u : World) (hu : RD u u.heap.size m M) => sCode_any m M t md rn sl mb u hu hx
  have hcs : codeCS M t md rn sl mb zs = (if codeM M t md rn sl mb = 0 then (if isBits zs = true then 0 else 2) else codeM M t md rn sl mb) := rfl
  obtain ⟨cd, h1⟩ : ∃ b, codeM M t md rn sl mb = b := ⟨_, rfl⟩
  obtain ⟨b, hb⟩ : ∃ b, isBits zs = b := ⟨_, rfl⟩
  rw [h1] at hcm hco hcs
  rw [hb] at hcs
  obtain ⟨V, hV⟩ : ∃ x, codeCS M t md rn sl mb zs = x := ⟨_, rfl⟩
  rw [hV]
  rw [hV] at hcs
  have HV := Lib.hid hcs.symm
  have HCO := Lib.hid hco
  have hib := fun (u : World) (hu : RI u u.heap.size A n zs) => sIsBits_any A n c zs u hu (by omega)
  rw [hb] at hib
  have HIB := Lib.hid hib
  clear hib hco h1 hcs hb hV
  obtain ⟨w0, hw0⟩ : ∃ v, v = (w.alloc (.cells #[.int .i64 m.id, .slice m.An m.nn m.cn, .slice m.Am m.nm m.cm, .slice m.As m.ns m.cs] 37)).alloc (.cells #[.int .i64 t, .int .i64 md, .int .i64 rn, .int .i64 sl, .int .i64 mb] 39) := ⟨_, rfl⟩
  have hB : BM w w.heap.size m M w0 := by rw [hw0]; exact (BM.box h).next (by go_grown)
  have hS : BlkL w0 (w.heap.size + 1) 39 [.int .i64 t, .int .i64 md, .int .i64 rn, .int .i64 sl, .int .i64 mb] := by rw [hw0]; exact BlkL.new _ _ _ (by simp)
  have hZ := hz.up hB.bel
  have m0 := hB.k.c 0 rfl; have m1 := hB.k.c 1 rfl; have m2 := hB.k.c 2 rfl; have m3 := hB.k.c 3 rfl
  have s0 := hS.c 0 rfl; have s1 := hS.c 1 rfl; have s2 := hS.c 2 rfl; have s3 := hS.c 3 rfl; have s4 := hS.c 4 rfl
  go_enter Tryz.func51, Tryz.ntmps51
  go_wp2_with fail
  rw [← hw0]
  clear hw0
  refine (HCO.out _ hB.rd).mono ?_
  rintro e w1 ⟨rfl, hb1⟩
  have gb := (hB.next hb1).bel
  replace hZ := hZ.up hb1
  clear hB hS HCO hb1 m0 m1 m2 m3 s0 s1 s2 s3 s4
  rcases hcm with rfl | rfl | ⟨rfl, hi1, hi2⟩
  · go_wp2_with (go_at_call 101; refine (HIB.out _ hZ).mono ?_; rintro e w9 ⟨rfl, rfl⟩)
    go_ret
    exact ⟨ret_int HV.out, gb⟩
  · go_wp2_with (go_at_call 101; refine (HIB.out _ hZ).mono ?_; rintro e w9 ⟨rfl, rfl⟩)
    go_ret
    exact ⟨ret_int HV.out, gb⟩
  cases b
  all_goals
    go_wp2_with (go_at_call 101; refine (HIB.out _ hZ).mono ?_; rintro e w9 ⟨rfl, rfl⟩)
    go_ret
    exact ⟨ret_int HV.out, gb⟩

set_option maxRecDepth 200000 in
set_option maxHeartbeats 16000000 in
theorem sCause_any (m : Mdv) (M : Mdl) (t md rn sl mb : Int) (A : Option Addr) (n c : Nat) (zs : List Int) (w : World) (h : RD w w.heap.size m M) (hx : RX m M) (hz : RI w w.heap.size A n zs) (hn : n ≤ 1048576) :
    Calls Tryz.prog 9 #[.agg #[.int .i64 m.id, .slice m.An m.nn m.cn, .slice m.Am m.nm m.cm, .slice m.As m.ns m.cs], .agg #[.int .i64 t, .int .i64 md, .int .i64 rn, .int .i64 sl, .int .i64 mb], .slice A n c] w (RetV w (.tuple #[.int .i64 (cauV M t md rn sl mb zs), .int .i64 (codeCS M t md rn sl mb zs)])) := by
  have hcm := codeM_cases M t md rn sl mb
  have hcs : codeCS M t md rn sl mb zs = (if codeM M t md rn sl mb = 0 then (if isBits zs = true then 0 else 2) else codeM M t md rn sl mb) := rfl
  have hok : codeCS M t md rn sl mb zs = 0 → isMedl M = true ∧ bel M t md rn sl mb = true := by
    intro he
    rw [hcs] at he
    rcases hcm with h1 | h1 | ⟨_, h1⟩
    · rw [h1] at he; simp at he
    · rw [h1] at he; simp at he
    · exact h1
  have hcv : cauV M t md rn sl mb zs = (if codeCS M t md rn sl mb zs = 0 then causeS M t md rn sl mb zs else 0) := rfl
  have hsa := fun (u : World) (hu : RD u u.heap.size m M) (hv : RI u u.heap.size A n zs) (h1 : isMedl M = true) (h2 : bel M t md rn sl mb = true) => sSamp_any m M t md rn sl mb A n c zs u hu hv hn h1 h2
  have hco := fun (u : World) (hu : RD u u.heap.size m M) (hv : RI u u.heap.size A n zs) => sScode_any m M t md rn sl mb A n c zs u hu hx hv hn
  obtain ⟨CC, hCC⟩ : ∃ x, codeCS M t md rn sl mb zs = x := ⟨_, rfl⟩
  obtain ⟨V, hV⟩ : ∃ x, cauV M t md rn sl mb zs = x := ⟨_, rfl⟩
  obtain ⟨S, hS0⟩ : ∃ x, causeS M t md rn sl mb zs = x := ⟨_, rfl⟩
  rw [hCC] at hco hok hcv
  rw [hV, hS0] at hcv
  rw [hS0] at hsa
  rw [hCC, hV]
  have HCO := Lib.hid hco
  have HOK := Lib.hid hok
  have HCV := Lib.hid hcv
  have HSA := Lib.hid hsa
  clear hco hok hcv hsa hCC hV hS0 hcs hcm
  obtain ⟨w0, hw0⟩ : ∃ v, v = (w.alloc (.cells #[.int .i64 m.id, .slice m.An m.nn m.cn, .slice m.Am m.nm m.cm, .slice m.As m.ns m.cs] 37)).alloc (.cells #[.int .i64 t, .int .i64 md, .int .i64 rn, .int .i64 sl, .int .i64 mb] 39) := ⟨_, rfl⟩
  have hB : BM w w.heap.size m M w0 := by rw [hw0]; exact (BM.box h).next (by go_grown)
  have hS : BlkL w0 (w.heap.size + 1) 39 [.int .i64 t, .int .i64 md, .int .i64 rn, .int .i64 sl, .int .i64 mb] := by rw [hw0]; exact BlkL.new _ _ _ (by simp)
  have hZ := hz.up hB.bel
  have m0 := hB.k.c 0 rfl; have m1 := hB.k.c 1 rfl; have m2 := hB.k.c 2 rfl; have m3 := hB.k.c 3 rfl
  have s0 := hS.c 0 rfl; have s1 := hS.c 1 rfl; have s2 := hS.c 2 rfl; have s3 := hS.c 3 rfl; have s4 := hS.c 4 rfl
  go_enter Tryz.func9, Tryz.ntmps9
  go_wp2_with fail
  rw [← hw0]
  clear hw0
  refine (HCO.out _ hB.rd hZ).mono ?_
  rintro e w1 ⟨rfl, hb1⟩
  replace hB := hB.next hb1
  replace hS := hS.next hb1
  replace hZ := hZ.up hb1
  clear hb1 HCO m0 m1 m2 m3 s0 s1 s2 s3 s4
  have m0 := hB.k.c 0 rfl; have m1 := hB.k.c 1 rfl; have m2 := hB.k.c 2 rfl; have m3 := hB.k.c 3 rfl
  have s0 := hS.c 0 rfl; have s1 := hS.c 1 rfl; have s2 := hS.c 2 rfl; have s3 := hS.c 3 rfl; have s4 := hS.c 4 rfl
  rcases num_cases CC 0 with ⟨e1, h0⟩ | ⟨e1, h0⟩
  case inr =>
    have e2 : (CC != 0) = true := by simpa using h0
    have E := Lib.hid (HCV.out.trans (if_neg h0))
    have gb := hB.bel
    clear h0
    go_wp2
    go_ret2
    exact ⟨by rw [E.out]; rfl, gb⟩
  case inl =>
    obtain ⟨hi1, hi2⟩ := HOK.out h0
    have E := Lib.hid (HCV.out.trans (if_pos h0))
    subst h0
    clear e1
    go_wp2_with fail
    refine (HSA.out _ hB.rd hZ hi1 hi2).mono ?_
    rintro e w2 ⟨k0, k1, k2, k3, k4, k5, k6, k7, A2, n2, c2, rfl, hb2⟩
    have gb2 := (hB.next hb2).bel
    clear hb2 m0 m1 m2 m3 s0 s1 s2 s3 s4
    go_wp2
    go_ret2
    exact ⟨by rw [E.out]; rfl, below_alloc gb2 (Nat.le_refl _) _⟩

set_option maxRecDepth 200000 in
set_option maxHeartbeats 16000000 in
theorem iCause_any (m : Mdv) (M : Mdl) (t md rn sl mb : Int) (A : Option Addr) (n c : Nat) (zs : List Int) (w : World) (h : RD w w.heap.size m M) (hx : RX m M) (hz : RI w w.heap.size A n zs) (hn : n ≤ 1048576) :
    Calls Tryz.prog 13 #[.agg #[.int .i64 m.id, .slice m.An m.nn m.cn, .slice m.Am m.nm m.cm, .slice m.As m.ns m.cs], .agg #[.int .i64 t, .int .i64 md, .int .i64 rn, .int .i64 sl, .int .i64 mb], .slice A n c] w (RetV w (.tuple #[.int .i64 (cauV M t md rn sl mb zs), .int .i64 (codeCS M t md rn sl mb zs)])) := by
  have hcm := codeM_cases M t md rn sl mb
  have hcs : codeCS M t md rn sl mb zs = (if codeM M t md rn sl mb = 0 then (if isBits zs = true then 0 else 2) else codeM M t md rn sl mb) := rfl
  have hok : codeCS M t md rn sl mb zs = 0 → isMedl M = true ∧ bel M t md rn sl mb = true := by
    intro he
    rw [hcs] at he
    rcases hcm with h1 | h1 | ⟨_, h1⟩
    · rw [h1] at he; simp at he
    · rw [h1] at he; simp at he
    · exact h1
  have hcv : cauV M t md rn sl mb zs = (if codeCS M t md rn sl mb zs = 0 then causeS M t md rn sl mb zs else 0) := rfl
  have hsa := fun (u : World) (hu : RD u u.heap.size m M) (hv : RI u u.heap.size A n zs) (h1 : isMedl M = true) (h2 : bel M t md rn sl mb = true) => iSamp_any m M t md rn sl mb A n c zs u hu hv hn h1 h2
  have hco := fun (u : World) (hu : RD u u.heap.size m M) => iRcode_any m M t md rn sl mb (isBits zs) u hu hx
  rw [← hcs] at hco
  have hib := fun (u : World) (hu : RI u u.heap.size A n zs) => iIsBits_any A n c zs u hu (by omega)
  obtain ⟨bb, hbb⟩ : ∃ b, isBits zs = b := ⟨_, rfl⟩
  rw [hbb] at hib hco
  have HIB := Lib.hid hib
  clear hib hbb
  obtain ⟨CC, hCC⟩ : ∃ x, codeCS M t md rn sl mb zs = x := ⟨_, rfl⟩
  obtain ⟨V, hV⟩ : ∃ x, cauV M t md rn sl mb zs = x := ⟨_, rfl⟩
  obtain ⟨S, hS0⟩ : ∃ x, causeS M t md rn sl mb zs = x := ⟨_, rfl⟩
  rw [hCC] at hco hok hcv
  rw [hV, hS0] at hcv
  rw [hS0] at hsa
  rw [hCC, hV]
  have HCO := Lib.hid hco
  have HOK := Lib.hid hok
  have HCV := Lib.hid hcv
  have HSA := Lib.hid hsa
  clear hco hok hcv hsa hCC hV hS0 hcs hcm
  obtain ⟨w0, hw0⟩ : ∃ v, v = (w.alloc (.cells #[.int .i64 m.id, .slice m.An m.nn m.cn, .slice m.Am m.nm m.cm, .slice m.As m.ns m.cs] 37)).alloc (.cells #[.int .i64 t, .int .i64 md, .int .i64 rn, .int .i64 sl, .int .i64 mb] 39) := ⟨_, rfl⟩
  have hB : BM w w.heap.size m M w0 := by rw [hw0]; exact (BM.box h).next (by go_grown)
  have hS : BlkL w0 (w.heap.size + 1) 39 [.int .i64 t, .int .i64 md, .int .i64 rn, .int .i64 sl, .int .i64 mb] := by rw [hw0]; exact BlkL.new _ _ _ (by simp)
  have hZ := hz.up hB.bel
  have m0 := hB.k.c 0 rfl; have m1 := hB.k.c 1 rfl; have m2 := hB.k.c 2 rfl; have m3 := hB.k.c 3 rfl
  have s0 := hS.c 0 rfl; have s1 := hS.c 1 rfl; have s2 := hS.c 2 rfl; have s3 := hS.c 3 rfl; have s4 := hS.c 4 rfl
  go_enter Tryz.func13, Tryz.ntmps13
  go_upto_region 1 with fail
  rw [← hw0]
  clear hw0
  have hVV : Below w0.heap.size w0 w0.drew := (Below.refl _ _).drew
  have hcells : ∀ u, Below w0.heap.size w0 u → (Below w0.heap.size w0 u ∧ u.cell? ⟨w.heap.size, 0, none⟩ = some (.int .i64 m.id) ∧ u.cell? ⟨w.heap.size, 1, none⟩ = some (.slice m.An m.nn m.cn) ∧ u.cell? ⟨w.heap.size, 2, none⟩ = some (.slice m.Am m.nm m.cm) ∧ u.cell? ⟨w.heap.size, 3, none⟩ = some (.slice m.As m.ns m.cs) ∧ u.cell? ⟨w.heap.size + 1, 0, none⟩ = some (.int .i64 t) ∧ u.cell? ⟨w.heap.size + 1, 1, none⟩ = some (.int .i64 md) ∧ u.cell? ⟨w.heap.size + 1, 2, none⟩ = some (.int .i64 rn) ∧ u.cell? ⟨w.heap.size + 1, 3, none⟩ = some (.int .i64 sl) ∧ u.cell? ⟨w.heap.size + 1, 4, none⟩ = some (.int .i64 mb)) := fun u hu => ⟨hu, (hB.k.next hu).c 0 rfl, (hB.k.next hu).c 1 rfl, (hB.k.next hu).c 2 rfl, (hB.k.next hu).c 3 rfl, (hS.next hu).c 0 rfl, (hS.next hu).c 1 rfl, (hS.next hu).c 2 rfl, (hS.next hu).c 3 rfl, (hS.next hu).c 4 rfl⟩
  have HC := Lib.hid hcells
  clear hcells
  have HBB := Lib.hid hB
  have HZZ := Lib.hid hZ
  go_cut [8] (fun v wc => v = .int .i64 CC ∧ Below w0.heap.size w0 wc)
  case first =>
    first
    | go_region_held_law (fun u => Below w0.heap.size w0 u ∧ u.cell? ⟨w.heap.size, 0, none⟩ = some (.int .i64 m.id) ∧ u.cell? ⟨w.heap.size, 1, none⟩ = some (.slice m.An m.nn m.cn) ∧ u.cell? ⟨w.heap.size, 2, none⟩ = some (.slice m.Am m.nm m.cm) ∧ u.cell? ⟨w.heap.size, 3, none⟩ = some (.slice m.As m.ns m.cs) ∧ u.cell? ⟨w.heap.size + 1, 0, none⟩ = some (.int .i64 t) ∧ u.cell? ⟨w.heap.size + 1, 1, none⟩ = some (.int .i64 md) ∧ u.cell? ⟨w.heap.size + 1, 2, none⟩ = some (.int .i64 rn) ∧ u.cell? ⟨w.heap.size + 1, 3, none⟩ = some (.int .i64 sl) ∧ u.cell? ⟨w.heap.size + 1, 4, none⟩ = some (.int .i64 mb)) (first | (with_reducible exact HC.out _ hVV) | (with_reducible refine HC.out _ ?_; with_reducible assumption) | (with_reducible refine HC.out _ ?_; go_grown)) (first
        | (go_at_call 57; (have hgv : Below w0.heap.size w0 _ := And.left (‹Below w0.heap.size w0 _ ∧ _›)); (with_reducible refine (HIB.out _ (HZZ.out.up hgv)).mono ?_); rintro e cc ⟨rfl, rfl⟩; clear hgv)
        | (go_at_call 56; (have hgv : Below w0.heap.size w0 _ := And.left (‹Below w0.heap.size w0 _ ∧ _›)); (with_reducible refine (HCO.out _ (HBB.out.rd.up hgv)).mono ?_); rintro e cc ⟨rfl, hb⟩; (have hv := below_next hb hgv (Nat.le_refl _)); have HV9 := Lib.hid hv; clear hgv hb))
    | fail
    all_goals
      go_wp2_with fail
      go_meet
      exact ⟨rfl, HV9.out⟩
  case rest =>
    obtain ⟨rfl, hb1⟩ := hcut
    obtain ⟨w1, hw1⟩ : ∃ v, v = wc := ⟨_, rfl⟩
    rw [← hw1] at hb1 ⊢
    clear hw1 HC hVV HBB HZZ
    replace hB := hB.next hb1
    replace hS := hS.next hb1
    replace hZ := hZ.up hb1
    clear hb1 HCO m0 m1 m2 m3 s0 s1 s2 s3 s4
    have m0 := hB.k.c 0 rfl; have m1 := hB.k.c 1 rfl; have m2 := hB.k.c 2 rfl; have m3 := hB.k.c 3 rfl
    have s0 := hS.c 0 rfl; have s1 := hS.c 1 rfl; have s2 := hS.c 2 rfl; have s3 := hS.c 3 rfl; have s4 := hS.c 4 rfl
    rcases num_cases CC 0 with ⟨e1, h0⟩ | ⟨e1, h0⟩
    case inr =>
      have e2 : (CC != 0) = true := by simpa using h0
      have E := Lib.hid (HCV.out.trans (if_neg h0))
      have gb := hB.bel
      clear h0
      go_wp2
      go_ret2
      exact ⟨by rw [E.out]; rfl, gb⟩
    case inl =>
      obtain ⟨hi1, hi2⟩ := HOK.out h0
      have E := Lib.hid (HCV.out.trans (if_pos h0))
      subst h0
      clear e1
      go_wp2_with fail
      refine (HSA.out _ hB.rd hZ hi1 hi2).mono ?_
      rintro e w2 ⟨k0, k1, k2, k3, k4, k5, k6, k7, A2, n2, c2, rfl, hb2⟩
      have gb2 := (hB.next hb2).bel
      clear hb2 m0 m1 m2 m3 s0 s1 s2 s3 s4
      go_wp2
      go_ret2
      exact ⟨by rw [E.out]; rfl, below_alloc gb2 (Nat.le_refl _) _⟩

end Go.Proofs.YtjgmpiefndbnaaaGreatDoor
