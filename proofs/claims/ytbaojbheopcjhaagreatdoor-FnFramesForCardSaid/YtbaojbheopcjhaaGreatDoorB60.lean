/- Walks, laws and small notions for the claims of this seat, several texts as one (Rv, Vds). Conditions: as each theorem states them. -/
import Derived.Test.YtbaojbheopcjhaaGreatDoorB15
import Derived.Test.YtbaojbheopcjhaaGreatDoorB30
import Derived.Deep.RegionHeldLaw
import Derived.Deep.DeepCutAuto
import Derived.Test.YtbaojbheopcjhaaGreatDoorB3
import Derived.Test.YtbaojbheopcjhaaGreatDoorB52
namespace Go.Proofs.YtbaojbheopcjhaaGreatDoor
open Go.RowKit
set_option maxRecDepth 200000 in
set_option maxHeartbeats 8000000 in
theorem iRcode_any (m : Mdv) (M : Mdl) (t md rn sl mb : Int) (b : Bool) (w : World) (h : RD w w.heap.size m M) (hx : RX m M) :
    Calls Tryz.prog 45 #[.agg #[.int .i64 m.id, .slice m.An m.nn m.cn, .slice m.Am m.nm m.cm, .slice m.As m.ns m.cs], .agg #[.int .i64 t, .int .i64 md, .int .i64 rn, .int .i64 sl, .int .i64 mb], .bool b] w (RetV w (.int .i64 (if codeM M t md rn sl mb = 0 then (if b = true then 0 else 2) else codeM M t md rn sl mb))) := by
  have hcm := codeM_cases M t md rn sl mb
  have hco := fun (u : World) (hu : RD u u.heap.size m M) => iCode_any m M t md rn sl mb u hu hx
  obtain ⟨cd, h1⟩ : ∃ b, codeM M t md rn sl mb = b := ⟨_, rfl⟩
  rw [h1] at hcm hco
  rw [h1]
  obtain ⟨V, hV⟩ : ∃ x, (if cd = 0 then (if b = true then (0 : Int) else 2) else cd) = x := ⟨_, rfl⟩
  rw [hV]
  have HV := Lib.hid hV
  have HCO := Lib.hid hco
  clear hco h1 hV
  obtain ⟨w0, hw0⟩ : ∃ v, v = (w.alloc (.cells #[.int .i64 m.id, .slice m.An m.nn m.cn, .slice m.Am m.nm m.cm, .slice m.As m.ns m.cs] 28)).alloc (.cells #[.int .i64 t, .int .i64 md, .int .i64 rn, .int .i64 sl, .int .i64 mb] 30) := ⟨_, rfl⟩
  have hB : BM w w.heap.size m M w0 := by rw [hw0]; exact (BM.box h).next (by go_grown)
  have hS : BlkL w0 (w.heap.size + 1) 30 [.int .i64 t, .int .i64 md, .int .i64 rn, .int .i64 sl, .int .i64 mb] := by rw [hw0]; exact BlkL.new _ _ _ (by simp)
  have m0 := hB.k.c 0 rfl; have m1 := hB.k.c 1 rfl; have m2 := hB.k.c 2 rfl; have m3 := hB.k.c 3 rfl
  have s0 := hS.c 0 rfl; have s1 := hS.c 1 rfl; have s2 := hS.c 2 rfl; have s3 := hS.c 3 rfl; have s4 := hS.c 4 rfl
  go_enter Tryz.func45, Tryz.ntmps45
  go_wp2_with fail
  rw [← hw0]
  clear hw0
  refine (HCO.out _ hB.rd).mono ?_
  rintro e w1 ⟨rfl, hb1⟩
  have gb := (hB.next hb1).bel
  clear hB hS HCO hb1 m0 m1 m2 m3 s0 s1 s2 s3 s4
  rcases hcm with rfl | rfl | ⟨rfl, hi1, hi2⟩
  · go_wp2
    go_ret
    exact ⟨ret_int HV.out, gb⟩
  · go_wp2
    go_ret
    exact ⟨ret_int HV.out, gb⟩
  cases b
  all_goals
    go_wp2
    go_ret
    exact ⟨ret_int HV.out, gb⟩

/-- nothing but highs -/
theorem highs_bits {N : Nat} (h : N ≤ 8192) : isBits (List.replicate N 1) = true := by
  unfold isBits
  rw [Bool.and_eq_true]
  refine ⟨by simp; omega, ?_⟩
  exact List.all_eq_true.2 fun z hz => by rw [List.eq_of_mem_replicate hz]; decide
theorem gi_ones {N i : Nat} (h : i < N) : gi (List.replicate N 1) i = 1 := by
  unfold gi; simp [h]
theorem vt_ones {N : Nat} {p : Int} (h : p < N) : vt (List.replicate N 1) p = 1 := by
  unfold vt
  split
  · rfl
  · exact gi_ones (by omega)
theorem voted_ones (N : Nat) : voted (List.replicate N 1) = List.replicate N 1 := by
  unfold voted votedTo
  rw [List.length_replicate]
  refine List.ext_getElem (by simp) fun i h1 h2 => ?_
  have hi : i < N := by simpa using h2
  simp only [List.getElem_map, List.getElem_range, List.getElem_replicate]
  unfold vb ones
  have : onesTo (List.replicate N 1) i 5 = 5 := by
    unfold onesTo onesTo onesTo onesTo onesTo onesTo
    rw [vt_ones (by omega), vt_ones (by omega), vt_ones (by omega), vt_ones (by omega), vt_ones (by omega)]
    rfl
  rw [this]
  rfl
theorem nxt0_ones (N : Nat) : ∀ i, nxt (List.replicate N 1) 0 i = none := by
  intro i
  cases h : nxt (List.replicate N 1) 0 i with
  | none => rfl
  | some j =>
    obtain ⟨_, h2, h3⟩ := nxt_le h
    rw [List.length_replicate] at h2
    rw [gi_ones h2] at h3
    cases h3
theorem silent_cod {N : Nat} (h : N ≤ 8192) : DecodeSamples.cod (List.replicate N 1) = 4 := by
  unfold DecodeSamples.cod
  rw [if_pos (highs_bits h), voted_ones]
  unfold DecodeVoted.cod decZ
  rw [if_pos (highs_bits h)]
  unfold decP
  rw [nxt0_ones]

set_option maxRecDepth 200000 in
set_option maxHeartbeats 16000000 in
theorem iRecv4_any (m : Mdv) (M : Mdl) (t md rn sl mb : Int) (A : Option Addr) (n c : Nat) (zs : List Int) (w : World) (h : RD w w.heap.size m M) (hz : RI w w.heap.size A n zs) (hn : n ≤ 1048576) (h4 : DecodeSamples.cod zs = 4) :
    Calls Tryz.prog 47 #[.agg #[.int .i64 m.id, .slice m.An m.nn m.cn, .slice m.Am m.nm m.cm, .slice m.As m.ns m.cs], .agg #[.int .i64 t, .int .i64 md, .int .i64 rn, .int .i64 sl, .int .i64 mb], .slice A n c] w (RetV w (.tuple #[.agg #[.int .i64 0, .int .i64 0, .int .i64 0, .int .i64 0, .int .i64 0, .int .i64 0, .int .i64 0, .int .i64 0, .slice none 0 0], .int .i64 4])) := by
  have hde := fun (u : World) (hu : RI u u.heap.size A n zs) => DecodeSamples.impl_any A n c zs u hu (by omega) hn
  have hl := DecodeSamples.res_len zs
  rw [hz.len] at hl
  rw [h4] at hde
  obtain ⟨rs, hrs⟩ : ∃ x, DecodeSamples.res zs = x := ⟨_, rfl⟩
  rw [hrs] at hde hl
  have HDE := Lib.hid hde
  clear hde hrs h4
  obtain ⟨w0, hw0⟩ : ∃ v, v = ((w.alloc (.cells #[.int .i64 m.id, .slice m.An m.nn m.cn, .slice m.Am m.nm m.cm, .slice m.As m.ns m.cs] 28)).alloc (.cells #[.int .i64 t, .int .i64 md, .int .i64 rn, .int .i64 sl, .int .i64 mb] 30)).alloc (.cells #[.int .i64 0, .int .i64 0, .int .i64 0, .int .i64 0, .int .i64 0, .int .i64 0, .int .i64 0, .int .i64 0, .slice none 0 0] 51) := ⟨_, rfl⟩
  have hB : BM w w.heap.size m M w0 := by rw [hw0]; exact (BM.box h).next (by go_grown)
  have hS : BlkL w0 (w.heap.size + 1) 30 [.int .i64 t, .int .i64 md, .int .i64 rn, .int .i64 sl, .int .i64 mb] := by rw [hw0]; exact (BlkL.new _ _ _ (by simp)).alloc _
  have hQ : BlkL w0 (w.heap.size + 1 + 1) 51 [.int .i64 0, .int .i64 0, .int .i64 0, .int .i64 0, .int .i64 0, .int .i64 0, .int .i64 0, .int .i64 0, .slice none 0 0] := by rw [hw0]; exact BlkL.new _ _ _ (by simp)
  have hZ := hz.up hB.bel
  go_enter Tryz.func47, Tryz.ntmps47
  go_wp2_with fail
  rw [← hw0]
  clear hw0
  refine (HDE.out _ hZ).mono ?_
  rintro e w1 ⟨A1, n1, c1, rfl, own1, hb1⟩
  replace hB := hB.next hb1
  replace hQ := hQ.next hb1
  have gb1 := hB.bel
  clear hb1 own1 hZ hz hS
  have y0 := hQ.free 0; have y1 := hQ.free 1; have y2 := hQ.free 2; have y3 := hQ.free 3; have y4 := hQ.free 4; have y5 := hQ.free 5; have y6 := hQ.free 6; have y7 := hQ.free 7; have y8 := hQ.free 8
  have e0 := hQ.c 0 rfl; have e1 := hQ.c 1 rfl; have e2 := hQ.c 2 rfl; have e3 := hQ.c 3 rfl; have e4 := hQ.c 4 rfl; have e5 := hQ.c 5 rfl; have e6 := hQ.c 6 rfl; have e7 := hQ.c 7 rfl; have e8 := hQ.c 8 rfl
  go_wp2_with fail
  refine bp_forget (fun v => BlkL v (w.heap.size + 1 + 1) 51 [.int .i64 0, .int .i64 0, .int .i64 0, .int .i64 0, .int .i64 0, .int .i64 0, .int .i64 0, .int .i64 0, .slice none 0 0] ∧ Below w.heap.size w v) ⟨(((((((((hQ.set 0 _).set 1 _).set 2 _).set 3 _).set 4 _).set 5 _).set 6 _).set 7 _).set 8 _), by go_grown⟩ ?_
  rintro v9 ⟨ko9, gb9⟩
  have d0 := ko9.c 0 rfl; have d1 := ko9.c 1 rfl; have d2 := ko9.c 2 rfl; have d3 := ko9.c 3 rfl; have d4 := ko9.c 4 rfl; have d5 := ko9.c 5 rfl; have d6 := ko9.c 6 rfl; have d7 := ko9.c 7 rfl; have d8 := ko9.c 8 rfl
  exact bodyPost_ret (v := .tuple #[.agg #[.int .i64 0, .int .i64 0, .int .i64 0, .int .i64 0, .int .i64 0, .int .i64 0, .int .i64 0, .int .i64 0, .slice none 0 0], .int .i64 4]) (by simp [results, Tryz.results47, go_sem, d0, d1, d2, d3, d4, d5, d6, d7, d8]) rfl ⟨rfl, gb9⟩

set_option maxRecDepth 200000 in
set_option maxHeartbeats 16000000 in
theorem iChan4_any (m : Mdv) (M : Mdl) (t md rn sl mb : Int) (A : Option Addr) (n c : Nat) (zs : List Int) (w : World) (h : RD w w.heap.size m M) (hx : RX m M) (hz : RI w w.heap.size A n zs) (hn : n ≤ 1048576) (hm : codeM M t md rn sl mb = 0) (hbi : isBits zs = true) (h4 : DecodeSamples.cod zs = 4) :
    Calls Tryz.prog 19 #[.agg #[.int .i64 m.id, .slice m.An m.nn m.cn, .slice m.Am m.nm m.cm, .slice m.As m.ns m.cs], .agg #[.int .i64 t, .int .i64 md, .int .i64 rn, .int .i64 sl, .int .i64 mb], .slice A n c] w (RetV w (.tuple #[.agg #[.int .i64 0, .int .i64 0, .int .i64 0, .int .i64 0, .int .i64 0, .int .i64 0, .int .i64 0, .int .i64 0, .slice none 0 0], .int .i64 0])) := by
  have HSA := Lib.hid (fun (u : World) (hu : RD u u.heap.size m M) (hv : RI u u.heap.size A n zs) => iRecv4_any m M t md rn sl mb A n c zs u hu hv hn h4)
  have hco := fun (u : World) (hu : RD u u.heap.size m M) => iRcode_any m M t md rn sl mb true u hu hx
  rw [hm, if_pos rfl, if_pos rfl] at hco
  have HCO := Lib.hid hco
  have hib := fun (u : World) (hu : RI u u.heap.size A n zs) => iIsBits_any A n c zs u hu (by omega)
  rw [hbi] at hib
  have HIB := Lib.hid hib
  clear hib hco hm hbi h4
  obtain ⟨w0, hw0⟩ : ∃ v, v = ((w.alloc (.cells #[.int .i64 m.id, .slice m.An m.nn m.cn, .slice m.Am m.nm m.cm, .slice m.As m.ns m.cs] 28)).alloc (.cells #[.int .i64 t, .int .i64 md, .int .i64 rn, .int .i64 sl, .int .i64 mb] 30)).alloc (.cells #[.int .i64 0, .int .i64 0, .int .i64 0, .int .i64 0, .int .i64 0, .int .i64 0, .int .i64 0, .int .i64 0, .slice none 0 0] 51) := ⟨_, rfl⟩
  have hB : BM w w.heap.size m M w0 := by rw [hw0]; exact (BM.box h).next (by go_grown)
  have hS : BlkL w0 (w.heap.size + 1) 30 [.int .i64 t, .int .i64 md, .int .i64 rn, .int .i64 sl, .int .i64 mb] := by rw [hw0]; exact (BlkL.new _ _ _ (by simp)).alloc _
  have hQ : BlkL w0 (w.heap.size + 1 + 1) 51 [.int .i64 0, .int .i64 0, .int .i64 0, .int .i64 0, .int .i64 0, .int .i64 0, .int .i64 0, .int .i64 0, .slice none 0 0] := by rw [hw0]; exact BlkL.new _ _ _ (by simp)
  have hZ := hz.up hB.bel
  have m0 := hB.k.c 0 rfl; have m1 := hB.k.c 1 rfl; have m2 := hB.k.c 2 rfl; have m3 := hB.k.c 3 rfl
  have s0 := hS.c 0 rfl; have s1 := hS.c 1 rfl; have s2 := hS.c 2 rfl; have s3 := hS.c 3 rfl; have s4 := hS.c 4 rfl
  go_enter Tryz.func19, Tryz.ntmps19
  go_upto_region 1 with fail
  rw [← hw0]
  clear hw0
  have hVV : Below w0.heap.size w0 w0.drew := (Below.refl _ _).drew
  have hcells : ∀ u, Below w0.heap.size w0 u → (Below w0.heap.size w0 u ∧ u.cell? ⟨w.heap.size, 0, none⟩ = some (.int .i64 m.id) ∧ u.cell? ⟨w.heap.size, 1, none⟩ = some (.slice m.An m.nn m.cn) ∧ u.cell? ⟨w.heap.size, 2, none⟩ = some (.slice m.Am m.nm m.cm) ∧ u.cell? ⟨w.heap.size, 3, none⟩ = some (.slice m.As m.ns m.cs) ∧ u.cell? ⟨w.heap.size + 1, 0, none⟩ = some (.int .i64 t) ∧ u.cell? ⟨w.heap.size + 1, 1, none⟩ = some (.int .i64 md) ∧ u.cell? ⟨w.heap.size + 1, 2, none⟩ = some (.int .i64 rn) ∧ u.cell? ⟨w.heap.size + 1, 3, none⟩ = some (.int .i64 sl) ∧ u.cell? ⟨w.heap.size + 1, 4, none⟩ = some (.int .i64 mb)) := fun u hu => ⟨hu, (hB.k.next hu).c 0 rfl, (hB.k.next hu).c 1 rfl, (hB.k.next hu).c 2 rfl, (hB.k.next hu).c 3 rfl, (hS.next hu).c 0 rfl, (hS.next hu).c 1 rfl, (hS.next hu).c 2 rfl, (hS.next hu).c 3 rfl, (hS.next hu).c 4 rfl⟩
  have HC := Lib.hid hcells
  clear hcells
  have HBB := Lib.hid hB
  have HZZ := Lib.hid hZ
  go_cut [8] (fun v wc => v = .int .i64 0 ∧ Below w0.heap.size w0 wc)
  case first =>
    first
    | go_region_held_law (fun u => Below w0.heap.size w0 u ∧ u.cell? ⟨w.heap.size, 0, none⟩ = some (.int .i64 m.id) ∧ u.cell? ⟨w.heap.size, 1, none⟩ = some (.slice m.An m.nn m.cn) ∧ u.cell? ⟨w.heap.size, 2, none⟩ = some (.slice m.Am m.nm m.cm) ∧ u.cell? ⟨w.heap.size, 3, none⟩ = some (.slice m.As m.ns m.cs) ∧ u.cell? ⟨w.heap.size + 1, 0, none⟩ = some (.int .i64 t) ∧ u.cell? ⟨w.heap.size + 1, 1, none⟩ = some (.int .i64 md) ∧ u.cell? ⟨w.heap.size + 1, 2, none⟩ = some (.int .i64 rn) ∧ u.cell? ⟨w.heap.size + 1, 3, none⟩ = some (.int .i64 sl) ∧ u.cell? ⟨w.heap.size + 1, 4, none⟩ = some (.int .i64 mb)) (first | (with_reducible exact HC.out _ hVV) | (with_reducible refine HC.out _ ?_; with_reducible assumption)) (first
        | (go_at_call 46; (have hgv : Below w0.heap.size w0 _ := And.left (‹Below w0.heap.size w0 _ ∧ _›)); (with_reducible refine (HIB.out _ (HZZ.out.up hgv)).mono ?_); rintro e cc ⟨rfl, rfl⟩; clear hgv)
        | (go_at_call 45; (have hgv : Below w0.heap.size w0 _ := And.left (‹Below w0.heap.size w0 _ ∧ _›)); (with_reducible refine (HCO.out _ (HBB.out.rd.up hgv)).mono ?_); rintro e cc ⟨rfl, hb⟩; (have hv := below_next hb hgv (Nat.le_refl _)); have HV9 := Lib.hid hv; clear hgv hb))
    | fail
    all_goals
      go_wp2_with fail
      go_meet
      exact ⟨rfl, HV9.out⟩
  case rest =>
    obtain ⟨rfl, hb1⟩ := hcut
    obtain ⟨w1, hw1⟩ : ∃ v, v = wc := ⟨_, rfl⟩
    rw [← hw1] at hb1 ⊢
    clear hw1 HC hVV HBB HZZ
    replace hB := hB.next hb1
    replace hS := hS.next hb1
    replace hQ := hQ.next hb1
    replace hZ := hZ.up hb1
    clear hb1 HCO m0 m1 m2 m3 s0 s1 s2 s3 s4
    have m0 := hB.k.c 0 rfl; have m1 := hB.k.c 1 rfl; have m2 := hB.k.c 2 rfl; have m3 := hB.k.c 3 rfl
    have s0 := hS.c 0 rfl; have s1 := hS.c 1 rfl; have s2 := hS.c 2 rfl; have s3 := hS.c 3 rfl; have s4 := hS.c 4 rfl
    go_wp2_with fail
    refine (HSA.out _ hB.rd hZ).mono ?_
    rintro e w2 ⟨rfl, hb2⟩
    have gb2 := (hB.next hb2).bel
    obtain ⟨w3, hw3⟩ : ∃ v, v = w2.alloc (.cells #[.int .i64 0, .int .i64 0, .int .i64 0, .int .i64 0, .int .i64 0, .int .i64 0, .int .i64 0, .int .i64 0, .slice none 0 0] 51) := ⟨_, rfl⟩
    have hK : BlkL w3 w2.heap.size 51 [.int .i64 0, .int .i64 0, .int .i64 0, .int .i64 0, .int .i64 0, .int .i64 0, .int .i64 0, .int .i64 0, .slice none 0 0] := by rw [hw3]; exact BlkL.new _ _ _ rfl
    replace hQ : BlkL w3 (w.heap.size + 1 + 1) 51 [.int .i64 0, .int .i64 0, .int .i64 0, .int .i64 0, .int .i64 0, .int .i64 0, .int .i64 0, .int .i64 0, .slice none 0 0] := by rw [hw3]; exact (hQ.next hb2).alloc _
    have gb3 : Below w.heap.size w w3 := by rw [hw3]; exact below_alloc gb2 (Nat.le_refl _) _
    clear hb2 gb2 m0 m1 m2 m3 s0 s1 s2 s3 s4
    have y0 := hQ.free 0; have y1 := hQ.free 1; have y2 := hQ.free 2; have y3 := hQ.free 3; have y4 := hQ.free 4; have y5 := hQ.free 5; have y6 := hQ.free 6; have y7 := hQ.free 7; have y8 := hQ.free 8
    have e0 := hQ.c 0 rfl; have e1 := hQ.c 1 rfl; have e2 := hQ.c 2 rfl; have e3 := hQ.c 3 rfl; have e4 := hQ.c 4 rfl; have e5 := hQ.c 5 rfl; have e6 := hQ.c 6 rfl; have e7 := hQ.c 7 rfl; have e8 := hQ.c 8 rfl
    have k0 := hK.c 0 rfl; have k1 := hK.c 1 rfl; have k2 := hK.c 2 rfl; have k3 := hK.c 3 rfl; have k4 := hK.c 4 rfl; have k5 := hK.c 5 rfl; have k6 := hK.c 6 rfl; have k7 := hK.c 7 rfl; have k8 := hK.c 8 rfl
    go_upto_region 5 with fail
    rw [← hw3]
    clear hw3
    go_wp2_with fail
    refine bp_forget (fun v => BlkL v (w.heap.size + 1 + 1) 51 [.int .i64 0, .int .i64 0, .int .i64 0, .int .i64 0, .int .i64 0, .int .i64 0, .int .i64 0, .int .i64 0, .slice none 0 0] ∧ Below w.heap.size w v) ⟨(((((((((hQ.set 0 _).set 1 _).set 2 _).set 3 _).set 4 _).set 5 _).set 6 _).set 7 _).set 8 _), by go_grown⟩ ?_
    rintro v9 ⟨ko9, gb9⟩
    have d0 := ko9.c 0 rfl; have d1 := ko9.c 1 rfl; have d2 := ko9.c 2 rfl; have d3 := ko9.c 3 rfl; have d4 := ko9.c 4 rfl; have d5 := ko9.c 5 rfl; have d6 := ko9.c 6 rfl; have d7 := ko9.c 7 rfl; have d8 := ko9.c 8 rfl
    exact bodyPost_ret (v := .tuple #[.agg #[.int .i64 0, .int .i64 0, .int .i64 0, .int .i64 0, .int .i64 0, .int .i64 0, .int .i64 0, .int .i64 0, .slice none 0 0], .int .i64 0]) (by simp [results, Tryz.results19, go_sem, d0, d1, d2, d3, d4, d5, d6, d7, d8]) rfl ⟨rfl, gb9⟩

end Go.Proofs.YtbaojbheopcjhaaGreatDoor

namespace Go.Proofs.YtbaojbheopcjhaaGreatDoor
open Go.RowKit
/-- the name of a status -/
def sName (k : Int) : ByteArray := if k = 0 then ⟨#[110, 117, 108, 108]⟩ else if k = 1 then ⟨#[105, 110, 118, 97, 108, 105, 100]⟩ else if k = 2 then ⟨#[105, 110, 99, 111, 114, 114, 101, 99, 116]⟩ else if k = 3 then ⟨#[99, 111, 114, 114, 101, 99, 116]⟩ else if k = 4 then ⟨#[100, 105, 115, 97, 103, 114, 101, 101]⟩ else ⟨#[]⟩
set_option maxHeartbeats 8000000 in
theorem likeFrames_any (k1 r1 t1 m1 d1 s1 b1 k2 r2 t2 m2 d2 s2 b2 : Int) (A A' : Option Addr) (n n' c c' : Nat) (xs ys : List Int) (w : World) (hx : RI w w.heap.size A n xs) (hy : RI w w.heap.size A' n' ys) (hn : n ≤ 1099511627776) (hn' : n' ≤ 1099511627776) :
    Calls Tryz.prog 18 #[.agg #[.int .i64 k1, .int .i64 r1, .int .i64 t1, .int .i64 m1, .int .i64 d1, .int .i64 s1, .int .i64 b1, .slice A n c], .agg #[.int .i64 k2, .int .i64 r2, .int .i64 t2, .int .i64 m2, .int .i64 d2, .int .i64 s2, .int .i64 b2, .slice A' n' c']] w (RetV w (.bool (sF k1 r1 t1 m1 d1 s1 b1 k2 r2 t2 m2 d2 s2 b2 xs ys))) := by
  go_enter Tryz.func18, Tryz.ntmps18
  go_wp2_with (go_at_call 9; refine (likeIntsV _ _ _ _ _ _ xs ys _ (RI.alloc' (RI.alloc' hx _) _) (RI.alloc' (RI.alloc' hy _) _) hn hn').mono ?_; rintro e w1 ⟨rfl, hb1⟩)
  all_goals
    go_ret
    refine ⟨ret_bool (by simp [sF, *]), ?_⟩
    first
    | exact below_next hb1 (below_alloc (below_alloc (Below.refl _ _) (Nat.le_refl _) _) (Nat.le_refl _) _) (Nat.le_refl _)
    | go_grown
end Go.Proofs.YtbaojbheopcjhaaGreatDoor
