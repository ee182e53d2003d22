/- Walks, laws and small notions for the claims of this seat, several texts as one (Oi). Conditions: as each theorem states them. -/
import Derived.Test.YtjgmpiefndbnaaaGreatDoorB35
namespace Go.Proofs.YtjgmpiefndbnaaaGreatDoor
open Go.RowKit

set_option maxRecDepth 200000 in
set_option maxHeartbeats 16000000 in
theorem iOpen_any (A : Option Addr) (n c : Nat) (zs : List Int) (id t md rn sl mb : Nat) (w : World) (h : SL w A n c zs) (hz : isBytes zs = true) (hid : id < 16777216) (hs : isState t md rn sl mb = true) (hF : ∀ (A : Option Addr) (n c : Nat) (zs : List Int) (w : World), SL w A n c zs → n ≤ 1048576 → allR zs 0 255 = true → Calls Tryz.prog 188 #[.slice A n c] w (RetFB w zs)) :
    Calls Tryz.prog 138 #[.slice A n c, .int .i64 (id : Nat), .agg #[.int .i64 (t : Nat), .int .i64 (md : Nat), .int .i64 (rn : Nat), .int .i64 (sl : Nat), .int .i64 (mb : Nat)]] w (OF zs (opC zs id t md rn sl mb) w) := by
  have L := Lib.hid h.ri.len
  have hn : n ≤ 1024 := by rw [← L.out]; exact isBytes_len hz
  have hza := isBytes_all hz
  have hst := isState_all hs
  obtain ⟨w0, hw0⟩ : ∃ v, v = (w.alloc (.cells #[.int .i64 (t : Nat), .int .i64 (md : Nat), .int .i64 (rn : Nat), .int .i64 (sl : Nat), .int .i64 (mb : Nat)] 39)).alloc (.cells #[.int .i64 0, .int .i64 0, .int .i64 0, .int .i64 0, .int .i64 0, .int .i64 0, .int .i64 0, .slice none 0 0] 48) := ⟨_, rfl⟩
  have k0 : BlkL w0 w.heap.size 39 [.int .i64 (t : Nat), .int .i64 (md : Nat), .int .i64 (rn : Nat), .int .i64 (sl : Nat), .int .i64 (mb : Nat)] := by rw [hw0]; exact (BlkL.new _ _ _ rfl).alloc _
  have q0 : BlkL w0 (w.heap.size + 1) 48 [.int .i64 0, .int .i64 0, .int .i64 0, .int .i64 0, .int .i64 0, .int .i64 0, .int .i64 0, .slice none 0 0] := by rw [hw0]; exact BlkL.new _ _ _ (by simp)
  have gb0 : Below w.heap.size w w0 := by rw [hw0]; go_grown
  have hsz : w0.heap.size = w.heap.size + 1 + 1 := by rw [hw0]; simp
  have HL := Lib.hid h
  have HS := Lib.hid hs
  have HID := Lib.hid (show inR ((id : Nat) : Int) 0 16777215 = true from inR_iff.2 (by omega))
  have HBY := Lib.hid hz
  clear hs hz
  have hiss := fun (u : World) => iIsState_any t md rn sl mb u
  rw [HS.out] at hiss
  have HIS := Lib.hid hiss
  have hisb := fun (u : World) (hu : RI u u.heap.size A n zs) => iIsBytes_any A n c zs u hu (by omega)
  rw [HBY.out] at hisb
  have HIB := Lib.hid hisb
  clear hiss hisb
  rcases Nat.lt_or_ge n 4 with hn4 | hn4
  · have E := Lib.hid (opC_short (zs := zs) (id := id) (t := t) (md := md) (rn := rn) (sl := sl) (mb := mb) (by rw [L.out]; exact hn4))
    have hlt : (n : Int) - 3 < 1 := by omega
    have s0 := k0.c 0 rfl; have s1 := k0.c 1 rfl; have s2 := k0.c 2 rfl; have s3 := k0.c 3 rfl; have s4 := k0.c 4 rfl
    go_enter Tryz.func138, Tryz.ntmps138
    go_wp2_with fail
    rw [← hw0]
    clear hw0
    refine (HIS.out _).mono ?_
    rintro e w1 ⟨rfl, hb1⟩
    have k1 := k0.next hb1
    have q1 := q0.next hb1
    have gb1 := below_next hb1 gb0 (Nat.le_refl _)
    have hsz1 := hb1.size
    clear k0 q0 gb0 hb1 s0 s1 s2 s3 s4
    have s0 := k1.c 0 rfl; have s1 := k1.c 1 rfl; have s2 := k1.c 2 rfl; have s3 := k1.c 3 rfl; have s4 := k1.c 4 rfl
    go_upto_region 5 with (first | (go_at_call 186; refine (isId_is HID.out _).mono ?_; rintro e w9 ⟨rfl, rfl⟩) | (go_at_call 84; refine (HIB.out _ (HL.out.next gb1).ri).mono ?_; rintro e w9 ⟨rfl, rfl⟩))
    have y0 := q1.free 0; have y1 := q1.free 1; have y2 := q1.free 2; have y3 := q1.free 3; have y4 := q1.free 4; have y5 := q1.free 5; have y6 := q1.free 6; have y7 := q1.free 7
    have e0 := q1.c 0 rfl; have e1 := q1.c 1 rfl; have e2 := q1.c 2 rfl; have e3 := q1.c 3 rfl; have e4 := q1.c 4 rfl; have e5 := q1.c 5 rfl; have e6 := q1.c 6 rfl; have e7 := q1.c 7 rfl
    go_wp2_with fail
    refine bp_forget (fun v => BlkL v (w.heap.size + 1) 48 [.int .i64 0, .int .i64 0, .int .i64 0, .int .i64 0, .int .i64 0, .int .i64 0, .int .i64 0, .slice none 0 0] ∧ Below w.heap.size w v) ⟨((((((((q1.set 0 _).set 1 _).set 2 _).set 3 _).set 4 _).set 5 _).set 6 _).set 7 _), by go_grown⟩ ?_
    rintro v9 ⟨ko9, gb9⟩
    have d0 := ko9.c 0 rfl; have d1 := ko9.c 1 rfl; have d2 := ko9.c 2 rfl; have d3 := ko9.c 3 rfl; have d4 := ko9.c 4 rfl; have d5 := ko9.c 5 rfl; have d6 := ko9.c 6 rfl; have d7 := ko9.c 7 rfl
    exact bodyPost_ret (v := .tuple #[.agg #[.int .i64 0, .int .i64 0, .int .i64 0, .int .i64 0, .int .i64 0, .int .i64 0, .int .i64 0, .slice none 0 0], .int .i64 6]) (by simp [results, Tryz.results138, go_sem, d0, d1, d2, d3, d4, d5, d6, d7]) rfl (by rw [E.out]; exact OF_zero (by decide) gb9 _ rfl)
  obtain ⟨N, rfl⟩ : ∃ N, n = N + 3 := ⟨n - 3, by omega⟩
  have hN : 1 ≤ N := by omega
  obtain ⟨b, o, rfl, hbl, hcl⟩ := HL.out.ri.get (by omega)
  have LN := L.out
  have E := Lib.hid (opC_eq (id := id) (t := t) (md := md) (rn := rn) (sl := sl) (mb := mb) LN hN)
  have EB := Lib.hid (bk_bdy LN hN)
  have hc0 := hcl 0 (by omega)
  have hcx := hcl N (by omega)
  have hcy := hcl (N + 1) (by omega)
  have hcz := hcl (N + 2) (by omega)
  have hx := allR_gi hza (k := N) (by omega)
  have hy := allR_gi hza (k := N + 1) (by omega)
  have hzz := allR_gi hza (k := N + 2) (by omega)
  obtain ⟨hH0, hH1, hk, -, hk3, -⟩ := head_eq (zs := zs) (by omega) hza
  have D3 := last3 LN
  have hbz := allR_pre hza N
  have HBZ := Lib.hid (show allR (bdy zs) 0 255 = true by rw [bdy_eq LN]; exact hbz)
  have hbl9 : (bdy zs).length = N := by rw [bdy_eq LN, List.length_take, LN]; omega
  have HTK := Lib.hid (bdy_eq LN)
  obtain ⟨x, hxe⟩ : ∃ x, gi zs N = x := ⟨_, rfl⟩
  obtain ⟨y, hye⟩ : ∃ x, gi zs (N + 1) = x := ⟨_, rfl⟩
  obtain ⟨z, hze⟩ : ∃ x, gi zs (N + 2) = x := ⟨_, rfl⟩
  obtain ⟨H, hHe⟩ : ∃ x, gi zs 0 = x := ⟨_, rfl⟩
  obtain ⟨K, hKe⟩ : ∃ x, bk zs = x := ⟨_, rfl⟩
  have E1 := E.out
  have EB1 := EB.out
  rw [hxe, hye, hze, hKe] at E1
  rw [hxe, hye, hze] at D3
  rw [hKe] at EB1 hk hk3
  rw [hxe] at hcx hx
  rw [hye] at hcy hy
  rw [hze] at hcz hzz
  rw [hHe] at hc0 hH0 hH1 hk
  obtain ⟨bd, hbd⟩ : ∃ x, bdy zs = x := ⟨_, rfl⟩
  have HBD := Lib.hid hbd
  rw [hbd] at E1 EB1 hbl9 HBZ HTK
  clear hxe hye hze hHe hKe hbd E EB hcl hbz hza
  obtain ⟨C, hC⟩ : ∃ x, chkN K bd id t md rn sl mb = x := ⟨_, rfl⟩
  have hCl : C < 16777216 := by rw [← hC]; exact chkN_lt hid
  have hchk := fun (u : World) (A2 : Option Addr) (c2 : Nat) (hu : RI u u.heap.size A2 N bd) => iCheck_any K id t md rn sl mb A2 N c2 bd u hu (by omega) HBZ.out hid (by omega) (by omega) (by omega) (by omega) (by omega)
  rw [hC] at hchk E1
  have HCH := Lib.hid hchk
  clear hchk hC
  have hle := HL.out.le
  have hcap := HL.out.cap
  have HRP := Lib.hid (show SL w (some ⟨b, o, none⟩) N c bd from ⟨HTK.out ▸ HL.out.ri.pre (k := N) (by omega), fun e => (by cases e), (by omega), hcap⟩)
  have hfrm := fun (u : World) (hu : SL u (some ⟨b, o, none⟩) N c bd) => hF (some ⟨b, o, none⟩) N c bd u hu (by omega) HBZ.out
  have HFR := Lib.hid hfrm
  clear hfrm hF
  have hwr : IntKind.i64.wrap (K : Int) = (K : Int) := IntWalk.i64_in _ (by omega)
  have ht1 : H.tdiv 64 = (K : Int) := by rw [Int.tdiv_eq_ediv_of_nonneg hH0]; exact hk
  have hge : ¬ ((N : Int) < 1) := by omega
  have hnN : ((N : Int) + 3 - 3) = (N : Int) := by omega
  have hnT : ((N : Int) + 1).toNat = N + 1 := by omega
  have hnU : ((N : Int) + 2).toNat = N + 2 := by omega
  have HX := Lib.hid (three_iff (N := C) hx hy hzz)
  have HE1 := Lib.hid E1
  have HEB := Lib.hid EB1
  clear E1 EB1
  have HRS := Lib.hid (show RI w w.heap.size (some ⟨b, o + N, none⟩) 3 [x, y, z] from D3 ▸ (by have := HL.out.ri.suf (k := N) (by omega); rwa [show N + 3 - N = 3 from by omega] at this))
  clear D3
  have hcN : ¬ (c = N) := by omega
  have hsub : N + 3 - N = 3 := by omega
  have s0 := k0.c 0 rfl; have s1 := k0.c 1 rfl; have s2 := k0.c 2 rfl; have s3 := k0.c 3 rfl; have s4 := k0.c 4 rfl
  go_enter Tryz.func138, Tryz.ntmps138
  go_wp2_with fail
  rw [← hw0]
  clear hw0
  refine (HIS.out _).mono ?_
  rintro e w1 ⟨rfl, hb1⟩
  have k1 := k0.next hb1
  have q1 := q0.next hb1
  have gb1 := below_next hb1 gb0 (Nat.le_refl _)
  have hsz1 := hb1.size
  clear k0 q0 gb0 hb1 s0 s1 s2 s3 s4
  have s0 := k1.c 0 rfl; have s1 := k1.c 1 rfl; have s2 := k1.c 2 rfl; have s3 := k1.c 3 rfl; have s4 := k1.c 4 rfl
  go_upto_region 5 with (first | (go_at_call 186; refine (isId_is HID.out _).mono ?_; rintro e w9 ⟨rfl, rfl⟩) | (go_at_call 84; refine (HIB.out _ (HL.out.next gb1).ri).mono ?_; rintro e w9 ⟨rfl, rfl⟩))
  have v0 : w1.cell? ⟨b, o, none⟩ = some (.int .i64 H) := (Below.cell gb1 (p := ⟨b, o, none⟩) hbl).trans hc0
  clear hc0 hcx hcy hcz hx hy hzz
  obtain ⟨xa, hxa⟩ : ∃ a : Nat, C / 65536 = a := ⟨_, rfl⟩
  obtain ⟨xb, hxb⟩ : ∃ a : Nat, C / 256 % 256 = a := ⟨_, rfl⟩
  obtain ⟨xc, hxc⟩ : ∃ a : Nat, C % 256 = a := ⟨_, rfl⟩
  have hthr := fun (u : World) => three_any C u hCl
  rw [hxa, hxb, hxc] at hthr
  have HTH := Lib.hid hthr
  have hx9 := HX.out
  rw [hxa, hxb, hxc] at hx9
  replace HX := Lib.hid hx9
  clear hthr hx9 hxa hxb hxc
  obtain ⟨SB, hSB⟩ : ∃ b, eqI [(xa : Int), (xb : Int), (xc : Int)] [x, y, z] = b := ⟨_, rfl⟩
  have HSB := Lib.hid hSB
  clear hSB
  go_upto_region 8 with fail
  have hVV : Below w1.heap.size w1 w1.drew := (Below.refl _ _).drew
  have hbl1 : b < w1.heap.size := by have := gb1.size; omega
  have hcells : ∀ u, Below w1.heap.size w1 u → (Below w1.heap.size w1 u ∧ u.cell? ⟨w.heap.size, 0, none⟩ = some (.int .i64 (t : Nat)) ∧ u.cell? ⟨w.heap.size, 1, none⟩ = some (.int .i64 (md : Nat)) ∧ u.cell? ⟨w.heap.size, 2, none⟩ = some (.int .i64 (rn : Nat)) ∧ u.cell? ⟨w.heap.size, 3, none⟩ = some (.int .i64 (sl : Nat)) ∧ u.cell? ⟨w.heap.size, 4, none⟩ = some (.int .i64 (mb : Nat)) ∧ u.cell? ⟨b, o, none⟩ = some (.int .i64 H)) := fun u hu => ⟨hu, (k1.next hu).c 0 rfl, (k1.next hu).c 1 rfl, (k1.next hu).c 2 rfl, (k1.next hu).c 3 rfl, (k1.next hu).c 4 rfl, (Below.cell hu (p := ⟨b, o, none⟩) hbl1).trans v0⟩
  have HC := Lib.hid hcells
  clear hcells
  have HG1 := Lib.hid gb1
  go_cut [8, 45] (fun v8 v wc => v8 = .int .i64 (N : Nat) ∧ v = .bool (!SB) ∧ Below w1.heap.size w1 wc)
  case first =>
    first
    | go_region_held_law (fun u => Below w1.heap.size w1 u ∧ u.cell? ⟨w.heap.size, 0, none⟩ = some (.int .i64 (t : Nat)) ∧ u.cell? ⟨w.heap.size, 1, none⟩ = some (.int .i64 (md : Nat)) ∧ u.cell? ⟨w.heap.size, 2, none⟩ = some (.int .i64 (rn : Nat)) ∧ u.cell? ⟨w.heap.size, 3, none⟩ = some (.int .i64 (sl : Nat)) ∧ u.cell? ⟨w.heap.size, 4, none⟩ = some (.int .i64 (mb : Nat)) ∧ u.cell? ⟨b, o, none⟩ = some (.int .i64 H)) (first | (with_reducible exact HC.out _ hVV) | (with_reducible refine HC.out _ ?_; with_reducible assumption) | (with_reducible refine HC.out _ ?_; go_grown)) (first
        | (go_at_call 177; (have hgv : Below w1.heap.size w1 _ := And.left (‹Below w1.heap.size w1 _ ∧ _›)); (with_reducible refine (HCH.out _ (some ⟨b, o, none⟩) c ((HRP.out.next HG1.out).ri.up hgv)).mono ?_); rintro e cc ⟨rfl, hb⟩; (have hv := below_next hb hgv (Nat.le_refl _)); clear hgv hb)
        | (go_at_call 176; (have hgv : Below w1.heap.size w1 _ := And.left (‹Below w1.heap.size w1 _ ∧ _›)); (with_reducible refine (HTH.out _).mono ?_); rintro e cc ⟨A3, c3, rfl, own3, hb⟩; (have hv := below_next hb hgv (Nat.le_refl _)); have HO := Lib.hid own3; clear own3 hgv hb)
        | (go_at_call 187; (have hgv : Below w1.heap.size w1 _ := And.left (‹Below w1.heap.size w1 _ ∧ _›)); (refine (slicesEqual_any A3 (some ⟨b, o + N, none⟩) 3 3 c3 (c - N) _ [x, y, z] _ HO.out.reads ((HRS.out.up HG1.out).up hgv) (by omega) (by omega)).mono ?_); rw [HSB.out]; rintro e cc ⟨rfl, hb⟩; (have hv := below_next hb hgv (Nat.le_refl _)); have HV9 := Lib.hid hv; clear hgv hb))
    | fail
    all_goals
      go_wp2_with fail
      go_meet
      exact ⟨rfl, rfl, HV9.out⟩
  case rest =>
    obtain ⟨rfl, rfl, hb2⟩ := hcut
    obtain ⟨w2, hw2⟩ : ∃ v, v = wc := ⟨_, rfl⟩
    rw [← hw2] at hb2 ⊢
    clear hw2 HC hVV v0 HG1 s0 s1 s2 s3 s4
    have k2 := k1.next hb2
    have q2 := q1.next hb2
    have gb2 := below_next hb2 gb1 (Nat.le_refl _)
    have hsz2 := hb2.size
    clear k1 q1 hb2 gb1
    cases SB
    · have E := Lib.hid (show opC zs id t md rn sl mb = 7 from HE1.out.trans (if_neg (fun e => by have := HSB.out; rw [HX.out.2 e] at this; simp [eqI] at this)))
      have y0 := q2.free 0; have y1 := q2.free 1; have y2 := q2.free 2; have y3 := q2.free 3; have y4 := q2.free 4; have y5 := q2.free 5; have y6 := q2.free 6; have y7 := q2.free 7
      have e0 := q2.c 0 rfl; have e1 := q2.c 1 rfl; have e2 := q2.c 2 rfl; have e3 := q2.c 3 rfl; have e4 := q2.c 4 rfl; have e5 := q2.c 5 rfl; have e6 := q2.c 6 rfl; have e7 := q2.c 7 rfl
      go_wp2_with fail
      refine bp_forget (fun v => BlkL v (w.heap.size + 1) 48 [.int .i64 0, .int .i64 0, .int .i64 0, .int .i64 0, .int .i64 0, .int .i64 0, .int .i64 0, .slice none 0 0] ∧ Below w.heap.size w v) ⟨((((((((q2.set 0 _).set 1 _).set 2 _).set 3 _).set 4 _).set 5 _).set 6 _).set 7 _), by go_grown⟩ ?_
      rintro v9 ⟨ko9, gb9⟩
      have d0 := ko9.c 0 rfl; have d1 := ko9.c 1 rfl; have d2 := ko9.c 2 rfl; have d3 := ko9.c 3 rfl; have d4 := ko9.c 4 rfl; have d5 := ko9.c 5 rfl; have d6 := ko9.c 6 rfl; have d7 := ko9.c 7 rfl
      exact bodyPost_ret (v := .tuple #[.agg #[.int .i64 0, .int .i64 0, .int .i64 0, .int .i64 0, .int .i64 0, .int .i64 0, .int .i64 0, .slice none 0 0], .int .i64 7]) (by simp [results, Tryz.results138, go_sem, d0, d1, d2, d3, d4, d5, d6, d7]) rfl (by rw [E.out]; exact OF_zero (by decide) gb9 _ rfl)
    have HE2 := Lib.hid (HE1.out.trans (if_pos (HX.out.1 (of_decide_eq_true HSB.out))))
    clear HE1
    go_wp2_with fail
    refine (HFR.out _ (HRP.out.next gb2)).mono ?_
    rintro e w3 ⟨A3, n3, c3, f0, f1, f2, f3, f4, f5, f6, rfl, hb3, hok⟩
    obtain ⟨u3, hu3⟩ : ∃ X, X = w3.alloc (.cells #[.int .i64 f0, .int .i64 f1, .int .i64 f2, .int .i64 f3, .int .i64 f4, .int .i64 f5, .int .i64 f6, .slice A3 n3 c3] 48) := ⟨_, rfl⟩
    have f9 : BlkL u3 w3.heap.size 48 [.int .i64 f0, .int .i64 f1, .int .i64 f2, .int .i64 f3, .int .i64 f4, .int .i64 f5, .int .i64 f6, .slice A3 n3 c3] := by rw [hu3]; exact BlkL.new _ _ _ rfl
    have hbu : Below w2.heap.size w2 u3 := by rw [hu3]; exact below_alloc hb3 (Nat.le_refl _) _
    have hs3 := hb3.size
    have HOK := Lib.hid (fun hq => (hok hq))
    have k3 := k2.next hbu
    have q3 := q2.next hbu
    have gb3 := below_next hbu gb2 (Nat.le_refl _)
    have HB3 := Lib.hid (show Below w3.heap.size w3 u3 by rw [hu3]; go_grown)
    have hg2 := gb2.size
    clear hok hb3 hbu k2 q2 hsz2
    obtain ⟨ok, hokk⟩ : ∃ v, bok bd = v := ⟨_, rfl⟩
    have HO9 := Lib.hid hokk
    rw [hokk]
    clear hokk
    cases ok
    · have E := Lib.hid (show opC zs id t md rn sl mb = 6 by rw [HE2.out, HO9.out]; rfl)
      go_upto_region 11 with fail
      rw [← hu3]
      clear hu3
      have y0 := q3.free 0; have y1 := q3.free 1; have y2 := q3.free 2; have y3 := q3.free 3; have y4 := q3.free 4; have y5 := q3.free 5; have y6 := q3.free 6; have y7 := q3.free 7
      have e0 := q3.c 0 rfl; have e1 := q3.c 1 rfl; have e2 := q3.c 2 rfl; have e3 := q3.c 3 rfl; have e4 := q3.c 4 rfl; have e5 := q3.c 5 rfl; have e6 := q3.c 6 rfl; have e7 := q3.c 7 rfl
      go_wp2_with fail
      refine bp_forget (fun v => BlkL v (w.heap.size + 1) 48 [.int .i64 0, .int .i64 0, .int .i64 0, .int .i64 0, .int .i64 0, .int .i64 0, .int .i64 0, .slice none 0 0] ∧ Below w.heap.size w v) ⟨((((((((q3.set 0 _).set 1 _).set 2 _).set 3 _).set 4 _).set 5 _).set 6 _).set 7 _), by go_grown⟩ ?_
      rintro v9 ⟨ko9, gb9⟩
      have d0 := ko9.c 0 rfl; have d1 := ko9.c 1 rfl; have d2 := ko9.c 2 rfl; have d3 := ko9.c 3 rfl; have d4 := ko9.c 4 rfl; have d5 := ko9.c 5 rfl; have d6 := ko9.c 6 rfl; have d7 := ko9.c 7 rfl
      exact bodyPost_ret (v := .tuple #[.agg #[.int .i64 0, .int .i64 0, .int .i64 0, .int .i64 0, .int .i64 0, .int .i64 0, .int .i64 0, .slice none 0 0], .int .i64 6]) (by simp [results, Tryz.results138, go_sem, d0, d1, d2, d3, d4, d5, d6, d7]) rfl (by rw [E.out]; exact OF_zero (by decide) gb9 _ rfl)
    obtain ⟨hf0, hf1, hf2, hf3, hf4, hf5, hf6, own3⟩ := HOK.out HO9.out
    have HE3 := Lib.hid (show opC zs id t md rn sl mb = (if K = 0 ∨ (bq bd 0 16 = t ∧ bq bd 16 4 = md ∧ bq bd 20 4 = rn ∧ bq bd 24 8 = sl ∧ bq bd 32 32 = mb) then 0 else 5) by rw [HE2.out, HO9.out]; rfl)
    have hfk : f0 = (K : Int) := by rw [hf0, HEB.out]
    have OW := Lib.hid ((own3.below HB3.out).weaken hg2)
    have HF := Lib.hid (And.intro hf0 (And.intro hf1 (And.intro hf2 (And.intro hf3 (And.intro hf4 (And.intro hf5 hf6))))))
    clear own3 HOK HE2 hf0 hf1 hf2 hf3 hf4 hf5 hf6
    subst hfk
    have x0 := f9.c 0 rfl; have x1 := f9.c 1 rfl; have x2 := f9.c 2 rfl; have x3 := f9.c 3 rfl; have x4 := f9.c 4 rfl; have x5 := f9.c 5 rfl; have x6 := f9.c 6 rfl; have x7 := f9.c 7 rfl
    have s0 := k3.c 0 rfl; have s1 := k3.c 1 rfl; have s2 := k3.c 2 rfl; have s3 := k3.c 3 rfl; have s4 := k3.c 4 rfl
    go_upto_region 11 with fail
    rw [← hu3]
    clear hu3
    by_cases h0 : K = 0
    case pos =>
      have E := Lib.hid (show opC zs id t md rn sl mb = 0 from HE3.out.trans (if_pos (.inl h0)))
      have hkb : ((K : Int) != 0) = false := by simp [h0]
      clear h0
      have y0 := q3.free 0; have y1 := q3.free 1; have y2 := q3.free 2; have y3 := q3.free 3; have y4 := q3.free 4; have y5 := q3.free 5; have y6 := q3.free 6; have y7 := q3.free 7
      have e0 := q3.c 0 rfl; have e1 := q3.c 1 rfl; have e2 := q3.c 2 rfl; have e3 := q3.c 3 rfl; have e4 := q3.c 4 rfl; have e5 := q3.c 5 rfl; have e6 := q3.c 6 rfl; have e7 := q3.c 7 rfl
      go_wp2_with (go_at_call 142; refine (iHasSt_is hkb _).mono ?_; rintro e w9 ⟨rfl, rfl⟩)
      refine bp_forget (fun v => KO 48 2 v (w.heap.size + 1) [.int .i64 (K : Nat), .int .i64 f1, .int .i64 f2, .int .i64 f3, .int .i64 f4, .int .i64 f5, .int .i64 f6, .slice A3 n3 c3] w.heap.size A3 n3 c3 (bdt bd) ∧ Below w.heap.size w v) ⟨(((((((((show KO 48 2 _ _ _ _ _ _ _ _ from ⟨q3, OW.out⟩).set (by decide) 0 _).set (by decide) 1 _).set (by decide) 2 _).set (by decide) 3 _).set (by decide) 4 _).set (by decide) 5 _).set (by decide) 6 _).set (by decide) 7 _), by go_grown⟩ ?_
      rintro v9 ⟨ko9, gb9⟩
      have OW9 := ko9.2
      have d0 := ko9.1.c 0 rfl; have d1 := ko9.1.c 1 rfl; have d2 := ko9.1.c 2 rfl; have d3 := ko9.1.c 3 rfl; have d4 := ko9.1.c 4 rfl; have d5 := ko9.1.c 5 rfl; have d6 := ko9.1.c 6 rfl; have d7 := ko9.1.c 7 rfl
      exact bodyPost_ret (v := .tuple #[.agg #[.int .i64 (K : Nat), .int .i64 f1, .int .i64 f2, .int .i64 f3, .int .i64 f4, .int .i64 f5, .int .i64 f6, .slice A3 n3 c3], .int .i64 0]) (by simp [results, Tryz.results138, go_sem, d0, d1, d2, d3, d4, d5, d6, d7]) rfl (by rw [E.out]; exact OF_ok A3 n3 c3 (by rw [HBD.out]; exact HF.out) (by rw [HBD.out]; exact OW9) gb9 _ rfl)
    case neg =>
      have hkb : ((K : Int) != 0) = true := by simp [h0]
      rcases st_cases f2 (t : Nat) f3 (md : Nat) f4 (rn : Nat) f5 (sl : Nat) f6 (mb : Nat) with ⟨e1, es⟩ | ⟨e1, e2, es⟩ | ⟨e1, e2, e3, es⟩ | ⟨e1, e2, e3, e4, es⟩ | ⟨e1, e2, e3, e4, e5, es⟩ | ⟨e1, e2, e3, e4, e5, es⟩
      · have hes := es
        obtain ⟨-, -, hf2, hf3, hf4, hf5, hf6⟩ := HF.out
        have E := Lib.hid (show opC zs id t md rn sl mb = 5 from HE3.out.trans (if_neg (fun e => by have := of_decide_eq_false hes; omega)))
        clear hes es hf2 hf3 hf4 hf5 hf6
        have y0 := q3.free 0; have y1 := q3.free 1; have y2 := q3.free 2; have y3 := q3.free 3; have y4 := q3.free 4; have y5 := q3.free 5; have y6 := q3.free 6; have y7 := q3.free 7
        have e0 := q3.c 0 rfl; have e1 := q3.c 1 rfl; have e2 := q3.c 2 rfl; have e3 := q3.c 3 rfl; have e4 := q3.c 4 rfl; have e5 := q3.c 5 rfl; have e6 := q3.c 6 rfl; have e7 := q3.c 7 rfl
        go_wp2_with (go_at_call 142; refine (iHasSt_is hkb _).mono ?_; rintro e w9 ⟨rfl, rfl⟩)
        refine bp_forget (fun v => BlkL v (w.heap.size + 1) 48 [.int .i64 0, .int .i64 0, .int .i64 0, .int .i64 0, .int .i64 0, .int .i64 0, .int .i64 0, .slice none 0 0] ∧ Below w.heap.size w v) ⟨((((((((q3.set 0 _).set 1 _).set 2 _).set 3 _).set 4 _).set 5 _).set 6 _).set 7 _), by go_grown⟩ ?_
        rintro v9 ⟨ko9, gb9⟩
        have d0 := ko9.c 0 rfl; have d1 := ko9.c 1 rfl; have d2 := ko9.c 2 rfl; have d3 := ko9.c 3 rfl; have d4 := ko9.c 4 rfl; have d5 := ko9.c 5 rfl; have d6 := ko9.c 6 rfl; have d7 := ko9.c 7 rfl
        exact bodyPost_ret (v := .tuple #[.agg #[.int .i64 0, .int .i64 0, .int .i64 0, .int .i64 0, .int .i64 0, .int .i64 0, .int .i64 0, .slice none 0 0], .int .i64 5]) (by simp [results, Tryz.results138, go_sem, d0, d1, d2, d3, d4, d5, d6, d7]) rfl (by rw [E.out]; exact OF_zero (by decide) gb9 _ rfl)
      · have hes := es
        obtain ⟨-, -, hf2, hf3, hf4, hf5, hf6⟩ := HF.out
        have E := Lib.hid (show opC zs id t md rn sl mb = 5 from HE3.out.trans (if_neg (fun e => by have := of_decide_eq_false hes; omega)))
        clear hes es hf2 hf3 hf4 hf5 hf6
        have y0 := q3.free 0; have y1 := q3.free 1; have y2 := q3.free 2; have y3 := q3.free 3; have y4 := q3.free 4; have y5 := q3.free 5; have y6 := q3.free 6; have y7 := q3.free 7
        have e0 := q3.c 0 rfl; have e1 := q3.c 1 rfl; have e2 := q3.c 2 rfl; have e3 := q3.c 3 rfl; have e4 := q3.c 4 rfl; have e5 := q3.c 5 rfl; have e6 := q3.c 6 rfl; have e7 := q3.c 7 rfl
        go_wp2_with (go_at_call 142; refine (iHasSt_is hkb _).mono ?_; rintro e w9 ⟨rfl, rfl⟩)
        refine bp_forget (fun v => BlkL v (w.heap.size + 1) 48 [.int .i64 0, .int .i64 0, .int .i64 0, .int .i64 0, .int .i64 0, .int .i64 0, .int .i64 0, .slice none 0 0] ∧ Below w.heap.size w v) ⟨((((((((q3.set 0 _).set 1 _).set 2 _).set 3 _).set 4 _).set 5 _).set 6 _).set 7 _), by go_grown⟩ ?_
        rintro v9 ⟨ko9, gb9⟩
        have d0 := ko9.c 0 rfl; have d1 := ko9.c 1 rfl; have d2 := ko9.c 2 rfl; have d3 := ko9.c 3 rfl; have d4 := ko9.c 4 rfl; have d5 := ko9.c 5 rfl; have d6 := ko9.c 6 rfl; have d7 := ko9.c 7 rfl
        exact bodyPost_ret (v := .tuple #[.agg #[.int .i64 0, .int .i64 0, .int .i64 0, .int .i64 0, .int .i64 0, .int .i64 0, .int .i64 0, .slice none 0 0], .int .i64 5]) (by simp [results, Tryz.results138, go_sem, d0, d1, d2, d3, d4, d5, d6, d7]) rfl (by rw [E.out]; exact OF_zero (by decide) gb9 _ rfl)
      · have hes := es
        obtain ⟨-, -, hf2, hf3, hf4, hf5, hf6⟩ := HF.out
        have E := Lib.hid (show opC zs id t md rn sl mb = 5 from HE3.out.trans (if_neg (fun e => by have := of_decide_eq_false hes; omega)))
        clear hes es hf2 hf3 hf4 hf5 hf6
        have y0 := q3.free 0; have y1 := q3.free 1; have y2 := q3.free 2; have y3 := q3.free 3; have y4 := q3.free 4; have y5 := q3.free 5; have y6 := q3.free 6; have y7 := q3.free 7
        have e0 := q3.c 0 rfl; have e1 := q3.c 1 rfl; have e2 := q3.c 2 rfl; have e3 := q3.c 3 rfl; have e4 := q3.c 4 rfl; have e5 := q3.c 5 rfl; have e6 := q3.c 6 rfl; have e7 := q3.c 7 rfl
        go_wp2_with (go_at_call 142; refine (iHasSt_is hkb _).mono ?_; rintro e w9 ⟨rfl, rfl⟩)
        refine bp_forget (fun v => BlkL v (w.heap.size + 1) 48 [.int .i64 0, .int .i64 0, .int .i64 0, .int .i64 0, .int .i64 0, .int .i64 0, .int .i64 0, .slice none 0 0] ∧ Below w.heap.size w v) ⟨((((((((q3.set 0 _).set 1 _).set 2 _).set 3 _).set 4 _).set 5 _).set 6 _).set 7 _), by go_grown⟩ ?_
        rintro v9 ⟨ko9, gb9⟩
        have d0 := ko9.c 0 rfl; have d1 := ko9.c 1 rfl; have d2 := ko9.c 2 rfl; have d3 := ko9.c 3 rfl; have d4 := ko9.c 4 rfl; have d5 := ko9.c 5 rfl; have d6 := ko9.c 6 rfl; have d7 := ko9.c 7 rfl
        exact bodyPost_ret (v := .tuple #[.agg #[.int .i64 0, .int .i64 0, .int .i64 0, .int .i64 0, .int .i64 0, .int .i64 0, .int .i64 0, .slice none 0 0], .int .i64 5]) (by simp [results, Tryz.results138, go_sem, d0, d1, d2, d3, d4, d5, d6, d7]) rfl (by rw [E.out]; exact OF_zero (by decide) gb9 _ rfl)
      · have hes := es
        obtain ⟨-, -, hf2, hf3, hf4, hf5, hf6⟩ := HF.out
        have E := Lib.hid (show opC zs id t md rn sl mb = 5 from HE3.out.trans (if_neg (fun e => by have := of_decide_eq_false hes; omega)))
        clear hes es hf2 hf3 hf4 hf5 hf6
        have y0 := q3.free 0; have y1 := q3.free 1; have y2 := q3.free 2; have y3 := q3.free 3; have y4 := q3.free 4; have y5 := q3.free 5; have y6 := q3.free 6; have y7 := q3.free 7
        have e0 := q3.c 0 rfl; have e1 := q3.c 1 rfl; have e2 := q3.c 2 rfl; have e3 := q3.c 3 rfl; have e4 := q3.c 4 rfl; have e5 := q3.c 5 rfl; have e6 := q3.c 6 rfl; have e7 := q3.c 7 rfl
        go_wp2_with (go_at_call 142; refine (iHasSt_is hkb _).mono ?_; rintro e w9 ⟨rfl, rfl⟩)
        refine bp_forget (fun v => BlkL v (w.heap.size + 1) 48 [.int .i64 0, .int .i64 0, .int .i64 0, .int .i64 0, .int .i64 0, .int .i64 0, .int .i64 0, .slice none 0 0] ∧ Below w.heap.size w v) ⟨((((((((q3.set 0 _).set 1 _).set 2 _).set 3 _).set 4 _).set 5 _).set 6 _).set 7 _), by go_grown⟩ ?_
        rintro v9 ⟨ko9, gb9⟩
        have d0 := ko9.c 0 rfl; have d1 := ko9.c 1 rfl; have d2 := ko9.c 2 rfl; have d3 := ko9.c 3 rfl; have d4 := ko9.c 4 rfl; have d5 := ko9.c 5 rfl; have d6 := ko9.c 6 rfl; have d7 := ko9.c 7 rfl
        exact bodyPost_ret (v := .tuple #[.agg #[.int .i64 0, .int .i64 0, .int .i64 0, .int .i64 0, .int .i64 0, .int .i64 0, .int .i64 0, .slice none 0 0], .int .i64 5]) (by simp [results, Tryz.results138, go_sem, d0, d1, d2, d3, d4, d5, d6, d7]) rfl (by rw [E.out]; exact OF_zero (by decide) gb9 _ rfl)
      · have hes := es
        obtain ⟨-, -, hf2, hf3, hf4, hf5, hf6⟩ := HF.out
        have E := Lib.hid (show opC zs id t md rn sl mb = 5 from HE3.out.trans (if_neg (fun e => by have := of_decide_eq_false hes; omega)))
        clear hes es hf2 hf3 hf4 hf5 hf6
        have y0 := q3.free 0; have y1 := q3.free 1; have y2 := q3.free 2; have y3 := q3.free 3; have y4 := q3.free 4; have y5 := q3.free 5; have y6 := q3.free 6; have y7 := q3.free 7
        have e0 := q3.c 0 rfl; have e1 := q3.c 1 rfl; have e2 := q3.c 2 rfl; have e3 := q3.c 3 rfl; have e4 := q3.c 4 rfl; have e5 := q3.c 5 rfl; have e6 := q3.c 6 rfl; have e7 := q3.c 7 rfl
        go_wp2_with (go_at_call 142; refine (iHasSt_is hkb _).mono ?_; rintro e w9 ⟨rfl, rfl⟩)
        refine bp_forget (fun v => BlkL v (w.heap.size + 1) 48 [.int .i64 0, .int .i64 0, .int .i64 0, .int .i64 0, .int .i64 0, .int .i64 0, .int .i64 0, .slice none 0 0] ∧ Below w.heap.size w v) ⟨((((((((q3.set 0 _).set 1 _).set 2 _).set 3 _).set 4 _).set 5 _).set 6 _).set 7 _), by go_grown⟩ ?_
        rintro v9 ⟨ko9, gb9⟩
        have d0 := ko9.c 0 rfl; have d1 := ko9.c 1 rfl; have d2 := ko9.c 2 rfl; have d3 := ko9.c 3 rfl; have d4 := ko9.c 4 rfl; have d5 := ko9.c 5 rfl; have d6 := ko9.c 6 rfl; have d7 := ko9.c 7 rfl
        exact bodyPost_ret (v := .tuple #[.agg #[.int .i64 0, .int .i64 0, .int .i64 0, .int .i64 0, .int .i64 0, .int .i64 0, .int .i64 0, .slice none 0 0], .int .i64 5]) (by simp [results, Tryz.results138, go_sem, d0, d1, d2, d3, d4, d5, d6, d7]) rfl (by rw [E.out]; exact OF_zero (by decide) gb9 _ rfl)
      · have hes := es
        obtain ⟨-, -, hf2, hf3, hf4, hf5, hf6⟩ := HF.out
        have E := Lib.hid (show opC zs id t md rn sl mb = 0 from HE3.out.trans (if_pos (.inr (by have := of_decide_eq_true hes; omega))))
        clear hes es hf2 hf3 hf4 hf5 hf6
        have y0 := q3.free 0; have y1 := q3.free 1; have y2 := q3.free 2; have y3 := q3.free 3; have y4 := q3.free 4; have y5 := q3.free 5; have y6 := q3.free 6; have y7 := q3.free 7
        have e0 := q3.c 0 rfl; have e1 := q3.c 1 rfl; have e2 := q3.c 2 rfl; have e3 := q3.c 3 rfl; have e4 := q3.c 4 rfl; have e5 := q3.c 5 rfl; have e6 := q3.c 6 rfl; have e7 := q3.c 7 rfl
        go_wp2_with (go_at_call 142; refine (iHasSt_is hkb _).mono ?_; rintro e w9 ⟨rfl, rfl⟩)
        refine bp_forget (fun v => KO 48 2 v (w.heap.size + 1) [.int .i64 (K : Nat), .int .i64 f1, .int .i64 f2, .int .i64 f3, .int .i64 f4, .int .i64 f5, .int .i64 f6, .slice A3 n3 c3] w.heap.size A3 n3 c3 (bdt bd) ∧ Below w.heap.size w v) ⟨(((((((((show KO 48 2 _ _ _ _ _ _ _ _ from ⟨q3, OW.out⟩).set (by decide) 0 _).set (by decide) 1 _).set (by decide) 2 _).set (by decide) 3 _).set (by decide) 4 _).set (by decide) 5 _).set (by decide) 6 _).set (by decide) 7 _), by go_grown⟩ ?_
        rintro v9 ⟨ko9, gb9⟩
        have OW9 := ko9.2
        have d0 := ko9.1.c 0 rfl; have d1 := ko9.1.c 1 rfl; have d2 := ko9.1.c 2 rfl; have d3 := ko9.1.c 3 rfl; have d4 := ko9.1.c 4 rfl; have d5 := ko9.1.c 5 rfl; have d6 := ko9.1.c 6 rfl; have d7 := ko9.1.c 7 rfl
        exact bodyPost_ret (v := .tuple #[.agg #[.int .i64 (K : Nat), .int .i64 f1, .int .i64 f2, .int .i64 f3, .int .i64 f4, .int .i64 f5, .int .i64 f6, .slice A3 n3 c3], .int .i64 0]) (by simp [results, Tryz.results138, go_sem, d0, d1, d2, d3, d4, d5, d6, d7]) rfl (by rw [E.out]; exact OF_ok A3 n3 c3 (by rw [HBD.out]; exact HF.out) (by rw [HBD.out]; exact OW9) gb9 _ rfl)

end Go.Proofs.YtjgmpiefndbnaaaGreatDoor
