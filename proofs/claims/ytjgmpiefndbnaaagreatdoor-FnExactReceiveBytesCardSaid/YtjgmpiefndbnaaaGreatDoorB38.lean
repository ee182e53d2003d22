/- Walks, laws and small notions for the claims of this seat, several texts as one (Oe). Conditions: as each theorem states them. -/
import Derived.Test.YtjgmpiefndbnaaaGreatDoorB35
namespace Go.Proofs.YtjgmpiefndbnaaaGreatDoor
open Go.RowKit
set_option maxRecDepth 200000 in
set_option maxHeartbeats 16000000 in
theorem sOpen_any (A : Option Addr) (n c : Nat) (zs : List Int) (id t md rn sl mb : Nat) (w : World) (h : SL w A n c zs) (hz : isBytes zs = true) (hid : id < 16777216) (hs : isState t md rn sl mb = true) (hF : ∀ (A : Option Addr) (n c : Nat) (zs : List Int) (w : World), SL w A n c zs → n ≤ 1048576 → allR zs 0 255 = true → Calls Tryz.prog 182 #[.slice A n c] w (RetFB w zs)) :
    Calls Tryz.prog 136 #[.slice A n c, .int .i64 (id : Nat), .agg #[.int .i64 (t : Nat), .int .i64 (md : Nat), .int .i64 (rn : Nat), .int .i64 (sl : Nat), .int .i64 (mb : Nat)]] w (OF zs (opC zs id t md rn sl mb) w) := by
  have L := Lib.hid h.ri.len
  have hn : n ≤ 1024 := by rw [← L.out]; exact isBytes_len hz
  have hza := isBytes_all hz
  have hst := isState_all hs
  obtain ⟨w0, hw0⟩ : ∃ v, v = (w.alloc (.cells #[.int .i64 (t : Nat), .int .i64 (md : Nat), .int .i64 (rn : Nat), .int .i64 (sl : Nat), .int .i64 (mb : Nat)] 39)).alloc (.cells #[.int .i64 0, .int .i64 0, .int .i64 0, .int .i64 0, .int .i64 0, .int .i64 0, .int .i64 0, .slice none 0 0] 48) := ⟨_, rfl⟩
  have k0 : BlkL w0 w.heap.size 39 [.int .i64 (t : Nat), .int .i64 (md : Nat), .int .i64 (rn : Nat), .int .i64 (sl : Nat), .int .i64 (mb : Nat)] := by rw [hw0]; exact (BlkL.new _ _ _ rfl).alloc _
  have q0 : BlkL w0 (w.heap.size + 1) 48 [.int .i64 0, .int .i64 0, .int .i64 0, .int .i64 0, .int .i64 0, .int .i64 0, .int .i64 0, .slice none 0 0] := by rw [hw0]; exact BlkL.new _ _ _ (by simp)
  have gb0 : Below w.heap.size w w0 := by rw [hw0]; go_grown
  have hsz : w0.heap.size = w.heap.size + 1 + 1 := by rw [hw0]; simp
  have HL := Lib.hid h
  clear hs hz
  rcases Nat.lt_or_ge n 4 with hn4 | hn4
  · have E := Lib.hid (opC_short (zs := zs) (id := id) (t := t) (md := md) (rn := rn) (sl := sl) (mb := mb) (by rw [L.out]; exact hn4))
    have hlt : (n : Int) - 3 < 1 := by omega
    have s0 := k0.c 0 rfl; have s1 := k0.c 1 rfl; have s2 := k0.c 2 rfl; have s3 := k0.c 3 rfl; have s4 := k0.c 4 rfl
    go_enter Tryz.func136, Tryz.ntmps136
    go_upto_region 1 with fail
    rw [← hw0]
    clear hw0
    have y0 := q0.free 0; have y1 := q0.free 1; have y2 := q0.free 2; have y3 := q0.free 3; have y4 := q0.free 4; have y5 := q0.free 5; have y6 := q0.free 6; have y7 := q0.free 7
    have e0 := q0.c 0 rfl; have e1 := q0.c 1 rfl; have e2 := q0.c 2 rfl; have e3 := q0.c 3 rfl; have e4 := q0.c 4 rfl; have e5 := q0.c 5 rfl; have e6 := q0.c 6 rfl; have e7 := q0.c 7 rfl
    go_wp2_with fail
    refine bp_forget (fun v => BlkL v (w.heap.size + 1) 48 [.int .i64 0, .int .i64 0, .int .i64 0, .int .i64 0, .int .i64 0, .int .i64 0, .int .i64 0, .slice none 0 0] ∧ Below w.heap.size w v) ⟨((((((((q0.set 0 _).set 1 _).set 2 _).set 3 _).set 4 _).set 5 _).set 6 _).set 7 _), by go_grown⟩ ?_
    rintro v9 ⟨ko9, gb9⟩
    have d0 := ko9.c 0 rfl; have d1 := ko9.c 1 rfl; have d2 := ko9.c 2 rfl; have d3 := ko9.c 3 rfl; have d4 := ko9.c 4 rfl; have d5 := ko9.c 5 rfl; have d6 := ko9.c 6 rfl; have d7 := ko9.c 7 rfl
    exact bodyPost_ret (v := .tuple #[.agg #[.int .i64 0, .int .i64 0, .int .i64 0, .int .i64 0, .int .i64 0, .int .i64 0, .int .i64 0, .slice none 0 0], .int .i64 6]) (by simp [results, Tryz.results136, go_sem, d0, d1, d2, d3, d4, d5, d6, d7]) rfl (by rw [E.out]; exact OF_zero (by decide) gb9 _ rfl)
  obtain ⟨N, rfl⟩ : ∃ N, n = N + 3 := ⟨n - 3, by omega⟩
  have hN : 1 ≤ N := by omega
  obtain ⟨b, o, rfl, hbl, hcl⟩ := HL.out.ri.get (by omega)
  have LN := L.out
  have E := Lib.hid (opC_eq (id := id) (t := t) (md := md) (rn := rn) (sl := sl) (mb := mb) LN hN)
  have EB := Lib.hid (bk_bdy LN hN)
  have hc0 := hcl 0 (by omega)
  have hcx := hcl N (by omega)
  have hcy := hcl (N + 1) (by omega)
  have hcz := hcl (N + 2) (by omega)
  have hx := allR_gi hza (k := N) (by omega)
  have hy := allR_gi hza (k := N + 1) (by omega)
  have hzz := allR_gi hza (k := N + 2) (by omega)
  obtain ⟨hH0, hH1, hk, -, hk3, -⟩ := head_eq (zs := zs) (by omega) hza
  have D3 := last3 LN
  have hbz := allR_pre hza N
  have HBZ := Lib.hid (show allR (bdy zs) 0 255 = true by rw [bdy_eq LN]; exact hbz)
  have hbl9 : (bdy zs).length = N := by rw [bdy_eq LN, List.length_take, LN]; omega
  have HTK := Lib.hid (bdy_eq LN)
  obtain ⟨x, hxe⟩ : ∃ x, gi zs N = x := ⟨_, rfl⟩
  obtain ⟨y, hye⟩ : ∃ x, gi zs (N + 1) = x := ⟨_, rfl⟩
  obtain ⟨z, hze⟩ : ∃ x, gi zs (N + 2) = x := ⟨_, rfl⟩
  obtain ⟨H, hHe⟩ : ∃ x, gi zs 0 = x := ⟨_, rfl⟩
  obtain ⟨K, hKe⟩ : ∃ x, bk zs = x := ⟨_, rfl⟩
  have E1 := E.out
  have EB1 := EB.out
  rw [hxe, hye, hze, hKe] at E1
  rw [hxe, hye, hze] at D3
  rw [hKe] at EB1 hk hk3
  rw [hxe] at hcx hx
  rw [hye] at hcy hy
  rw [hze] at hcz hzz
  rw [hHe] at hc0 hH0 hH1 hk
  obtain ⟨bd, hbd⟩ : ∃ x, bdy zs = x := ⟨_, rfl⟩
  have HBD := Lib.hid hbd
  rw [hbd] at E1 EB1 hbl9 HBZ HTK
  clear hxe hye hze hHe hKe hbd E EB hcl hbz hza
  obtain ⟨C, hC⟩ : ∃ x, chkN K bd id t md rn sl mb = x := ⟨_, rfl⟩
  have hCl : C < 16777216 := by rw [← hC]; exact chkN_lt hid
  have hchk := fun (u : World) (A2 : Option Addr) (c2 : Nat) (hu : RI u u.heap.size A2 N bd) => sCheck_any K id t md rn sl mb A2 N c2 bd u hu (by omega) HBZ.out hid (by omega) (by omega) (by omega) (by omega) (by omega)
  rw [hC] at hchk E1
  have HCH := Lib.hid hchk
  clear hchk hC
  have hle := HL.out.le
  have hcap := HL.out.cap
  have HRP := Lib.hid (show SL w (some ⟨b, o, none⟩) N c bd from ⟨HTK.out ▸ HL.out.ri.pre (k := N) (by omega), fun e => (by cases e), (by omega), hcap⟩)
  have hfrm := fun (u : World) (hu : SL u (some ⟨b, o, none⟩) N c bd) => hF (some ⟨b, o, none⟩) N c bd u hu (by omega) HBZ.out
  have HFR := Lib.hid hfrm
  clear hfrm hF
  have hwr : IntKind.i64.wrap (K : Int) = (K : Int) := IntWalk.i64_in _ (by omega)
  have ht1 : H.tdiv 64 = (K : Int) := by rw [Int.tdiv_eq_ediv_of_nonneg hH0]; exact hk
  have hge : ¬ ((N : Int) < 1) := by omega
  have hnN : ((N : Int) + 3 - 3) = (N : Int) := by omega
  have hnT : ((N : Int) + 1).toNat = N + 1 := by omega
  have hnU : ((N : Int) + 2).toNat = N + 2 := by omega
  obtain ⟨X, hX⟩ : ∃ X : Int, X = x * 65536 + y * 256 + z := ⟨_, rfl⟩
  rw [← hX] at E1
  have u0 : w0.cell? ⟨b, o, none⟩ = some (.int .i64 H) := (Below.cell gb0 (p := ⟨b, o, none⟩) hbl).trans hc0
  have ux : w0.cell? ⟨b, o + N, none⟩ = some (.int .i64 x) := (Below.cell gb0 (p := ⟨b, o + N, none⟩) hbl).trans hcx
  have uy : w0.cell? ⟨b, o + (N + 1), none⟩ = some (.int .i64 y) := (Below.cell gb0 (p := ⟨b, o + (N + 1), none⟩) hbl).trans hcy
  have uz : w0.cell? ⟨b, o + (N + 2), none⟩ = some (.int .i64 z) := (Below.cell gb0 (p := ⟨b, o + (N + 2), none⟩) hbl).trans hcz
  clear hc0 hcx hcy hcz
  have HE1 := Lib.hid E1
  have HEB := Lib.hid EB1
  clear E1 EB1 D3
  have s0 := k0.c 0 rfl; have s1 := k0.c 1 rfl; have s2 := k0.c 2 rfl; have s3 := k0.c 3 rfl; have s4 := k0.c 4 rfl
  go_enter Tryz.func136, Tryz.ntmps136
  go_upto_region 1 with fail
  rw [← hw0]
  clear hw0
  go_upto_region 4 with fail
  go_cut [8, 9] (fun v8 v9 wc => (∃ m, wc = w0.drewN m) ∧ v8 = .int .i64 (N : Nat) ∧ v9 = .int .i64 X)
  case first =>
    go_region
    all_goals
      go_wp2_with fail
      go_meet
      exact ⟨by first | exact ⟨0, rfl⟩ | exact ⟨1, rfl⟩, rfl, by rw [hX]⟩
  case rest =>
    obtain ⟨⟨m9, rfl⟩, rfl, rfl⟩ := hcut
    obtain ⟨w1, hw1⟩ : ∃ v, v = w0.drewN m9 := ⟨_, rfl⟩
    have hb1 : Below w0.heap.size w0 w1 := by rw [hw1]; exact below_drewN (Below.refl _ _) _
    rw [← hw1]
    clear hw1
    have k1 := k0.next hb1
    have q1 := q0.next hb1
    have gb1 := below_next hb1 gb0 (Nat.le_refl _)
    have hsz1 := hb1.size
    have v0 : w1.cell? ⟨b, o, none⟩ = some (.int .i64 H) := (Below.cell hb1 (p := ⟨b, o, none⟩) (by have := gb0.size; show b < _; omega)).trans u0
    clear u0 ux uy uz s0 s1 s2 s3 s4 k0 q0 gb0 hb1
    rcases bool_cases (((C : Nat) : Int) != X) with hcx | hcx
    all_goals skip
    all_goals
      have HCX := Lib.hid hcx
      clear hX
      go_upto_region 5 with fail
      have hV0 : GB w1 w1.drew := (Below.refl _ _).drew
      haveI hne : Nonempty (Cls (GB w1)) := ⟨⟨_, hV0⟩⟩
      have s0 : ∀ x : Cls (GB w1), x.w.cell? ⟨w.heap.size, 0, none⟩ = some (.int .i64 (t : Nat)) := fun x => GB.c x (k1.c 0 rfl); have s1 : ∀ x : Cls (GB w1), x.w.cell? ⟨w.heap.size, 1, none⟩ = some (.int .i64 (md : Nat)) := fun x => GB.c x (k1.c 1 rfl); have s2 : ∀ x : Cls (GB w1), x.w.cell? ⟨w.heap.size, 2, none⟩ = some (.int .i64 (rn : Nat)) := fun x => GB.c x (k1.c 2 rfl); have s3 : ∀ x : Cls (GB w1), x.w.cell? ⟨w.heap.size, 3, none⟩ = some (.int .i64 (sl : Nat)) := fun x => GB.c x (k1.c 3 rfl); have s4 : ∀ x : Cls (GB w1), x.w.cell? ⟨w.heap.size, 4, none⟩ = some (.int .i64 (mb : Nat)) := fun x => GB.c x (k1.c 4 rfl)
      have s5 : ∀ x : Cls (GB w1), x.w.cell? ⟨b, o, none⟩ = some (.int .i64 H) := fun x => GB.c x v0
      refine wp_region_cls (GB w1) (by kernel_rfl) (by kernel_rfl) hV0 ?_
      repeat (go_big_quiet_step (first | (go_at_call 181; rename_i x; exact cls_call (fun h1 h2 => GB.next h1 h2) (HCH.out _ (some ⟨b, o, none⟩) c ((HRP.out.next gb1).ri.up x.h)))))
      refine wpQuiet_nil ?_
      rintro _ ⟨x5, rfl⟩
      obtain ⟨w2, hw2⟩ : ∃ v, v = x5.w := ⟨_, rfl⟩
      have hb2 : Below w1.heap.size w1 w2 := hw2 ▸ x5.h
      rw [← hw2]
      clear hw2 x5 s0 s1 s2 s3 s4 s5 hV0
      have k2 := k1.next hb2
      have q2 := q1.next hb2
      have gb2 := below_next hb2 gb1 (Nat.le_refl _)
      have hsz2 := hb2.size
      clear k1 q1 v0 hb2 gb1
    · have E := Lib.hid (show opC zs id t md rn sl mb = 7 from HE1.out.trans (if_neg (fun e => by have := HCX.out; rw [e] at this; simp at this)))
      have hcx2 := HCX.out
      have y0 := q2.free 0; have y1 := q2.free 1; have y2 := q2.free 2; have y3 := q2.free 3; have y4 := q2.free 4; have y5 := q2.free 5; have y6 := q2.free 6; have y7 := q2.free 7
      have e0 := q2.c 0 rfl; have e1 := q2.c 1 rfl; have e2 := q2.c 2 rfl; have e3 := q2.c 3 rfl; have e4 := q2.c 4 rfl; have e5 := q2.c 5 rfl; have e6 := q2.c 6 rfl; have e7 := q2.c 7 rfl
      go_wp2_with fail
      refine bp_forget (fun v => BlkL v (w.heap.size + 1) 48 [.int .i64 0, .int .i64 0, .int .i64 0, .int .i64 0, .int .i64 0, .int .i64 0, .int .i64 0, .slice none 0 0] ∧ Below w.heap.size w v) ⟨((((((((q2.set 0 _).set 1 _).set 2 _).set 3 _).set 4 _).set 5 _).set 6 _).set 7 _), by go_grown⟩ ?_
      rintro v9 ⟨ko9, gb9⟩
      have d0 := ko9.c 0 rfl; have d1 := ko9.c 1 rfl; have d2 := ko9.c 2 rfl; have d3 := ko9.c 3 rfl; have d4 := ko9.c 4 rfl; have d5 := ko9.c 5 rfl; have d6 := ko9.c 6 rfl; have d7 := ko9.c 7 rfl
      exact bodyPost_ret (v := .tuple #[.agg #[.int .i64 0, .int .i64 0, .int .i64 0, .int .i64 0, .int .i64 0, .int .i64 0, .int .i64 0, .slice none 0 0], .int .i64 7]) (by simp [results, Tryz.results136, go_sem, d0, d1, d2, d3, d4, d5, d6, d7]) rfl (by rw [E.out]; exact OF_zero (by decide) gb9 _ rfl)
    have hcx2 := HCX.out
    have hxe : X = ((C : Nat) : Int) := by have := HCX.out; simp at this; exact this.symm
    have HE2 := Lib.hid (HE1.out.trans (if_pos hxe))
    clear hxe HE1
    go_wp2_with fail
    refine (HFR.out _ (HRP.out.next gb2)).mono ?_
    rintro e w3 ⟨A3, n3, c3, f0, f1, f2, f3, f4, f5, f6, rfl, hb3, hok⟩
    obtain ⟨u3, hu3⟩ : ∃ X, X = w3.alloc (.cells #[.int .i64 f0, .int .i64 f1, .int .i64 f2, .int .i64 f3, .int .i64 f4, .int .i64 f5, .int .i64 f6, .slice A3 n3 c3] 48) := ⟨_, rfl⟩
    have f9 : BlkL u3 w3.heap.size 48 [.int .i64 f0, .int .i64 f1, .int .i64 f2, .int .i64 f3, .int .i64 f4, .int .i64 f5, .int .i64 f6, .slice A3 n3 c3] := by rw [hu3]; exact BlkL.new _ _ _ rfl
    have hbu : Below w2.heap.size w2 u3 := by rw [hu3]; exact below_alloc hb3 (Nat.le_refl _) _
    have hs3 := hb3.size
    have HOK := Lib.hid (fun hq => (hok hq))
    have k3 := k2.next hbu
    have q3 := q2.next hbu
    have gb3 := below_next hbu gb2 (Nat.le_refl _)
    have HB3 := Lib.hid (show Below w3.heap.size w3 u3 by rw [hu3]; go_grown)
    have hg2 := gb2.size
    clear hok hb3 hbu k2 q2 hsz2
    obtain ⟨ok, hokk⟩ : ∃ v, bok bd = v := ⟨_, rfl⟩
    have HO9 := Lib.hid hokk
    rw [hokk]
    clear hokk
    cases ok
    · have E := Lib.hid (show opC zs id t md rn sl mb = 6 by rw [HE2.out, HO9.out]; rfl)
      go_upto_region 8 with fail
      rw [← hu3]
      clear hu3
      have y0 := q3.free 0; have y1 := q3.free 1; have y2 := q3.free 2; have y3 := q3.free 3; have y4 := q3.free 4; have y5 := q3.free 5; have y6 := q3.free 6; have y7 := q3.free 7
      have e0 := q3.c 0 rfl; have e1 := q3.c 1 rfl; have e2 := q3.c 2 rfl; have e3 := q3.c 3 rfl; have e4 := q3.c 4 rfl; have e5 := q3.c 5 rfl; have e6 := q3.c 6 rfl; have e7 := q3.c 7 rfl
      go_wp2_with fail
      refine bp_forget (fun v => BlkL v (w.heap.size + 1) 48 [.int .i64 0, .int .i64 0, .int .i64 0, .int .i64 0, .int .i64 0, .int .i64 0, .int .i64 0, .slice none 0 0] ∧ Below w.heap.size w v) ⟨((((((((q3.set 0 _).set 1 _).set 2 _).set 3 _).set 4 _).set 5 _).set 6 _).set 7 _), by go_grown⟩ ?_
      rintro v9 ⟨ko9, gb9⟩
      have d0 := ko9.c 0 rfl; have d1 := ko9.c 1 rfl; have d2 := ko9.c 2 rfl; have d3 := ko9.c 3 rfl; have d4 := ko9.c 4 rfl; have d5 := ko9.c 5 rfl; have d6 := ko9.c 6 rfl; have d7 := ko9.c 7 rfl
      exact bodyPost_ret (v := .tuple #[.agg #[.int .i64 0, .int .i64 0, .int .i64 0, .int .i64 0, .int .i64 0, .int .i64 0, .int .i64 0, .slice none 0 0], .int .i64 6]) (by simp [results, Tryz.results136, go_sem, d0, d1, d2, d3, d4, d5, d6, d7]) rfl (by rw [E.out]; exact OF_zero (by decide) gb9 _ rfl)
    obtain ⟨hf0, hf1, hf2, hf3, hf4, hf5, hf6, own3⟩ := HOK.out HO9.out
    have HE3 := Lib.hid (show opC zs id t md rn sl mb = (if K = 0 ∨ (bq bd 0 16 = t ∧ bq bd 16 4 = md ∧ bq bd 20 4 = rn ∧ bq bd 24 8 = sl ∧ bq bd 32 32 = mb) then 0 else 5) by rw [HE2.out, HO9.out]; rfl)
    have hfk : f0 = (K : Int) := by rw [hf0, HEB.out]
    have OW := Lib.hid ((own3.below HB3.out).weaken hg2)
    have HF := Lib.hid (And.intro hf0 (And.intro hf1 (And.intro hf2 (And.intro hf3 (And.intro hf4 (And.intro hf5 hf6))))))
    clear own3 HOK HE2 hf0 hf1 hf2 hf3 hf4 hf5 hf6
    subst hfk
    have x0 := f9.c 0 rfl; have x1 := f9.c 1 rfl; have x2 := f9.c 2 rfl; have x3 := f9.c 3 rfl; have x4 := f9.c 4 rfl; have x5 := f9.c 5 rfl; have x6 := f9.c 6 rfl; have x7 := f9.c 7 rfl
    have s0 := k3.c 0 rfl; have s1 := k3.c 1 rfl; have s2 := k3.c 2 rfl; have s3 := k3.c 3 rfl; have s4 := k3.c 4 rfl
    go_upto_region 8 with fail
    rw [← hu3]
    clear hu3
    by_cases h0 : K = 0
    case pos =>
      have E := Lib.hid (show opC zs id t md rn sl mb = 0 from HE3.out.trans (if_pos (.inl h0)))
      have hkb : ((K : Int) != 0) = false := by simp [h0]
      clear h0
      have y0 := q3.free 0; have y1 := q3.free 1; have y2 := q3.free 2; have y3 := q3.free 3; have y4 := q3.free 4; have y5 := q3.free 5; have y6 := q3.free 6; have y7 := q3.free 7
      have e0 := q3.c 0 rfl; have e1 := q3.c 1 rfl; have e2 := q3.c 2 rfl; have e3 := q3.c 3 rfl; have e4 := q3.c 4 rfl; have e5 := q3.c 5 rfl; have e6 := q3.c 6 rfl; have e7 := q3.c 7 rfl
      go_wp2_with (go_at_call 145; refine (sHasSt_is hkb _).mono ?_; rintro e w9 ⟨rfl, rfl⟩)
      refine bp_forget (fun v => KO 48 2 v (w.heap.size + 1) [.int .i64 (K : Nat), .int .i64 f1, .int .i64 f2, .int .i64 f3, .int .i64 f4, .int .i64 f5, .int .i64 f6, .slice A3 n3 c3] w.heap.size A3 n3 c3 (bdt bd) ∧ Below w.heap.size w v) ⟨(((((((((show KO 48 2 _ _ _ _ _ _ _ _ from ⟨q3, OW.out⟩).set (by decide) 0 _).set (by decide) 1 _).set (by decide) 2 _).set (by decide) 3 _).set (by decide) 4 _).set (by decide) 5 _).set (by decide) 6 _).set (by decide) 7 _), by go_grown⟩ ?_
      rintro v9 ⟨ko9, gb9⟩
      have OW9 := ko9.2
      have d0 := ko9.1.c 0 rfl; have d1 := ko9.1.c 1 rfl; have d2 := ko9.1.c 2 rfl; have d3 := ko9.1.c 3 rfl; have d4 := ko9.1.c 4 rfl; have d5 := ko9.1.c 5 rfl; have d6 := ko9.1.c 6 rfl; have d7 := ko9.1.c 7 rfl
      exact bodyPost_ret (v := .tuple #[.agg #[.int .i64 (K : Nat), .int .i64 f1, .int .i64 f2, .int .i64 f3, .int .i64 f4, .int .i64 f5, .int .i64 f6, .slice A3 n3 c3], .int .i64 0]) (by simp [results, Tryz.results136, go_sem, d0, d1, d2, d3, d4, d5, d6, d7]) rfl (by rw [E.out]; exact OF_ok A3 n3 c3 (by rw [HBD.out]; exact HF.out) (by rw [HBD.out]; exact OW9) gb9 _ rfl)
    case neg =>
      have hkb : ((K : Int) != 0) = true := by simp [h0]
      rcases st_cases f2 (t : Nat) f3 (md : Nat) f4 (rn : Nat) f5 (sl : Nat) f6 (mb : Nat) with ⟨e1, es⟩ | ⟨e1, e2, es⟩ | ⟨e1, e2, e3, es⟩ | ⟨e1, e2, e3, e4, es⟩ | ⟨e1, e2, e3, e4, e5, es⟩ | ⟨e1, e2, e3, e4, e5, es⟩
      · have hes := es
        obtain ⟨-, -, hf2, hf3, hf4, hf5, hf6⟩ := HF.out
        have E := Lib.hid (show opC zs id t md rn sl mb = 5 from HE3.out.trans (if_neg (fun e => by have := of_decide_eq_false hes; omega)))
        clear hes es hf2 hf3 hf4 hf5 hf6
        have y0 := q3.free 0; have y1 := q3.free 1; have y2 := q3.free 2; have y3 := q3.free 3; have y4 := q3.free 4; have y5 := q3.free 5; have y6 := q3.free 6; have y7 := q3.free 7
        have e0 := q3.c 0 rfl; have e1 := q3.c 1 rfl; have e2 := q3.c 2 rfl; have e3 := q3.c 3 rfl; have e4 := q3.c 4 rfl; have e5 := q3.c 5 rfl; have e6 := q3.c 6 rfl; have e7 := q3.c 7 rfl
        go_wp2_with (go_at_call 145; refine (sHasSt_is hkb _).mono ?_; rintro e w9 ⟨rfl, rfl⟩)
        refine bp_forget (fun v => BlkL v (w.heap.size + 1) 48 [.int .i64 0, .int .i64 0, .int .i64 0, .int .i64 0, .int .i64 0, .int .i64 0, .int .i64 0, .slice none 0 0] ∧ Below w.heap.size w v) ⟨((((((((q3.set 0 _).set 1 _).set 2 _).set 3 _).set 4 _).set 5 _).set 6 _).set 7 _), by go_grown⟩ ?_
        rintro v9 ⟨ko9, gb9⟩
        have d0 := ko9.c 0 rfl; have d1 := ko9.c 1 rfl; have d2 := ko9.c 2 rfl; have d3 := ko9.c 3 rfl; have d4 := ko9.c 4 rfl; have d5 := ko9.c 5 rfl; have d6 := ko9.c 6 rfl; have d7 := ko9.c 7 rfl
        exact bodyPost_ret (v := .tuple #[.agg #[.int .i64 0, .int .i64 0, .int .i64 0, .int .i64 0, .int .i64 0, .int .i64 0, .int .i64 0, .slice none 0 0], .int .i64 5]) (by simp [results, Tryz.results136, go_sem, d0, d1, d2, d3, d4, d5, d6, d7]) rfl (by rw [E.out]; exact OF_zero (by decide) gb9 _ rfl)
      · have hes := es
        obtain ⟨-, -, hf2, hf3, hf4, hf5, hf6⟩ := HF.out
        have E := Lib.hid (show opC zs id t md rn sl mb = 5 from HE3.out.trans (if_neg (fun e => by have := of_decide_eq_false hes; omega)))
        clear hes es hf2 hf3 hf4 hf5 hf6
        have y0 := q3.free 0; have y1 := q3.free 1; have y2 := q3.free 2; have y3 := q3.free 3; have y4 := q3.free 4; have y5 := q3.free 5; have y6 := q3.free 6; have y7 := q3.free 7
        have e0 := q3.c 0 rfl; have e1 := q3.c 1 rfl; have e2 := q3.c 2 rfl; have e3 := q3.c 3 rfl; have e4 := q3.c 4 rfl; have e5 := q3.c 5 rfl; have e6 := q3.c 6 rfl; have e7 := q3.c 7 rfl
        go_wp2_with (go_at_call 145; refine (sHasSt_is hkb _).mono ?_; rintro e w9 ⟨rfl, rfl⟩)
        refine bp_forget (fun v => BlkL v (w.heap.size + 1) 48 [.int .i64 0, .int .i64 0, .int .i64 0, .int .i64 0, .int .i64 0, .int .i64 0, .int .i64 0, .slice none 0 0] ∧ Below w.heap.size w v) ⟨((((((((q3.set 0 _).set 1 _).set 2 _).set 3 _).set 4 _).set 5 _).set 6 _).set 7 _), by go_grown⟩ ?_
        rintro v9 ⟨ko9, gb9⟩
        have d0 := ko9.c 0 rfl; have d1 := ko9.c 1 rfl; have d2 := ko9.c 2 rfl; have d3 := ko9.c 3 rfl; have d4 := ko9.c 4 rfl; have d5 := ko9.c 5 rfl; have d6 := ko9.c 6 rfl; have d7 := ko9.c 7 rfl
        exact bodyPost_ret (v := .tuple #[.agg #[.int .i64 0, .int .i64 0, .int .i64 0, .int .i64 0, .int .i64 0, .int .i64 0, .int .i64 0, .slice none 0 0], .int .i64 5]) (by simp [results, Tryz.results136, go_sem, d0, d1, d2, d3, d4, d5, d6, d7]) rfl (by rw [E.out]; exact OF_zero (by decide) gb9 _ rfl)
      · have hes := es
        obtain ⟨-, -, hf2, hf3, hf4, hf5, hf6⟩ := HF.out
        have E := Lib.hid (show opC zs id t md rn sl mb = 5 from HE3.out.trans (if_neg (fun e => by have := of_decide_eq_false hes; omega)))
        clear hes es hf2 hf3 hf4 hf5 hf6
        have y0 := q3.free 0; have y1 := q3.free 1; have y2 := q3.free 2; have y3 := q3.free 3; have y4 := q3.free 4; have y5 := q3.free 5; have y6 := q3.free 6; have y7 := q3.free 7
        have e0 := q3.c 0 rfl; have e1 := q3.c 1 rfl; have e2 := q3.c 2 rfl; have e3 := q3.c 3 rfl; have e4 := q3.c 4 rfl; have e5 := q3.c 5 rfl; have e6 := q3.c 6 rfl; have e7 := q3.c 7 rfl
        go_wp2_with (go_at_call 145; refine (sHasSt_is hkb _).mono ?_; rintro e w9 ⟨rfl, rfl⟩)
        refine bp_forget (fun v => BlkL v (w.heap.size + 1) 48 [.int .i64 0, .int .i64 0, .int .i64 0, .int .i64 0, .int .i64 0, .int .i64 0, .int .i64 0, .slice none 0 0] ∧ Below w.heap.size w v) ⟨((((((((q3.set 0 _).set 1 _).set 2 _).set 3 _).set 4 _).set 5 _).set 6 _).set 7 _), by go_grown⟩ ?_
        rintro v9 ⟨ko9, gb9⟩
        have d0 := ko9.c 0 rfl; have d1 := ko9.c 1 rfl; have d2 := ko9.c 2 rfl; have d3 := ko9.c 3 rfl; have d4 := ko9.c 4 rfl; have d5 := ko9.c 5 rfl; have d6 := ko9.c 6 rfl; have d7 := ko9.c 7 rfl
        exact bodyPost_ret (v := .tuple #[.agg #[.int .i64 0, .int .i64 0, .int .i64 0, .int .i64 0, .int .i64 0, .int .i64 0, .int .i64 0, .slice none 0 0], .int .i64 5]) (by simp [results, Tryz.results136, go_sem, d0, d1, d2, d3, d4, d5, d6, d7]) rfl (by rw [E.out]; exact OF_zero (by decide) gb9 _ rfl)
      · have hes := es
        obtain ⟨-, -, hf2, hf3, hf4, hf5, hf6⟩ := HF.out
        have E := Lib.hid (show opC zs id t md rn sl mb = 5 from HE3.out.trans (if_neg (fun e => by have := of_decide_eq_false hes; omega)))
        clear hes es hf2 hf3 hf4 hf5 hf6
        have y0 := q3.free 0; have y1 := q3.free 1; have y2 := q3.free 2; have y3 := q3.free 3; have y4 := q3.free 4; have y5 := q3.free 5; have y6 := q3.free 6; have y7 := q3.free 7
        have e0 := q3.c 0 rfl; have e1 := q3.c 1 rfl; have e2 := q3.c 2 rfl; have e3 := q3.c 3 rfl; have e4 := q3.c 4 rfl; have e5 := q3.c 5 rfl; have e6 := q3.c 6 rfl; have e7 := q3.c 7 rfl
        go_wp2_with (go_at_call 145; refine (sHasSt_is hkb _).mono ?_; rintro e w9 ⟨rfl, rfl⟩)
        refine bp_forget (fun v => BlkL v (w.heap.size + 1) 48 [.int .i64 0, .int .i64 0, .int .i64 0, .int .i64 0, .int .i64 0, .int .i64 0, .int .i64 0, .slice none 0 0] ∧ Below w.heap.size w v) ⟨((((((((q3.set 0 _).set 1 _).set 2 _).set 3 _).set 4 _).set 5 _).set 6 _).set 7 _), by go_grown⟩ ?_
        rintro v9 ⟨ko9, gb9⟩
        have d0 := ko9.c 0 rfl; have d1 := ko9.c 1 rfl; have d2 := ko9.c 2 rfl; have d3 := ko9.c 3 rfl; have d4 := ko9.c 4 rfl; have d5 := ko9.c 5 rfl; have d6 := ko9.c 6 rfl; have d7 := ko9.c 7 rfl
        exact bodyPost_ret (v := .tuple #[.agg #[.int .i64 0, .int .i64 0, .int .i64 0, .int .i64 0, .int .i64 0, .int .i64 0, .int .i64 0, .slice none 0 0], .int .i64 5]) (by simp [results, Tryz.results136, go_sem, d0, d1, d2, d3, d4, d5, d6, d7]) rfl (by rw [E.out]; exact OF_zero (by decide) gb9 _ rfl)
      · have hes := es
        obtain ⟨-, -, hf2, hf3, hf4, hf5, hf6⟩ := HF.out
        have E := Lib.hid (show opC zs id t md rn sl mb = 5 from HE3.out.trans (if_neg (fun e => by have := of_decide_eq_false hes; omega)))
        clear hes es hf2 hf3 hf4 hf5 hf6
        have y0 := q3.free 0; have y1 := q3.free 1; have y2 := q3.free 2; have y3 := q3.free 3; have y4 := q3.free 4; have y5 := q3.free 5; have y6 := q3.free 6; have y7 := q3.free 7
        have e0 := q3.c 0 rfl; have e1 := q3.c 1 rfl; have e2 := q3.c 2 rfl; have e3 := q3.c 3 rfl; have e4 := q3.c 4 rfl; have e5 := q3.c 5 rfl; have e6 := q3.c 6 rfl; have e7 := q3.c 7 rfl
        go_wp2_with (go_at_call 145; refine (sHasSt_is hkb _).mono ?_; rintro e w9 ⟨rfl, rfl⟩)
        refine bp_forget (fun v => BlkL v (w.heap.size + 1) 48 [.int .i64 0, .int .i64 0, .int .i64 0, .int .i64 0, .int .i64 0, .int .i64 0, .int .i64 0, .slice none 0 0] ∧ Below w.heap.size w v) ⟨((((((((q3.set 0 _).set 1 _).set 2 _).set 3 _).set 4 _).set 5 _).set 6 _).set 7 _), by go_grown⟩ ?_
        rintro v9 ⟨ko9, gb9⟩
        have d0 := ko9.c 0 rfl; have d1 := ko9.c 1 rfl; have d2 := ko9.c 2 rfl; have d3 := ko9.c 3 rfl; have d4 := ko9.c 4 rfl; have d5 := ko9.c 5 rfl; have d6 := ko9.c 6 rfl; have d7 := ko9.c 7 rfl
        exact bodyPost_ret (v := .tuple #[.agg #[.int .i64 0, .int .i64 0, .int .i64 0, .int .i64 0, .int .i64 0, .int .i64 0, .int .i64 0, .slice none 0 0], .int .i64 5]) (by simp [results, Tryz.results136, go_sem, d0, d1, d2, d3, d4, d5, d6, d7]) rfl (by rw [E.out]; exact OF_zero (by decide) gb9 _ rfl)
      · have hes := es
        obtain ⟨-, -, hf2, hf3, hf4, hf5, hf6⟩ := HF.out
        have E := Lib.hid (show opC zs id t md rn sl mb = 0 from HE3.out.trans (if_pos (.inr (by have := of_decide_eq_true hes; omega))))
        clear hes es hf2 hf3 hf4 hf5 hf6
        have y0 := q3.free 0; have y1 := q3.free 1; have y2 := q3.free 2; have y3 := q3.free 3; have y4 := q3.free 4; have y5 := q3.free 5; have y6 := q3.free 6; have y7 := q3.free 7
        have e0 := q3.c 0 rfl; have e1 := q3.c 1 rfl; have e2 := q3.c 2 rfl; have e3 := q3.c 3 rfl; have e4 := q3.c 4 rfl; have e5 := q3.c 5 rfl; have e6 := q3.c 6 rfl; have e7 := q3.c 7 rfl
        go_wp2_with (go_at_call 145; refine (sHasSt_is hkb _).mono ?_; rintro e w9 ⟨rfl, rfl⟩)
        refine bp_forget (fun v => KO 48 2 v (w.heap.size + 1) [.int .i64 (K : Nat), .int .i64 f1, .int .i64 f2, .int .i64 f3, .int .i64 f4, .int .i64 f5, .int .i64 f6, .slice A3 n3 c3] w.heap.size A3 n3 c3 (bdt bd) ∧ Below w.heap.size w v) ⟨(((((((((show KO 48 2 _ _ _ _ _ _ _ _ from ⟨q3, OW.out⟩).set (by decide) 0 _).set (by decide) 1 _).set (by decide) 2 _).set (by decide) 3 _).set (by decide) 4 _).set (by decide) 5 _).set (by decide) 6 _).set (by decide) 7 _), by go_grown⟩ ?_
        rintro v9 ⟨ko9, gb9⟩
        have OW9 := ko9.2
        have d0 := ko9.1.c 0 rfl; have d1 := ko9.1.c 1 rfl; have d2 := ko9.1.c 2 rfl; have d3 := ko9.1.c 3 rfl; have d4 := ko9.1.c 4 rfl; have d5 := ko9.1.c 5 rfl; have d6 := ko9.1.c 6 rfl; have d7 := ko9.1.c 7 rfl
        exact bodyPost_ret (v := .tuple #[.agg #[.int .i64 (K : Nat), .int .i64 f1, .int .i64 f2, .int .i64 f3, .int .i64 f4, .int .i64 f5, .int .i64 f6, .slice A3 n3 c3], .int .i64 0]) (by simp [results, Tryz.results136, go_sem, d0, d1, d2, d3, d4, d5, d6, d7]) rfl (by rw [E.out]; exact OF_ok A3 n3 c3 (by rw [HBD.out]; exact HF.out) (by rw [HBD.out]; exact OW9) gb9 _ rfl)

end Go.Proofs.YtjgmpiefndbnaaaGreatDoor
