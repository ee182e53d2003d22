/- Walks, laws and small notions for the claims of this seat, several texts as one (Og3). Conditions: as each theorem states them. -/
import Derived.Test.YtjgmpiefndbnaaaGreatDoorB35
namespace Go.Proofs.YtjgmpiefndbnaaaGreatDoor
open Go.RowKit
set_option maxRecDepth 200000 in
set_option maxHeartbeats 16000000 in
theorem iFrm_k2 (A : Option Addr) (n c : Nat) (zs : List Int) (w : World) (h : SL w A n c zs) (hn : n ≤ 1048576) (hz : allR zs 0 255 = true) (hcs : ¬ bk zs = 0) (hc2 : ¬ bk zs = 2) :
    Calls Tryz.prog 188 #[.slice A n c] w (RetFB w zs) := by
  have HCS := Lib.hid hcs
  clear hcs
  have HC2 := Lib.hid hc2
  clear hc2
  have L := Lib.hid h.ri.len
  obtain ⟨w0, hw0⟩ : ∃ v, v = w.alloc (.cells #[.int .i64 0, .int .i64 0, .int .i64 0, .int .i64 0, .int .i64 0, .int .i64 0, .int .i64 0, .slice none 0 0] 48) := ⟨_, rfl⟩
  have q0 : BlkL w0 w.heap.size 48 [.int .i64 0, .int .i64 0, .int .i64 0, .int .i64 0, .int .i64 0, .int .i64 0, .int .i64 0, .slice none 0 0] := by rw [hw0]; exact BlkL.new _ _ _ rfl
  have gb0 : Below w.heap.size w w0 := by rw [hw0]; go_grown
  have HSZ := Lib.hid (show w0.heap.size = w.heap.size + 1 by rw [hw0]; simp)
  rcases Nat.eq_zero_or_pos n with hn0 | hn0
  · have E := Lib.hid (bok_nil (zs := zs) (by rw [L.out]; exact hn0))
    subst hn0
    go_enter Tryz.func188, Tryz.ntmps188
    go_upto_region 1 with fail
    rw [← hw0]
    clear hw0
    have y0 := q0.free 0; have y1 := q0.free 1; have y2 := q0.free 2; have y3 := q0.free 3; have y4 := q0.free 4; have y5 := q0.free 5; have y6 := q0.free 6; have y7 := q0.free 7
    have e0 := q0.c 0 rfl; have e1 := q0.c 1 rfl; have e2 := q0.c 2 rfl; have e3 := q0.c 3 rfl; have e4 := q0.c 4 rfl; have e5 := q0.c 5 rfl; have e6 := q0.c 6 rfl; have e7 := q0.c 7 rfl
    go_wp2_with fail
    refine bp_forget (fun v => BlkL v w.heap.size 48 [.int .i64 0, .int .i64 0, .int .i64 0, .int .i64 0, .int .i64 0, .int .i64 0, .int .i64 0, .slice none 0 0] ∧ Below w.heap.size w v) ⟨((((((((q0.set 0 _).set 1 _).set 2 _).set 3 _).set 4 _).set 5 _).set 6 _).set 7 _), by go_grown⟩ ?_
    rintro v9 ⟨ko9, gb9⟩
    have d0 := ko9.c 0 rfl; have d1 := ko9.c 1 rfl; have d2 := ko9.c 2 rfl; have d3 := ko9.c 3 rfl; have d4 := ko9.c 4 rfl; have d5 := ko9.c 5 rfl; have d6 := ko9.c 6 rfl; have d7 := ko9.c 7 rfl
    exact bodyPost_ret (v := .tuple #[.agg #[.int .i64 0, .int .i64 0, .int .i64 0, .int .i64 0, .int .i64 0, .int .i64 0, .int .i64 0, .slice none 0 0], .bool false]) (by simp [results, Tryz.results188, go_sem, d0, d1, d2, d3, d4, d5, d6, d7]) rfl (⟨none, 0, 0, 0, 0, 0, 0, 0, 0, 0, by rw [E.out], gb9, fun hq => absurd (hq.symm.trans E.out) (by decide)⟩)
  obtain ⟨b, o, rfl, hbl, hcl⟩ := h.ri.get hn0
  have hc0 := hcl 0 hn0
  obtain ⟨hH0, hH1, hk, hr, hk3, hr7⟩ := head_eq (zs := zs) (by rw [L.out]; exact hn0) hz
  have hle := h.le
  have hcap := h.cap
  unfold maxLen at hcap
  have HL := Lib.hid h
  have BN0 := Lib.hid (bok_no0 (zs := zs))
  have BN2 := Lib.hid (bok_no2 (zs := zs))
  have BSH := Lib.hid (bok_short (zs := zs))
  have BEQ := Lib.hid (bok_eq (zs := zs) (by rw [L.out]; exact hn0))
  have BQN := Lib.hid (bq_none (zs := zs))
  have BQW := Lib.hid (bq_nw (zs := zs))
  have BQL := Lib.hid (bq_lt hz)
  have HZA := Lib.hid hz
  have BFR := Lib.hid (show bfr zs = isFrame (bk zs) (br zs) (bq zs 0 16) (bq zs 16 4) (bq zs 20 4) (bq zs 24 8) (bq zs 32 32) (bdt zs) from rfl)
  have BBD := Lib.hid (show bbd zs = bodyP (bk zs) (br zs) (bq zs 0 16) (bq zs 16 4) (bq zs 20 4) (bq zs 24 8) (bq zs 32 32) (bdt zs) from rfl)
  have BDT := Lib.hid (show bdt zs = (if bk zs = 0 then zs.drop 2 else if bk zs = 2 then zs.drop 10 else []) from rfl)
  obtain ⟨K, hK⟩ : ∃ x, bk zs = x := ⟨_, rfl⟩
  obtain ⟨Q, hQ⟩ : ∃ x, br zs = x := ⟨_, rfl⟩
  obtain ⟨H, hH⟩ : ∃ x, gi zs 0 = x := ⟨_, rfl⟩
  rw [hK] at hk hk3
  rw [hQ] at hr hr7
  rw [hH] at hH0 hH1 hk hr hc0
  have HK := Lib.hid hK
  have HQ := Lib.hid hQ
  clear hK hQ hH hcl hz h
  have hbl0 : b < w0.heap.size := by have := HSZ.out; omega
  have hz1 : w0.cell? ⟨b, o, none⟩ = some (.int .i64 H) := (Below.cell gb0 (p := ⟨b, o, none⟩) hbl).trans hc0
  have a0 : ∀ ob, (w0.alloc ob).cell? ⟨b, o, none⟩ = some (.int .i64 H) := fun ob => (Below.cell (below_alloc (Below.refl w0.heap.size w0) (Nat.le_refl _) ob) (p := ⟨b, o, none⟩) hbl0).trans hz1
  have hn1 : (1 : Int) ≤ (n : Int) := by omega
  have hnb : ((n : Int) == 0) = false := by simp; omega
  have hnp : (0 : Int) < (n : Int) := by omega
  have ht1 : H.tdiv 64 = (K : Int) := by rw [Int.tdiv_eq_ediv_of_nonneg hH0]; exact hk
  have ht2 : (H / 8).tmod 8 = (Q : Int) := by rw [Int.tmod_eq_emod_of_nonneg (by omega)]; exact hr
  have ht3 : H.tdiv 8 = H / 8 := Int.tdiv_eq_ediv_of_nonneg hH0
  go_enter Tryz.func188, Tryz.ntmps188
  go_upto_region 3 with fail
  rw [← hw0]
  clear hw0 hc0
  go_cut [4, 5] (fun v v5 wc => v = .pointer (some ⟨w0.heap.size, 0, none⟩) ∧ BlkL wc w0.heap.size 48 [.int .i64 (K : Nat), .int .i64 (Q : Nat), .int .i64 0, .int .i64 0, .int .i64 0, .int .i64 0, .int .i64 0, .slice none 0 0] ∧ Below w0.heap.size w0 wc ∧ ∃ A1 c1, v5 = .slice A1 (n - 1) c1 ∧ SL w A1 (n - 1) c1 (zs.drop 1))
  case first =>
    clear BN0 BN2 BSH BEQ BQN BQW BQL BFR BBD BDT HK HQ
    rcases (show c = 1 ∨ ¬ c = 1 by omega) with rfl | hc1
    all_goals
      go_region
      all_goals
        go_wp2_with fail
        go_meet
        first
        | exact ⟨rfl, by first | exact (BlkL.new _ _ _ rfl).drew | exact BlkL.new _ _ _ rfl, by go_grown, _, _, rfl, HL.out.suf (k := 1) (by omega)⟩
        | exact ⟨rfl, by first | exact (BlkL.new _ _ _ rfl).drew | exact BlkL.new _ _ _ rfl, by go_grown, some ⟨b, o, none⟩, 0, congrArg (fun q => Value.slice (some ⟨b, o, none⟩) q 0) (show 0 = n - 1 from by omega), HL.out.end (k := 1) (by omega) (by omega) (fun e => by cases e) (Nat.zero_le _)⟩
  case rest =>
    obtain ⟨rfl, f1, hbc, A1, c1, rfl, SL1⟩ := hcut
    obtain ⟨w1, hw1⟩ : ∃ v, v = wc := ⟨_, rfl⟩
    rw [← hw1] at f1 hbc ⊢
    clear hw1
    have q1 := q0.next hbc
    have gb1 := below_next hbc gb0 (Nat.le_refl _)
    obtain ⟨g, hg⟩ : ∃ x, w0.heap.size = x := ⟨_, rfl⟩
    rw [hg] at f1 ⊢
    have hgq : w.heap.size < g := by have := HSZ.out; omega
    clear q0 gb0 hz1 a0 hbl0 hbc hg HSZ ht1 ht2 ht3 hk hr hH0 hH1
    have S5 := Lib.hid SL1
    have hle5 := SL1.le
    have hcap5 := SL1.cap
    unfold maxLen at hcap5
    clear SL1
    obtain ⟨n5, hn5⟩ : ∃ x, n - 1 = x := ⟨_, rfl⟩
    rw [hn5] at S5 hle5 ⊢
    obtain ⟨zs5, hzs5⟩ : ∃ x, zs.drop 1 = x := ⟨_, rfl⟩
    rw [hzs5] at S5
    have HZ5 := Lib.hid hzs5
    clear hzs5
    by_cases h0 : K = 0
    case pos =>
      exact absurd (HK.out.trans h0) HCS.out
    case neg =>
      have hst : ((K : Int) != 0) = true := by simp [h0]
      have H0 := Lib.hid h0
      clear h0
      rcases Nat.lt_or_ge n5 8 with h8 | h8
      case inl =>
        have E := Lib.hid (BSH.out (by rw [HK.out]; exact H0.out) (by rw [L.out]; omega))
        have h8i : (n5 : Int) < 8 := by omega
        have x0 := f1.c 0 rfl; have x1 := f1.c 1 rfl; have x2 := f1.c 2 rfl; have x3 := f1.c 3 rfl; have x4 := f1.c 4 rfl; have x5 := f1.c 5 rfl; have x6 := f1.c 6 rfl; have x7 := f1.c 7 rfl
        have y0 := q1.free 0; have y1 := q1.free 1; have y2 := q1.free 2; have y3 := q1.free 3; have y4 := q1.free 4; have y5 := q1.free 5; have y6 := q1.free 6; have y7 := q1.free 7
        have e0 := q1.c 0 rfl; have e1 := q1.c 1 rfl; have e2 := q1.c 2 rfl; have e3 := q1.c 3 rfl; have e4 := q1.c 4 rfl; have e5 := q1.c 5 rfl; have e6 := q1.c 6 rfl; have e7 := q1.c 7 rfl
        go_wp2_with (go_at_call 142; refine (iHasSt_is hst _).mono ?_; rintro e w9 ⟨rfl, rfl⟩)
        refine bp_forget (fun v => BlkL v w.heap.size 48 [.int .i64 0, .int .i64 0, .int .i64 0, .int .i64 0, .int .i64 0, .int .i64 0, .int .i64 0, .slice none 0 0] ∧ Below w.heap.size w v) ⟨((((((((q1.set 0 _).set 1 _).set 2 _).set 3 _).set 4 _).set 5 _).set 6 _).set 7 _), by go_grown⟩ ?_
        rintro v9 ⟨ko9, gb9⟩
        have d0 := ko9.c 0 rfl; have d1 := ko9.c 1 rfl; have d2 := ko9.c 2 rfl; have d3 := ko9.c 3 rfl; have d4 := ko9.c 4 rfl; have d5 := ko9.c 5 rfl; have d6 := ko9.c 6 rfl; have d7 := ko9.c 7 rfl
        exact bodyPost_ret (v := .tuple #[.agg #[.int .i64 0, .int .i64 0, .int .i64 0, .int .i64 0, .int .i64 0, .int .i64 0, .int .i64 0, .slice none 0 0], .bool false]) (by simp [results, Tryz.results188, go_sem, d0, d1, d2, d3, d4, d5, d6, d7]) rfl (⟨none, 0, 0, 0, 0, 0, 0, 0, 0, 0, by rw [E.out], gb9, fun hq => absurd (hq.symm.trans E.out) (by decide)⟩)
      case inr =>
        have hnx0 := BQW.out (by rw [HK.out]; exact H0.out) 0 16
        have hX0 := BQL.out 0 16
        obtain ⟨X0, hx0⟩ : ∃ x, bq zs 0 16 = x := ⟨_, rfl⟩
        rw [hx0] at hnx0 hX0
        have EX0 := Lib.hid hx0
        have HN0 := Lib.hid hnx0
        replace hX0 : X0 < 4611686018427387904 := by omega
        clear hx0 hnx0
        have hnx1 := BQW.out (by rw [HK.out]; exact H0.out) 16 4
        have hX1 := BQL.out 16 4
        obtain ⟨X1, hx1⟩ : ∃ x, bq zs 16 4 = x := ⟨_, rfl⟩
        rw [hx1] at hnx1 hX1
        have EX1 := Lib.hid hx1
        have HN1 := Lib.hid hnx1
        replace hX1 : X1 < 4611686018427387904 := by omega
        clear hx1 hnx1
        have hnx2 := BQW.out (by rw [HK.out]; exact H0.out) 20 4
        have hX2 := BQL.out 20 4
        obtain ⟨X2, hx2⟩ : ∃ x, bq zs 20 4 = x := ⟨_, rfl⟩
        rw [hx2] at hnx2 hX2
        have EX2 := Lib.hid hx2
        have HN2 := Lib.hid hnx2
        replace hX2 : X2 < 4611686018427387904 := by omega
        clear hx2 hnx2
        have hnx3 := BQW.out (by rw [HK.out]; exact H0.out) 24 8
        have hX3 := BQL.out 24 8
        obtain ⟨X3, hx3⟩ : ∃ x, bq zs 24 8 = x := ⟨_, rfl⟩
        rw [hx3] at hnx3 hX3
        have EX3 := Lib.hid hx3
        have HN3 := Lib.hid hnx3
        replace hX3 : X3 < 4611686018427387904 := by omega
        clear hx3 hnx3
        have hnx4 := BQW.out (by rw [HK.out]; exact H0.out) 32 32
        have hX4 := BQL.out 32 32
        obtain ⟨X4, hx4⟩ : ∃ x, bq zs 32 32 = x := ⟨_, rfl⟩
        rw [hx4] at hnx4 hX4
        have EX4 := Lib.hid hx4
        have HN4 := Lib.hid hnx4
        replace hX4 : X4 < 4611686018427387904 := by omega
        clear hx4 hnx4
        have h8c : (8 : Int) ≤ (c1 : Int) := by omega
        have h8i : ¬ ((n5 : Int) < 8) := by omega
        have h8j : (8 : Int) ≤ (n5 : Int) := by omega
        have hr8 := Lib.hid (S5.out.ri.pre (k := 8) h8)
        have hz8 : allR ((zs.drop 1).take 8) 0 255 = true := allR_part HZA.out 1 8
        have HZB := Lib.hid (flat8_01 hz8)
        rw [HZ5.out] at hz8 HZB
        have HZ8 := Lib.hid hz8
        clear hz8
        have hp0 := HN0.out
        rw [HZ5.out] at hp0
        replace HN0 := Lib.hid hp0
        clear hp0
        have hp1 := HN1.out
        rw [HZ5.out] at hp1
        replace HN1 := Lib.hid hp1
        clear hp1
        have hp2 := HN2.out
        rw [HZ5.out] at hp2
        replace HN2 := Lib.hid hp2
        clear hp2
        have hp3 := HN3.out
        rw [HZ5.out] at hp3
        replace HN3 := Lib.hid hp3
        clear hp3
        have hp4 := HN4.out
        rw [HZ5.out] at hp4
        replace HN4 := Lib.hid hp4
        clear hp4
        have x0 := f1.c 0 rfl; have x1 := f1.c 1 rfl; have x2 := f1.c 2 rfl; have x3 := f1.c 3 rfl; have x4 := f1.c 4 rfl; have x5 := f1.c 5 rfl; have x6 := f1.c 6 rfl; have x7 := f1.c 7 rfl
        have z0 := f1.free 0; have z1 := f1.free 1; have z2 := f1.free 2; have z3 := f1.free 3; have z4 := f1.free 4; have z5 := f1.free 5; have z6 := f1.free 6; have z7 := f1.free 7
        go_upto_region 7 with (go_at_call 142; refine (iHasSt_is hst _).mono ?_; rintro e w9 ⟨rfl, rfl⟩)
        go_cut [] (fun wc => BlkL wc g 48 [.int .i64 (K : Nat), .int .i64 (Q : Nat), .int .i64 (X0 : Nat), .int .i64 (X1 : Nat), .int .i64 (X2 : Nat), .int .i64 (X3 : Nat), .int .i64 (X4 : Nat), .slice none 0 0] ∧ BlkL wc w.heap.size 48 [.int .i64 0, .int .i64 0, .int .i64 0, .int .i64 0, .int .i64 0, .int .i64 0, .int .i64 0, .slice none 0 0] ∧ Below w.heap.size w wc)
        case first =>
          clear BN0 BN2 BSH BEQ BQN BQW BQL BFR BBD BDT HK HQ
          go_wp2_with fail
          refine (iBits_at A1 8 c1 64 (zs5.take 8) rfl _ (hr8.out.up gb1) (by omega) HZ8.out).mono ?_
          rintro e w2 ⟨Ab, cb, rfl, ownb, hb2⟩
          have HO := Lib.hid ownb
          have f2 := f1.next hb2
          have q2 := q1.next hb2
          have gb2 := below_next hb2 gb1 (Nat.le_refl _)
          clear ownb hb2 x0 x1 x2 x3 x4 x5 x6 x7 z0 z1 z2 z3 z4 z5 z6 z7
          go_wp2_with fail
          refine (iStOf_any Ab 64 cb _ X0 X1 X2 X3 X4 _ HO.out.reads rfl HO.out.cap.1 HO.out.cap.2 HZB.out HN0.out HN1.out HN2.out HN3.out HN4.out).mono ?_
          rintro e w3 ⟨rfl, hb3⟩
          have f3 := f2.next hb3
          have q3 := q2.next hb3
          have gb3 := below_next hb3 gb2 (Nat.le_refl _)
          clear hb3
          have x0 := f3.c 0 rfl; have x1 := f3.c 1 rfl; have x2 := f3.c 2 rfl; have x3 := f3.c 3 rfl; have x4 := f3.c 4 rfl; have x5 := f3.c 5 rfl; have x6 := f3.c 6 rfl; have x7 := f3.c 7 rfl
          have z0 := f3.free 0; have z1 := f3.free 1; have z2 := f3.free 2; have z3 := f3.free 3; have z4 := f3.free 4; have z5 := f3.free 5; have z6 := f3.free 6; have z7 := f3.free 7
          go_wp2_with fail
          go_meet
          exact ⟨(((((f3.set 2 _).set 3 _).set 4 _).set 5 _).set 6 _), (((((q3.other (by show g ≠ _; omega) _).other (by show g ≠ _; omega) _).other (by show g ≠ _; omega) _).other (by show g ≠ _; omega) _).other (by show g ≠ _; omega) _), by go_grown⟩
        case rest =>
          obtain ⟨f6, q6, gb6⟩ := hcut
          obtain ⟨w6, hw6⟩ : ∃ v, v = wc := ⟨_, rfl⟩
          rw [← hw6] at f6 q6 gb6 ⊢
          clear hw6 f1 q1 gb1 hr8 HZB HZ8 HN0 HN1 HN2 HN3 HN4 x0 x1 x2 x3 x4 x5 x6 x7 z0 z1 z2 z3 z4 z5 z6 z7
          have f1 := f6
          have q1 := q6
          have gb1 := gb6
          have S4 := S5
          clear f6 q6 gb6 S5
          obtain ⟨b4, o4, hA4, hbl4, hcl4⟩ := S4.out.ri.get (by omega)
          subst hA4
          clear hcl4 hbl4
          go_upto_region 8 with fail
          go_cut [5] (fun v5 wc => w6 = wc ∧ ∃ A5 c5, v5 = .slice A5 (n5 - 8) c5 ∧ SL w A5 (n5 - 8) c5 (zs5.drop 8))
          case first =>
            clear BN0 BN2 BSH BEQ BQN BQW BQL BFR BBD BDT HK HQ
            rcases (show c1 = 8 ∨ ¬ c1 = 8 by omega) with rfl | hc1
            all_goals
              go_wp2_with fail
              go_meet
              first
              | exact ⟨rfl, _, _, rfl, S4.out.suf (k := 8) (by omega)⟩
              | exact ⟨rfl, some ⟨b4, o4, none⟩, 0, congrArg (fun q => Value.slice (some ⟨b4, o4, none⟩) q 0) (show 0 = n5 - 8 from by omega), S4.out.end (k := 8) (by omega) (by omega) (fun e => by cases e) (Nat.zero_le _)⟩
          case rest =>
            obtain ⟨rfl, A5, c5, rfl, SL5⟩ := hcut
            have S5 := Lib.hid SL5
            clear hle5 hcap5 S4
            have hle5 := SL5.le
            have hcap5 := SL5.cap
            unfold maxLen at hcap5
            clear SL5
            obtain ⟨zs4, hzs4⟩ : ∃ x, zs5.drop 8 = x := ⟨_, rfl⟩
            rw [hzs4] at S5
            have HZ4 := Lib.hid (show zs.drop 9 = zs4 by rw [← hzs4, ← HZ5.out, List.drop_drop])
            clear hzs4 HZ5
            have HZ5 := HZ4
            clear HZ4
            obtain ⟨n4, hn4⟩ : ∃ x, n5 - 8 = x := ⟨_, rfl⟩
            rw [hn4] at S5 hle5 ⊢
            -- names as in the other case
            have hn6 : n5 = n4 + 8 := by omega
            clear hn4
            by_cases h2 : K = 2
            case pos =>
              exact absurd (HK.out.trans h2) HC2.out
            case neg =>
              have hdt : ((K : Int) == 0 || (K : Int) == 2) = false := by have h0 := H0.out; simp [h0]; omega
              have H2 := Lib.hid h2
              clear h2
              have EDT := Lib.hid (show bdt zs = [] by rw [BDT.out, if_neg (by rw [HK.out]; exact H0.out), if_neg (by rw [HK.out]; exact H2.out)])
              have OW := Lib.hid (OwnI.nil 2 w6 w.heap.size)
              have HD := Lib.hid (show SL w6 none 0 0 [] from ⟨RI.nil _ _ _, fun _ => rfl, Nat.le_refl _, Nat.zero_le _⟩)
              have hisf := fun (u : World) (hu : RI u u.heap.size none 0 []) => iIsFrame_any (K : Nat) (Q : Nat) (X0 : Nat) (X1 : Nat) (X2 : Nat) (X3 : Nat) (X4 : Nat) none 0 0 [] u hu (by omega)
              have hbod := fun (u : World) (hu : RI u u.heap.size none 0 []) => iBod_any K Q X0 X1 X2 X3 X4 none 0 0 [] u hu HD.out.none (by omega) hk3 hr7 hX0 hX1 hX2 hX3 hX4
              obtain ⟨V, hV⟩ : ∃ x, isFrame (K : Nat) (Q : Nat) (X0 : Nat) (X1 : Nat) (X2 : Nat) (X3 : Nat) (X4 : Nat) [] = x := ⟨_, rfl⟩
              obtain ⟨BL, hBL⟩ : ∃ x, bodyP K Q X0 X1 X2 X3 X4 [] = x := ⟨_, rfl⟩
              obtain ⟨SB, hSB⟩ : ∃ x, eqI BL zs = x := ⟨_, rfl⟩
              have EB : bok zs = (V && SB) := by
                have e1 := BEQ.out (.inr (by rw [L.out]; omega))
                rw [BFR.out, BBD.out, HK.out, HQ.out, EDT.out, EX0.out, EX1.out, EX2.out, EX3.out, EX4.out] at e1
                rw [e1, ← hV, ← hSB, ← hBL]; rfl
              have HBL := Lib.hid (show BL.length ≤ 1048600 by rw [← hBL]; exact Nat.le_trans bodyP_len (by rw [HD.out.ri.len]; omega))
              rw [hV] at hisf
              rw [hBL] at hbod
              have HI := Lib.hid hisf
              have HB := Lib.hid hbod
              have E := Lib.hid EB
              have HSB := Lib.hid hSB
              clear hisf hbod EB hV hBL hSB
              cases V
              case false =>
                have E0 := Lib.hid (show bok zs = false from E.out.trans (Bool.false_and _))
                have x0 := f1.c 0 rfl; have x1 := f1.c 1 rfl; have x2 := f1.c 2 rfl; have x3 := f1.c 3 rfl; have x4 := f1.c 4 rfl; have x5 := f1.c 5 rfl; have x6 := f1.c 6 rfl; have x7 := f1.c 7 rfl
                go_wp2_with (go_at_call 215; refine (iHasDt_is hdt _).mono ?_; rintro e w9 ⟨rfl, rfl⟩)
                refine (HI.out _ HD.out.ri).mono ?_
                rintro e w2 ⟨rfl, hb2⟩
                have f2 := f1.next hb2
                have q2 := q1.next hb2
                have gb2 := below_next hb2 gb1 (Nat.le_refl _)
                have HD2 := Lib.hid (HD.out.next hb2)
                have HW2 := Lib.hid (OW.out.below hb2)
                clear hb2 f1 q1 gb1 x0 x1 x2 x3 x4 x5 x6 x7
                have x0 := f2.c 0 rfl; have x1 := f2.c 1 rfl; have x2 := f2.c 2 rfl; have x3 := f2.c 3 rfl; have x4 := f2.c 4 rfl; have x5 := f2.c 5 rfl; have x6 := f2.c 6 rfl; have x7 := f2.c 7 rfl
                have y0 := q2.free 0; have y1 := q2.free 1; have y2 := q2.free 2; have y3 := q2.free 3; have y4 := q2.free 4; have y5 := q2.free 5; have y6 := q2.free 6; have y7 := q2.free 7
                have e0 := q2.c 0 rfl; have e1 := q2.c 1 rfl; have e2 := q2.c 2 rfl; have e3 := q2.c 3 rfl; have e4 := q2.c 4 rfl; have e5 := q2.c 5 rfl; have e6 := q2.c 6 rfl; have e7 := q2.c 7 rfl
                go_wp2_with fail
                refine bp_forget (fun v => BlkL v w.heap.size 48 [.int .i64 0, .int .i64 0, .int .i64 0, .int .i64 0, .int .i64 0, .int .i64 0, .int .i64 0, .slice none 0 0] ∧ Below w.heap.size w v) ⟨((((((((q2.set 0 _).set 1 _).set 2 _).set 3 _).set 4 _).set 5 _).set 6 _).set 7 _), by go_grown⟩ ?_
                rintro v9 ⟨ko9, gb9⟩
                have d0 := ko9.c 0 rfl; have d1 := ko9.c 1 rfl; have d2 := ko9.c 2 rfl; have d3 := ko9.c 3 rfl; have d4 := ko9.c 4 rfl; have d5 := ko9.c 5 rfl; have d6 := ko9.c 6 rfl; have d7 := ko9.c 7 rfl
                exact bodyPost_ret (v := .tuple #[.agg #[.int .i64 0, .int .i64 0, .int .i64 0, .int .i64 0, .int .i64 0, .int .i64 0, .int .i64 0, .slice none 0 0], .bool false]) (by simp [results, Tryz.results188, go_sem, d0, d1, d2, d3, d4, d5, d6, d7]) rfl (⟨none, 0, 0, 0, 0, 0, 0, 0, 0, 0, by rw [E0.out], gb9, fun hq => absurd (hq.symm.trans E0.out) (by decide)⟩)
              case true =>
                have E0 := Lib.hid (show bok zs = SB from E.out.trans (Bool.true_and _))
                have x0 := f1.c 0 rfl; have x1 := f1.c 1 rfl; have x2 := f1.c 2 rfl; have x3 := f1.c 3 rfl; have x4 := f1.c 4 rfl; have x5 := f1.c 5 rfl; have x6 := f1.c 6 rfl; have x7 := f1.c 7 rfl
                go_wp2_with (go_at_call 215; refine (iHasDt_is hdt _).mono ?_; rintro e w9 ⟨rfl, rfl⟩)
                refine (HI.out _ HD.out.ri).mono ?_
                rintro e w2 ⟨rfl, hb2⟩
                have f2 := f1.next hb2
                have q2 := q1.next hb2
                have gb2 := below_next hb2 gb1 (Nat.le_refl _)
                have HD2 := Lib.hid (HD.out.next hb2)
                have HW2 := Lib.hid (OW.out.below hb2)
                clear hb2 f1 q1 gb1 x0 x1 x2 x3 x4 x5 x6 x7
                have x0 := f2.c 0 rfl; have x1 := f2.c 1 rfl; have x2 := f2.c 2 rfl; have x3 := f2.c 3 rfl; have x4 := f2.c 4 rfl; have x5 := f2.c 5 rfl; have x6 := f2.c 6 rfl; have x7 := f2.c 7 rfl
                go_wp2_with fail
                refine (HB.out _ HD2.out.ri).mono ?_
                rintro e w3 ⟨AB, nB, cB, rfl, ownB, hb3⟩
                have f3 := f2.next hb3
                have q3 := q2.next hb3
                have gb3 := below_next hb3 gb2 (Nat.le_refl _)
                have HW3 := Lib.hid (HW2.out.below hb3)
                have HO := Lib.hid ownB
                clear hb3 f2 q2 gb2 ownB x0 x1 x2 x3 x4 x5 x6 x7
                go_wp2_with fail
                refine (slicesEqual_any AB _ nB n cB c BL zs _ HO.out.reads (HL.out.next gb3).ri (by have h1 := HO.out.len; have h2 := HBL.out; omega) (by omega)).mono ?_
                rw [HSB.out]
                rintro e w4 ⟨rfl, hb4⟩
                have f4 := f3.next hb4
                have q4 := q3.next hb4
                have gb4 := below_next hb4 gb3 (Nat.le_refl _)
                have HW4 := Lib.hid (HW3.out.below hb4)
                clear hb4 f3 q3 gb3
                have x0 := f4.c 0 rfl; have x1 := f4.c 1 rfl; have x2 := f4.c 2 rfl; have x3 := f4.c 3 rfl; have x4 := f4.c 4 rfl; have x5 := f4.c 5 rfl; have x6 := f4.c 6 rfl; have x7 := f4.c 7 rfl
                cases SB
                case false =>
                  have y0 := q4.free 0; have y1 := q4.free 1; have y2 := q4.free 2; have y3 := q4.free 3; have y4 := q4.free 4; have y5 := q4.free 5; have y6 := q4.free 6; have y7 := q4.free 7
                  have e0 := q4.c 0 rfl; have e1 := q4.c 1 rfl; have e2 := q4.c 2 rfl; have e3 := q4.c 3 rfl; have e4 := q4.c 4 rfl; have e5 := q4.c 5 rfl; have e6 := q4.c 6 rfl; have e7 := q4.c 7 rfl
                  go_wp2_with fail
                  refine bp_forget (fun v => BlkL v w.heap.size 48 [.int .i64 0, .int .i64 0, .int .i64 0, .int .i64 0, .int .i64 0, .int .i64 0, .int .i64 0, .slice none 0 0] ∧ Below w.heap.size w v) ⟨((((((((q4.set 0 _).set 1 _).set 2 _).set 3 _).set 4 _).set 5 _).set 6 _).set 7 _), by go_grown⟩ ?_
                  rintro v9 ⟨ko9, gb9⟩
                  have d0 := ko9.c 0 rfl; have d1 := ko9.c 1 rfl; have d2 := ko9.c 2 rfl; have d3 := ko9.c 3 rfl; have d4 := ko9.c 4 rfl; have d5 := ko9.c 5 rfl; have d6 := ko9.c 6 rfl; have d7 := ko9.c 7 rfl
                  exact bodyPost_ret (v := .tuple #[.agg #[.int .i64 0, .int .i64 0, .int .i64 0, .int .i64 0, .int .i64 0, .int .i64 0, .int .i64 0, .slice none 0 0], .bool false]) (by simp [results, Tryz.results188, go_sem, d0, d1, d2, d3, d4, d5, d6, d7]) rfl (⟨none, 0, 0, 0, 0, 0, 0, 0, 0, 0, by rw [E0.out], gb9, fun hq => absurd (hq.symm.trans E0.out) (by decide)⟩)
                case true =>
                  have y0 := q4.free 0; have y1 := q4.free 1; have y2 := q4.free 2; have y3 := q4.free 3; have y4 := q4.free 4; have y5 := q4.free 5; have y6 := q4.free 6; have y7 := q4.free 7
                  have e0 := q4.c 0 rfl; have e1 := q4.c 1 rfl; have e2 := q4.c 2 rfl; have e3 := q4.c 3 rfl; have e4 := q4.c 4 rfl; have e5 := q4.c 5 rfl; have e6 := q4.c 6 rfl; have e7 := q4.c 7 rfl
                  go_wp2_with fail
                  refine bp_forget (fun v => KO 48 2 v w.heap.size [.int .i64 (K : Nat), .int .i64 (Q : Nat), .int .i64 (X0 : Nat), .int .i64 (X1 : Nat), .int .i64 (X2 : Nat), .int .i64 (X3 : Nat), .int .i64 (X4 : Nat), .slice none 0 0] w.heap.size (none) 0 0 [] ∧ Below w.heap.size w v) ⟨(((((((((show KO 48 2 _ _ _ _ _ _ _ _ from ⟨q4, HW4.out⟩).set (by decide) 0 _).set (by decide) 1 _).set (by decide) 2 _).set (by decide) 3 _).set (by decide) 4 _).set (by decide) 5 _).set (by decide) 6 _).set (by decide) 7 _), by go_grown⟩ ?_
                  rintro v9 ⟨ko9, gb9⟩
                  have OW9 := ko9.2
                  have d0 := ko9.1.c 0 rfl; have d1 := ko9.1.c 1 rfl; have d2 := ko9.1.c 2 rfl; have d3 := ko9.1.c 3 rfl; have d4 := ko9.1.c 4 rfl; have d5 := ko9.1.c 5 rfl; have d6 := ko9.1.c 6 rfl; have d7 := ko9.1.c 7 rfl
                  exact bodyPost_ret (v := .tuple #[.agg #[.int .i64 (K : Nat), .int .i64 (Q : Nat), .int .i64 (X0 : Nat), .int .i64 (X1 : Nat), .int .i64 (X2 : Nat), .int .i64 (X3 : Nat), .int .i64 (X4 : Nat), .slice none 0 0], .bool true]) (by simp [results, Tryz.results188, go_sem, d0, d1, d2, d3, d4, d5, d6, d7]) rfl (⟨_, _, _, _, _, _, _, _, _, _, by rw [E0.out], gb9, fun _ => ⟨by rw [HK.out], by rw [HQ.out], by rw [EX0.out], by rw [EX1.out], by rw [EX2.out], by rw [EX3.out], by rw [EX4.out], by rw [EDT.out]; exact OW9⟩⟩)

end Go.Proofs.YtjgmpiefndbnaaaGreatDoor
