/- The walk of the reference's ReadFault. Conditions: texts of at most 2^20 bytes. -/
import Derived.Test.YtojmikalnalfbaaGreatDoorTxPC
import Derived.Deep.DeepCutAuto
import Derived.Stop.LaidErr
namespace Go.Proofs.YtojmikalnalfbaaGreatDoor
open Go.Lib Go.RowKit

/-- a fault and whether it was read, as a result -/
def aggR (r : Flt × Bool) : Value := .tuple #[.agg #[.int .i64 r.1.kd, .int .i64 r.1.pos, .int .i64 r.1.len, .int .i64 r.1.val], .bool r.2]
theorem skip_word {L : List Int} {k : Int} {l w0 : List UInt8} {r : List (List UInt8)} (hs : spl 32 l = w0 :: r) (hne : fword k ≠ w0) (h : ftxt (fOf L k) = l) : l = [] := by
  unfold ftxt at h
  split at h
  · have e := spl_ftxt (fOf L k)
    rw [h, hs, List.cons.injEq] at e
    exact absurd e.1.symm hne
  · exact h.symm
theorem RE.tailS {w : World} {B g n : Nat} {bs : List ByteArray} (h : RE encS 1 w B (some ⟨g, 0, none⟩) n bs) (h1 : 1 ≤ n) : RE encS 1 w B (some ⟨g, 1, none⟩) (n - 1) bs.tail := by
  obtain ⟨hl, hg⟩ := h
  refine ⟨by rw [List.length_tail, hl], fun hn => ?_⟩
  obtain ⟨b, o, e, hb, hc⟩ := hg (by omega)
  have e2 := Option.some.inj e
  injection e2 with e3 e4
  subst e3; subst e4
  refine ⟨g, 1, rfl, hb, fun i hi j u hu => ?_⟩
  have hge : ge bs.tail i = ge bs (i + 1) := by
    cases bs with
    | nil => rw [List.length_nil] at hl; omega
    | cons a r => simp [ge]
  rw [hge] at hu
  have := hc (i + 1) (by omega) j u hu
  rw [show 1 + i * 1 + j = 0 + (i + 1) * 1 + j by omega]
  exact this
theorem OwnS.cap2 {T : TypeId} {w : World} {base n c : Nat} {A : Option Addr} {zs : List ByteArray} (h : OwnE encS 1 T w base A n c zs) : n ≤ c := by
  rcases h.2.2 with ⟨h1, h2⟩ | ⟨g, cap, cur, hv, _, _, hnc, hm, _⟩
  · injection h1 with _ h3 h4
    omega
  · injection hv with _ _ h3
    subst h3
    exact hnc
theorem RE.tail0 {w : World} {B n : Nat} {A A' : Option Addr} {bs : List ByteArray} (h : RE encS 1 w B A n bs) (h1 : n = 1) : RE encS 1 w B A' (n - 1) bs.tail :=
  ⟨by rw [List.length_tail, h.len], fun hn => by omega⟩
theorem dat_tail (bs : List ByteArray) : dat bs.tail = (dat bs).tail := by cases bs <;> rfl
theorem spl_len (c : UInt8) : ∀ l : List UInt8, (spl c l).length ≤ l.length + 1
  | [] => by simp [spl]
  | b :: l => by
    have ih := spl_len c l
    unfold spl
    split
    · rw [List.length_cons, List.length_cons]; omega
    · cases hs : spl c l with
      | nil => simp
      | cons p ps => rw [hs] at ih; simp only [List.length_cons] at ih ⊢; omega
theorem spl_mem_len (c : UInt8) : ∀ l : List UInt8, ∀ p ∈ spl c l, p.length ≤ l.length
  | [], p, h => by simp [spl] at h; subst h; simp
  | b :: l, p, h => by
    have ih := spl_mem_len c l
    unfold spl at h
    split at h
    · rw [List.mem_cons] at h
      rcases h with rfl | h
      · simp
      · have := ih p h; rw [List.length_cons]; omega
    · cases hs : spl c l with
      | nil => rw [hs] at h; simp at h; subst h; simp
      | cons q qs =>
        rw [hs] at h ih
        rw [List.mem_cons] at h
        rcases h with rfl | h
        · have := ih q (by simp); simp only [List.length_cons]; omega
        · have := ih p (by simp [h]); rw [List.length_cons]; omega
theorem pieces_ok {bs : List ByteArray} {m : Nat} (h : ∀ p ∈ dat bs, p.length ≤ m) (hm : m ≤ maxLen) : ∀ i, i < bs.length → (ge bs i).size ≤ maxLen := by
  intro i hi
  have := h (ge bs i).data.toList (List.mem_map.2 ⟨_, mem_ge hi, rfl⟩)
  rw [Lib.size_eq]; omega
theorem below_set4 {B g : Nat} {w wc : World} (h : Below B w wc) (hg : B ≤ g) (a b c d : Value) :
    Below B w ((((wc.setCell ⟨g, 0, none⟩ a).setCell ⟨g, 1, none⟩ b).setCell ⟨g, 2, none⟩ c).setCell ⟨g, 3, none⟩ d) :=
  (((h.setCell (p := ⟨g, 0, none⟩) hg a).setCell (p := ⟨g, 1, none⟩) hg b).setCell (p := ⟨g, 2, none⟩) hg c).setCell (p := ⟨g, 3, none⟩) hg d
theorem RI.two (w : World) (T : TypeId) : RI (w.alloc (.cells #[.int .i64 0, .int .i64 0] T)) (w.heap.size + 1) (some ⟨w.heap.size, 0, none⟩) 2 [0, 0] := by
  refine ⟨rfl, fun _ => ⟨w.heap.size, 0, rfl, by omega, fun i hi => ?_⟩⟩
  rcases (by omega : i = 0 ∨ i = 1) with rfl | rfl
  · exact (BlkL.new w T #[.int .i64 0, .int .i64 0] rfl).c 0 rfl
  · exact (BlkL.new w T #[.int .i64 0, .int .i64 0] rfl).c 1 rfl

set_option maxRecDepth 20000 in
set_option maxHeartbeats 16000000 in
theorem sReadFault_any (s : ByteArray) (w : World) (hs : s.size ≤ 1048576) :
    Calls Tryz.prog 14 #[.string s] w (RetV w (aggR (rdF s.data.toList))) := by
  obtain ⟨u1, hu1⟩ : ∃ X, w.alloc (.cells #[.int .i64 0, .int .i64 0, .int .i64 0, .int .i64 0] 26) = X := ⟨_, rfl⟩
  have K := Lib.hid (show BlkL u1 w.heap.size 26 [.int .i64 0, .int .i64 0, .int .i64 0, .int .i64 0] from hu1 ▸ BlkL.new w _ _ rfl)
  have B := Lib.hid (show Below w.heap.size w u1 from hu1 ▸ below_alloc (Below.refl _ _) (Nat.le_refl _) _)
  have HU := Lib.hid hu1
  clear hu1
  go_enter Tryz.func14, Tryz.ntmps14
  go_wp2_with (rw [HU.out])
  refine (l01Split_any s 32 _ (by omega)).mono ?_
  rintro e w1 ⟨A, n, c, bs, rfl, hown, hbs, hb⟩
  have hn1 : 1 ≤ n := by
    have h1 := hown.len
    rcases Nat.eq_zero_or_pos n with h0 | h0
    · subst h0
      rw [List.length_eq_zero_iff.1 h1] at hbs
      exact absurd hbs.symm (spl_ne _ _)
    · exact h0
  obtain ⟨g, rfl, hg1, hg2⟩ := hown.form hn1
  replace K := Lib.hid (K.out.next hb)
  replace B := Lib.hid (below_next hb B.out (Nat.le_refl _))
  have O := Lib.hid hown
  have D := Lib.hid hbs
  clear hb hown hbs HU
  have hcap := OwnS.cap2 O.out
  obtain ⟨y0, hy0⟩ : ∃ y, ge bs 0 = y := ⟨_, rfl⟩
  have CG := Lib.hid (show w1.cell? ⟨g, 0, none⟩ = some (.string y0) by
    have hc := O.out.cell encS_len (i := 0) (j := 0) (by omega) (by omega)
    rw [hy0] at hc
    exact hc)
  have HSP := Lib.hid (show ∃ r, spl 32 s.data.toList = y0.data.toList :: r by
    rw [← D.out, ← hy0]
    have hl := O.out.len
    cases bs with
    | nil => rw [List.length_nil] at hl; omega
    | cons a r => exact ⟨dat r, rfl⟩)
  have K1 := Lib.hid K.out
  have B1 := Lib.hid B.out
  clear hy0
  have hR := Lib.hid (O.out.reads encS_len)
  have hn2 : n ≤ 1048577 := by
    have h1 := spl_len 32 s.data.toList
    have h2 := O.out.len
    rw [← D.out] at h1
    unfold dat at h1
    rw [List.length_map, h2, ← Lib.size_eq] at h1
    omega
  have HP := Lib.hid (show ∀ i, i < n - 1 → (ge bs.tail i).size ≤ maxLen by
    intro i hi
    refine pieces_ok (m := s.size) ?_ (by unfold maxLen; omega) i (by rw [List.length_tail, O.out.len]; exact hi)
    intro p hp
    rw [dat_tail, D.out] at hp
    have := spl_mem_len 32 _ p (List.mem_of_mem_tail hp)
    rw [← Lib.size_eq] at this
    exact this)
  obtain ⟨R, hRR⟩ : ∃ R, allNum sNum (spl 32 s.data.toList).tail = R := ⟨_, rfl⟩
  have HR := Lib.hid (show allNum sNum (dat bs.tail) = R by rw [dat_tail, D.out, hRR])
  have HRS := Lib.hid hRR
  have hz1 := B.out.size
  clear hRR
  go_upto_region 2 with fail
  go_cut [5, 6] (fun v5 v6 wc => NumsAt w1.heap.size wc R v5 v6 ∧ Below w1.heap.size w1 wc)
  case first =>
    go_wp2_with fail
    all_goals
      try (have hc1 : c = 1 := by assumption
           subst hc1)
      refine (l04Numbers_any _ (n - 1) _ bs.tail _ (by first | exact RE.tail0 hR.out (by omega) | exact RE.tailS hR.out hn1) (by omega) HP.out).mono ?_
      intro e w2 h2
      obtain ⟨v5, v6, rfl, hN, hb⟩ := h2.parts
      rw [HR.out] at hN
      clear h2
      go_wp2_with fail
      go_meet
      exact ⟨hN, hb⟩
  case rest =>
    obtain ⟨hN, hb⟩ := hcut
    replace K := Lib.hid (K.out.next hb)
    replace B := Lib.hid (below_next hb B.out (Nat.le_refl _))
    have HB1 := Lib.hid hb
    have hz2 := hb.size
    clear hb hR HR HP hcap O D
    have k0 := K.out.c 0 rfl; have k1 := K.out.c 1 rfl; have k2 := K.out.c 2 rfl; have k3 := K.out.c 3 rfl
    have kf := K.out.free
    have lt0 : w.heap.size < wc.heap.size := K.out.lt
    rcases R with _ | L
    case none =>
      obtain ⟨rfl, rfl⟩ := hN
      have E := Lib.hid (rdF_nums (fun u hu => sNum_dec hu) HRS.out)
      go_wp2_with fail
      rw [E.out]
      exact bodyPost_ret (v := aggR (⟨0, 0, 0, 0⟩, false)) (by simp [aggR, results, Tryz.results14, go_sem, *]) rfl ⟨rfl, below_set4 B.out (Nat.le_refl _) _ _ _ _⟩
    case some =>
      obtain ⟨A3, c3, rfl, rfl, hown3⟩ := hN
      by_cases hL : L.length < 1 ∨ 3 < L.length
      case pos =>
        have E := Lib.hid (rdF_many (fun u hu => sNum_dec hu) HRS.out hL)
        rcases hL with hL | hL
        · have hq : (L.length : Int) < 1 := by omega
          go_wp2_with fail
          rw [E.out]
          exact bodyPost_ret (v := aggR (⟨0, 0, 0, 0⟩, false)) (by simp [aggR, results, Tryz.results14, go_sem, *]) rfl ⟨rfl, below_set4 B.out (Nat.le_refl _) _ _ _ _⟩
        · have hq : ¬ (L.length : Int) < 1 := by omega
          have hq2 : (3 : Int) < (L.length : Int) := by omega
          go_wp2_with fail
          rw [E.out]
          exact bodyPost_ret (v := aggR (⟨0, 0, 0, 0⟩, false)) (by simp [aggR, results, Tryz.results14, go_sem, *]) rfl ⟨rfl, below_set4 B.out (Nat.le_refl _) _ _ _ _⟩
      have hL1 : ¬ (L.length : Int) < 1 := by omega
      have hL3 : ¬ (3 : Int) < (L.length : Int) := by omega
      have hoa := hown3.alloc (.cells #[.int .i64 0, .int .i64 0] 2)
      have hr2 := RI.two wc 2
      have hza : w1.heap.size ≤ (wc.alloc (.cells #[.int .i64 0, .int .i64 0] 2)).heap.size := by simp; omega
      have hbw : Below w1.heap.size w1 (wc.alloc (.cells #[.int .i64 0, .int .i64 0] 2)) := below_alloc HB1.out (Nat.le_refl _) _
      clear k0 k1 k2 k3 kf K B
      go_wp2_with (at_builtin; refine wpl_appR _ Tryz.underlying24 infoInt rfl _ _ rfl w1.heap.size _ L.length _ L rfl hoa _ 2 _ _ [0, 0] rfl hr2 (fun h => by cases h) (by omega) hza ?_; intro A4 c4 w4 hown4 hB4 hg4)
      obtain ⟨g4, rfl, hg5, hg6⟩ := hown4.form (by omega)
      have HO4 := Lib.hid hown4
      have HB4 := Lib.hid (hbw.trans (hB4 _ (Nat.le_refl _)))
      clear hown4 hB4 hg4 hbw hoa hr2 hza hown3 HB1 hg6 lt0
      go_loopw [7] (fun i wr => ∃ k : Nat, k ≤ 6 ∧ i = .int .i64 k ∧ OwnI 2 wr w1.heap.size (some ⟨g4, 0, none⟩) (L.length + 2) c4 (L ++ [0, 0]) ∧ Below w1.heap.size w1 wr ∧ (∀ j : Nat, j < k → ftxt (fOf L ((j : Int) + 1)) = s.data.toList → s.data.toList = [])) (fun i _ => 6 - (RowKit.intOf i).toNat)
      case atStart => exact ⟨0, by omega, rfl, HO4.out, HB4.out, fun j hj => by omega⟩
      case round =>
        obtain ⟨k, hk, rfl, hown, hb, hno⟩ := hrel
        have HNO := Lib.hid hno
        have HO := Lib.hid hown
        have HB := Lib.hid hb
        clear hno hown hb HO4 HB4
        by_cases hlt : k < 6
        case neg =>
          have hk6 : k = 6 := by omega
          have E := Lib.hid (rdF_none (fun u hu => sNum_dec hu) HRS.out (by rw [← hk6]; exact HNO.out))
          have K := Lib.hid (K1.out.next HB.out)
          have B := Lib.hid (below_next HB.out B1.out (Nat.le_refl _))
          have k0 := K.out.c 0 rfl; have k1 := K.out.c 1 rfl; have k2 := K.out.c 2 rfl; have k3 := K.out.c 3 rfl
          have kf := K.out.free
          have lt0 : w.heap.size < wr.heap.size := K.out.lt
          go_wp2_with fail
          rw [E.out]
          exact bodyPost_ret (v := aggR (⟨0, 0, 0, 0⟩, false)) (by simp [aggR, results, Tryz.results14, go_sem, *]) rfl ⟨rfl, below_set4 B.out (Nat.le_refl _) _ _ _ _⟩
        obtain ⟨W, hW⟩ : ∃ x, fword ((k : Int) + 1) = x := ⟨_, rfl⟩
        have HW := Lib.hid hW
        have hwj := Lib.hid ((wordCells_get hlt).trans (by rw [HW.out]))
        have cg := (HB.out.cell (p := ⟨g, 0, none⟩) hg2).trans CG.out
        have hgw : g < wr.heap.size := Nat.lt_of_lt_of_le hg2 HB.out.size
        have hn0 : 0 < n := hn1
        have hk0 : (0 : Int) ≤ (k : Int) := by omega
        have hk7 : (k : Int) < 6 := by omega
        clear hW
        by_cases hwy : W = y0.data.toList
        case neg =>
          have hbe : (W == y0.toList) = false := by rw [beq_eq_false_iff_ne, Lib.toList_data]; exact hwy
          have E := Lib.hid (show ∀ j : Nat, j < k + 1 → ftxt (fOf L ((j : Int) + 1)) = s.data.toList → s.data.toList = [] by
            intro j hj
            rcases (by omega : j < k ∨ j = k) with h1 | rfl
            · exact HNO.out j h1
            · obtain ⟨r, hr⟩ := HSP.out
              exact skip_word hr (by rw [HW.out]; exact hwy))
          clear hwy
          go_upto_region 9 with fail
          go_region_law (first
            | (go_simp; (refine (words_any _).mono ?_); rintro e cc ⟨bw, rfl, hbk, hbx⟩; (have cw := hbk.c k hwj.out); (have cg2 := (hbx.cell (p := ⟨g, 0, none⟩) hgw).trans cg); (have HO2 := Lib.hid (OwnI.below (w := wr.drew) HO.out hbx)); (have HB2 := Lib.hid (HB.out.drew.trans (hbx.mono HB.out.size))); clear hbk hbx))
          all_goals
            go_wp2_with fail
            go_roundw
          all_goals first
            | exact ⟨k + 1, by omega, by go_num, HO2.out, HB2.out, E.out⟩
            | (simp [RowKit.intOf] <;> omega)
        have hbe : (W == y0.toList) = true := by rw [beq_iff_eq, Lib.toList_data]; exact hwy
        clear hwy
        go_upto_region 9 with fail
        go_cut [44] (fun v wc => v = .bool false ∧ OwnI 2 wc w1.heap.size (some ⟨g4, 0, none⟩) (L.length + 2) c4 (L ++ [0, 0]) ∧ Below w1.heap.size w1 wc)
        case first =>
          go_region_law (first
            | (go_simp; (refine (words_any _).mono ?_); rintro e cc ⟨bw, rfl, hbk, hbx⟩; (have cw := hbk.c k hwj.out); (have cg2 := (hbx.cell (p := ⟨g, 0, none⟩) hgw).trans cg); (have HO2 := Lib.hid (OwnI.below (w := wr.drew) HO.out hbx)); (have HB2 := Lib.hid (HB.out.drew.trans (hbx.mono HB.out.size))); clear hbk hbx))
          all_goals
            go_wp2_with fail
            go_meet
            exact ⟨rfl, HO2.out, HB2.out⟩
        case rest =>
          obtain ⟨rfl, hown5, hb5⟩ := hcut
          have m0 := hown5.cell (show 0 < L.length + 2 by omega)
          have m1 := hown5.cell (show 1 < L.length + 2 by omega)
          have m2 := hown5.cell (show 2 < L.length + 2 by omega)
          obtain ⟨a, ha⟩ : ∃ a, gi (L ++ [0, 0]) 0 = a := ⟨_, rfl⟩
          obtain ⟨b, hb'⟩ : ∃ a, gi (L ++ [0, 0]) 1 = a := ⟨_, rfl⟩
          obtain ⟨d, hd⟩ : ∃ a, gi (L ++ [0, 0]) 2 = a := ⟨_, rfl⟩
          have HF := Lib.hid (show fOf L ((k : Int) + 1) = ⟨(k : Int) + 1, a, b, d⟩ by unfold fOf; rw [ha, hb', hd])
          rw [ha] at m0
          rw [hb'] at m1
          rw [hd] at m2
          have hl0 : (0 : Int) < (L.length : Int) + 2 := by omega
          have hl1 : (1 : Int) < (L.length : Int) + 2 := by omega
          have hl2 : (2 : Int) < (L.length : Int) + 2 := by omega
          have HO5 := Lib.hid hown5
          have HB5 := Lib.hid hb5
          have n0 : ∀ o, (wc.alloc o).cell? ⟨g4, 0, none⟩ = some (.int .i64 a) := fun o => cell?_alloc_old o m0
          have n1 : ∀ o, (wc.alloc o).cell? ⟨g4, 1, none⟩ = some (.int .i64 b) := fun o => cell?_alloc_old o m1
          have n2 : ∀ o, (wc.alloc o).cell? ⟨g4, 2, none⟩ = some (.int .i64 d) := fun o => cell?_alloc_old o m2
          clear ha hb' hd hown5 hb5 cg
          have hi1 : IntKind.i64.wrap ((k : Int) + 1) = (k : Int) + 1 := IntWalk.i64_in _ (by omega)
          go_wp2_with fail
          go_cut [8] (fun v wd => ∃ gb, v = .pointer (some ⟨gb, 0, none⟩) ∧ BlkL wd gb 26 [.int .i64 ((k : Int) + 1), .int .i64 a, .int .i64 b, .int .i64 d] ∧ OwnI 2 wd w1.heap.size (some ⟨g4, 0, none⟩) (L.length + 2) c4 (L ++ [0, 0]) ∧ Below w1.heap.size w1 wd)
          case first =>
            go_region
            all_goals
              go_wp2_with fail
              go_meet
              first
              | exact ⟨_, rfl, BlkL.new wc _ _ rfl, HO5.out.alloc _, below_alloc HB5.out (Nat.le_refl _) _⟩
              | exact ⟨_, rfl, BlkL.new wc _ _ rfl, HO5.out.alloc _, (below_alloc HB5.out (Nat.le_refl _) _).drew⟩
          case rest =>
            obtain ⟨gb, rfl, hk6, hown6, hb6⟩ := hcut
            have HO6 := Lib.hid hown6
            have HB6 := Lib.hid hb6
            have KB := Lib.hid hk6
            have f0 := hk6.c 0 rfl; have f1 := hk6.c 1 rfl; have f2 := hk6.c 2 rfl; have f3 := hk6.c 3 rfl
            clear m0 m1 m2 n0 n1 n2 hown6 hb6 hk6 HO5 HB5
            obtain ⟨T, hT⟩ : ∃ T, ftxt ⟨(k : Int) + 1, a, b, d⟩ = T := ⟨_, rfl⟩
            have HT := Lib.hid hT
            clear hT
            go_wp2_with fail
            refine (sFaultText_any _ _ _ _ _).mono ?_
            rw [HT.out]
            rintro e w7 ⟨rfl, hb⟩
            have HO7 := Lib.hid (HO6.out.below hb)
            have HB7 := Lib.hid (HB6.out.trans (hb.mono HB6.out.size))
            have KB7 := Lib.hid (KB.out.next hb)
            clear hb f0 f1 f2 f3 KB HO6 HB6
            by_cases he : T = s.data.toList
            case neg =>
              have hq : (T == s.toList) = false := by rw [beq_eq_false_iff_ne, Lib.toList_data]; exact he
              have E := Lib.hid (show ∀ j : Nat, j < k + 1 → ftxt (fOf L ((j : Int) + 1)) = s.data.toList → s.data.toList = [] by
                intro j hj
                rcases (by omega : j < k ∨ j = k) with h1 | rfl
                · exact HNO.out j h1
                · intro h2
                  rw [HF.out, HT.out] at h2
                  exact absurd h2 he)
              clear he
              go_wp2_with fail
              go_roundw
              case rel => exact ⟨k + 1, by omega, by go_num, HO7.out, HB7.out, E.out⟩
              case measure => simp [RowKit.intOf] <;> omega
            · have hq : (T == s.toList) = true := by rw [beq_iff_eq, Lib.toList_data]; exact he
              have hne : s.data.toList ≠ [] := by
                intro h0
                have h1 := HRS.out
                rw [h0] at h1
                cases h1
                simp at hL
              have E := Lib.hid (ftxt_hit (g := ⟨(k : Int) + 1, a, b, d⟩) (HT.out.trans he) hne)
              have K := Lib.hid (K1.out.next HB7.out)
              have Bz := Lib.hid (below_next HB7.out B1.out (Nat.le_refl _))
              have k0 := K.out.c 0 rfl; have k1 := K.out.c 1 rfl; have k2 := K.out.c 2 rfl; have k3 := K.out.c 3 rfl
              have kf := K.out.free
              have lt0 : w.heap.size < w7.heap.size := K.out.lt
              have f0 := KB7.out.c 0 rfl; have f1 := KB7.out.c 1 rfl; have f2 := KB7.out.c 2 rfl; have f3 := KB7.out.c 3 rfl
              clear he hne
              go_wp2_with fail
              rw [E.out]
              exact bodyPost_ret (v := aggR (⟨(k : Int) + 1, a, b, d⟩, true)) (by simp [aggR, results, Tryz.results14, go_sem, *]) rfl ⟨rfl, below_set4 Bz.out (Nat.le_refl _) _ _ _ _⟩
end Go.Proofs.YtojmikalnalfbaaGreatDoor
