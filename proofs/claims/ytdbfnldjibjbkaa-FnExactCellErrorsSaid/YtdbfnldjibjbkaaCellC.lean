/- The walk of CellErrors, of the program. Conditions: lists of at most 2^20 numbers. -/
import Derived.Test.YtdbfnldjibjbkaaCellB
import Derived.Test.YtdbfnldjibjbkaaKit8
namespace Go.Proofs.Ytdbfnldjibjbkaa
open Go.RowKit
namespace CellErrors
def bE (b : Bool) : List Value := [.bool b]
theorem bE_len (b : Bool) : (bE b).length = 1 := rfl
theorem infoBool : (Try.prog.info? 4).map (fun i => (i.zero, i.size, i.bytes)) = some (some (.bool false), 1, 1) := by kernel_rfl
/-- a row of bools with those from a on, below y, turned -/
def tog (g : Nat → Bool) (a y M : Nat) : List Bool := (List.range M).map fun i => if a ≤ i ∧ i < y then !g i else g i
theorem tog_len (g : Nat → Bool) (a y M : Nat) : (tog g a y M).length = M := by simp [tog]
theorem tog_ge {g : Nat → Bool} {a y M i : Nat} (h : i < M) : ge (tog g a y M) i = if a ≤ i ∧ i < y then !g i else g i := by simp [ge, tog, h]
theorem tog_none {g : Nat → Bool} {a y M : Nat} (h : y ≤ a) : tog g a y M = tog g 0 0 M := by
  refine ext_ge (by rw [tog_len, tog_len]) fun i hi => ?_
  rw [tog_len] at hi
  rw [tog_ge hi, tog_ge hi, if_neg (by omega), if_neg (by omega)]
theorem tog_set {g : Nat → Bool} {a y M : Nat} (hy : a ≤ y) (_ : y < M) : (tog g a y M).set y (!g y) = tog g a (y + 1) M := by
  refine ext_ge (by rw [List.length_set, tog_len, tog_len]) fun i hi => ?_
  rw [List.length_set, tog_len] at hi
  rw [tog_ge hi]
  by_cases hik : y = i
  · subst hik
    rw [ge_set_self (by rw [tog_len]; exact hi), if_pos (by omega)]
  · have : ge ((tog g a y M).set y (!g y)) i = ge (tog g a y M) i := by
      unfold ge
      rw [List.getD_eq_getElem?_getD, List.getElem?_set, List.getD_eq_getElem?_getD, if_neg hik]
    rw [this, tog_ge hi]
    by_cases h2 : a ≤ i ∧ i < y
    · rw [if_pos h2, if_pos (by omega)]
    · rw [if_neg h2, if_neg (by omega)]
theorem tog_rep (fs : List Flt) (M : Nat) : List.replicate M false = tog (odd (fs.take 0)) 0 0 M := by
  refine ext_ge (by rw [tog_len]; simp) fun i hi => ?_
  rw [List.length_replicate] at hi
  rw [tog_ge hi, if_neg (by omega)]
  simp [ge, hi, odd, hits]
theorem tog_end {fs : List Flt} {k a e M : Nat} (hk : k < fs.length) (hp : (ge fs k).pos = 8 * (a : Int)) (hl : (ge fs k).len = 8 * ((e - a : Nat) : Int)) (hae : a ≤ e) {y : Nat} (hy : y = max a (min M e)) :
    tog (odd (fs.take k)) a y M = tog (odd (fs.take (k + 1))) 0 0 M := by
  refine ext_ge (by rw [tog_len, tog_len]) fun i hi => ?_
  rw [tog_len] at hi
  rw [tog_ge hi, tog_ge hi, if_neg (show ¬ (0 ≤ i ∧ i < 0) by omega)]
  have hh : hit (ge fs k) i = decide (a ≤ i ∧ i < e) := by
    unfold hit inR
    rw [hp, hl]
    by_cases h : a ≤ i ∧ i < e
    · have h1 : 8 * (a : Int) ≤ 8 * (i : Int) := by omega
      have h2 : 8 * (i : Int) ≤ 8 * (a : Int) + 8 * ((e - a : Nat) : Int) - 1 := by omega
      rw [decide_eq_true h, decide_eq_true h1, decide_eq_true h2]; rfl
    · have : ¬ (8 * (a : Int) ≤ 8 * (i : Int) ∧ 8 * (i : Int) ≤ 8 * (a : Int) + 8 * ((e - a : Nat) : Int) - 1) := by omega
      rw [decide_eq_false h]
      simp only [Bool.and_eq_false_iff, decide_eq_false_iff_not]
      by_cases h1 : 8 * (a : Int) ≤ 8 * (i : Int)
      · exact .inr fun h2 => this ⟨h1, h2⟩
      · exact .inl h1
  have ho : odd (fs.take (k + 1)) i = if a ≤ i ∧ i < e then !odd (fs.take k) i else odd (fs.take k) i := by
    unfold odd
    rw [hits_take hk, hh]
    by_cases h : a ≤ i ∧ i < e
    · rw [if_pos h]
      simp only [h]
      rcases Nat.mod_two_eq_zero_or_one (hits (fs.take k) i) with h0 | h0 <;> simp [h0] <;> omega
    · rw [if_neg h]
      simp [h]
  rw [ho]
  by_cases h : a ≤ i ∧ i < e
  · rw [if_pos h, if_pos (by omega)]
  · rw [if_neg h, if_neg (by omega)]
theorem Blk4.kept {w w' : World} {g : Nat} {t : TypeId} {u0 u1 u2 u3 : Value} {ro : Option Nat} (h : Blk4 w g t u0 u1 u2 u3) (hg : w.grownBy w' ro) (hne : some g ≠ ro) : Blk4 w' g t u0 u1 u2 u3 := (hg.block g h.lt hne).trans h
theorem cell_split {f : Flt} (h : cellF f = true) (hf : isFault f = true) : ∃ a e : Nat, f.kd = 2 ∧ f.pos = 8 * (a : Int) ∧ f.len = 8 * ((e - a : Nat) : Int) ∧ a ≤ e ∧ e ≤ 2048 := by
  unfold cellF at h
  simp only [Bool.and_eq_true, decide_eq_true_eq] at h
  have hp := isFault_pos' hf
  have hl := isFault_len' hf
  refine ⟨(f.pos / 8).toNat, (f.pos / 8).toNat + (f.len / 8).toNat, h.1, by omega, by omega, by omega, by omega⟩

set_option maxRecDepth 20000 in
set_option maxHeartbeats 20000000 in
theorem impl_any (A : Option Addr) (n c : Nat) (zs : List Int) (B : Option Addr) (m d : Nat) (fs : List Flt) (w : World) (h : RI w w.heap.size A n zs) (hn' : n ≤ 1099511627776) (hn : n ≤ 1048576) (hf : RE encF 4 w w.heap.size B m fs) (hm' : m ≤ 1099511627776) (hm : m ≤ 1048576) :
    Calls Try.prog 70 #[.slice A n c, .slice B m d] w (RetIC 2 w (res zs fs) (cod zs fs)) := by
  have L := Lib.hid h.len
  have LF := Lib.hid hf.len
  obtain ⟨q, hq⟩ : ∃ q, bsCode zs fs = q := ⟨_, rfl⟩
  have HQ := Lib.hid hq
  rcases ne_cases q with rfl | ⟨h1, h2, h3⟩
  case inr =>
    have E1 := Lib.hid (show res zs fs = [] from by unfold res; rw [hq, if_neg (by simp [h1])])
    have E2 := Lib.hid (show cod zs fs = q from by unfold cod; rw [hq, if_neg h1])
    clear hq
    go_enter Try.func70, Try.ntmps70
    go_wp2_with fail
    refine (scriptCode_any A B n c m d zs fs w h hn' hf hm').mono ?_
    rw [HQ.out]
    rintro e w1 ⟨rfl, hb1⟩
    go_wp2
    go_ret2
    rw [E1.out, E2.out]
    exact ⟨none, 0, 0, rfl, OwnI.nil _ _ _, hb1⟩
  obtain ⟨hbits, hscr⟩ := code_ok hq
  have HALL := Lib.hid (allF_of hscr)
  have hm30 : m ≤ 30 := by have := len_of hscr; rw [LF.out] at this; exact this
  have hn8 : n ≤ 8192 := by
    unfold isBits at hbits
    simp only [Bool.and_eq_true, decide_eq_true_eq] at hbits
    rw [L.out] at hbits
    exact hbits.1
  have ER := Lib.hid (show res zs fs = if allC fs = true then wrongTo fs (n / 8) else [] from by unfold res; rw [hq, L.out]; simp)
  have EC := Lib.hid (show cod zs fs = if allC fs then 0 else 5 from by unfold cod; rw [hq]; rfl)
  clear hbits hscr hq
  obtain ⟨M, hM⟩ : ∃ M, n / 8 = M := ⟨_, rfl⟩
  have hM1 : M ≤ 1024 := by omega
  have hMI : (n : Int) / 8 = (M : Int) := by omega
  have hMT : (n : Int).tdiv 8 = (M : Int) := by rw [Int.tdiv_eq_ediv_of_nonneg (by omega)]; exact hMI
  rw [hM] at ER
  have HM := Lib.hid hM
  clear hM
  go_enter Try.func70, Try.ntmps70
  go_wp2_with fail
  refine (scriptCode_any A B n c m d zs fs w h hn' hf hm').mono ?_
  rw [HQ.out]
  rintro e w1 ⟨rfl, hb1⟩
  go_wp2_with (at_make; refine wpl_makeE bE 1 _ false Try.underlying118 infoBool rfl rfl (by omega) (by omega) rfl _ _ rfl M (by simp [Act.eval]) (by simp [Act.eval]) (by omega) ?_; intro w2 hown2 hg2)
  have hb2 : Below w1.heap.size w1 w2 := (Below.refl _ _).grown hg2 (Nat.le_refl _) (fun _ e => by cases e)
  have hz2 : w1.heap.size < w2.heap.size := (hown2.row w1.heap.size rfl).2
  clear hg2
  rw [tog_rep fs M] at hown2
  obtain ⟨G, hG⟩ : ∃ G, w1.heap.size = G := ⟨_, rfl⟩
  rw [hG] at hown2 hb2 hz2 ⊢
  have hwG : w.heap.size ≤ G := by rw [← hG]; exact hb1.size
  have hbw2 : Below w.heap.size w w2 := hb1.trans (hb2.mono hwG)
  have HBW2 := Lib.hid hbw2
  have HO2 := Lib.hid hown2
  clear hG hbw2 hb2 hown2
  go_wp2_with fail
  go_loopw [26] (fun i wr => ∃ k : Nat, k ≤ m ∧ i = .int .i64 k ∧ allC (fs.take k) = true ∧ OwnE bE 1 4 wr G (some ⟨G, 0, none⟩) M M (tog (odd (fs.take k)) 0 0 M) ∧ Below w.heap.size w wr ∧ G < wr.heap.size) (fun i _ => m - (intOf i).toNat)
  case atStart => exact ⟨0, Nat.zero_le _, rfl, rfl, HO2.out, HBW2.out, hz2⟩
  case round =>
    obtain ⟨k, hk, rfl, hall, hown, hb, hGw⟩ := hrel
    have Hall := Lib.hid hall
    clear hall
    by_cases hlt : k < m
    · obtain ⟨b, o, rfl, hbl, hc⟩ := (hf.below hb (Nat.le_refl _)).get (by omega)
      have hc0 := hc k hlt 0 _ rfl
      have hc1 := hc k hlt 1 _ rfl
      have hc2 := hc k hlt 2 _ rfl
      have hc3 := hc k hlt 3 _ rfl
      clear hc
      rw [Nat.add_zero] at hc0
      have hfl := allF_ge HALL.out (k := k) (by rw [LF.out]; exact hlt)
      have hpos := isFault_pos' hfl
      have hln := isFault_len' hfl
      obtain ⟨kd, hkd⟩ : ∃ x, (ge fs k).kd = x := ⟨_, rfl⟩
      obtain ⟨p, hp⟩ : ∃ x, (ge fs k).pos = x := ⟨_, rfl⟩
      obtain ⟨l, hl⟩ : ∃ x, (ge fs k).len = x := ⟨_, rfl⟩
      obtain ⟨vv, hvv⟩ : ∃ x, (ge fs k).val = x := ⟨_, rfl⟩
      rw [hkd] at hc0
      rw [hp] at hc1 hpos
      rw [hl] at hc2 hln
      rw [hvv] at hc3
      obtain ⟨hp1, hp2⟩ := hpos
      obtain ⟨hl1, hl2⟩ := hln
      have HCF := Lib.hid (show cellF (ge fs k) = (decide (kd = 2) && (decide (p.tmod 8 = 0) && decide (l.tmod 8 = 0))) from by unfold cellF; rw [hkd, hp, hl, tmod8 hp1, tmod8 hl1])
      have HP := Lib.hid hp
      have HL := Lib.hid hl
      clear hkd hp hl hfl hvv
      obtain ⟨a, ha⟩ : ∃ a : Nat, p / 8 = (a : Int) := ⟨(p / 8).toNat, by omega⟩
      obtain ⟨e, he⟩ : ∃ e : Nat, (p + l) / 8 = (e : Int) := ⟨((p + l) / 8).toNat, by omega⟩
      have hae : a ≤ e := by omega
      have he2 : e ≤ 2048 := by omega
      have hat : p.tdiv 8 = (a : Int) := by rw [Int.tdiv_eq_ediv_of_nonneg hp1]; exact ha
      have het : (p + l).tdiv 8 = (e : Int) := by rw [Int.tdiv_eq_ediv_of_nonneg (by omega)]; exact he
      have HA := Lib.hid ha
      have HE := Lib.hid he
      obtain ⟨u, hu⟩ : ∃ u, p.tmod 8 = u := ⟨_, rfl⟩
      obtain ⟨v, hv⟩ : ∃ v, l.tmod 8 = v := ⟨_, rfl⟩
      rcases ne_cases2 kd 2 with ⟨e1, f1⟩ | ⟨e1, f1⟩ <;> rcases ne_cases2 u 0 with ⟨e2, f2⟩ | ⟨e2, f2⟩ <;> rcases ne_cases2 v 0 with ⟨e3, f3⟩ | ⟨e3, f3⟩
      all_goals
        have HX := Lib.hid (show cellF (ge fs k) = _ from by rw [HCF.out, hu, hv])
        have HU := Lib.hid hu
        have HV := Lib.hid hv
        have F1 := Lib.hid f1
        have F2 := Lib.hid f2
        have F3 := Lib.hid f3
        clear f1 f2 f3
        go_wp2_with fail
      all_goals
        first
        | (go_ret2
           have hno : cellF (ge fs k) = false := by rw [HX.out]; simp [F1.out, F2.out, F3.out]
           have hno2 := allC_no (by rw [LF.out]; exact hlt) hno
           rw [ER.out, EC.out, hno2]
           exact ⟨none, 0, 0, rfl, OwnI.nil _ _ _, below_alloc hb (Nat.le_refl _) _⟩)
        | skip
      have hbox := Blk4.new wr 41 (.int .i64 kd) (.int .i64 p) (.int .i64 l) (.int .i64 vv)
      have hcellT : cellF (ge fs k) = true := by rw [HX.out]; simp [F1.out, F2.out, F3.out]
      have HCT := Lib.hid hcellT
      have hp8 : (ge fs k).pos = 8 * (a : Int) := by
        have h1 := HP.out; have h2 := HA.out; have h3 := HU.out; have h4 := F2.out
        rw [tmod8 hp1] at h3
        omega
      have hl8 : (ge fs k).len = 8 * ((e - a : Nat) : Int) := by
        have h1 := HP.out; have h2 := HA.out; have h3 := HU.out; have h4 := F2.out
        have h5 := HL.out; have h6 := HE.out; have h7 := HV.out; have h8 := F3.out
        rw [tmod8 hp1] at h3
        rw [tmod8 hl1] at h7
        omega
      have HP8 := Lib.hid hp8
      have HL8 := Lib.hid hl8
      clear hcellT hp8 hl8 hc0 hc1 hc2 hc3 e1 e2 e3 hu hv
      obtain ⟨g, hg⟩ : ∃ g, odd (fs.take k) = g := ⟨_, rfl⟩
      rw [hg] at hown
      have HG := Lib.hid hg
      clear hg
      obtain ⟨W, hW⟩ : ∃ W, wr.alloc (.cells #[.int .i64 kd, .int .i64 p, .int .i64 l, .int .i64 vv] 41) = W := ⟨_, rfl⟩
      have hownW : OwnE bE 1 4 W G (some ⟨G, 0, none⟩) M M (tog g 0 0 M) := by rw [← hW]; exact hown.alloc _
      have hbW : Below w.heap.size w W := by rw [← hW]; exact below_alloc hb (Nat.le_refl _) _
      rw [hW] at hbox
      have hsW : G < W.heap.size := by have := hbox.lt; omega
      go_loopw [10] (fun x wz => ∃ y : Nat, a ≤ y ∧ y ≤ max a (min M e) ∧ x = .int .i64 y ∧ OwnE bE 1 4 wz G (some ⟨G, 0, none⟩) M M (tog g a y M) ∧ W.grownBy wz (some G)) (fun x _ => min M e - (intOf x).toNat)
      case atStart => exact ⟨a, Nat.le_refl _, by omega, by first | rfl | go_num, by rw [tog_none (Nat.le_refl _)]; first | exact hownW | exact hown.alloc _, by first | exact World.grownBy.refl _ _ | (rw [← hW]; exact World.grownBy.refl _ _)⟩
      case round =>
        obtain ⟨y, hya, hym, rfl, hown', hg'⟩ := hrel
        have HYM := Lib.hid hym
        clear hym
        have hbk := Blk4.kept hbox hg' (by simp; omega)
        have k1 := hbk.c1
        have k2 := hbk.c2
        by_cases hy2 : y < M ∧ y < e
        · obtain ⟨hyM, hye⟩ := hy2
          have hcellb := hown'.cell bE_len hyM (j := 0) (by omega)
          rw [tog_ge hyM, if_neg (by omega)] at hcellb
          simp only [bE, Nat.mul_one, Nat.add_zero, List.getElem?_cons_zero] at hcellb
          have hfr := hown'.frozen y
          have st := hown'.stored bE_len y 0 (.bool (!g y)) (!g y) hyM (by omega) rfl
          rw [tog_set hya hyM, Nat.mul_one, Nat.add_zero] at st
          have ST := Lib.hid st
          clear st
          by_cases hme : M ≤ e
          all_goals
            go_wp2
          all_goals
            go_roundw
            case rel => exact ⟨y + 1, by omega, by omega, by go_num, ST.out.1, grown_tr hg' ST.out.2⟩
            case measure => simp [intOf]; omega
        · have hyE : y = max a (min M e) := by have := HYM.out; omega
          have HYE := Lib.hid hyE
          clear hyE
          by_cases hme : M ≤ e
          all_goals
            go_wp2
          all_goals
            go_roundw
            case rel => exact ⟨k + 1, by omega, by go_num, by rw [allC_take (by rw [LF.out]; exact hlt), Hall.out, HCT.out]; rfl, by rw [← tog_end (by rw [LF.out]; exact hlt) HP8.out HL8.out hae HYE.out, HG.out]; exact hown', hbW.grown hg' hbW.size (fun g e => by cases e; exact hwG), Nat.lt_of_lt_of_le hsW hg'.size⟩
            case measure => simp [intOf]; omega
    · have hkm : k = m := by omega
      have hz : allC fs = true := by have := Hall.out; rwa [List.take_of_length_le (by rw [hf.len]; omega)] at this
      have hown3 : OwnE bE 1 4 wr G (some ⟨G, 0, none⟩) M M (tog (odd fs) 0 0 M) := by
        rw [hkm, List.take_of_length_le (by rw [LF.out]; exact Nat.le_refl _)] at hown; exact hown
      have Hz := Lib.hid hz
      clear hz hkm hown
      have E1 := Lib.hid (show res zs fs = wrongTo fs M from by rw [ER.out, Hz.out]; rfl)
      have E2 := Lib.hid (show cod zs fs = 0 from by rw [EC.out, Hz.out]; rfl)
      go_wp2_with fail
      go_loopw [11, 73] (fun o x wz => ∃ (y y' : Nat) (A' : Option Addr) (c' : Nat), y ≤ M ∧ y' ≤ y ∧ x = .int .i64 y ∧ o = .slice A' y' c' ∧ OwnI 2 wz wr.heap.size A' y' c' (wrongTo fs y) ∧ Below wr.heap.size wr wz) (fun _ x _ => M - (intOf x).toNat)
      case atStart => exact ⟨0, 0, some ⟨wr.heap.size, 0, none⟩, 0, Nat.zero_le _, Nat.le_refl _, rfl, rfl, OwnI.empty _ (Nat.le_refl _), (Below.refl _ _).alloc (Nat.le_refl _) _⟩
      case round =>
        obtain ⟨y, y', A', c', hy, hy', rfl, rfl, hownI, hbz⟩ := hrel
        by_cases hyM : y < M
        · have hcellb := (hown3.below hbz).cell bE_len hyM (j := 0) (by omega)
          rw [tog_ge hyM, if_neg (by omega)] at hcellb
          simp only [bE, Nat.mul_one, Nat.add_zero, List.getElem?_cons_zero] at hcellb
          rcases bool_cases (odd fs y) with ho | ho
          · rw [ho] at hcellb
            have HY := Lib.hid ho
            clear ho
            go_wp2_with (at_builtin; refine wpl_appI _ _ Try.underlying25 infoInt rfl _ _ rfl _ _ y' _ _ rfl hownI (y : Int) rfl (by omega) hbz.size ?_; intro A2 c2 w2 hown4 hB3 hg3)
            go_roundw
            case rel => exact ⟨y + 1, y' + 1, A2, c2, by omega, by omega, by go_num, rfl, by rw [wrongTo_yes HY.out]; exact hown4, hbz.trans (hB3 _ (Nat.le_refl _))⟩
            case measure => simp [intOf]; omega
          · rw [ho] at hcellb
            have HY := Lib.hid ho
            clear ho
            go_wp2
            go_roundw
            case rel => exact ⟨y + 1, y', A', c', by omega, by omega, by go_num, rfl, by rw [wrongTo_no HY.out]; exact hownI, hbz⟩
            case measure => simp [intOf]; omega
        · have hyE : y = M := by omega
          have HYE := Lib.hid hyE
          clear hyE
          go_wp2
          go_ret2
          rw [E1.out, E2.out]
          rw [HYE.out] at hownI
          exact ⟨_, _, _, rfl, hownI.weaken hb.size, below_next hbz hb (Nat.le_refl _)⟩
end CellErrors
end Go.Proofs.Ytdbfnldjibjbkaa
