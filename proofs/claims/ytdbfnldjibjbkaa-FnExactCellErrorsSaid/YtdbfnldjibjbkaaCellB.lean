/- The walk of CellErrors, of the reference. Conditions: lists of at most 2^20 numbers. -/
import Derived.Test.YtdbfnldjibjbkaaCellA
import Derived.Test.YtdbfnldjibjbkaaRise
namespace Go.Proofs.Ytdbfnldjibjbkaa
open Go.RowKit
namespace CellErrors
theorem ne_cases (x : Int) : x = 0 ∨ (x ≠ 0 ∧ (x != 0) = true ∧ (x == 0) = false) := by
  by_cases h : x = 0
  · exact .inl h
  · exact .inr ⟨h, by simp [h], by simp [h]⟩
theorem ne_cases2 (x y : Int) : ((x != y) = false ∧ x = y) ∨ ((x != y) = true ∧ x ≠ y) := by
  by_cases h : x = y
  · exact .inl ⟨by simp [h], h⟩
  · exact .inr ⟨by simp [h], h⟩
theorem isFault_pos' {f : Flt} (h : isFault f = true) : 0 ≤ f.pos ∧ f.pos ≤ 8192 := by
  unfold isFault at h; simp only [Bool.and_eq_true] at h; exact inR_iff.1 h.2.1
theorem isFault_len' {f : Flt} (h : isFault f = true) : 0 ≤ f.len ∧ f.len ≤ 8192 := by
  unfold isFault at h
  simp only [Bool.and_eq_true] at h
  have h3 := h.2.2.1
  split at h3
  · have := inR_iff.1 h3; omega
  · simp at h3; omega
theorem tmod8 {p : Int} (h : 0 ≤ p) : p.tmod 8 = p % 8 := Int.tmod_eq_emod_of_nonneg h
theorem allF_of {fs : List Flt} (h : isScript fs = true) : allF fs = true := by
  unfold isScript at h; simp only [Bool.and_eq_true] at h; exact h.2
theorem len_of {fs : List Flt} (h : isScript fs = true) : fs.length ≤ 30 := by
  unfold isScript at h; simp only [Bool.and_eq_true, decide_eq_true_eq] at h; exact h.1
theorem code_ok {zs : List Int} {fs : List Flt} (h : bsCode zs fs = 0) : isBits zs = true ∧ isScript fs = true := by
  unfold bsCode at h
  split at h
  · split at h
    · exact ⟨by assumption, by assumption⟩
    · cases h
  · cases h

set_option maxRecDepth 20000 in
set_option maxHeartbeats 8000000 in
theorem spec_any (A : Option Addr) (n c : Nat) (zs : List Int) (B : Option Addr) (m d : Nat) (fs : List Flt) (w : World) (h : RI w w.heap.size A n zs) (hn' : n ≤ 1099511627776) (hn : n ≤ 1048576) (hf : RE encF 4 w w.heap.size B m fs) (hm' : m ≤ 1099511627776) (hm : m ≤ 1048576) :
    Calls Try.prog 69 #[.slice A n c, .slice B m d] w (RetIC 2 w (res zs fs) (cod zs fs)) := by
  have L := Lib.hid h.len
  have LF := Lib.hid hf.len
  obtain ⟨q, hq⟩ : ∃ q, bsCode zs fs = q := ⟨_, rfl⟩
  have HQ := Lib.hid hq
  rcases ne_cases q with rfl | ⟨h1, h2, h3⟩
  case inr =>
    have E1 := Lib.hid (show res zs fs = [] from by unfold res; rw [hq, if_neg (by simp [h1])])
    have E2 := Lib.hid (show cod zs fs = q from by unfold cod; rw [hq, if_neg h1])
    clear hq
    go_enter Try.func69, Try.ntmps69
    go_wp2_with fail
    refine (l26Code_any A B n c m d zs fs w h hn' hf hm').mono ?_
    rw [HQ.out]
    rintro e w1 ⟨rfl, hb1⟩
    go_wp2
    go_ret2
    rw [E1.out, E2.out]
    exact ⟨none, 0, 0, rfl, OwnI.nil _ _ _, hb1⟩
  obtain ⟨hbits, hscr⟩ := code_ok hq
  have HALL := Lib.hid (allF_of hscr)
  have hm30 : m ≤ 30 := by have := len_of hscr; rw [LF.out] at this; exact this
  have hn8 : n ≤ 8192 := by
    unfold isBits at hbits
    simp only [Bool.and_eq_true, decide_eq_true_eq] at hbits
    rw [L.out] at hbits
    exact hbits.1
  have ER := Lib.hid (show res zs fs = if allC fs = true then wrongTo fs (n / 8) else [] from by unfold res; rw [hq, L.out]; simp)
  have EC := Lib.hid (show cod zs fs = if allC fs then 0 else 5 from by unfold cod; rw [hq]; rfl)
  clear hbits hscr hq
  go_enter Try.func69, Try.ntmps69
  go_wp2_with fail
  refine (l26Code_any A B n c m d zs fs w h hn' hf hm').mono ?_
  rw [HQ.out]
  rintro e w1 ⟨rfl, hb1⟩
  go_wp2
  go_loopw [7] (fun i wr => ∃ k : Nat, k ≤ m ∧ i = .int .i64 k ∧ allC (fs.take k) = true ∧ Below w.heap.size w wr) (fun i _ => m - (intOf i).toNat)
  case atStart => exact ⟨0, Nat.zero_le _, rfl, rfl, hb1⟩
  case round =>
    obtain ⟨k, hk, rfl, hall, hb⟩ := hrel
    have Hall := Lib.hid hall
    clear hall
    by_cases hlt : k < m
    · obtain ⟨b, o, rfl, hbl, hc⟩ := (hf.below hb (Nat.le_refl _)).get (by omega)
      have hc0 := hc k hlt 0 _ rfl
      have hc1 := hc k hlt 1 _ rfl
      have hc2 := hc k hlt 2 _ rfl
      clear hc
      rw [Nat.add_zero] at hc0
      have hfl := allF_ge HALL.out (k := k) (by rw [LF.out]; exact hlt)
      have hpos := isFault_pos' hfl
      have hln := isFault_len' hfl
      obtain ⟨kd, hkd⟩ : ∃ x, (ge fs k).kd = x := ⟨_, rfl⟩
      obtain ⟨p, hp⟩ : ∃ x, (ge fs k).pos = x := ⟨_, rfl⟩
      obtain ⟨l, hl⟩ : ∃ x, (ge fs k).len = x := ⟨_, rfl⟩
      rw [hkd] at hc0
      rw [hp] at hc1 hpos
      rw [hl] at hc2 hln
      have HCF := Lib.hid (show cellF (ge fs k) = (decide (kd = 2) && (decide (p.tmod 8 = 0) && decide (l.tmod 8 = 0))) from by unfold cellF; rw [hkd, hp, hl, tmod8 hpos.1, tmod8 hln.1])
      clear hkd hp hl hfl
      obtain ⟨u, hu⟩ : ∃ u, p.tmod 8 = u := ⟨_, rfl⟩
      obtain ⟨v, hv⟩ : ∃ v, l.tmod 8 = v := ⟨_, rfl⟩
      rcases ne_cases2 kd 2 with ⟨e1, f1⟩ | ⟨e1, f1⟩ <;> rcases ne_cases2 u 0 with ⟨e2, f2⟩ | ⟨e2, f2⟩ <;> rcases ne_cases2 v 0 with ⟨e3, f3⟩ | ⟨e3, f3⟩
      all_goals
        have HX := Lib.hid (show cellF (ge fs k) = _ from by rw [HCF.out, hu, hv])
        have F1 := Lib.hid f1
        have F2 := Lib.hid f2
        have F3 := Lib.hid f3
        clear f1 f2 f3
        go_wp2
        first
        | (go_ret2
           have hno : cellF (ge fs k) = false := by rw [HX.out]; simp [F1.out, F2.out, F3.out]
           have hno2 := allC_no (by rw [LF.out]; exact hlt) hno
           rw [ER.out, EC.out, hno2]
           exact ⟨none, 0, 0, rfl, OwnI.nil _ _ _, hb⟩)
        | (go_roundw
           case rel => exact ⟨k + 1, by omega, by go_num, by rw [allC_take (by rw [LF.out]; exact hlt), Hall.out, HX.out]; simp [F1.out, F2.out, F3.out], hb⟩
           case measure => simp [intOf]; omega)
    · have hkm : k = m := by omega
      have hz : allC fs = true := by have := Hall.out; rwa [List.take_of_length_le (by rw [hf.len]; omega)] at this
      have Hz := Lib.hid hz
      clear hz hkm
      have E1 := Lib.hid (show res zs fs = wrongTo fs (n / 8) from by rw [ER.out, Hz.out]; rfl)
      have E2 := Lib.hid (show cod zs fs = 0 from by rw [EC.out, Hz.out]; rfl)
      go_wp2_with fail
      go_loopw [8, 9, 10, 11] (fun o y _ _ wr' => ∃ (k y' : Nat) (A' : Option Addr) (c' : Nat), k ≤ n / 8 ∧ y' ≤ k ∧ y = .int .i64 k ∧ o = .slice A' y' c' ∧ OwnI 2 wr' wr.heap.size A' y' c' (wrongTo fs k) ∧ Below wr.heap.size wr wr') (fun _ y _ _ _ => n / 8 + 1 - (intOf y).toNat)
      case atStart => exact ⟨0, 0, some ⟨wr.heap.size, 0, none⟩, 0, Nat.zero_le _, Nat.le_refl _, rfl, rfl, OwnI.empty _ (Nat.le_refl _), (Below.refl _ _).alloc (Nat.le_refl _) _⟩
      case round =>
        obtain ⟨y, y', A', c', hy, hy', rfl, rfl, hown, hb'⟩ := hrel
        by_cases hlt2 : y < n / 8
        · have hle8 : ((y : Int) + 1) * 8 ≤ (n : Int) := by omega
          have hbW := below_next hb' hb (Nat.le_refl _)
          go_wp2_with fail
          go_loopw [10, 11] (fun v i wz => ∃ (j cnt : Nat), j ≤ m ∧ i = .int .i64 j ∧ v = .int .i64 cnt ∧ cnt = hits (fs.take j) y ∧ cnt ≤ j ∧ Below wr.heap.size wr wz) (fun _ i _ => m - (intOf i).toNat)
          case atStart => exact ⟨0, 0, Nat.zero_le _, rfl, rfl, rfl, Nat.le_refl _, Below.refl _ _⟩
          case round =>
            obtain ⟨j, cnt, hj, rfl, rfl, hcnt, hcj, hbz⟩ := hrel
            have HC := Lib.hid hcnt
            clear hcnt
            have hbT := below_next hbz hbW (Nat.le_refl _)
            by_cases hjm : j < m
            · obtain ⟨b, o, rfl, hbl, hc⟩ := (hf.below hbT (Nat.le_refl _)).get (by omega)
              have hc1 := hc j hjm 1 _ rfl
              have hc2 := hc j hjm 2 _ rfl
              clear hc
              have hfl := allF_ge HALL.out (k := j) (by rw [LF.out]; exact hjm)
              have hpos := isFault_pos' hfl
              have hln := isFault_len' hfl
              obtain ⟨p, hp⟩ : ∃ x, (ge fs j).pos = x := ⟨_, rfl⟩
              obtain ⟨l, hl⟩ : ∃ x, (ge fs j).len = x := ⟨_, rfl⟩
              have HH := Lib.hid (show hit (ge fs j) y = inR ((y : Int) * 8) p (p + l - 1) from by unfold hit; rw [hp, hl, Int.mul_comm])
              rw [hp] at hc1 hpos
              rw [hl] at hc2 hln
              obtain ⟨hp1, hp2⟩ := hpos
              obtain ⟨hl1, hl2⟩ := hln
              clear hp hl hfl
              rcases bool_cases (inR ((y : Int) * 8) p (p + l - 1)) with hr | hr
              · go_wp2_with fail
                go_quiet (first | (go_at_call 125; exact quiet_same (l01In_yes hr _)))
                go_wp2
                go_roundw
                case rel => exact ⟨j + 1, cnt + 1, by omega, by go_num, by go_num, by rw [hits_take (by rw [LF.out]; exact hjm), HH.out, hr, HC.out]; rfl, by omega, below_drewN hbz _⟩
                case measure => simp [intOf]; omega
              · go_wp2_with fail
                go_quiet (first | (go_at_call 125; exact quiet_same (l01In_no hr _)))
                go_wp2
                go_roundw
                case rel => exact ⟨j + 1, cnt, by omega, by go_num, rfl, by rw [hits_take (by rw [LF.out]; exact hjm), HH.out, hr, HC.out]; rfl, by omega, below_drewN hbz _⟩
                case measure => simp [intOf]; omega
            · have hjm' : j = m := by omega
              have HO := Lib.hid (show odd fs y = decide (cnt % 2 = 1) from by
                unfold odd; rw [HC.out, hjm', List.take_of_length_le (by rw [LF.out]; exact Nat.le_refl _)])
              clear hjm'
              have hown2 := hown.below hbz
              have hb2 := below_next hbz hb' (Nat.le_refl _)
              by_cases hodd : cnt % 2 = 1
              · have HY := Lib.hid (show odd fs y = true from by rw [HO.out]; simp [hodd])
                have hbe : ((cnt : Int) % 2 == 1) = true := by simp; omega
                clear hodd
                go_wp2_with (at_builtin; refine wpl_appI _ _ Try.underlying25 infoInt rfl _ _ rfl _ _ y' _ _ rfl hown2 (y : Int) rfl (by omega) hb2.size ?_; intro A2 c2 w2 hown3 hB3 hg3)
                go_roundw
                case rel => exact ⟨y + 1, y' + 1, A2, c2, by omega, by omega, by go_num, rfl, by rw [wrongTo_yes HY.out]; exact hown3, hb2.trans (hB3 _ (Nat.le_refl _))⟩
                case measure => simp [intOf]; omega
              · have HY := Lib.hid (show odd fs y = false from by rw [HO.out]; simp [hodd])
                have hbe : ((cnt : Int) % 2 == 1) = false := by simp; omega
                clear hodd
                go_wp2
                go_roundw
                case rel => exact ⟨y + 1, y', A', c', by omega, by omega, by go_num, rfl, by rw [wrongTo_no HY.out]; exact hown2, hb2⟩
                case measure => simp [intOf]; omega
        · have hle8 : ¬ ((y : Int) + 1) * 8 ≤ (n : Int) := by omega
          have hyn : y = n / 8 := by omega
          have HY := Lib.hid hyn
          clear hyn
          go_wp2
          go_ret2
          rw [E1.out, E2.out]
          rw [HY.out] at hown
          exact ⟨_, _, _, rfl, hown.weaken hb.size, below_next hb' hb (Nat.le_refl _)⟩
end CellErrors
end Go.Proofs.Ytdbfnldjibjbkaa
