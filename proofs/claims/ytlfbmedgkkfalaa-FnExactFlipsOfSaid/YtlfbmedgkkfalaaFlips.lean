/- The walks of FlipsOf, of the program and the reference. Conditions: none. -/
import Derived.Test.YtlfbmedgkkfalaaFlipsA
import Derived.Test.YtlfbmedgkkfalaaBin
import Derived.Test.YtlfbmedgkkfalaaIns
import Derived.Test.YtlfbmedgkkfalaaKit8
import Derived.BigRegion
import Derived.IntWalk
namespace Go.Proofs.Ytlfbmedgkkfalaa
open Go.RowKit

theorem posF_rise (ms : List Int) (n : Nat) : ∀ i j, i < j → j < (posF ms 0 n).length → gi (posF ms 0 n) i < gi (posF ms 0 n) j := by
  have hp : (posF ms 0 n).Pairwise (· < ·) := by
    unfold posF
    rw [List.pairwise_map]
    refine List.Pairwise.imp (fun {a b} (h : a < b) => by omega) (List.Pairwise.filter _ (List.pairwise_lt_range'))
  intro i j hij hj
  rw [gi_lt (by omega), gi_lt hj]
  exact List.pairwise_iff_getElem.1 hp i j (by omega) hj hij

section
variable {ms : List Int} {q i : Nat}
theorem gi_app_ge {xs ys : List Int} {k : Nat} (h : xs.length ≤ k) : gi (xs ++ ys) k = gi ys (k - xs.length) := by
  unfold gi
  rw [List.getD_eq_getElem?_getD, List.getElem?_append_right h, List.getD_eq_getElem?_getD]
theorem posF_ge {a n k : Nat} (h : k < (posF ms a n).length) : (a : Int) ≤ gi (posF ms a n) k ∧ gi (posF ms a n) k < (a : Int) + (n : Int) := posF_lt (mem_gi h)
theorem found_at (hq : q < 8193) (h : Found (posF ms 0 8193) q i) : i = (posF ms 0 q).length := by
  obtain ⟨h1, h2, h3⟩ := h
  have hsp := posF_split ms q 8193 hq
  rcases Nat.lt_trichotomy i (posF ms 0 q).length with h | h | h
  · exfalso
    have h4 := h3 i (Nat.le_refl _) (by rw [hsp, List.length_append]; omega)
    rw [hsp, gi_app_lt h] at h4
    have := (posF_ge h).2
    omega
  · exact h
  · exfalso
    have h4 := h2 _ h
    have hl : (posF ms 0 q).length < (posF ms 0 8193).length := by omega
    rw [hsp, gi_app_ge (Nat.le_refl _), Nat.sub_self] at h4
    rw [hsp, List.length_append] at hl
    by_cases hm : gi ms q = 1
    · rw [if_pos hm] at h4
      simp [gi] at h4
    · rw [if_neg hm, List.nil_append] at h4 hl
      have := (posF_ge (ms := ms) (a := q + 1) (n := 8193 - (q + 1)) (k := 0) (by omega)).1
      omega
theorem fnd_at (hq : q < 8193) : fnd (posF ms 0 8193).length (posF ms 0 8193) q (posF ms 0 q).length = decide (gi ms q = 1) := by
  have hsp := posF_split ms q 8193 hq
  unfold fnd
  by_cases hm : gi ms q = 1
  · rw [if_pos hm] at hsp
    have h1 : (posF ms 0 q).length < (posF ms 0 8193).length := by rw [hsp]; simp
    have h2 : gi (posF ms 0 8193) (posF ms 0 q).length = q := by
      rw [hsp, gi_app_ge (Nat.le_refl _), Nat.sub_self]; rfl
    simp [h1, h2, hm]
  · rw [if_neg hm, List.nil_append] at hsp
    simp only [hm, decide_false, decide_eq_false_iff_not]
    rintro ⟨h1, h2⟩
    rw [hsp, gi_app_ge (Nat.le_refl _), Nat.sub_self] at h2
    rw [hsp, List.length_append] at h1
    have := (posF_ge (ms := ms) (a := q + 1) (n := 8193 - (q + 1)) (k := 0) (by omega)).1
    omega
theorem posF_del (hq : q < 8193) (hl : ms.length = 8193) (hm : gi ms q = 1) :
    (posF ms 0 8193).take (posF ms 0 q).length ++ (posF ms 0 8193).drop ((posF ms 0 q).length + 1) = posF (togM ms q) 0 8193 := by
  rw [posF_tog hq (by omega) (.inr hm), if_pos hm, posF_split ms q 8193 hq, if_pos hm, List.take_left]
  congr 1
  rw [List.drop_append, List.drop_of_length_le (by omega), List.nil_append, Nat.add_sub_cancel_left]
  rfl
theorem posF_ins (hq : q < 8193) (hl : ms.length = 8193) (hm : gi ms q = 0) :
    (posF ms 0 8193).take (posF ms 0 q).length ++ [(q : Int)] ++ (posF ms 0 8193).drop (posF ms 0 q).length = posF (togM ms q) 0 8193 := by
  have h1 : gi ms q ≠ 1 := by omega
  rw [posF_tog hq (by omega) (.inl hm), if_neg h1, posF_split ms q 8193 hq, if_neg h1, List.nil_append, List.take_left, List.drop_left, List.append_assoc]
end

theorem lies_new (w : World) (X : Obj) (t : TypeId) (z : Int) : Lies ((w.alloc X).alloc (.cells #[.int .i64 z] t)) (w.heap.size + 1) 0 1 [z] := by
  have h := new_heap (w.alloc X) (.cells #[.int .i64 z] t)
  rw [isz_alloc] at h
  refine ⟨rfl, ⟨_, _, h⟩, fun j hj => ?_⟩
  obtain rfl : j = 0 := by omega
  unfold World.cell?
  rw [show (⟨w.heap.size + 1, 0 + 0, none⟩ : Addr).block = w.heap.size + 1 from rfl, h]
  rfl
namespace FlipsOf
theorem isScript_parts {fs : List Flt} (h : isScript fs = true) : fs.length ≤ 30 ∧ allF fs = true := by
  unfold isScript at h; simpa only [Bool.and_eq_true, decide_eq_true_eq] using h
theorem pos_parts {fs : List Flt} (h : allF fs = true) {k : Nat} (hk : k < fs.length) : ∃ q : Nat, (ge fs k).pos = q ∧ q < 8193 := by
  have := allF_ge h hk
  unfold isFault at this
  simp only [Bool.and_eq_true] at this
  have h2 := inR_iff.1 this.2.1
  exact ⟨(ge fs k).pos.toNat, by omega, by omega⟩

set_option maxRecDepth 20000 in
set_option maxHeartbeats 8000000 in
theorem impl_any (A : Option Addr) (m c : Nat) (fs : List Flt) (w : World) (h : RE encF 4 w w.heap.size A m fs) (hm : m ≤ 1099511627776) :
    Calls Try.prog 69 #[.slice A m c] w (RetIC 2 w (res fs) (cod fs)) := by
  have L := Lib.hid h.len
  rcases bool_cases (isScript fs) with hz | hz
  case inr =>
    have E1 := Lib.hid (show res fs = [] from by simp [res, hz])
    have E2 := Lib.hid (show cod fs = 2 from by simp [cod, hz])
    go_enter Try.func69, Try.ntmps69
    go_wp2_with fail
    refine (iIsScript_any A m c fs w h hm).mono ?_
    rw [hz]
    rintro e w1 ⟨rfl, hb1⟩
    go_wp2
    go_ret2
    rw [E1.out, E2.out]
    exact ⟨none, 0, 0, rfl, OwnI.nil _ _ _, hb1⟩
  have HSP := Lib.hid (isScript_parts hz)
  have HZ := Lib.hid hz
  clear hz
  go_enter Try.func69, Try.ntmps69
  go_wp2_with fail
  refine (iIsScript_any A m c fs w h hm).mono ?_
  rw [HZ.out]
  rintro e w1 ⟨rfl, hb1⟩
  have hown0 : OwnI 2 (w1.alloc (.cells #[] 2)) w.heap.size (some ⟨w1.heap.size, 0, none⟩) 0 0 [] := OwnI.empty w1 hb1.size
  have hb0 : Below w.heap.size w (w1.alloc (.cells #[] 2)) := hb1.alloc hb1.size _
  go_wp2_with fail
  go_loopw [4, 15] (fun o i wr => ∃ (k n' : Nat) (A' : Option Addr) (c' : Nat), k ≤ m ∧ i = .int .i64 k ∧ o = .slice A' n' c' ∧ OwnI 2 wr w.heap.size A' n' c' (posF (marksOf (fs.take k)) 0 8193) ∧ allFl (fs.take k) = true ∧ Below w.heap.size w wr) (fun _ i _ => m - (intOf i).toNat)
  case atStart =>
    refine ⟨0, 0, _, 0, Nat.zero_le _, rfl, rfl, ?_, rfl, hb0⟩
    have : posF (marksOf (fs.take 0)) 0 8193 = [] := by
      have h0 : ∀ n, n ≤ 8193 → posF (List.replicate 8193 0) 0 n = [] := by
        intro n
        induction n with
        | zero => intro _; exact posF_zero _ _
        | succ n ih =>
          intro hn
          rw [posF_succ, ih (by omega), Nat.zero_add]
          have : gi (List.replicate 8193 (0 : Int)) n = 0 := by
            unfold gi
            rw [List.getD_eq_getElem?_getD, List.getElem?_replicate, if_pos (by omega)]; rfl
          rw [this]; rfl
      exact h0 8193 (Nat.le_refl _)
    rw [this]; exact hown0
  case round =>
    obtain ⟨k, n', A', c', hk, rfl, rfl, hown, hfl, hb⟩ := hrel
    have HO := Lib.hid hown
    have HFL := Lib.hid hfl
    have hn8 : n' ≤ 8193 := by rw [← hown.len]; exact posF_len _ _ _
    clear hown hfl
    by_cases hlt : k < m
    · obtain ⟨b, o, rfl, hbl, hc⟩ := (h.below hb (Nat.le_refl _)).get (by omega)
      have hc0 := hc k hlt 0 _ rfl
      have hc1 := hc k hlt 1 _ rfl
      have hc2 := hc k hlt 2 _ rfl
      have hc3 := hc k hlt 3 _ rfl
      clear hc
      rw [Nat.add_zero] at hc0
      obtain ⟨kd, hkd⟩ : ∃ x, (ge fs k).kd = x := ⟨_, rfl⟩
      rw [hkd] at hc0
      have HK := Lib.hid hkd
      clear hkd
      by_cases h1 : kd = 1
      case neg =>
        have hb1 : (kd != 1) = true := by simp [h1]
        have HN := Lib.hid (show allFl fs = false from allFl_no (by rw [L.out]; exact hlt) (by rw [HK.out]; exact h1))
        have E1 := Lib.hid (show res fs = [] from by simp [res, HN.out])
        have E2 := Lib.hid (show cod fs = 5 from by simp [cod, HN.out, HZ.out])
        clear h1
        go_wp2
        go_ret2
        rw [E1.out, E2.out]
        exact ⟨none, 0, 0, rfl, OwnI.nil _ _ _, below_alloc hb (Nat.le_refl _) _⟩
      subst h1
      have HF1 := Lib.hid (show allFl (fs.take (k + 1)) = true from by rw [allFl_take (by rw [L.out]; exact hlt), HFL.out, HK.out]; rfl)
      obtain ⟨q, hq, hq3⟩ := pos_parts HSP.out.2 (k := k) (by rw [L.out]; exact hlt)
      rw [hq] at hc1
      have ST := Lib.hid (show marksOf (fs.take (k + 1)) = togM (marksOf (fs.take k)) q from by rw [marksOf_take (by rw [L.out]; exact hlt), hq]; rfl)
      clear hq
      obtain ⟨ms, hms⟩ : ∃ ms, marksOf (fs.take k) = ms := ⟨_, rfl⟩
      have hml : ms.length = 8193 := by rw [← hms]; exact marksOf_len _
      have hmb : gi ms q = 0 ∨ gi ms q = 1 := by rw [← hms]; exact marksOf_bit _ hq3
      rw [hms] at HO ST
      have HML := Lib.hid hml
      clear hms hml
      have HB := Lib.hid hb
      clear hb
      go_wp2_with fail
      refine (search_any A' n' c' (posF ms 0 8193) q _ (by exact (HO.out.alloc _).reads) (by omega) (by intro i j h1 h2; exact posF_rise ms 8193 i j h1 (by rw [HO.out.len]; exact h2))).mono ?_
      rintro e w2 ⟨i, hfd, rfl, rfl⟩
      have hi := found_at hq3 hfd
      have hln := HO.out.len
      have hi2 : i ≤ n' := by rw [← hln]; exact hfd.1
      have HI := Lib.hid hi
      rcases hmb with hm0 | hm1
      · have HV := Lib.hid (show fnd n' (posF ms 0 8193) q i = false from by rw [← hln, hi, fnd_at hq3, hm0]; rfl)
        have HM := Lib.hid hm0
        clear hm0 hi hln hfd
        rw [HV.out]
        go_wp2_with fail
        refine (insert_any A' n' c' i (wr.heap.size + 1) 0 1 1 w.heap.size (posF ms 0 8193) [(q : Int)] _ (by exact (HO.out.alloc _).alloc _) (by exact lies_new _ _ _ _) (by intro g e; have := (own_row HO.out g e).2; omega) hi2 (by omega) (by simp only [isz_alloc]; have := HB.out.size; omega)).mono ?_
        rintro e w3 ⟨A3, c3, rfl, hown3, hg3⟩
        have HO3 := Lib.hid hown3
        have HG3 := Lib.hid hg3
        clear hown3 hg3
        obtain ⟨n3, hn3⟩ : ∃ n3, n' + 1 = n3 := ⟨_, rfl⟩
        rw [hn3] at HO3 ⊢
        clear hn3
        go_wp2
        go_roundw
        case rel =>
          have e3 := HO3.out
          rw [HI.out, posF_ins hq3 HML.out HM.out] at e3
          exact ⟨k + 1, n3, A3, c3, by omega, by go_num, rfl, by rw [ST.out]; exact e3, HF1.out, (below_alloc (below_alloc HB.out (Nat.le_refl _) _) (Nat.le_refl _) _).grown HG3.out (Nat.le_trans HB.out.size (by rw [isz_alloc, isz_alloc]; omega)) (fun g e => (own_row HO.out g e).1)⟩
        case measure => simp [intOf]; omega
      · have HV := Lib.hid (show fnd n' (posF ms 0 8193) q i = true from by rw [← hln, hi, fnd_at hq3, hm1]; rfl)
        have HM := Lib.hid hm1
        have hi3 : i + 1 ≤ n' := by
          have := HV.out
          unfold fnd at this
          have := of_decide_eq_true this
          omega
        clear hm1 hi hln hfd
        rw [HV.out]
        go_wp2_with fail
        refine (delete_any A' n' c' i (i + 1) w.heap.size (posF ms 0 8193) _ (by exact HO.out.alloc _) (by omega) hi3 (by omega)).mono ?_
        rintro e w3 ⟨rfl, hown3, hg3⟩
        have HO3 := Lib.hid hown3
        have HG3 := Lib.hid hg3
        clear hown3 hg3
        obtain ⟨n3, hn3⟩ : ∃ n3, n' - (i + 1 - i) = n3 := ⟨_, rfl⟩
        rw [hn3] at HO3 ⊢
        clear hn3
        go_wp2
        go_roundw
        case rel =>
          have e3 := HO3.out
          rw [HI.out, posF_del hq3 HML.out HM.out] at e3
          exact ⟨k + 1, n3, A', c', by omega, by go_num, rfl, by rw [ST.out]; exact e3, HF1.out, (below_alloc HB.out (Nat.le_refl _) _).grown HG3.out (Nat.le_trans HB.out.size (by rw [isz_alloc]; omega)) (fun g e => (own_row HO.out g e).1)⟩
        case measure => simp [intOf]; omega
    · have hkm : k = m := by omega
      have HK := Lib.hid (show fs.take k = fs by rw [List.take_of_length_le (by rw [L.out]; omega)])
      have HA := Lib.hid (show allFl fs = true from by have := HFL.out; rwa [HK.out] at this)
      have E1 := Lib.hid (show res fs = posF (marksOf fs) 0 8193 from by simp [res, HZ.out, HA.out])
      have E2 := Lib.hid (show cod fs = 0 from by simp [cod, HZ.out, HA.out])
      clear hkm
      go_wp2
      go_ret2
      rw [E1.out, E2.out]
      have := HO.out
      rw [HK.out] at this
      exact ⟨_, _, _, rfl, this, hb⟩

set_option maxRecDepth 200000 in
set_option maxHeartbeats 8000000 in
theorem spec_any (A : Option Addr) (m c : Nat) (fs : List Flt) (w : World) (h : RE encF 4 w w.heap.size A m fs) (hm : m ≤ 1099511627776) :
    Calls Try.prog 68 #[.slice A m c] w (RetIC 2 w (res fs) (cod fs)) := by
  have L := Lib.hid h.len
  rcases bool_cases (isScript fs) with hz | hz
  case inr =>
    have E1 := Lib.hid (show res fs = [] from by simp [res, hz])
    have E2 := Lib.hid (show cod fs = 2 from by simp [cod, hz])
    go_enter Try.func68, Try.ntmps68
    go_wp2_with fail
    refine (sIsScript_any A m c fs w h hm).mono ?_
    rw [hz]
    rintro e w1 ⟨rfl, hb1⟩
    go_wp2
    go_ret2
    rw [E1.out, E2.out]
    exact ⟨none, 0, 0, rfl, OwnI.nil _ _ _, hb1⟩
  have HSP := Lib.hid (isScript_parts hz)
  have HZ := Lib.hid hz
  clear hz
  go_enter Try.func68, Try.ntmps68
  go_wp2_with fail
  refine (sIsScript_any A m c fs w h hm).mono ?_
  rw [HZ.out]
  rintro e w1 ⟨rfl, hb1⟩
  go_wp2_with (at_make; refine wpl_make _ Try.underlying24 infoInt rfl _ _ rfl 8193 (by rfl) (by rfl) (by omega) ?_; intro w2 hown2 hg2)
  obtain ⟨g, hg⟩ : ∃ g, w1.heap.size = g := ⟨_, rfl⟩
  rw [hg] at hown2 ⊢
  have hgb : w.heap.size ≤ g := by rw [← hg]; exact hb1.size
  have hb2 : Below w.heap.size w w2 := hb1.grown hg2 hb1.size (fun g e => by cases e)
  clear hg hg2 hb1
  go_loopw [5] (fun i wr => ∃ k : Nat, k ≤ m ∧ i = .int .i64 k ∧ Hid (OwnI 2 wr w.heap.size (some ⟨g, 0, none⟩) 8193 8193 (marksOf (fs.take k))) ∧ allFl (fs.take k) = true ∧ Below w.heap.size w wr) (fun i _ => m - (intOf i).toNat)
  case atStart => exact ⟨0, Nat.zero_le _, rfl, hown2.weaken hgb, rfl, hb2⟩
  case round =>
    obtain ⟨k, hk, rfl, HO, hfl, hb⟩ := hrel
    have HFL := Lib.hid hfl
    clear hfl
    by_cases hlt : k < m
    · obtain ⟨b, o, rfl, hbl, hc⟩ := (h.below hb (Nat.le_refl _)).get (by omega)
      have hc0 := hc k hlt 0 _ rfl
      have hc1 := hc k hlt 1 _ rfl
      clear hc
      rw [Nat.add_zero] at hc0
      obtain ⟨kd, hkd⟩ : ∃ x, (ge fs k).kd = x := ⟨_, rfl⟩
      rw [hkd] at hc0
      have HK := Lib.hid hkd
      clear hkd
      by_cases h1 : kd = 1
      case neg =>
        have hb1 : (kd != 1) = true := by simp [h1]
        have HN := Lib.hid (show allFl fs = false from allFl_no (by rw [L.out]; exact hlt) (by rw [HK.out]; exact h1))
        have E1 := Lib.hid (show res fs = [] from by simp [res, HN.out])
        have E2 := Lib.hid (show cod fs = 5 from by simp [cod, HN.out, HZ.out])
        clear h1
        go_wp2
        go_ret2
        rw [E1.out, E2.out]
        exact ⟨none, 0, 0, rfl, OwnI.nil _ _ _, hb⟩
      subst h1
      have HF1 := Lib.hid (show allFl (fs.take (k + 1)) = true from by rw [allFl_take (by rw [L.out]; exact hlt), HFL.out, HK.out]; rfl)
      obtain ⟨q, hq, hq3⟩ := pos_parts HSP.out.2 (k := k) (by rw [L.out]; exact hlt)
      rw [hq] at hc1
      have ST := Lib.hid (show marksOf (fs.take (k + 1)) = togM (marksOf (fs.take k)) q from by rw [marksOf_take (by rw [L.out]; exact hlt), hq]; rfl)
      clear hq
      obtain ⟨ms, hms⟩ : ∃ ms, marksOf (fs.take k) = ms := ⟨_, rfl⟩
      have hmb : gi ms q = 0 ∨ gi ms q = 1 := by rw [← hms]; exact marksOf_bit _ hq3
      rw [hms] at HO ST
      clear hms
      have hcell := HO.out.cell hq3
      have hfr := HO.out.frozen q
      obtain ⟨x, hx⟩ : ∃ x, gi ms q = x := ⟨_, rfl⟩
      rw [hx] at hcell hmb
      have hx0 : 0 ≤ x := by omega
      have hx1 : x ≤ 1 := by omega
      have HX := Lib.hid hx
      have HB := Lib.hid hb
      have hgq : g < wr.heap.size := (HO.out.block g 0 rfl).2.2
      have hqi : (q : Int) < 8193 := by omega
      have hw1 : IntKind.i64.wrap (1 - x) = 1 - x := IntWalk.i64_in _ (by omega)
      clear hx hmb hb
      go_wp2_with fail
      go_region
      all_goals
        clear hw1
        go_wp2_with fail
        go_roundw
        case rel =>
          have st := HO.out.stored q (1 - x)
          rw [← HX.out] at st
          exact ⟨k + 1, by omega, by go_num, by rw [ST.out]; rw [← HX.out]; exact st.1, HF1.out, by first | exact HB.out.drew.setCell (p := ⟨g, q, none⟩) hgb _ | exact HB.out.setCell (p := ⟨g, q, none⟩) hgb _⟩
        case measure => simp [intOf]; omega
    · have hkm : k = m := by omega
      have HK := Lib.hid (show fs.take k = fs by rw [List.take_of_length_le (by rw [L.out]; omega)])
      have HA := Lib.hid (show allFl fs = true from by have := HFL.out; rwa [HK.out] at this)
      have E1 := Lib.hid (show res fs = posF (marksOf fs) 0 8193 from by simp [res, HZ.out, HA.out])
      have E2 := Lib.hid (show cod fs = 0 from by simp [cod, HZ.out, HA.out])
      rw [HK.out] at HO
      obtain ⟨ms, hms⟩ : ∃ ms, marksOf fs = ms := ⟨_, rfl⟩
      rw [hms] at HO E1
      clear hkm hms
      go_wp2_with fail
      go_loopw [6, 7] (fun o i wr' => ∃ (k n' : Nat) (A' : Option Addr) (c' : Nat), k ≤ 8193 ∧ i = .int .i64 k ∧ o = .slice A' n' c' ∧ OwnI 2 wr' wr.heap.size A' n' c' (posF ms 0 k) ∧ Below wr.heap.size wr wr') (fun _ i _ => 8193 - (intOf i).toNat)
      case atStart => exact ⟨0, 0, some ⟨wr.heap.size, 0, none⟩, 0, Nat.zero_le _, rfl, rfl, by rw [posF_zero]; exact OwnI.empty _ (Nat.le_refl _), (Below.refl _ _).alloc (Nat.le_refl _) _⟩
      case round =>
        obtain ⟨j, n', A', c', hj, rfl, rfl, hown', hb'⟩ := hrel
        have hn8 : n' ≤ j := by rw [← hown'.len]; exact posF_len _ _ _
        by_cases hlt2 : j < 8193
        · have hji : (j : Int) < 8193 := by omega
          have hcell := (HO.out.below hb').cell hlt2
          have HS := Lib.hid (posF_succ ms 0 j)
          obtain ⟨x, hx⟩ : ∃ x, gi ms j = x := ⟨_, rfl⟩
          rw [hx] at hcell
          have HX := Lib.hid hx
          clear hx
          by_cases hx1 : x = 1
          · have hb1 : (x == 1) = true := by simp [hx1]
            have HS2 := Lib.hid (show posF ms 0 (j + 1) = posF ms 0 j ++ [(j : Int)] from by rw [HS.out, Nat.zero_add, HX.out, if_pos hx1])
            clear hx1
            go_wp2_with (at_builtin; refine wpl_appI _ _ Try.underlying24 infoInt rfl _ _ rfl _ _ n' _ _ rfl hown' (j : Int) rfl (by omega) hb'.size ?_; intro A2 c2 w2 hown2 hB2 hg2)
            go_roundw
            case rel => exact ⟨j + 1, n' + 1, A2, c2, by omega, by go_num, rfl, by rw [HS2.out]; exact hown2, hb'.trans (hB2 _ (Nat.le_refl _))⟩
            case measure => simp [intOf]; omega
          · have hb1 : (x == 1) = false := by simp [hx1]
            have HS2 := Lib.hid (show posF ms 0 (j + 1) = posF ms 0 j from by rw [HS.out, Nat.zero_add, HX.out, if_neg hx1, List.append_nil])
            clear hx1
            go_wp2
            go_roundw
            case rel => exact ⟨j + 1, n', A', c', by omega, by go_num, rfl, by rw [HS2.out]; exact hown', hb'⟩
            case measure => simp [intOf]; omega
        · have hji : ¬ ((j : Int) < 8193) := by omega
          have HJ := Lib.hid (show posF ms 0 j = posF ms 0 8193 by rw [show j = 8193 by omega])
          go_wp2
          go_ret2
          rw [E1.out, E2.out]
          rw [HJ.out] at hown'
          exact ⟨_, _, _, rfl, hown'.weaken hb.size, below_next hb' hb (Nat.le_refl _)⟩
end FlipsOf
end Go.Proofs.Ytlfbmedgkkfalaa
