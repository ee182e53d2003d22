/- Walks, laws and small notions for the claims of this seat, several texts as one (DrwN). Conditions: as each theorem states them. -/
import Derived.Test.YtjehkjdehkdjcaaB12
import Derived.Test.YtjehkjdehkdjcaaB9
import Derived.Test.YtjehkjdehkdjcaaB20
namespace Go.Proofs.Ytjehkjdehkdjcaa
open Go.RowKit

theorem pad_bd (zs : List Int) (a b : Nat) : (PadLine.res zs a b).length ≤ 8192 ∧ ∀ z ∈ PadLine.res zs a b, 0 ≤ z ∧ z ≤ 1 := by
  unfold PadLine.res
  split
  · rename_i h
    unfold PadLine.cod at h
    split at h
    · rename_i h1
      split at h
      · split at h
        · rename_i h2 h3
          refine ⟨by rw [lineP_len]; omega, fun z hz => ?_⟩
          unfold lineP at hz
          rcases List.mem_append.1 hz with hz | hz
          · rcases List.mem_append.1 hz with hz | hz
            · have := List.eq_of_mem_replicate hz; omega
            · exact (isBits_iff.1 h1).2 z hz
          · have := List.eq_of_mem_replicate hz; omega
        · cases h
      · cases h
    · cases h
  · exact ⟨by simp, fun z hz => by simp at hz⟩

set_option maxRecDepth 100000 in
set_option maxHeartbeats 8000000 in
theorem l18Draw_any (g : Nat) (w : World) (h : Src w g) :
    Calls Try.prog 171 #[.pointer (some ⟨g, 0, none⟩)] w (DrI w g 8200) := by
  have hl := h.lt
  go_enter Try.func171, Try.ntmps171
  go_wp2_with fail
  refine (drawBytes_any g 5 _ h (by omega)).mono ?_
  rintro e w1 ⟨A1, n1, c1, ds, rfl, hown1, hn1, d1⟩
  go_wp2_with fail
  refine (preamble_any g _ d1.src).mono ?_
  rintro e w2 ⟨p, rfl, hp, d2⟩
  have hown2 := hown1.dr d2 hl
  have d2' := d2.next d1
  clear hown1 d1 d2
  obtain ⟨cc, hcc⟩ : ∃ x, CellsOf.cod ds p = x := ⟨_, rfl⟩
  obtain ⟨cs, hcs⟩ : ∃ x, CellsOf.res ds p = x := ⟨_, rfl⟩
  go_wp2_with fail
  refine (CellsOf.spec_any A1 n1 c1 p ds _ hown2.reads (by omega) hown2.cap.1 hown2.cap.2 (by omega)).mono ?_
  rw [hcc, hcs]
  rintro e w3 ⟨A3, n3, c3, rfl, hown3, hb3⟩
  have d3 := d2'.below hb3
  have hown3' := hown3.weaken d2'.size
  have L3 := hown3.len
  have hn3 : n3 ≤ 1048576 := by
    rw [← L3, ← hcs]
    unfold CellsOf.res
    split
    · rename_i hc
      have := CellsOf.ok hc
      rw [cellsP_len]
      omega
    · simp
  clear hcc hcs hb3 hown2 d2' hown3 L3
  rcases ne_cases cc with rfl | ⟨h1, h2, h3⟩
  case inr =>
    go_wp2_with fail
    refine (drawBits_any g 24 _ d3.src (by omega)).mono ?_
    rintro e w4 ⟨A4, n4, c4, zs4, rfl, hown4, hn4, d4⟩
    go_wp2
    go_ret
    exact ⟨A4, n4, c4, zs4, rfl, hown4.weaken d3.size, by omega, d4.next d3⟩
  go_wp2_with fail
  refine (next_any g 24 _ d3.src).mono ?_
  rintro e w4 ⟨x0, rfl, hx0, d4⟩
  have hown4 := hown3'.dr d4 hl
  have d4' := d4.next d3
  clear d3 d4 hown3'
  by_cases h0 : x0 = 0
  · subst h0
    go_wp2_with fail
    refine (drawBits_any g 24 _ d4'.src (by omega)).mono ?_
    rintro e w5 ⟨A5, n5, c5, zs5, rfl, hown5, hn5, d5⟩
    go_wp2
    go_ret
    exact ⟨A5, n5, c5, zs5, rfl, hown5.weaken d4'.size, by omega, d5.next d4'⟩
  have b0 : ((x0 : Int) == 0) = false := by simp; omega
  go_wp2_with fail
  refine (next_any g 4 _ d4'.src).mono ?_
  rintro e w5 ⟨a, rfl, ha, d5⟩
  have hown5 := hown4.dr d5 hl
  have d5' := d5.next d4'
  go_wp2_with fail
  refine (next_any g 4 _ d5'.src).mono ?_
  rintro e w6 ⟨b, rfl, hb, d6⟩
  have hown6 := hown5.dr d6 hl
  have d6' := d6.next d5'
  have ha4 : a < 4 := by omega
  have hb4 : b < 4 := by omega
  clear d4' d5 d5' d6 hown4 hown5 ha hb hx0 h0
  obtain ⟨PB1, PB2⟩ := pad_bd cs a b
  obtain ⟨pz, hpz⟩ : ∃ x, PadLine.res cs a b = x := ⟨_, rfl⟩
  obtain ⟨pc, hpc⟩ : ∃ x, PadLine.cod cs a b = x := ⟨_, rfl⟩
  rw [hpz] at PB1 PB2
  have BD0 := Lib.hid (show ∀ i, i < pz.length → 0 ≤ gi pz i ∧ gi pz i ≤ 1 from fun i hi => PB2 _ (mem_gi hi))
  clear PB2
  go_wp2_with fail
  refine (PadLine.spec_any A3 n3 c3 a b cs _ hown6.reads (by omega) (own_none hown6) (by omega) (by omega)).mono ?_
  rw [hpz, hpc]
  rintro e w7 ⟨A7, n7, c7, rfl, hown7, hb7⟩
  have hn7 : n7 ≤ 8192 := by have := hown7.len; omega
  have d7 := d6'.below hb7
  have hown7' := hown7.weaken d6'.size
  have BD := Lib.hid (show ∀ i, i < n7 → 0 ≤ gi pz i ∧ gi pz i ≤ 1 from fun i hi => BD0.out i (by have := hown7.len; omega))
  clear hown6 d6' hb7 hown7 hpz hpc PB1 BD0
  go_wp2_with fail
  refine (next_any g 6 _ d7.src).mono ?_
  rintro e w8 ⟨x, rfl, hx, d8⟩
  have hown8 := hown7'.dr d8 hl
  have d8' := d8.next d7
  clear hown7' d7 d8 hx
  by_cases h0 : x = 0
  · subst h0
    go_wp2_with fail
    refine (next_any g 3 _ d8'.src).mono ?_
    rintro e w9 ⟨q, rfl, hq, d9⟩
    have hown9 := hown8.dr d9 hl
    have d9' := d9.next d8'
    have hq3 : q ≤ 3 := by omega
    clear hown8 d8' d9 hq
    go_wp2_with fail
    go_loopw [5, 6] (fun i _ wr => ∃ (q : Nat) (zs : List Int), q ≤ 4 ∧ i = .int .i64 q ∧ OwnI 2 wr w.heap.size A7 n7 c7 zs ∧ Hid (∀ i, i < n7 → 0 ≤ gi zs i ∧ gi zs i ≤ 1) ∧ Dr w g wr) (fun i _ _ => (intOf i).toNat)
    case atStart => exact ⟨1 + q, pz, by omega, by first | rfl | go_num, hown9, BD, d9'⟩
    case round =>
      obtain ⟨q, zs, hq, rfl, hown, bd, d⟩ := hrel
      by_cases hqq : 0 < q ∧ 0 < n7
      · obtain ⟨hq0, hn0⟩ := hqq
        go_wp2_with fail
        refine (next_any g n7 _ d.src).mono ?_
        rintro e w10 ⟨y, rfl, hy, d10⟩
        have hy7 : y < n7 := by omega
        have hown10 := hown.dr d10 hl
        have d10' := d10.next d
        obtain ⟨gg, rfl, hga, hgb⟩ := hown10.form hn0
        have hold := hown10.cell (j := y) hy7
        have hfr := hown10.frozen y
        have hv := bd.out y hy7
        obtain ⟨v, hvv⟩ : ∃ v, gi zs y = v := ⟨_, rfl⟩
        rw [hvv] at hold hv
        have f1 : IntKind.i64.wrap (1 - v) = 1 - v := IntWalk.i64_in _ (by omega)
        have hy8 : (y : Int) < (n7 : Int) := by omega
        clear hvv hy
        go_wp2
        go_roundw
        case rel =>
          have st := hown10.stored y (1 - v)
          refine ⟨q - 1, _, by omega, by first | go_num | (congr 1; omega), st.1, Lib.hid fun i hi => ?_, d10'.app hown10 st.2 hl⟩
          rw [gi_set]
          split
          · omega
          · exact bd.out i hi
        case measure => simp [intOf]; omega
      · rcases (show q = 0 ∨ (0 < q ∧ n7 = 0) by omega) with hq0 | ⟨hq0, hn0⟩
        · subst hq0
          go_wp2
          go_ret
          exact ⟨A7, n7, c7, zs, rfl, hown, by omega, d⟩
        · subst hn0
          go_wp2
          go_ret
          exact ⟨A7, 0, c7, zs, rfl, hown, by omega, d⟩
  have b1 : ((x : Int) == 0) = false := by simp; omega
  by_cases h1 : x = 1
  · subst h1
    by_cases hn0 : n7 = 0
    · subst hn0
      go_wp2
      go_ret
      exact ⟨A7, 0, c7, pz, rfl, hown8, by omega, d8'⟩
    · have hnp : (0 : Int) < (n7 : Int) := by omega
      go_wp2_with fail
      refine (next_any g n7 _ d8'.src).mono ?_
      rintro e w9 ⟨y, rfl, hy, d9⟩
      have hy7 : y < n7 := by omega
      have hown9 := hown8.dr d9 hl
      have d9' := d9.next d8'
      have cp := hown9.cap
      have f1 : (y : Int) ≤ (c7 : Int) := by omega
      obtain ⟨gg, rfl, hga, hgb⟩ := hown9.form (by omega)
      have hct := Lib.hid (hown9.cut (k := y) (by omega))
      clear hy cp hown9
      go_wp2
      go_ret
      exact ⟨_, y, c7, _, rfl, hct.out, by omega, d9'⟩
  have b2 : ((x : Int) == 1) = false := by simp; omega
  go_wp2
  go_ret
  exact ⟨A7, n7, c7, pz, rfl, hown8, by omega, d8'⟩

set_option maxHeartbeats 4000000 in
theorem drawNominalSamples_any (A : Option Addr) (n c : Nat) (bs : List Int) (w : World) (h : RB w w.heap.size A n bs) (hn : n ≤ 1099511627776) :
    Calls Try.prog 93 #[.slice A n c] w (TopI w 8200) := by
  go_enter Try.func93, Try.ntmps93
  go_wp2_with fail
  refine (from_any A n c bs _ h hn).mono ?_
  rintro e w1 ⟨g, rfl, hs1, hg, hb1⟩
  have hl := hs1.lt
  go_wp2_with fail
  refine (next_any g 30 _ hs1).mono ?_
  rintro e w2 ⟨x, rfl, hx, d2⟩
  by_cases h0 : x = 0
  · subst h0
    go_wp2_with fail
    refine (next_any g 3 _ d2.src).mono ?_
    rintro e w3 ⟨v, rfl, hv, d3⟩
    have d3' := d3.next d2
    have hv2 : v < 3 := by omega
    go_wp2_with (at_make; refine wpl_make _ Try.underlying24 infoInt rfl _ _ rfl (1023 + v) (vint (by omega)) (vint (by omega)) (by omega) ?_; intro w5 hown5 hg5)
    have d5 := d3'.own hg5 (fun j e => by cases e) hl
    go_ret
    exact TopI.of ⟨_, 1023 + v, _, _, rfl, hown5.weaken d3'.size, by omega, d5⟩ hb1 hg
  · have b0 : ((x : Int) == 0) = false := by simp; omega
    go_wp2_with fail
    refine (l18Draw_any g _ d2.src).mono ?_
    rintro e w3 ⟨A3, n3, c3, zs3, rfl, hown3, hn3, d3⟩
    go_wp2
    go_ret
    exact TopI.of ⟨A3, n3, c3, zs3, rfl, hown3.weaken d2.size, hn3, d3.next d2⟩ hb1 hg
end Go.Proofs.Ytjehkjdehkdjcaa
