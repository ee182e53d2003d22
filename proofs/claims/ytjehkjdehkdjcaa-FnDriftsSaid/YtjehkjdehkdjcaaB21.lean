/- Walks, laws and small notions for the claims of this seat, several texts as one (Srt, Edj). Conditions: as each theorem states them. -/
import Derived.Shelf.SortM.Plain
import Derived.Shelf.SortM.SortNone
import Derived.Sort.OwnSortedInts
import Derived.Test.YtjehkjdehkdjcaaB20
import Derived.Test.YtjehkjdehkdjcaaB1
namespace Go.Proofs.Ytjehkjdehkdjcaa
open Go.Shelf Go.RowKit Go.Sort
def sortL_ren : Go.Shelf.Ren := ⟨fun | 5 => 234 | 8 => 257 | 7 => 256 | 19 => 267 | 20 => 268 | 10 => 259 | 11 => 260 | 12 => 261 | 13 => 262 | 14 => 263 | 15 => 264 | 16 => 214 | 17 => 265 | 18 => 266 | 30 => 269 | 31 => 270 | 32 => 271 | 33 => 272 | 34 => 273 | 35 => 250 | 40 => 274 | n => n, fun | 23 => 24 | 25 => 2 | 3 => 3 | 32 => 111 | 22 => 24 | 0 => 0 | 44 => 188 | 46 => 46 | 4 => 4 | 36 => 182 | 35 => 181 | 41 => 134 | 5 => 5 | 9 => 9 | 53 => 190 | 57 => 194 | 63 => 196 | 64 => 197 | n => n, fun | n => n⟩
theorem sortL : Go.Proofs.SlLaysM.n5 Try.prog sortL_ren := {
  mixed := by kernel_rfl
  f5 := ⟨Try.f234.name, by decide, Try.func234.trans (congrArg some (by kernel_rfl))⟩
  f7 := ⟨Try.f256.name, by decide, Try.func256.trans (congrArg some (by kernel_rfl))⟩
  f8 := Try.func257.trans (congrArg some (by kernel_rfl))
  f10 := ⟨Try.f259.name, by decide, Try.func259.trans (congrArg some (by kernel_rfl))⟩
  f11 := ⟨Try.f260.name, by decide, Try.func260.trans (congrArg some (by kernel_rfl))⟩
  f12 := ⟨Try.f261.name, by decide, Try.func261.trans (congrArg some (by kernel_rfl))⟩
  f13 := ⟨Try.f262.name, by decide, Try.func262.trans (congrArg some (by kernel_rfl))⟩
  f14 := ⟨Try.f263.name, by decide, Try.func263.trans (congrArg some (by kernel_rfl))⟩
  f15 := ⟨Try.f264.name, by decide, Try.func264.trans (congrArg some (by kernel_rfl))⟩
  f16 := ⟨Try.f214.name, by decide, Try.func214.trans (congrArg some (by kernel_rfl))⟩
  f17 := ⟨Try.f265.name, by decide, Try.func265.trans (congrArg some (by kernel_rfl))⟩
  f18 := ⟨Try.f266.name, by decide, Try.func266.trans (congrArg some (by kernel_rfl))⟩
  f19 := Try.func267.trans (congrArg some (by kernel_rfl))
  f20 := Try.func268.trans (congrArg some (by kernel_rfl))
  f30 := ⟨Try.f269.name, by decide, Try.func269.trans (congrArg some (by kernel_rfl))⟩
  f31 := Try.func270.trans (congrArg some (by kernel_rfl))
  f32 := Try.func271.trans (congrArg some (by kernel_rfl))
  f33 := ⟨Try.f272.name, by decide, Try.func272.trans (congrArg some (by kernel_rfl))⟩
  f34 := ⟨Try.f273.name, by decide, Try.func273.trans (congrArg some (by kernel_rfl))⟩
  f35 := ⟨Try.f250.name, by decide, Try.func250.trans (congrArg some (by kernel_rfl))⟩
  f40 := ⟨Try.f274.name, by decide, Try.func274.trans (congrArg some (by kernel_rfl))⟩
  t0 := Try.underlying0
  a0 := Try.isAgg0
  z0 := Try.sizeOf0
  v0 := Try.zeroValue0
  t3 := Try.underlying3
  a3 := Try.isAgg3
  z3 := Try.sizeOf3
  v3 := Try.zeroValue3
  t4 := Try.underlying4
  a4 := Try.isAgg4
  z4 := Try.sizeOf4
  v4 := Try.zeroValue4
  t5 := Try.underlying5
  a5 := Try.isAgg5
  z5 := Try.sizeOf5
  v5 := Try.zeroValue5
  t9 := Try.underlying9
  a9 := Try.isAgg9
  z9 := Try.sizeOf9
  v9 := Try.zeroValue9
  t22 := Try.underlying24
  a22 := Try.isAgg24
  z22 := Try.sizeOf24
  v22 := Try.zeroValue24
  t23 := Try.underlying24
  a23 := Try.isAgg24
  z23 := Try.sizeOf24
  v23 := Try.zeroValue24
  t25 := Try.underlying2
  a25 := Try.isAgg2
  z25 := Try.sizeOf2
  v25 := Try.zeroValue2
  t32 := Try.underlying111
  a32 := Try.isAgg111
  z32 := Try.sizeOf111
  v32 := Try.zeroValue111
  t35 := Try.underlying181
  a35 := Try.isAgg181
  z35 := Try.sizeOf181
  v35 := Try.zeroValue181
  t36 := Try.underlying182
  a36 := Try.isAgg182
  z36 := Try.sizeOf182
  v36 := Try.zeroValue182
  t41 := Try.underlying134
  a41 := Try.isAgg134
  z41 := Try.sizeOf134
  v41 := Try.zeroValue134
  t44 := Try.underlying188
  a44 := Try.isAgg188
  z44 := Try.sizeOf188
  v44 := Try.zeroValue188
  t46 := Try.underlying46
  a46 := Try.isAgg46
  z46 := Try.sizeOf46
  v46 := Try.zeroValue46
  t53 := Try.underlying190
  a53 := Try.isAgg190
  z53 := Try.sizeOf190
  v53 := Try.zeroValue190
  t57 := Try.underlying194
  a57 := Try.isAgg194
  z57 := Try.sizeOf194
  v57 := Try.zeroValue194
  t63 := Try.underlying196
  a63 := Try.isAgg196
  z63 := Try.sizeOf196
  v63 := Try.zeroValue196
  t64 := Try.underlying197
  a64 := Try.isAgg197
  z64 := Try.sizeOf197
  v64 := Try.zeroValue197 }

set_option maxRecDepth 100000 in
/-- slices.Sort on a row of the call's own -/
theorem sort_own {w : World} {base n c : Nat} {A : Option Addr} {zs : List Int} (h : OwnI 2 w base A n c zs) (hn : n < 4611686018427387904) :
    Calls Try.prog 234 #[.slice A n c] w fun e w' => e = .returned (.tuple #[]) ∧ OwnI 2 w' base A n c (zs.mergeSort fun x y => decide (x ≤ y)) ∧ w.grownBy w' (Value.slice A n c).ownBlock := by
  have hl := h.len
  rcases h.2 with ⟨h1, h2⟩ | ⟨g, cap, cur, hv, hb, hh, h3, h4, h5, h6⟩
  · injection h1 with e1 e2 e3
    subst e1; subst e2; subst e3
    obtain rfl : zs = [] := List.eq_nil_of_length_eq_zero hl
    refine (AnyM.slices_Sort_int_none sortL none 0 w).mono ?_
    rintro e w' ⟨rfl, rfl⟩
    exact ⟨rfl, by simpa using OwnI.nil _ _ _, World.grownBy.refl _ _⟩
  · injection hv with e1 e2 e3
    subst e1; subst e3
    have hg : g < w.heap.size := (Array.getElem?_eq_some_iff.1 hh).1
    subst hl
    have hH : Holds (Value.int .i64) w g 0 zs.toArray := holds_of_blockI hh (by simpa using h6)
    refine (AnyM.slices_Sort_int sortL g 0 c zs w hH hg hn).mono ?_
    rintro e w' ⟨rfl, m, os, rfl⟩
    exact ⟨rfl, ownsRow_sortedI (by simp) hb hh h3 h4 h5, grownBy_sortedI _⟩
end Go.Proofs.Ytjehkjdehkdjcaa

namespace Go.Proofs.Ytjehkjdehkdjcaa
open Go.RowKit

set_option maxRecDepth 20000 in
set_option maxHeartbeats 2000000 in
theorem edgesOf_any (A : Option Addr) (n c : Nat) (zs : List Int) (w : World) (h : RI w w.heap.size A n zs) (hz : isBits zs = true) :
    Calls Try.prog 174 #[.slice A n c] w (RetS 2 w (chgL zs)) := by
  have L := h.len
  have hn : n ≤ 8192 := by have := isBits_len hz; omega
  have S := Lib.hid (sort_edges (zs := zs) fun i hi => by have h1 := (isBits_iff.1 hz).2 _ (mem_gi hi); omega)
  have p0 := pick_len (eTo zs 0) zs.length
  have p1 := pick_len (eTo zs 1) zs.length
  obtain ⟨P, hP⟩ : ∃ x, pick (eTo zs 0) zs.length = x := ⟨_, rfl⟩
  obtain ⟨Q, hQ⟩ : ∃ x, pick (eTo zs 1) zs.length = x := ⟨_, rfl⟩
  have q0 := edgesTo_any A n c 0 zs
  have q1 := edgesTo_any A n c 1 zs
  rw [hP] at S p0 q0
  rw [hQ] at S p1 q1
  clear hz hP hQ
  go_enter Try.func174, Try.ntmps174
  go_wp2_with fail
  refine (q0 _ h (by omega)).mono ?_
  rintro e w1 ⟨A1, n1, c1, rfl, own1, hb1⟩
  go_wp2_with fail
  refine (q1 _ (h.up hb1) (by omega)).mono ?_
  rintro e w2 ⟨A2, n2, c2, rfl, own2, hb2⟩
  have own1' := own1.below hb2
  have l1 := own1.len
  have l2 := own2.len
  have hb12 := below_next hb2 hb1 (Nat.le_refl _)
  have rd2 := own2.reads
  have nn2 := own_none own2
  clear q0 q1 own1 own2
  go_wp2_with (at_builtin; refine wpl_appR _ Try.underlying24 infoInt rfl _ _ rfl w.heap.size A1 n1 c1 _ rfl own1' A2 n2 c2 w2.heap.size _ rfl rd2 nn2 (by omega) hb12.size ?_; intro A3 c3 w3 own3 hB3 hg3)
  refine (sort_own own3 (by omega)).mono ?_
  rintro e w4 ⟨rfl, own4, hg4⟩
  go_wp2
  go_ret
  exact ⟨A3, n1 + n2, c3, rfl, by rw [← S.out]; exact own4, (hb12.trans (hB3 _ (Nat.le_refl _))).grown hg4 (hb12.trans (hB3 _ (Nat.le_refl _))).size (fun g e => (own_row own3 g e).1)⟩

theorem RunLengths_no (A : Option Addr) (n c : Nat) (zs : List Int) (w : World) (h : RI w w.heap.size A n zs) (hn : n ≤ 1099511627776) (hz : isBits zs = false) :
    Calls Try.prog 92 #[.slice A n c] w (RetIC 2 w [] 1) := by
  have HZ := Lib.hid hz
  clear hz
  go_enter Try.func92, Try.ntmps92
  go_wp2_with fail
  refine (iIsBits_any _ _ _ zs _ h (by omega)).mono ?_
  rw [HZ.out]
  rintro e w' ⟨rfl, rfl⟩
  go_wp2
  go_ret2
  exact ⟨none, 0, 0, rfl, OwnI.nil _ _ _, Below.refl _ _⟩

set_option maxRecDepth 20000 in
set_option maxHeartbeats 4000000 in
theorem iCellRuns_any (A : Option Addr) (n c : Nat) (zs : List Int) (w : World) (h : RI w w.heap.size A n zs) (hn : n ≤ 1099511627776) :
    Calls Try.prog 96 #[.slice A n c] w (RetIC 2 w (crL zs) (crC zs)) := by
  have L := Lib.hid h.len
  have key : ∃ xs q, (∀ w1, RI w1 w1.heap.size A n zs → Calls Try.prog 92 #[.slice A n c] w1 (RetIC 2 w1 xs q)) ∧ crL zs = xs.map rnd ∧ crC zs = q ∧ xs.length ≤ 8192 ∧ ∀ i, i < xs.length → 0 ≤ gi xs i ∧ gi xs i ≤ 8192 := by
    rcases bool_cases (isBits zs) with hz | hz
    · have hn8 : n ≤ 8192 := by have := isBits_len hz; have := L.out; omega
      refine ⟨runsTo zs n, 0, fun w1 h1 => RunLengths_any A n c zs w1 h1 hn8 hz, by unfold crL; rw [if_pos hz, L.out], by unfold crC; rw [if_pos hz], Nat.le_trans (runsTo_len zs n).1 hn8, fun i hi => ?_⟩
      have := runsTo_bd zs n i hi
      omega
    · exact ⟨[], 1, fun w1 h1 => RunLengths_no A n c zs w1 h1 hn hz, by unfold crL; rw [if_neg (by rw [hz]; decide)]; rfl, by unfold crC; rw [if_neg (by rw [hz]; decide)], by simp, fun i hi => by simp at hi⟩
  obtain ⟨xs, q, hrun, E1, E2, hl8, hbd⟩ := key
  rw [E1, E2]
  obtain ⟨M, hM⟩ : ∃ M, xs.length = M := ⟨_, rfl⟩
  rw [hM] at hl8 hbd
  have HBD := Lib.hid hbd
  have HM := Lib.hid hM
  clear E1 E2 hbd hM
  go_enter Try.func96, Try.ntmps96
  go_wp2_with fail
  refine (hrun _ h).mono ?_
  rintro e w1 ⟨B, m, d, rfl, hown, hb⟩
  have hm : m = M := by have := hown.len; have := HM.out; omega
  subst hm
  clear hrun
  go_wp2_with fail
  go_loopw [6, 14] (fun _ i wr => ∃ k : Nat, k ≤ m ∧ i = .int .i64 k ∧ OwnI 2 wr w.heap.size B m d (mapTo rnd xs k) ∧ Below w.heap.size w wr) (fun _ i _ => m - (intOf i).toNat)
  case atStart => exact ⟨0, Nat.zero_le _, rfl, by simpa [mapTo] using hown, hb⟩
  case round =>
    obtain ⟨k, hk, rfl, hw, hbw⟩ := hrel
    by_cases hlt : k < m
    · obtain ⟨g, rfl, hgb, _⟩ := hw.form (by omega)
      have hold := hw.cell (j := k) hlt
      rw [mapTo_gi (by rw [HM.out]; exact hlt)] at hold
      have hfr := hw.frozen k
      have hv := HBD.out k hlt
      have ST := Lib.hid (mapTo_step (f := rnd) (xs := xs) (k := k) (by rw [HM.out]; exact hlt))
      obtain ⟨x, hx⟩ : ∃ x, gi xs k = x := ⟨_, rfl⟩
      rw [hx] at hold hv ST
      clear hx
      go_wp2_with (go_at_call 173; refine (rndI_any x _ (by omega) (by omega)).mono ?_; rintro e w' ⟨rfl, rfl⟩)
      go_roundw
      case rel =>
        have st := hw.stored k (rnd x)
        rw [ST.out] at st
        exact ⟨k + 1, by omega, by go_num, st.1, hbw.grown st.2 hbw.size (fun g' e => (own_row hw g' e).1)⟩
      case measure => simp [intOf]; omega
    · have hkm : k = xs.length := by have := HM.out; omega
      have EE := Lib.hid (show mapTo rnd xs k = xs.map rnd by rw [hkm, mapTo_all])
      clear hkm
      go_wp2
      go_ret2
      exact ⟨B, m, d, rfl, by rw [← EE.out]; exact hw, hbw⟩

set_option maxRecDepth 20000 in
set_option maxHeartbeats 4000000 in
theorem middle_any (A : Option Addr) (n c : Nat) (zs : List Int) (w : World) (h : RI w w.heap.size A n zs) (hz : isBits zs = true) :
    Calls Try.prog 95 #[.slice A n c] w (RetIC 2 w (midTo zs ((n + 3) / 8)) 0) := by
  have L := Lib.hid h.len
  have hn : n ≤ 8192 := by have := isBits_len hz; have := L.out; omega
  have HZ := Lib.hid hz
  clear hz
  go_enter Try.func95, Try.ntmps95
  go_wp2_with (go_at_call 131; refine (iIsBits_any _ _ _ _ _ h (by omega)).mono ?_; rw [HZ.out]; rintro e w' ⟨rfl, rfl⟩)
  go_loopw [4, 5] (fun o i wr => ∃ (k : Nat) (B : Option Addr) (d : Nat), k ≤ (n + 3) / 8 ∧ i = .int .i64 ((4 + 8 * k : Nat) : Int) ∧ o = .slice B k d ∧ OwnI 2 wr w.heap.size B k d (midTo zs k) ∧ Below w.heap.size w wr) (fun _ i _ => n + 12 - (intOf i).toNat)
  case atStart => exact ⟨0, some ⟨w.heap.size, 0, none⟩, 0, Nat.zero_le _, rfl, rfl, OwnI.empty _ (Nat.le_refl _), (Below.refl _ _).alloc (Nat.le_refl _) _⟩
  case round =>
    obtain ⟨k, B, d, hk, rfl, rfl, hown, hb⟩ := hrel
    by_cases hlt : 4 + 8 * k < n
    · obtain ⟨b, o, rfl, _, hc⟩ := (h.below hb (Nat.le_refl _)).get (by omega)
      have hcell := hc (4 + 8 * k) hlt
      clear hc
      have HS := Lib.hid (midTo_succ zs k)
      obtain ⟨x, hx⟩ : ∃ x, gi zs (4 + 8 * k) = x := ⟨_, rfl⟩
      rw [hx] at hcell HS
      clear hx
      obtain ⟨i, hi⟩ : ∃ i, 4 + 8 * k = i := ⟨_, rfl⟩
      rw [hi] at hcell hlt ⊢
      have HI := Lib.hid hi
      clear hi
      have f1 : IntKind.i64.wrap ((i : Int) + 8) = ((i + 8 : Nat) : Int) := by rw [IntWalk.i64_in _ (by omega)]; omega
      go_wp2_with (at_builtin; refine wpl_appI _ _ Try.underlying24 infoInt rfl _ _ rfl w.heap.size _ k _ _ rfl hown x rfl (by omega) hb.size ?_; intro A2 c2 w2 hown2 hB2 hg2)
      go_roundw
      case rel => exact ⟨k + 1, A2, c2, by have := HI.out; omega, by have := HI.out; first | (congr 1; omega) | go_num, rfl, by rw [HS.out]; exact hown2, hb.trans (hB2 _ (Nat.le_refl _))⟩
      case measure => simp [intOf]; omega
    · have hkn : k = (n + 3) / 8 := by omega
      have HK := Lib.hid hkn
      have hlt2 : ¬ ((4 + 8 * k : Nat) : Int) < (n : Int) := by omega
      clear hkn
      go_wp2
      go_ret2
      exact ⟨B, k, d, rfl, by rw [← HK.out]; exact hown, hb⟩

set_option maxRecDepth 20000 in
set_option maxHeartbeats 4000000 in
theorem iNextEdge_any (A : Option Addr) (n c : Nat) (zs : List Int) (v : Int) (w : World) (h : RI w w.heap.size A n zs) (hn : n ≤ 1099511627776) :
    Calls Try.prog 105 #[.slice A n c, .int .i64 v] w (RetV w (.tuple #[.int .i64 (nxE zs v).1, .int .i64 (nxE zs v).2])) := by
  have L := Lib.hid h.len
  rcases bool_cases (isBits zs) with hz | hz
  case inr =>
    have E : nxE zs v = (0, 1) := by unfold nxE; rw [if_neg (by rw [hz]; decide)]
    rw [E]
    clear E
    go_enter Try.func105, Try.ntmps105
    go_wp2_with (go_at_call 131; refine (iIsBits_any _ _ _ _ _ h hn).mono ?_; rw [hz]; rintro e w' ⟨rfl, rfl⟩)
    go_ret2
    exact ⟨rfl, Below.refl _ _⟩
  rcases bool_cases (inR v 0 n) with hr | hr
  case inr =>
    have E : nxE zs v = (0, 2) := by unfold nxE; rw [if_pos hz, if_neg (by rw [L.out, hr]; decide)]
    rw [E]
    clear E
    go_enter Try.func105, Try.ntmps105
    go_wp2_with (first
      | (go_at_call 131; refine (iIsBits_any _ _ _ _ _ h hn).mono ?_; rw [hz]; rintro e w' ⟨rfl, rfl⟩)
      | (go_at_call 120; refine (within_any _ _ _ _).mono ?_; rw [hr]; rintro e w' ⟨rfl, rfl⟩))
    go_ret2
    exact ⟨rfl, Below.refl _ _⟩
  have hE : nxE zs v = match above (chgL zs) v (chgL zs).length with | some z => (z, 0) | none => (0, 4) := by unfold nxE; rw [if_pos hz, if_pos (by rw [L.out]; exact hr)] <;> rfl
  have hxl := chgL_len zs
  obtain ⟨xs, hxs⟩ : ∃ xs, chgL zs = xs := ⟨_, rfl⟩
  rw [hxs] at hE hxl
  have HE := Lib.hid hE
  clear hE
  go_enter Try.func105, Try.ntmps105
  go_wp2_with (first
    | (go_at_call 131; refine (iIsBits_any _ _ _ _ _ h hn).mono ?_; rw [hz]; rintro e w' ⟨rfl, rfl⟩)
    | (go_at_call 120; refine (within_any _ _ _ _).mono ?_; rw [hr]; rintro e w' ⟨rfl, rfl⟩)
    | (go_at_call 174; refine (edgesOf_any A n c zs _ h hz).mono ?_; rw [hxs]; rintro e w1 ⟨B, m, d, rfl, hown, hb⟩))
  have M := Lib.hid hown.len
  have hm : m ≤ n := by have := M.out; have := L.out; omega
  have hrd := hown.reads
  clear hxl hown
  go_loop [7, 19] (fun _ i => ∃ k : Nat, k ≤ m ∧ i = .int .i64 k ∧ above xs v k = none) (fun _ i => m - (intOf i).toNat)
  case atStart => exact ⟨0, Nat.zero_le _, rfl, rfl⟩
  case round =>
    obtain ⟨k, hk, rfl, hno⟩ := hrel
    have HNO := Lib.hid hno
    clear hno
    by_cases hlt : k < m
    · obtain ⟨b, o, rfl, _, hc⟩ := hrd.get (by omega)
      have hcell := hc k hlt
      clear hc
      by_cases hv : v < gi xs k
      · have EE := Lib.hid (show nxE zs v = (gi xs k, 0) by rw [HE.out, above_hit HNO.out hv _ (by rw [M.out]; exact hlt)])
        obtain ⟨x, hx⟩ : ∃ x, gi xs k = x := ⟨_, rfl⟩
        rw [hx] at hcell hv EE
        clear hx
        go_wp2
        go_ret2
        exact ⟨by rw [EE.out]; rfl, hb⟩
      · have EE := Lib.hid (above_miss HNO.out hv)
        obtain ⟨x, hx⟩ : ∃ x, gi xs k = x := ⟨_, rfl⟩
        rw [hx] at hcell hv
        clear hx
        go_wp2
        go_round
        case rel => exact ⟨k + 1, by omega, by go_num, EE.out⟩
        case measure => simp [intOf]; omega
    · have hkm : k = m := by omega
      have EE := Lib.hid (show nxE zs v = (0, 4) by rw [HE.out, M.out, ← hkm, HNO.out])
      clear hkm
      go_wp2
      go_ret2
      exact ⟨by rw [EE.out]; rfl, hb⟩

set_option maxRecDepth 20000 in
set_option maxHeartbeats 4000000 in
theorem iEdgeDrift_any (A : Option Addr) (n c : Nat) (zs : List Int) (a b : Int) (w : World) (h : RI w w.heap.size A n zs) (hn : n ≤ 1099511627776) :
    Calls Try.prog 99 #[.slice A n c, .int .i64 a, .int .i64 b] w (RetV w (.tuple #[.int .i64 (edD zs a b).1, .int .i64 (edD zs a b).2])) := by
  have L := Lib.hid h.len
  rcases bool_cases (isBits zs) with hz | hz
  case inr =>
    have E : edD zs a b = (0, 1) := by unfold edD; rw [if_neg (by rw [hz]; decide)]
    rw [E]
    clear E
    go_enter Try.func99, Try.ntmps99
    go_wp2_with (go_at_call 131; refine (iIsBits_any _ _ _ _ _ h hn).mono ?_; rw [hz]; rintro e w' ⟨rfl, rfl⟩)
    go_ret2
    exact ⟨rfl, Below.refl _ _⟩
  have hE : edD zs a b = if a ∈ chgL zs ∧ b ∈ chgL zs ∧ a ≤ b then (drf (b - a), 0) else (0, 2) := by unfold edD; rw [if_pos hz]
  have hxl := chgL_len zs
  have ha1 : a ∈ chgL zs → 0 ≤ a ∧ a < (n : Int) := fun h => edL_bd h L.out
  have hb1 : b ∈ chgL zs → 0 ≤ b ∧ b < (n : Int) := fun h => edL_bd h L.out
  obtain ⟨xs, hxs⟩ : ∃ xs, chgL zs = xs := ⟨_, rfl⟩
  rw [hxs] at hE hxl ha1 hb1
  have HE := Lib.hid hE
  have HA := Lib.hid ha1
  have HB := Lib.hid hb1
  clear hE ha1 hb1
  go_enter Try.func99, Try.ntmps99
  go_wp2_with (first
    | (go_at_call 131; refine (iIsBits_any _ _ _ _ _ h hn).mono ?_; rw [hz]; rintro e w' ⟨rfl, rfl⟩)
    | (go_at_call 174; refine (edgesOf_any A n c zs _ h hz).mono ?_; rw [hxs]; rintro e w1 ⟨B, m, d, rfl, hown, hb⟩))
  have M := Lib.hid hown.len
  have hm : m ≤ n := by have := M.out; have := L.out; omega
  have RD := Lib.hid hown.reads
  clear hxl hown
  by_cases ga : a ∈ xs
  case neg =>
    have EE := Lib.hid (show edD zs a b = (0, 2) by rw [HE.out, if_neg (fun h => ga h.1)])
    have ga := decide_eq_false ga
    go_wp2_with (go_at_call 177; refine (contI_any B m d xs a _ RD.out (by omega)).mono ?_; rw [ga]; rintro e w' ⟨rfl, rfl⟩)
    go_ret2
    exact ⟨by rw [EE.out]; rfl, hb⟩
  by_cases gb : b ∈ xs
  case neg =>
    have EE := Lib.hid (show edD zs a b = (0, 2) by rw [HE.out, if_neg (fun h => gb h.2.1)])
    have ga := decide_eq_true ga
    have gb := decide_eq_false gb
    go_wp2_with (go_at_call 177; refine (contI_any B m d xs _ _ RD.out (by omega)).mono ?_; (first | rw [ga] | rw [gb]); rintro e w' ⟨rfl, rfl⟩)
    go_ret2
    exact ⟨by rw [EE.out]; rfl, hb⟩
  by_cases gc : b < a
  case pos =>
    have EE := Lib.hid (show edD zs a b = (0, 2) by rw [HE.out, if_neg (fun h => by omega)])
    have ga := decide_eq_true ga
    have gb := decide_eq_true gb
    go_wp2_with (go_at_call 177; refine (contI_any B m d xs _ _ RD.out (by omega)).mono ?_; (first | rw [ga] | rw [gb]); rintro e w' ⟨rfl, rfl⟩)
    go_ret2
    exact ⟨by rw [EE.out]; rfl, hb⟩
  have ba := HA.out ga
  have bb := HB.out gb
  have EE := Lib.hid (show edD zs a b = (drf (b - a), 0) by rw [HE.out, if_pos ⟨ga, gb, by omega⟩])
  have ga := decide_eq_true ga
  have gb := decide_eq_true gb
  have f1 : IntKind.i64.wrap (b - a) = b - a := IntWalk.i64_in _ (by omega)
  go_wp2_with (first
    | (go_at_call 177; refine (contI_any B m d xs _ _ RD.out (by omega)).mono ?_; (first | rw [ga] | rw [gb]); rintro e w' ⟨rfl, rfl⟩)
    | (go_at_call 175; refine (drift_any (b - a) _ (by omega) (by omega)).mono ?_; rintro e w' ⟨rfl, rfl⟩))
  go_ret2
  exact ⟨by rw [EE.out]; rfl, hb⟩


set_option maxRecDepth 20000 in
set_option maxHeartbeats 4000000 in
theorem worst_nom (A : Option Addr) (n c : Nat) (cs : List Int) (w : World) (h : RI w w.heap.size A n (nom cs)) (hz : isBits (nom cs) = true) :
    Calls Try.prog 97 #[.slice A n c] w (RetV w (.tuple #[.int .i64 0, .int .i64 0])) := by
  have L := Lib.hid h.len
  have hn : n ≤ 8192 := by have := isBits_len hz; have := L.out; omega
  have dn := fun k => drift_nom (cs := cs) (k := k)
  have sp := fun k => chgL_step (zs := nom cs) (k := k)
  have bd : ∀ k, k < (chgL (nom cs)).length → 0 ≤ gi (chgL (nom cs)) k ∧ gi (chgL (nom cs)) k ≤ 8192 := fun k hk => by
    obtain ⟨i, e, h1, _⟩ := chgL_gi hk
    have := L.out
    omega
  have hxl := chgL_len (nom cs)
  have q := fun w1 (h1 : RI w1 w1.heap.size A n (nom cs)) => edgesOf_any A n c (nom cs) w1 h1 hz
  obtain ⟨xs, hxs⟩ : ∃ xs, chgL (nom cs) = xs := ⟨_, rfl⟩
  rw [hxs] at dn sp bd hxl q
  have DN := Lib.hid dn
  have SP := Lib.hid sp
  have BD := Lib.hid bd
  have HZ := Lib.hid hz
  clear dn sp bd hxs hz
  go_enter Try.func97, Try.ntmps97
  go_wp2_with (first
    | (go_at_call 131; refine (iIsBits_any _ _ _ _ _ h (by omega)).mono ?_; rw [HZ.out]; rintro e w' ⟨rfl, rfl⟩)
    | (go_at_call 174; refine (q _ h).mono ?_; rintro e w1 ⟨B, m, d, rfl, hown, hb⟩))
  have M := Lib.hid hown.len
  have hm : m ≤ 8192 := by have := M.out; have := L.out; omega
  have hrd := hown.reads
  clear hxl hown q
  go_loopw [4, 6, 7] (fun x i _ wr => ∃ k : Nat, 1 ≤ k ∧ (k ≤ m ∨ k = 1) ∧ x = .int .i64 0 ∧ i = .int .i64 k ∧ Below w1.heap.size w1 wr) (fun _ i _ _ => m - (intOf i).toNat)
  case atStart => exact ⟨1, Nat.le_refl _, .inr rfl, rfl, rfl, Below.refl _ _⟩
  case round =>
    obtain ⟨k, hk1, hk, rfl, rfl, hbw⟩ := hrel
    by_cases hlt : k < m
    · obtain ⟨b, o, rfl, _, hc⟩ := (hrd.below hbw (Nat.le_refl _)).get (by omega)
      have hcell := hc k hlt
      have hcellp := hc (k - 1) (by omega)
      clear hc
      have f0 : 0 < k := by omega
      have f1 : IntKind.i64.wrap ((k : Int) - 1) = ((k - 1 : Nat) : Int) := by rw [IntWalk.i64_in _ (by omega)]; omega
      have f4 : ((k - 1 : Nat) : Int) < (m : Int) := by omega
      have d1 := DN.out (k - 1) (by rw [M.out]; omega)
      have s1 := SP.out (k - 1) (by rw [M.out]; omega)
      have b1 := BD.out k (by rw [M.out]; omega)
      have b2 := BD.out (k - 1) (by rw [M.out]; omega)
      rw [show k - 1 + 1 = k by omega] at d1 s1
      obtain ⟨x, hx⟩ : ∃ x, gi xs k = x := ⟨_, rfl⟩
      obtain ⟨y, hy⟩ : ∃ y, gi xs (k - 1) = y := ⟨_, rfl⟩
      rw [hx] at hcell d1 s1 b1
      rw [hy] at hcellp d1 s1 b2
      clear hx hy
      have f5 : IntKind.i64.wrap (x - y) = x - y := IntWalk.i64_in _ (by omega)
      have dd : ∀ w2, Calls Try.prog 175 #[.int .i64 (x - y)] w2 fun e w' => e = .returned (.int .i64 0) ∧ w2 = w' := fun w2 => by
        have := drift_any (x - y) w2 (by omega) (by omega)
        rwa [d1] at this
      have DD := Lib.hid dd
      clear d1 dd
      go_wp2_with fail
      go_quiet (first | (go_at_call 175; exact quiet_same (DD.out _)))
      go_wp2
      go_roundw
      case rel => exact ⟨k + 1, by omega, by omega, rfl, by go_num, below_drewN hbw _⟩
      case measure => simp [intOf]; omega
    · go_wp2
      go_ret2
      exact ⟨rfl, below_next hbw hb (Nat.le_refl _)⟩
end Go.Proofs.Ytjehkjdehkdjcaa
