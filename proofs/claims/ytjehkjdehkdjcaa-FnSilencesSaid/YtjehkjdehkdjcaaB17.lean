/- Walks, laws and small notions for the claims of this seat, several texts as one (DrwS, Dif). Conditions: as each theorem states them. -/
import Derived.Test.YtjehkjdehkdjcaaB14
import Derived.Test.YtjehkjdehkdjcaaB12
import Derived.Deep.RegionWith
import Derived.Test.YtjehkjdehkdjcaaB16
import Derived.Test.YtjehkjdehkdjcaaB5
import Derived.BigQuiet
namespace Go.Proofs.Ytjehkjdehkdjcaa
open Go.RowKit
theorem lit5 (y x : Nat) (hy : y ≤ 34) (hx : x < 5) : ∃ v : Int, (-1 ≤ v ∧ v ≤ 8193) ∧ ([.int .i64 y, .int .i64 0, .int .i64 (-1), .int .i64 8192, .int .i64 8193] : List Value)[x]? = some (.int .i64 v) ∧
    ∀ (W : World) (T : TypeId), (W.alloc (.cells #[.int .i64 y, .int .i64 0, .int .i64 (-1), .int .i64 8192, .int .i64 8193] T)).cell? ⟨W.heap.size, x, none⟩ = some (.int .i64 v) := by
  have key : ∀ v : Int, ([.int .i64 y, .int .i64 0, .int .i64 (-1), .int .i64 8192, .int .i64 8193] : List Value)[x]? = some (.int .i64 v) → ∀ (W : World) (T : TypeId), (W.alloc (.cells #[.int .i64 y, .int .i64 0, .int .i64 (-1), .int .i64 8192, .int .i64 8193] T)).cell? ⟨W.heap.size, x, none⟩ = some (.int .i64 v) := by
    intro v hv W T
    have hx' := new_heap W (.cells #[.int .i64 y, .int .i64 0, .int .i64 (-1), .int .i64 8192, .int .i64 8193] T)
    unfold World.cell?
    rw [hx']
    simpa using hv
  obtain rfl | rfl | rfl | rfl | rfl : x = 0 ∨ x = 1 ∨ x = 2 ∨ x = 3 ∨ x = 4 := by omega
  all_goals exact ⟨_, by omega, rfl, key _ rfl⟩

set_option maxRecDepth 20000 in
set_option maxHeartbeats 8000000 in
theorem drawSilenceFrom_any (A : Option Addr) (n c : Nat) (bs : List Int) (w : World) (h : RB w w.heap.size A n bs) (hn : n ≤ 1099511627776) :
    Calls Try.prog 48 #[.slice A n c] w (TopIZ w 8200) := by
  go_enter Try.func48, Try.ntmps48
  go_wp2_with fail
  refine (from_any A n c bs _ h hn).mono ?_
  rintro e w0 ⟨g, rfl, hs1, hg, hb1⟩
  have hl := hs1.lt
  clear h hn
  go_wp2_with fail
  refine (drawBits_any g 30 _ hs1 (by omega)).mono ?_
  rintro e w1 ⟨A1, n1, c1, zs1, rfl, hown1, hn1, d1⟩
  have D1 := Lib.hid d1.drew
  have HO1 := Lib.hid hown1.drew
  clear d1 hown1
  go_wp2_with fail
  go_region_with (first
    | ((with_reducible refine (next_any g 34 _ D1.out.src).mono ?_); rintro e w2 ⟨y, rfl, hy, d2⟩; (have D2 := Lib.hid (d2.next D1.out)); (have HO2 := Lib.hid (HO1.out.dr d2 hl)); (have hy3 : y ≤ 34 := (by omega)))
    | ((with_reducible refine (next_any g 5 _ D1.out.src).mono ?_); rintro e w2 ⟨x, rfl, hx, d2⟩; (have D2 := Lib.hid (d2.next D1.out)); (have HO2 := Lib.hid (HO1.out.dr d2 hl)); (have hx3 : x < 5 := (by omega)); (have hx4 : (x : Int) < 5 := (by omega)))
    | ((with_reducible refine (next_any g 34 _ D2.out.src).mono ?_); rintro e w3 ⟨y, rfl, hy, d3⟩; (have D3 := Lib.hid (d3.next D2.out)); (have HO3 := Lib.hid (HO2.out.dr d3 hl)); (obtain ⟨v, hvb, hv, hv2⟩ := lit5 y x (by omega) hx3))
    | ((with_reducible refine (next_any g 5 _ D2.out.src).mono ?_); rintro e w3 ⟨x, rfl, hx, d3⟩; (have D3 := Lib.hid (d3.next D2.out)); (have HO3 := Lib.hid (HO2.out.dr d3 hl)); (have hx4 : (x : Int) < 5 := (by omega)); (obtain ⟨v, hvb, hv, hv2⟩ := lit5 y x hy3 (by omega)))
    | ((with_reducible refine (next_any g 5 _ (D2.out.alloc _).src).mono ?_); rintro e w3 ⟨x, rfl, hx, d3⟩; (have D3 := Lib.hid (d3.next (D2.out.alloc _))); (have HO3 := Lib.hid ((HO2.out.alloc _).dr d3 hl)); (have hx4 : (x : Int) < 5 := (by omega)); (obtain ⟨v, hvb, hv, hv2⟩ := lit5 y x hy3 (by omega)); (have hne4 : some w2.heap.size ≠ some g := (by intro e; injection e with e; have := D2.out.lt; omega)); (have qc : w3.cell? ⟨w2.heap.size, x, none⟩ = some (.int .i64 v) := (World.grownBy.cell d3.gr (hv2 w2 _) hne4))))
  all_goals
    clear hv2
    try clear qc
    simp [Act.put]
    go_wp2
    go_ret2
    first
      | exact ⟨A1, n1, c1, zs1, v, rfl, HO3.out.weaken hb1.size, by omega, hvb, D3.out.top hb1 hg⟩
      | exact ⟨A1, n1, c1, zs1, v, rfl, (HO3.out.alloc _).weaken hb1.size, by omega, hvb, (D3.out.alloc _).top hb1 hg⟩
end Go.Proofs.Ytjehkjdehkdjcaa

namespace Go.Proofs.Ytjehkjdehkdjcaa
open Go.RowKit

/-- how many numbers below n have a property -/
def cnt (p : Nat → Bool) : Nat → Nat
  | 0 => 0
  | n + 1 => cnt p n + if p n then 1 else 0
theorem cnt_le (p : Nat → Bool) (n : Nat) : cnt p n ≤ n := by
  induction n with
  | zero => exact Nat.le_refl _
  | succ n ih => unfold cnt; split <;> omega
theorem cnt_congr {p q : Nat → Bool} {n : Nat} (h : ∀ i, i < n → p i = q i) : cnt p n = cnt q n := by
  induction n with
  | zero => rfl
  | succ n ih => unfold cnt; rw [ih fun i hi => h i (by omega), h n (by omega)]
theorem cnt_or {p q : Nat → Bool} (n : Nat) (h : ∀ i, p i = true → q i = true → False) : cnt (fun i => p i || q i) n = cnt p n + cnt q n := by
  induction n with
  | zero => rfl
  | succ n ih =>
    unfold cnt
    rw [ih]
    rcases hp : p n with _ | _
    · rcases hq : q n with _ | _ <;> simp <;> omega
    · rcases hq : q n with _ | _
      · simp; omega
      · exact absurd (h n hp hq) id
theorem cnt_block (z n : Nat) : cnt (fun i => decide (i / 8 = z)) n = min n (8 * z + 8) - min n (8 * z) := by
  induction n with
  | zero => simp [cnt]
  | succ n ih =>
    unfold cnt
    rw [ih]
    by_cases h : n / 8 = z
    · simp only [h, decide_true, if_true]; omega
    · simp only [h, decide_false]; simp; omega
theorem cnt_cells : ∀ (cs : List Int) (n : Nat), cs.Pairwise (· < ·) → (∀ z ∈ cs, 0 ≤ z ∧ 8 * z + 8 ≤ n) → cnt (fun i => decide (((i / 8 : Nat) : Int) ∈ cs)) n = 8 * cs.length := by
  intro cs
  induction cs with
  | nil =>
    intro n _ _
    have key : ∀ n, cnt (fun i => decide (((i / 8 : Nat) : Int) ∈ ([] : List Int))) n = 0 := by
      intro n
      induction n with
      | zero => rfl
      | succ n ih => unfold cnt; rw [ih]; simp
    rw [key]; rfl
  | cons z cs ih =>
    intro n h hb
    obtain ⟨h1, h2⟩ := List.pairwise_cons.1 h
    have hz := hb z (by simp)
    have e : ∀ i, i < n → decide (((i / 8 : Nat) : Int) ∈ z :: cs) = (decide (i / 8 = z.toNat) || decide (((i / 8 : Nat) : Int) ∈ cs)) := by
      intro i _
      rw [Bool.eq_iff_iff, Bool.or_eq_true, decide_eq_true_eq, decide_eq_true_eq, decide_eq_true_eq, List.mem_cons]
      constructor
      · rintro (hh | hh)
        · left; omega
        · right; exact hh
      · rintro (hh | hh)
        · left; omega
        · right; exact hh
    rw [cnt_congr e, cnt_or n (fun i hp hq => by
      have hp' : i / 8 = z.toNat := by simpa using hp
      have hq' : ((i / 8 : Nat) : Int) ∈ cs := by simpa using hq
      have := h1 _ hq'
      omega), ih n h2 (fun y hy => hb y (by simp [hy])), cnt_block, List.length_cons]
    omega

theorem hits_flt (cs : List Int) (h : cs.Pairwise (· < ·)) (hb : ∀ z ∈ cs, 0 ≤ z) (k : Nat) : hits (cs.map InvertCells.flt) k = if (k : Int) ∈ cs then 1 else 0 := by
  induction cs with
  | nil => simp [hits]
  | cons z cs ih =>
    obtain ⟨h1, h2⟩ := List.pairwise_cons.1 h
    have hz := hb z (by simp)
    rw [List.map_cons, hits_cons, ih h2 (fun y hy => hb y (by simp [hy]))]
    have hh : hit (InvertCells.flt z) k = true ↔ (k : Int) = z := by
      unfold hit InvertCells.flt
      rw [inR_iff]
      dsimp only
      omega
    by_cases hk : (k : Int) = z
    · have hn : ¬ (k : Int) ∈ cs := fun hm => by have := h1 _ hm; omega
      rw [if_pos (hh.2 hk), if_neg hn, if_pos (by rw [hk]; exact List.mem_cons_self ..)]
    · rw [if_neg (fun hx => hk (hh.1 hx)), Nat.zero_add]
      by_cases hm : (k : Int) ∈ cs
      · rw [if_pos hm, if_pos (by simp [hm])]
      · rw [if_neg hm, if_neg (by simp [hk, hm])]

/-- do two lists differ at a place -/
def dif (xs ys : List Int) (i : Nat) : Bool := gi xs i != gi ys i
/-- the cells to invert: their script turns eight samples for each -/
theorem inv_law {xs zs : List Int} (h : InvertCells.cod xs zs = 0) (hl : (InvertCells.res xs zs).length ≤ 30) :
    bsCode zs (InvertCells.res xs zs) = 0 ∧ (appS zs (InvertCells.res xs zs)).length = zs.length ∧ isBits zs = true ∧ isBits (appS zs (InvertCells.res xs zs)) = true ∧ cnt (dif zs (appS zs (InvertCells.res xs zs))) zs.length = 8 * xs.length := by
  unfold InvertCells.cod at h
  split at h
  · rename_i h1
    split at h
    · rename_i h2
      have e : InvertCells.res xs zs = xs.map InvertCells.flt := by unfold InvertCells.res; rw [if_pos ⟨h1, h2⟩]
      rw [e] at hl ⊢
      rw [List.length_map] at hl
      obtain ⟨z1, z2⟩ := isBits_iff.1 h1
      have hbd : ∀ z ∈ xs, 0 ≤ z ∧ z ≤ (zs.length : Int) / 8 - 1 := by
        intro z hz
        obtain ⟨k, hk, rfl⟩ := List.getElem_of_mem hz
        have := rises_gi h2 hk
        rw [gi_lt hk] at this
        exact this
      have step : ∀ k, k + 1 < xs.length → gi xs k < gi xs (k + 1) := by
        intro k hk
        have := List.all_eq_true.1 h2 (k + 1) (by simpa using hk)
        unfold okAt at this
        rw [Bool.and_eq_true] at this
        have h2 := this.2
        rw [Bool.or_eq_true, decide_eq_true_eq, decide_eq_true_eq] at h2
        rcases h2 with h2 | h2
        · omega
        · exact h2
      have far : ∀ d k, k + d + 1 < xs.length → gi xs k < gi xs (k + d + 1) := by
        intro d
        induction d with
        | zero => intro k hk; exact step k hk
        | succ d ih => intro k hk; have h1 := ih k (by omega); have h2 := step (k + d + 1) (by omega); exact Int.lt_trans h1 h2
      have hp : xs.Pairwise (· < ·) := List.pairwise_iff_getElem.2 fun i j hi hj hij => by
        have := far (j - i - 1) i (by omega)
        rw [show i + (j - i - 1) + 1 = j by omega, gi_lt hi, gi_lt hj] at this
        exact this
      have hF : allF (xs.map InvertCells.flt) = true := List.all_eq_true.2 fun f hf => by
        obtain ⟨z, hz, rfl⟩ := List.mem_map.1 hf
        have := hbd z hz
        have hi : inR (8 * z) 0 8192 = true := inR_iff.2 (by omega)
        show (inR 2 1 6 && (inR (8 * z) 0 8192 && (_ && _))) = true
        rw [hi]; rfl
      have hC : allC (xs.map InvertCells.flt) = true := List.all_eq_true.2 fun f hf => by
        obtain ⟨z, hz, rfl⟩ := List.mem_map.1 hf
        unfold cellF InvertCells.flt
        simp
      have hS : isScript (xs.map InvertCells.flt) = true := by
        unfold isScript
        rw [List.length_map, Bool.and_eq_true]
        exact ⟨by simpa using hl, hF⟩
      obtain ⟨k1, k2⟩ := cell_rel zs (xs.map InvertCells.flt) zs (fun _ => 0) hC hF rfl (fun i _ => by simp)
      refine ⟨ApplyScript.bs_of h1 hS, k1, h1, appS_bits h1 hF, ?_⟩
      rw [← cnt_cells xs zs.length hp (fun z hz => by have := hbd z hz; omega)]
      refine cnt_congr fun i hi => ?_
      unfold dif
      rw [k2 i hi, Nat.zero_add, hits_flt xs hp (fun z hz => (hbd z hz).1)]
      have hb := z2 (gi zs i) (mem_gi hi)
      by_cases hm : ((i / 8 : Nat) : Int) ∈ xs
      · rw [if_pos hm, if_pos rfl]; simp only [hm, decide_true, bne_iff_ne, ne_eq]; omega
      · rw [if_neg hm, if_neg (by decide), decide_eq_false hm]; simp
    · exact absurd h (by decide)
  · exact absurd h (by decide)

theorem sil_law {zs : List Int} {p : Int} (h : SilenceFrom.cod zs p = 0) : isBits zs = true ∧ (0 ≤ p ∧ p ≤ 8192) ∧ SilenceFrom.res zs p = silF zs p.toNat zs.length := by
  unfold SilenceFrom.cod at h
  split at h
  · rename_i h1
    split at h
    · rename_i h2
      exact ⟨h1, inR_iff.1 h2, by unfold SilenceFrom.res; rw [if_pos ⟨h1, h2⟩]⟩
    · exact absurd h (by decide)
  · exact absurd h (by decide)
set_option maxHeartbeats 4000000 in
theorem twoLists_any (A A' : Option Addr) (n c c' : Nat) (xs ys : List Int) (w : World) (hx : RI w w.heap.size A n xs) (hy : RI w w.heap.size A' n ys) (hn : n ≤ 1099511627776) (bx : isBits xs = true) (by' : isBits ys = true) :
    Calls Try.prog 148 #[.slice A n c, .slice A' n c'] w (RetV w (.int .i64 0)) := by
  have BX := Lib.hid bx
  have BY := Lib.hid by'
  clear bx by'
  go_enter Try.func148, Try.ntmps148
  go_wp2_with fail
  refine (iIsBits_any _ _ _ xs _ hx hn).mono ?_
  rw [BX.out]
  rintro e w' ⟨rfl, rfl⟩
  go_wp2_with fail
  refine (iIsBits_any _ _ _ ys _ hy hn).mono ?_
  rw [BY.out]
  rintro e w' ⟨rfl, rfl⟩
  go_wp2
  go_ret
  exact ⟨rfl, Below.refl _ _⟩

set_option maxHeartbeats 4000000 in
theorem differing_any (A A' : Option Addr) (n c c' : Nat) (xs ys : List Int) (w : World) (hx : RI w w.heap.size A n xs) (hy : RI w w.heap.size A' n ys) (hn : n ≤ 8192) :
    Calls Try.prog 149 #[.slice A n c, .slice A' n c'] w fun e w' => ∃ B d ds, e = .returned (.slice B (cnt (dif xs ys) n) d) ∧ OwnI 2 w' w.heap.size B (cnt (dif xs ys) n) d ds ∧ Below w.heap.size w w' := by
  go_enter Try.func149, Try.ntmps149
  go_wp2
  have hown0 := OwnI.empty (T := 2) w (base := w.heap.size) (Nat.le_refl _)
  have hb0 := (Below.refl w.heap.size w).alloc (Nat.le_refl _) (o := .cells #[] 2)
  go_loopw [5, 6, 10] (fun o _ i wr => ∃ (k : Nat) (B : Option Addr) (d : Nat) (ds : List Int), k ≤ n ∧ o = .slice B (cnt (dif xs ys) k) d ∧ i = .int .i64 k ∧ OwnI 2 wr w.heap.size B (cnt (dif xs ys) k) d ds ∧ Below w.heap.size w wr) (fun _ _ i _ => n - (intOf i).toNat)
  case atStart => exact ⟨0, _, _, _, by omega, rfl, rfl, hown0, hb0⟩
  case round =>
    obtain ⟨k, B, d, ds, hk, rfl, rfl, hown, hb⟩ := hrel
    by_cases hlt : k < n
    · obtain ⟨b, o, rfl, _, hc⟩ := (hx.below hb (Nat.le_refl _)).get (by omega)
      have hcell := hc k hlt
      clear hc
      obtain ⟨b', o', rfl, _, hc⟩ := (hy.below hb (Nat.le_refl _)).get (by omega)
      have hcell' := hc k hlt
      clear hc
      have hcn := cnt_le (dif xs ys) k
      rcases bool_cases (dif xs ys k) with hd | hd
      · have hc1 : cnt (dif xs ys) (k + 1) = cnt (dif xs ys) k + 1 := by show cnt (dif xs ys) k + (if dif xs ys k = true then 1 else 0) = _; rw [hd]; rfl
        obtain ⟨M, hM⟩ : ∃ M, cnt (dif xs ys) k = M := ⟨_, rfl⟩
        rw [hM] at hc1 hcn hown ⊢
        have HC := Lib.hid hc1
        have hd' : (gi xs k != gi ys k) = true := hd
        clear hM hc1 hd
        go_wp2
        go_quiet (fail)
        go_wp2_with (at_builtin; refine wpl_appI _ _ Try.underlying24 infoInt rfl _ _ rfl w.heap.size _ M _ _ rfl (by first | exact hown | exact hown.drewN _) k rfl (by omega) hb.size ?_; intro A4 c4 w4 hown4 hB4 hg4)
        go_roundw
        case rel => exact ⟨k + 1, A4, c4, _, by omega, by rw [HC.out], by go_num, by rw [HC.out]; exact hown4, by first | exact hb.trans (hB4 _ (Nat.le_refl _)) | exact (below_drewN hb _).trans (hB4 _ (Nat.le_refl _))⟩
        case measure => simp [intOf]; omega
      · have hc1 : cnt (dif xs ys) (k + 1) = cnt (dif xs ys) k := by show cnt (dif xs ys) k + (if dif xs ys k = true then 1 else 0) = _; rw [hd]; rfl
        have HC := Lib.hid hc1
        have hd' : (gi xs k != gi ys k) = false := hd
        clear hc1 hd
        go_wp2
        go_quiet (fail)
        go_wp2
        go_roundw
        case rel => exact ⟨k + 1, B, d, _, by omega, by rw [HC.out], by go_num, by rw [HC.out]; exact hown, below_drewN hb _⟩
        case measure => simp [intOf]; omega
    · have hkn : k = n := by omega
      subst hkn
      go_wp2
      go_ret
      exact ⟨B, d, _, rfl, hown, hb⟩

theorem differingBits_any (A A' : Option Addr) (n c c' : Nat) (xs ys : List Int) (w : World) (hx : RI w w.heap.size A n xs) (hy : RI w w.heap.size A' n ys) (hn : n ≤ 8192) (bx : isBits xs = true) (by' : isBits ys = true) :
    Calls Try.prog 55 #[.slice A n c, .slice A' n c'] w fun e w' => ∃ B d ds, e = .returned (.tuple #[.slice B (cnt (dif xs ys) n) d, .int .i64 0]) ∧ OwnI 2 w' w.heap.size B (cnt (dif xs ys) n) d ds ∧ Below w.heap.size w w' := by
  have BX := Lib.hid bx
  have BY := Lib.hid by'
  clear bx by'
  go_enter Try.func55, Try.ntmps55
  go_wp2_with fail
  refine (twoLists_any A A' n c c' xs ys _ hx hy (by omega) BX.out BY.out).mono ?_
  rintro e w1 ⟨rfl, hb1⟩
  go_wp2_with fail
  refine (differing_any A A' n c c' xs ys _ (hx.up hb1) (hy.up hb1) hn).mono ?_
  rintro e w2 ⟨B, d, ds, rfl, hown, hb2⟩
  go_wp2
  go_ret2
  exact ⟨B, d, ds, rfl, hown.weaken hb1.size, below_next hb2 hb1 (Nat.le_refl _)⟩

set_option maxHeartbeats 4000000 in
/-- the sum of ones -/
theorem sum_ones (A : Option Addr) (n c : Nat) (xs : List Int) (w : World) (hx : RI w w.heap.size A n xs) (h1 : ∀ i, i < n → gi xs i = 1) (hn : n ≤ 1048576) :
    Calls Try.prog 56 #[.slice A n c] w fun e w' => e = .returned (.int .i64 n) ∧ w = w' := by
  have H1 := Lib.hid h1
  clear h1
  go_enter Try.func56, Try.ntmps56
  go_wp2
  go_loop [3, 4] (fun s i => ∃ k : Nat, k ≤ n ∧ s = .int .i64 k ∧ i = .int .i64 k) (fun _ i => n - (intOf i).toNat)
  case atStart => exact ⟨0, by omega, rfl, rfl⟩
  case round =>
    obtain ⟨k, hk, rfl, rfl⟩ := hrel
    by_cases hlt : k < n
    · obtain ⟨b, o, rfl, _, hc⟩ := hx.get (by omega)
      have hcell := hc k hlt
      rw [H1.out k hlt] at hcell
      clear hc
      go_wp2
      go_round
      case rel => exact ⟨k + 1, by omega, by go_num, by go_num⟩
      case measure => simp [intOf]; omega
    · have hkn : k = n := by omega
      subst hkn
      go_wp2
      go_ret
      exact ⟨rfl, rfl⟩
end Go.Proofs.Ytjehkjdehkdjcaa
