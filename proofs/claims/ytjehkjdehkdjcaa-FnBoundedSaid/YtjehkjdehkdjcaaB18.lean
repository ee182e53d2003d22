/- Walks, laws and small notions for the claims of this seat, several texts as one (Runs, DrwW, RunP, RunQ). Conditions: as each theorem states them. -/
import Derived.Test.YtjehkjdehkdjcaaB9
import Derived.Test.YtjehkjdehkdjcaaB5
import Derived.BigQuiet
import Derived.Test.YtjehkjdehkdjcaaB14
import Derived.Test.YtjehkjdehkdjcaaB12
import Derived.Deep.RegionWith
import Derived.BigRegion
import Derived.Test.YtjehkjdehkdjcaaB6
namespace Go.Proofs.Ytjehkjdehkdjcaa
open Go.RowKit

/-- does a run begin at a place -/
def brk (zs : List Int) (i : Nat) : Bool := decide (i = 0) || (gi zs i != gi zs (i - 1))
/-- the last number of a list, one more -/
def inc (xs : List Int) : List Int := xs.set (xs.length - 1) (gi xs (xs.length - 1) + 1)
theorem inc_len (xs : List Int) : (inc xs).length = xs.length := by simp [inc]
/-- the lengths of the runs among the first k -/
def runsTo (zs : List Int) : Nat → List Int
  | 0 => []
  | k + 1 => inc (if brk zs k then runsTo zs k ++ [0] else runsTo zs k)
theorem runsTo_len (zs : List Int) (k : Nat) : (runsTo zs k).length ≤ k ∧ (0 < k → 0 < (runsTo zs k).length) := by
  induction k with
  | zero => exact ⟨Nat.le_refl _, fun h => absurd h (by omega)⟩
  | succ k ih =>
    unfold runsTo
    rw [inc_len]
    by_cases h : brk zs k = true
    · rw [if_pos h, List.length_append]; simp; omega
    · have hk : k ≠ 0 := by intro e; subst e; exact h rfl
      rw [if_neg h]; exact ⟨by omega, fun _ => ih.2 (by omega)⟩
theorem runsTo_bd (zs : List Int) (k : Nat) : ∀ i, i < (runsTo zs k).length → 0 ≤ gi (runsTo zs k) i ∧ gi (runsTo zs k) i ≤ k := by
  induction k with
  | zero => intro i hi; simp [runsTo] at hi
  | succ k ih =>
    have key : ∀ xs : List Int, (∀ i, i < xs.length → 0 ≤ gi xs i ∧ gi xs i ≤ k) → ∀ i, i < (inc xs).length → 0 ≤ gi (inc xs) i ∧ gi (inc xs) i ≤ ((k + 1 : Nat) : Int) := by
      intro xs h i hi
      rw [inc_len] at hi
      have h1 := h i hi
      have h2 := h (xs.length - 1) (by omega)
      unfold inc
      have e : gi (xs.set (xs.length - 1) (gi xs (xs.length - 1) + 1)) i = if xs.length - 1 = i then gi xs (xs.length - 1) + 1 else gi xs i := by
        unfold gi
        rw [List.getD_eq_getElem?_getD, List.getElem?_set, List.getD_eq_getElem?_getD]
        by_cases hik : xs.length - 1 = i
        · rw [if_pos hik, if_pos hik, if_pos (by omega)]; rfl
        · rw [if_neg hik, if_neg hik, List.getD_eq_getElem?_getD]
      rw [e]
      split <;> omega
    unfold runsTo
    refine key _ fun i hi => ?_
    by_cases h : brk zs k = true
    · rw [if_pos h] at hi ⊢
      rw [List.length_append, List.length_singleton] at hi
      by_cases hik : i < (runsTo zs k).length
      · rw [gi_app_lt hik]; exact ih i hik
      · have hie : i = (runsTo zs k).length := by omega
        subst hie
        have : gi (runsTo zs k ++ [0]) (runsTo zs k).length = 0 := by simp [gi]
        rw [this]; omega
    · rw [if_neg h] at hi ⊢
      exact ih i hi

set_option maxRecDepth 20000 in
set_option maxHeartbeats 4000000 in
theorem runLengths_any (A : Option Addr) (n c : Nat) (zs : List Int) (w : World) (h : RI w w.heap.size A n zs) (hn : n ≤ 8192) :
    Calls Try.prog 170 #[.slice A n c] w fun e w' => ∃ B d, e = .returned (.slice B (runsTo zs n).length d) ∧ OwnI 2 w' w.heap.size B (runsTo zs n).length d (runsTo zs n) ∧ Below w.heap.size w w' := by
  have hown0 := OwnI.empty (T := 2) w (base := w.heap.size) (Nat.le_refl _)
  have hb0 := (Below.refl w.heap.size w).alloc (Nat.le_refl _) (o := .cells #[] 2)
  go_enter Try.func170, Try.ntmps170
  go_wp2
  go_loopw [3, 4, 5, 9] (fun o _ _ i wr => ∃ (k : Nat) (B : Option Addr) (d : Nat), k ≤ n ∧ o = .slice B (runsTo zs k).length d ∧ i = .int .i64 k ∧ OwnI 2 wr w.heap.size B (runsTo zs k).length d (runsTo zs k) ∧ Below w.heap.size w wr) (fun _ _ _ i _ => n - (intOf i).toNat)
  case atStart => exact ⟨0, _, _, by omega, rfl, rfl, hown0, hb0⟩
  case round =>
    obtain ⟨k, B, d, hk, rfl, rfl, hown, hb⟩ := hrel
    by_cases hlt : k < n
    · obtain ⟨b, o, rfl, _, hc⟩ := (h.below hb (Nat.le_refl _)).get (by omega)
      have hcell := hc k hlt
      have hcellp := hc (k - 1) (by omega)
      clear hc
      have hln := runsTo_len zs k
      have hbd := runsTo_bd zs k
      obtain ⟨xs, hxs⟩ : ∃ xs, runsTo zs k = xs := ⟨_, rfl⟩
      obtain ⟨M, hM⟩ : ∃ M, xs.length = M := ⟨_, rfl⟩
      rcases bool_cases (brk zs k) with hd | hd
      · have hr : runsTo zs (k + 1) = inc (xs ++ [0]) := by rw [← hxs]; show inc (if brk zs k = true then _ else _) = _; rw [if_pos hd]
        have hr2 : inc (xs ++ [0]) = (xs ++ [0]).set M 1 := by
          unfold inc
          have : gi (xs ++ [0]) M = 0 := by simp [gi, ← hM]
          rw [List.length_append, List.length_singleton, hM, Nat.add_sub_cancel, this]; rfl
        have HR := Lib.hid (hr.trans hr2)
        have HRL := Lib.hid (show (runsTo zs (k + 1)).length = M + 1 by rw [hr, inc_len, List.length_append, hM]; rfl)
        rw [hxs] at hown hln ⊢
        rw [hM] at hown hln ⊢
        have hM8 : M ≤ 8192 := by omega
        have g1 : IntKind.i64.wrap (((M + 1 : Nat) : Int) - 1) = (M : Int) := by rw [IntWalk.i64_in _ (by omega)]; omega
        have g2 : (M : Int) < ((M + 1 : Nat) : Int) := by omega
        have hgi : gi (xs ++ [0]) M = 0 := by simp [gi, ← hM]
        have HGI := Lib.hid hgi
        by_cases hk0 : k = 0
        · subst hk0
          rw [Nat.add_zero] at hcell
          clear hcellp hgi hr hr2 hd hbd
          go_wp2_with (at_builtin; refine wpl_appI _ _ Try.underlying24 infoInt rfl _ _ rfl w.heap.size _ M _ _ rfl hown 0 rfl (by omega) hb.size ?_; intro A4 c4 w4 hown4 hB4 hg4; obtain ⟨g, rfl, hgb, _⟩ := hown4.form (by omega); have hb4 := hb.trans (hB4 _ (Nat.le_refl _)); have hold := hown4.cell (j := M) (by omega); rw [HGI.out] at hold; have hfr := hown4.frozen M)
          go_roundw
          case rel =>
            have st := hown4.stored M 1
            exact ⟨1, _, c4, by omega, by rw [HRL.out], by go_num, by rw [HRL.out, HR.out]; exact st.1, hb4.grown st.2 hb4.size (fun g' e => (own_row hown4 g' e).1)⟩
          case measure => simp [intOf]; omega
        · have hne : (gi zs k != gi zs (k - 1)) = true := by simpa [brk, hk0] using hd
          have f0 : 0 < k := by omega
          have f1 : IntKind.i64.wrap ((k : Int) - 1) = ((k - 1 : Nat) : Int) := by rw [IntWalk.i64_in _ (by omega)]; omega
          have f4 : ((k - 1 : Nat) : Int) < (n : Int) := by omega
          clear hgi hr hr2 hd hbd
          go_wp2_with (at_builtin; refine wpl_appI _ _ Try.underlying24 infoInt rfl _ _ rfl w.heap.size _ M _ _ rfl hown 0 rfl (by omega) hb.size ?_; intro A4 c4 w4 hown4 hB4 hg4; obtain ⟨g, rfl, hgb, _⟩ := hown4.form (by omega); have hb4 := hb.trans (hB4 _ (Nat.le_refl _)); have hold := hown4.cell (j := M) (by omega); rw [HGI.out] at hold; have hfr := hown4.frozen M)
          go_roundw
          case rel =>
            have st := hown4.stored M 1
            exact ⟨k + 1, _, c4, by omega, by rw [HRL.out], by go_num, by rw [HRL.out, HR.out]; exact st.1, hb4.grown st.2 hb4.size (fun g' e => (own_row hown4 g' e).1)⟩
          case measure => simp [intOf]; omega
      · have hk0 : k ≠ 0 := by intro e; subst e; cases hd
        have f0 : 0 < k := by omega
        have hne : (gi zs k != gi zs (k - 1)) = false := by simpa [brk, hk0] using hd
        have hr : runsTo zs (k + 1) = inc xs := by rw [← hxs]; show inc (if brk zs k = true then _ else _) = _; rw [if_neg (by rw [hd]; decide)]
        have HRL := Lib.hid (show (runsTo zs (k + 1)).length = M by rw [hr, inc_len, hM])
        rw [hxs] at hown hln hbd ⊢
        rw [hM] at hown hln hbd ⊢
        have hM0 : 0 < M := hln.2 f0
        have hM8 : M ≤ 8192 := by omega
        have g1 : IntKind.i64.wrap ((M : Int) - 1) = ((M - 1 : Nat) : Int) := by rw [IntWalk.i64_in _ (by omega)]; omega
        have g2 : ((M - 1 : Nat) : Int) < (M : Int) := by omega
        obtain ⟨g, rfl, hgb, _⟩ := hown.form hM0
        have hold := hown.cell (j := M - 1) (by omega)
        have hfr := hown.frozen (M - 1)
        have hv := hbd (M - 1) (by omega)
        obtain ⟨v, hvv⟩ : ∃ v, gi xs (M - 1) = v := ⟨_, rfl⟩
        have hr2 : inc xs = xs.set (M - 1) (v + 1) := by unfold inc; rw [hM, hvv]
        have HR := Lib.hid (hr.trans hr2)
        rw [hvv] at hold hv
        obtain ⟨hv1, hv2⟩ := hv
        have f1 : IntKind.i64.wrap ((k : Int) - 1) = ((k - 1 : Nat) : Int) := by rw [IntWalk.i64_in _ (by omega)]; omega
        have f4 : ((k - 1 : Nat) : Int) < (n : Int) := by omega
        have f5 : IntKind.i64.wrap (v + 1) = v + 1 := IntWalk.i64_in _ (by omega)
        clear hr hr2 hd hbd hvv
        go_wp2
        go_roundw
        case rel =>
          have st := hown.stored (M - 1) (v + 1)
          exact ⟨k + 1, _, d, by omega, by rw [HRL.out], by go_num, by rw [HRL.out, HR.out]; exact st.1, hb.grown st.2 hb.size (fun g' e => (own_row hown g' e).1)⟩
        case measure => simp [intOf]; omega
    · have hkn : k = n := by omega
      subst hkn
      go_wp2
      go_ret
      exact ⟨B, d, rfl, hown, hb⟩

theorem RunLengths_any (A : Option Addr) (n c : Nat) (zs : List Int) (w : World) (h : RI w w.heap.size A n zs) (hn : n ≤ 8192) (hz : isBits zs = true) :
    Calls Try.prog 92 #[.slice A n c] w (RetIC 2 w (runsTo zs n) 0) := by
  have HZ := Lib.hid hz
  clear hz
  go_enter Try.func92, Try.ntmps92
  go_wp2_with fail
  refine (iIsBits_any _ _ _ zs _ h (by omega)).mono ?_
  rw [HZ.out]
  rintro e w' ⟨rfl, rfl⟩
  go_wp2_with fail
  refine (runLengths_any A n c zs _ h hn).mono ?_
  rintro e w2 ⟨B, d, rfl, hown, hb2⟩
  go_wp2
  go_ret2
  exact ⟨B, _, d, rfl, hown, hb2⟩
end Go.Proofs.Ytjehkjdehkdjcaa

namespace Go.Proofs.Ytjehkjdehkdjcaa
open Go.RowKit
/-- a drawn list and a drawn fault -/
def TopIF (w : World) (N : Nat) (e : Ending) (w' : World) : Prop :=
  ∃ A n c zs f, e = .returned (.tuple #[.slice A n c, .agg #[.int .i64 (Flt.kd f), .int .i64 f.pos, .int .i64 f.len, .int .i64 f.val]]) ∧ OwnI 2 w' w.heap.size A n c zs ∧ n ≤ N ∧ Below w.heap.size w w'

theorem Blk4.set0 {w : World} {g : Nat} {t : TypeId} {u0 u1 u2 u3 : Value} (h : Blk4 w g t u0 u1 u2 u3) (u : Value) : Blk4 (w.setCell ⟨g, 0, none⟩ u) g t u u1 u2 u3 := by have := h.set 0 u; simpa [Blk4] using this
theorem Blk4.set2 {w : World} {g : Nat} {t : TypeId} {u0 u1 u2 u3 : Value} (h : Blk4 w g t u0 u1 u2 u3) (u : Value) : Blk4 (w.setCell ⟨g, 2, none⟩ u) g t u0 u1 u u3 := by have := h.set 2 u; simpa [Blk4] using this
theorem Blk4.set3 {w : World} {g : Nat} {t : TypeId} {u0 u1 u2 u3 : Value} (h : Blk4 w g t u0 u1 u2 u3) (u : Value) : Blk4 (w.setCell ⟨g, 3, none⟩ u) g t u0 u1 u2 u := by have := h.set 3 u; simpa [Blk4] using this

set_option maxRecDepth 20000 in
set_option maxHeartbeats 8000000 in
theorem drawWithinRun_any (A : Option Addr) (n c : Nat) (bs : List Int) (w : World) (h : RB w w.heap.size A n bs) (hn : n ≤ 1099511627776) :
    Calls Try.prog 82 #[.slice A n c] w (TopIF w 8200) := by
  have hba := (Below.refl w.heap.size w).alloc (Nat.le_refl _) (o := .cells #[.int .i64 0, .int .i64 0, .int .i64 0, .int .i64 0] 82)
  have hz := w.size_alloc (.cells #[.int .i64 0, .int .i64 0, .int .i64 0, .int .i64 0] 82)
  go_enter Try.func82, Try.ntmps82
  go_wp2_with fail
  refine (from_any A n c bs _ ((h.below hba (Nat.le_refl _)).more hba.size) hn).mono ?_
  rintro e w0 ⟨g, rfl, hs1, hg, hb1⟩
  have hl := hs1.lt
  have K0 := Lib.hid ((Blk4.new w 82 (.int .i64 0) (.int .i64 0) (.int .i64 0) (.int .i64 0)).next hb1)
  have hgR : g ≠ w.heap.size := by omega
  have hb0 : Below w.heap.size w w0 := below_next hb1 hba (Nat.le_refl _)
  have HB0 := Lib.hid hb0
  have hR0 : w.heap.size < w0.heap.size := K0.out.lt
  clear h hn hba hb1 hb0
  go_wp2_with fail
  refine (l21Draw_any g _ hs1).mono ?_
  rintro e w1 ⟨A1, n1, c1, zs1, rfl, hown1, hn1, d1⟩
  have K1 := Lib.hid (K0.out.dr d1 hgR)
  go_wp2_with fail
  refine (drawFault_any g n1 _ d1.src (by omega)).mono ?_
  rintro e w2 ⟨⟨k, p, l, v⟩, rfl, d2⟩
  have K2 := Lib.hid (K1.out.dr d2 hgR)
  have HO2 := Lib.hid (hown1.dr d2 hl)
  have D2 := Lib.hid (d2.next d1)
  have hg2 := D2.out.lt
  have hne2 : g ≠ w2.heap.size := by omega
  have hneR : w.heap.size ≠ w2.heap.size := by have := D2.out.size; omega
  have hbk : ∀ g' o, A1 = some ⟨g', o, none⟩ → g' < w2.heap.size := fun g' o e => Nat.lt_of_lt_of_le (hown1.block g' o e).2.2 d2.size
  clear d1 d2 hown1 K0 K1
  dsimp only
  go_wp2_with fail
  refine (next_any g 3 _ (D2.out.alloc _).src).mono ?_
  rintro e w3 ⟨x, rfl, hx, d3⟩
  have F3 := Lib.hid ((Blk4.new w2 _ _ _ _ _).dr d3 hne2)
  have K3 := Lib.hid ((K2.out.alloc _).dr d3 hgR)
  have HO3 := Lib.hid ((HO2.out.alloc _).dr d3 hl)
  have D3 := Lib.hid (d3.next (D2.out.alloc _))
  clear d3
  have hgw : w.heap.size ≤ g := by omega
  by_cases h0 : x = 0
  · subst h0
    have f0 := F3.out.c0; have f1 := F3.out.c1; have f2 := F3.out.c2; have f3 := F3.out.c3; have ff := F3.out.free
    have k0 := K3.out.c0; have k1 := K3.out.c1; have k2 := K3.out.c2; have k3 := K3.out.c3; have fk := K3.out.free
    go_wp2_with fail
    go_region
    all_goals
      go_wp2_with fail
      refine bp_forget (fun w' => Blk4 w' w.heap.size 82 (.int .i64 k) (.int .i64 p) (.int .i64 l) (.int .i64 v) ∧ OwnI 2 w' w0.heap.size A1 n1 c1 zs1 ∧ Below w.heap.size w w') ?_ ?_
      · exact ⟨K3.out.all.drew, ((((HO3.out.other (p := ⟨w.heap.size, 0, none⟩) hR0 _).other (p := ⟨w.heap.size, 1, none⟩) hR0 _).other (p := ⟨w.heap.size, 2, none⟩) hR0 _).other (p := ⟨w.heap.size, 3, none⟩) hR0 _).drew,
          (((((D3.out.top HB0.out hgw).setCell (p := ⟨w.heap.size, 0, none⟩) (Nat.le_refl _) _).setCell (p := ⟨w.heap.size, 1, none⟩) (Nat.le_refl _) _).setCell (p := ⟨w.heap.size, 2, none⟩) (Nat.le_refl _) _).setCell (p := ⟨w.heap.size, 3, none⟩) (Nat.le_refl _) _).drew⟩
      rintro wz ⟨kz, oz, bz⟩
      have q0 := kz.c0
      have q1 := kz.c1
      have q2 := kz.c2
      have q3 := kz.c3
      exact bodyPost_ret (v := .tuple #[.slice A1 n1 c1, .agg #[.int .i64 k, .int .i64 p, .int .i64 l, .int .i64 v]]) (by simp [results, Try.results82, go_sem, q0, q1, q2, q3]) rfl ⟨A1, n1, c1, zs1, ⟨k, p, l, v⟩, rfl, oz.weaken (Nat.le_of_lt hR0), by omega, bz⟩
  · have hx0 : (0 : Int) < (x : Int) := by omega
    go_wp2_with fail
    refine (next_any g 2 _ D3.out.src).mono ?_
    rintro e w4 ⟨y, rfl, hy, d4⟩
    have F4 := Lib.hid (F3.out.dr d4 hne2)
    have K4 := Lib.hid (K3.out.dr d4 hgR)
    have HO4 := Lib.hid (HO3.out.dr d4 hl)
    have D4 := Lib.hid (d4.next D3.out)
    have hy2 : y ≤ 2 := by omega
    have hFb : w0.heap.size ≤ w2.heap.size := D2.out.size
    clear d4 hy hx h0
    have f0 := F4.out.c0; have f1 := F4.out.c1; have f2 := F4.out.c2; have f3 := F4.out.c3; have ff := F4.out.free
    go_wp2_with fail
    refine wp_forget (fun w' => Blk4 w' w2.heap.size 82 (.int .i64 (3 + (y : Int))) (.int .i64 p) (.int .i64 1) (.int .i64 v) ∧ Blk4 w' w.heap.size 82 (.int .i64 0) (.int .i64 0) (.int .i64 0) (.int .i64 0) ∧ OwnI 2 w' w0.heap.size A1 n1 c1 zs1 ∧ Dr w0 g w') ?_ ?_
    · exact ⟨(F4.out.set0 _).set2 _, (K4.out.other (p := ⟨w2.heap.size, 0, none⟩) (fun e => hneR e.symm) _).other (p := ⟨w2.heap.size, 2, none⟩) (fun e => hneR e.symm) _,
        (HO4.out.kept (grown_set _ ⟨w2.heap.size, 0, none⟩ _) (fun g' o e e2 => by have h1 := hbk g' o e; have e3 : g' = w2.heap.size := Option.some.inj e2; omega)).kept (grown_set _ ⟨w2.heap.size, 2, none⟩ _) (fun g' o e e2 => by have h1 := hbk g' o e; have e3 : g' = w2.heap.size := Option.some.inj e2; omega),
        (D4.out.set (p := ⟨w2.heap.size, 0, none⟩) hFb hl _).set (p := ⟨w2.heap.size, 2, none⟩) hFb hl _⟩
    rintro w5 ⟨F5', K5', HO5', D5'⟩
    have F5 := Lib.hid F5'.drew; have K5 := Lib.hid K5'.drew; have HO5 := Lib.hid HO5'.drew; have D5 := Lib.hid D5'.drew
    clear F5' K5' HO5' D5' f0 f1 f2 f3 ff
    have f0 := F5.out.c0
    have f3 := F5.out.c3; have ff := F5.out.free
    go_region_with ((with_reducible refine (next_any g 2 _ D5.out.src).mono ?_); rintro e w6 ⟨z, rfl, hz2, d6⟩; (have F6 := Lib.hid (show Blk4 w6 w2.heap.size 82 _ _ _ _ from F5.out.dr d6 hne2)); (have K6 := Lib.hid (show Blk4 w6 w.heap.size 82 _ _ _ _ from K5.out.dr d6 hgR)); (have HO6 := Lib.hid (show OwnI 2 w6 w0.heap.size A1 n1 c1 zs1 from HO5.out.dr d6 hl)); (have D6 := Lib.hid (show Dr w0 g w6 from d6.next D5.out)); (have f0' := F6.out.c0); (have f3' := F6.out.c3); (have ff' := F6.out.free))
    all_goals
      obtain ⟨V, hV⟩ : ∃ V, IntKind.i64.wrap (IntKind.i64.wrap (3 + (y : Int) - 3) * (z : Int)) = V := ⟨_, rfl⟩
      rw [hV]
      have F7' := F6.out.set3 (.int .i64 V)
      have K7' := K6.out.other (p := ⟨w2.heap.size, 3, none⟩) (fun e => hneR e.symm) (.int .i64 V)
      have HO7' := HO6.out.kept (grown_set _ ⟨w2.heap.size, 3, none⟩ (.int .i64 V)) (fun g' o e e2 => by have h1 := hbk g' o e; have e3 : g' = w2.heap.size := Option.some.inj e2; omega)
      have D7' := D6.out.set (p := ⟨w2.heap.size, 3, none⟩) hFb hl (.int .i64 V)
      obtain ⟨w7, hw7⟩ : ∃ w7, w6.setCell ⟨w2.heap.size, 3, none⟩ (.int .i64 V) = w7 := ⟨_, rfl⟩
      rw [hw7] at F7' K7' HO7' D7' ⊢
      have F7 := Lib.hid F7'; have K7 := Lib.hid K7'; have HO7 := Lib.hid HO7'; have D7 := Lib.hid D7'
      clear F7' K7' HO7' D7' f0 f3 ff f0' f3' ff' hV hw7
      have f0 := F7.out.c0; have f1 := F7.out.c1; have f2 := F7.out.c2; have f3 := F7.out.c3; have ff := F7.out.free
      have k0 := K7.out.c0; have k1 := K7.out.c1; have k2 := K7.out.c2; have k3 := K7.out.c3; have fk := K7.out.free
      go_wp2_with fail
      go_region
      all_goals
        go_wp2_with fail
        refine bp_forget (fun w' => Blk4 w' w.heap.size 82 (.int .i64 (3 + (y : Int))) (.int .i64 p) (.int .i64 1) (.int .i64 V) ∧ OwnI 2 w' w0.heap.size A1 n1 c1 zs1 ∧ Below w.heap.size w w') ?_ ?_
        · exact ⟨K7.out.all.drew, ((((HO7.out.other (p := ⟨w.heap.size, 0, none⟩) hR0 _).other (p := ⟨w.heap.size, 1, none⟩) hR0 _).other (p := ⟨w.heap.size, 2, none⟩) hR0 _).other (p := ⟨w.heap.size, 3, none⟩) hR0 _).drew,
            (((((D7.out.top HB0.out hgw).setCell (p := ⟨w.heap.size, 0, none⟩) (Nat.le_refl _) _).setCell (p := ⟨w.heap.size, 1, none⟩) (Nat.le_refl _) _).setCell (p := ⟨w.heap.size, 2, none⟩) (Nat.le_refl _) _).setCell (p := ⟨w.heap.size, 3, none⟩) (Nat.le_refl _) _).drew⟩
        rintro wz ⟨kz, oz, bz⟩
        have q0 := kz.c0
        have q1 := kz.c1
        have q2 := kz.c2
        have q3 := kz.c3
        exact bodyPost_ret (v := .tuple #[.slice A1 n1 c1, .agg #[.int .i64 (3 + (y : Int)), .int .i64 p, .int .i64 1, .int .i64 V]]) (by simp [results, Try.results82, go_sem, q0, q1, q2, q3]) rfl ⟨A1, n1, c1, zs1, ⟨3 + (y : Int), p, 1, V⟩, rfl, oz.weaken (Nat.le_of_lt hR0), by omega, bz⟩
end Go.Proofs.Ytjehkjdehkdjcaa

namespace Go.Proofs.Ytjehkjdehkdjcaa
open Go.RowKit
/-- one number of a list, one more -/
def bump (xs : List Int) (j : Nat) : List Int := xs.set j (gi xs j + 1)
theorem bump_len (xs : List Int) (j : Nat) : (bump xs j).length = xs.length := by simp [bump]
theorem bump_gi {xs : List Int} {i j : Nat} (hi : i < xs.length) : gi (bump xs j) i = if j = i then gi xs i + 1 else gi xs i := by
  unfold bump gi
  rw [List.getD_eq_getElem?_getD, List.getElem?_set, List.getD_eq_getElem?_getD, List.getD_eq_getElem?_getD]
  by_cases h : j = i
  · subst h; rw [if_pos rfl, if_pos hi, if_pos rfl]; rfl
  · rw [if_neg h, if_neg h]
theorem bump_comm (xs : List Int) (i j : Nat) : bump (bump xs i) j = bump (bump xs j) i := by
  refine ext_gi (by simp [bump_len]) fun k hk => ?_
  rw [bump_len, bump_len] at hk
  rw [bump_gi (by rw [bump_len]; exact hk), bump_gi hk, bump_gi (by rw [bump_len]; exact hk), bump_gi hk]
  split <;> split <;> rfl
theorem bump_app {xs : List Int} {j : Nat} (hj : j < xs.length) : bump (xs ++ [0]) j = bump xs j ++ [0] := by
  refine ext_gi (by simp [bump_len]) fun k hk => ?_
  rw [bump_len] at hk
  rw [bump_gi hk]
  by_cases hkx : k < xs.length
  · rw [gi_app_lt hkx, gi_app_lt (by rw [bump_len]; exact hkx), bump_gi hkx]
  · rw [List.length_append, List.length_singleton] at hk
    have : k = xs.length := by omega
    subst this
    rw [if_neg (by omega)]
    have e1 : gi (xs ++ [0]) xs.length = 0 := by simp [gi]
    have e2 : gi (bump xs j ++ [0]) xs.length = 0 := by simp [gi, bump_len]
    rw [e1, e2]
theorem inc_bump (xs : List Int) : inc xs = bump xs (xs.length - 1) := rfl
theorem runsTo_congr {zs ys : List Int} {k : Nat} (h : ∀ i, i < k → gi zs i = gi ys i) : runsTo zs k = runsTo ys k := by
  induction k with
  | zero => rfl
  | succ k ih =>
    have hb : brk zs k = brk ys k := by
      unfold brk
      by_cases hk : k = 0
      · simp [hk]
      · rw [h k (by omega), h (k - 1) (by omega)]
    unfold runsTo
    rw [ih fun i hi => h i (by omega), hb]
/-- a sample like the one before it, put in at q -/
theorem runs_ins {zs ys : List Int} {q : Nat} (hq : 0 < q) (h1 : ∀ i, i < q → gi ys i = gi zs i) (h2 : gi ys q = gi zs (q - 1)) (h3 : ∀ i, q ≤ i → i < zs.length → gi ys (i + 1) = gi zs i) :
    ∀ d, q + d ≤ zs.length → runsTo ys (q + d + 1) = bump (runsTo zs (q + d)) ((runsTo zs q).length - 1) ∧ (runsTo zs q).length - 1 < (runsTo zs (q + d)).length := by
  have hp := (runsTo_len zs q).2 hq
  intro d
  induction d with
  | zero =>
    intro _
    have hb : brk ys q = false := by
      have e := h1 (q - 1) (by omega)
      unfold brk
      rw [h2, e]
      have : q ≠ 0 := by omega
      simp [this]
    refine ⟨?_, by rw [Nat.add_zero]; omega⟩
    show inc (if brk ys q = true then _ else _) = _
    rw [if_neg (by rw [hb]; decide), Nat.add_zero, runsTo_congr h1, inc_bump]
  | succ d ih =>
    intro hd
    obtain ⟨i1, i2⟩ := ih (by omega)
    have hb : brk ys (q + d + 1) = brk zs (q + d) := by
      have e1 := h3 (q + d) (by omega) (by omega)
      have e2 : gi ys (q + d) = gi zs (q + d - 1) := by
        by_cases h0 : d = 0
        · subst h0; exact h2
        · have := h3 (q + d - 1) (by omega) (by omega)
          rwa [show q + d - 1 + 1 = q + d by omega] at this
      unfold brk
      rw [e1, Nat.add_sub_cancel, e2]
      have a1 : q + d + 1 ≠ 0 := by omega
      have a2 : q + d ≠ 0 := by omega
      rw [decide_eq_false a1, decide_eq_false a2]
    have hl : (runsTo zs (q + d + 1)).length = (if brk zs (q + d) = true then runsTo zs (q + d) ++ [0] else runsTo zs (q + d)).length := inc_len _
    constructor
    · show inc (if brk ys (q + d + 1) = true then runsTo ys (q + d + 1) ++ [0] else runsTo ys (q + d + 1)) = bump (inc (if brk zs (q + d) = true then runsTo zs (q + d) ++ [0] else runsTo zs (q + d))) _
      rw [hb, i1]
      by_cases hx : brk zs (q + d) = true
      · rw [if_pos hx, if_pos hx, ← bump_app i2, inc_bump, inc_bump, bump_len, bump_comm]
      · rw [if_neg hx, if_neg hx, inc_bump, inc_bump, bump_len, bump_comm]
    · show _ < (runsTo zs (q + d + 1)).length
      rw [hl]
      split
      · rw [List.length_append]; omega
      · exact i2
end Go.Proofs.Ytjehkjdehkdjcaa

namespace Go.Proofs.Ytjehkjdehkdjcaa
open Go.RowKit
theorem gi_app_up {xs ys : List Int} {k : Nat} (h : xs.length ≤ k) : gi (xs ++ ys) k = gi ys (k - xs.length) := by
  unfold gi
  rw [List.getD_eq_getElem?_getD, List.getElem?_append_right h, List.getD_eq_getElem?_getD]
theorem slip_law {zs : List Int} {f : Flt} (h : within5 zs f = true) (hn : f.kd = 4 → zs.length < 8192) :
    ∃ j, j < (runsTo zs zs.length).length ∧ (runsTo (appF zs f) (appF zs f).length).length = (runsTo zs zs.length).length ∧
      ∀ i, i < (runsTo zs zs.length).length → gi (runsTo (appF zs f) (appF zs f).length) i = gi (runsTo zs zs.length) i + (if j = i then slipOf f else 0) := by
  unfold within5 at h
  simp only [Bool.and_eq_true, Bool.or_eq_true, decide_eq_true_eq] at h
  obtain ⟨hk, hl, hp, hr, hv⟩ := h
  have hp2 := inR_iff.1 hp
  obtain ⟨q, hq⟩ : ∃ q : Nat, f.pos = q := ⟨f.pos.toNat, by omega⟩
  rw [hq, Int.toNat_natCast] at hr hv
  have r1 : gi zs (q - 1) = gi zs q := by
    have := List.all_eq_true.1 hr 1 (by simp)
    unfold run5 at this
    rw [decide_eq_true_eq, show q - 2 + 1 = q - 1 by omega, show q - 2 + 2 = q by omega] at this
    exact this
  have hq2 : 2 ≤ q ∧ q + 3 ≤ zs.length := by omega
  have elen : f.len.toNat = 1 := by omega
  rcases hk with hk | hk
  · have e : appF zs f = zs.take q ++ zs.drop (q + 1) := by unfold appF; rw [if_neg (by omega), if_neg (by omega), if_pos hk, hq, Int.toNat_natCast, elen]
    have el : (appF zs f).length = zs.length - 1 := by rw [e, List.length_append, List.length_take, List.length_drop]; omega
    have g1 : ∀ i, i < q → gi (appF zs f) i = gi zs i := fun i hi => by rw [e, gi_app_lt (by rw [List.length_take]; omega), gi_take hi]
    have g2 : ∀ i, q ≤ i → gi (appF zs f) i = gi zs (i + 1) := fun i hi => by
      rw [e, gi_app_up (by rw [List.length_take]; omega), List.length_take, gi_drop, Nat.min_eq_left (by omega), show q + 1 + (i - q) = i + 1 by omega]
    obtain ⟨k1, k2⟩ := runs_ins (zs := appF zs f) (ys := zs) (q := q) (by omega) (fun i hi => (g1 i hi).symm) (by rw [g1 _ (by omega), r1]) (fun i hi _ => (g2 i hi).symm) (zs.length - 1 - q) (by omega)
    rw [show q + (zs.length - 1 - q) + 1 = zs.length by omega, show q + (zs.length - 1 - q) = (appF zs f).length by omega] at k1
    rw [show q + (zs.length - 1 - q) = (appF zs f).length by omega] at k2
    refine ⟨(runsTo (appF zs f) q).length - 1, by rw [k1, bump_len]; exact k2, by rw [k1, bump_len], fun i hi => ?_⟩
    rw [k1, bump_len] at hi
    have es : slipOf f = -1 := by unfold slipOf; rw [if_neg (by omega), if_pos hk, hl]
    rw [k1, bump_gi hi, es]
    split <;> omega
  · have hn' := hn hk
    have hv' : f.val = gi zs q := by rcases hv with hv | hv
                                     · omega
                                     · exact hv
    have e : appF zs f = zs.take q ++ [gi zs q] ++ zs.drop q := by
      unfold appF; rw [if_neg (by omega), if_neg (by omega), if_neg (by omega), if_pos hk, hq, Int.toNat_natCast, elen, if_pos (by omega), hv']
      exact List.take_of_length_le (by simp only [List.length_append, List.length_take, List.length_drop, List.length_replicate]; omega)
    have el : (appF zs f).length = zs.length + 1 := by rw [e]; simp only [List.length_append, List.length_take, List.length_drop, List.length_singleton]; omega
    have g1 : ∀ i, i < q → gi (appF zs f) i = gi zs i := fun i hi => by rw [e, List.append_assoc, gi_app_lt (by rw [List.length_take]; omega), gi_take hi]
    have g0 : gi (appF zs f) q = gi zs q := by
      rw [e, List.append_assoc, gi_app_up (by rw [List.length_take]; omega), List.length_take, Nat.min_eq_left (by omega), Nat.sub_self]; rfl
    have g2 : ∀ i, q ≤ i → gi (appF zs f) (i + 1) = gi zs i := fun i hi => by
      rw [e, gi_app_up (by rw [List.length_append, List.length_take, List.length_singleton]; omega), List.length_append, List.length_take, List.length_singleton, gi_drop, Nat.min_eq_left (by omega), show q + (i + 1 - (q + 1)) = i by omega]
    obtain ⟨k1, k2⟩ := runs_ins (zs := zs) (ys := appF zs f) (q := q) (by omega) g1 (by rw [g0, r1]) (fun i hi _ => g2 i hi) (zs.length - q) (by omega)
    rw [show q + (zs.length - q) + 1 = (appF zs f).length by omega, show q + (zs.length - q) = zs.length by omega] at k1
    rw [show q + (zs.length - q) = zs.length by omega] at k2
    refine ⟨(runsTo zs q).length - 1, k2, by rw [k1, bump_len], fun i hi => ?_⟩
    have es : slipOf f = 1 := by unfold slipOf; rw [if_pos hk, hl]
    rw [k1, bump_gi hi, es]
    split <;> omega
end Go.Proofs.Ytjehkjdehkdjcaa
