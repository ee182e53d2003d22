/- The walks of the reference's decoder as a whole. Conditions: lists of at most 2^20 numbers. -/
import Derived.Test.YtlfbmedgkkfalaaDecS
import Derived.Test.YtlfbmedgkkfalaaFault
import Derived.Test.YtlfbmedgkkfalaaKit6
namespace Go.Proofs.Ytlfbmedgkkfalaa
open Go.RowKit

/-- what the decoder finds is handed back -/
def RetRun (T : TypeId) (w0 : World) (d : Dec) (e : Ending) (w' : World) : Prop :=
  ∃ A n c, e = .returned (.agg #[.int .i64 d.pre, .slice A n c, .int .i64 d.code]) ∧ OwnI T w' w0.heap.size A n c d.edges ∧ Below w0.heap.size w0 w'

theorem l22Round_any (n : Int) (w : World) (h : 0 ≤ n) (h2 : n ≤ 1099511627776) :
    Calls Try.prog 204 #[.int .i64 n] w fun e w' => e = .returned (.int .i64 ((n + 4) / 8)) ∧ w = w' := by
  have e1 : (n + 4).tdiv 8 = (n + 4) / 8 := Int.tdiv_eq_ediv_of_nonneg (by omega)
  go_enter Try.func204, Try.ntmps204
  go_wp2
  go_ret
  exact ⟨ret_int (by first | rfl | exact e1 | omega), rfl⟩

theorem l18Preamble_any (n : Int) (w : World) :
    Calls Try.prog 152 #[.int .i64 n] w fun e w' => e = .returned (.bool (inR n 3 15)) ∧ w = w' := by
  go_enter Try.func152, Try.ntmps152
  go_wp2_with (go_at_call 143; refine (l01In_any _ _ _ _).mono ?_; rintro e w' ⟨rfl, rfl⟩)
  go_ret
  exact ⟨rfl, rfl⟩

theorem firstW {A : Option Addr} {n c : Nat} {zs : List Int} {w : World} (h : RI w w.heap.size A n zs) (hn : n ≤ 1048576) (v : Int) (i : Nat) (hi : i ≤ 2097152) (x : Int) (hx : x = (i : Int) - 1) (o : Option Nat) (ho : nxt zs v i = o) :
    Calls Try.prog 272 #[.slice A n c, .int .i64 x, .int .i64 v] w fun e w' => e = .returned (.int .i64 (optI o)) ∧ w = w' := by
  subst hx; subst ho
  exact l23First_any A n c zs i v w h (by omega) (by omega)

set_option maxHeartbeats 4000000 in
theorem l23Run_any (A : Option Addr) (n c : Nat) (zs : List Int) (w : World) (h : RI w w.heap.size A n zs) (hn : n ≤ 1048576) :
    Calls Try.prog 252 #[.slice A n c] w (RetRun 2 w (decP zs)) := by
  have L := Lib.hid h.len
  have h0 : RI (w.alloc (.cells #[.int .i64 0, .slice none 0 0, .int .i64 0] 156)) (w.alloc (.cells #[.int .i64 0, .slice none 0 0, .int .i64 0] 156)).heap.size A n zs := h.alloc' _
  obtain ⟨oa, hoa⟩ : ∃ o, nxt zs 0 0 = o := ⟨_, rfl⟩
  rcases oa with _ | a
  · have E := Lib.hid (show decP zs = ⟨4, 0, []⟩ from by unfold decP; rw [hoa])
    have HA := Lib.hid hoa
    clear hoa
    go_enter Try.func252, Try.ntmps252
    go_wp2_with fail
    refine (firstW h0 hn 0 0 (by omega) (-1) (by omega) _ HA.out).mono ?_
    dsimp only [optI]
    rintro e w' ⟨rfl, rfl⟩
    go_wp2
    rw [E.out]
    exact bodyPost_ret (v := .agg #[.int .i64 0, .slice none 0 0, .int .i64 4]) (by simp [results, Try.results252, go_sem]) rfl ⟨none, 0, 0, rfl, OwnI.nil _ _ _, by go_grown⟩
  have ha := nxt_le hoa
  rw [L.out] at ha
  obtain ⟨_, ha2, _⟩ := ha
  have HA := Lib.hid hoa
  -- where the preamble ends
  obtain ⟨oh, hoh⟩ : ∃ o, nxt zs 1 (a + 1) = o := ⟨_, rfl⟩
  obtain ⟨q, hq⟩ : ∃ q, endP zs a = q := ⟨_, rfl⟩
  have hq1 : a < q ∧ q ≤ n := by
    rw [← hq]; unfold endP; rw [hoh]
    rcases oh with _ | j
    · simp only [Option.getD_none]; rw [L.out]; omega
    · have := nxt_le hoh
      rw [L.out] at this
      simp only [Option.getD_some]; omega
  obtain ⟨hq1, hq2⟩ := hq1
  have HO := Lib.hid hoh
  have HOQ := Lib.hid (show oh.getD n = q from by rw [← hq]; unfold endP; rw [hoh, L.out])
  have HQ := Lib.hid hq
  clear hoh hq hoa
  obtain ⟨og, hog⟩ : ∃ o, nxt zs 0 (q + 1) = o := ⟨_, rfl⟩
  have HG := Lib.hid hog
  have hgn : ∀ g, og = some g → q < g ∧ g < n := by
    intro g e
    rw [e] at hog
    have := nxt_le hog
    rw [L.out] at this
    omega
  clear hog
  obtain ⟨p, hp⟩ : ∃ p, (((q - a : Nat) : Int) + 4) / 8 = p := ⟨_, rfl⟩
  have HP := Lib.hid hp
  have hp0 : ((q : Int) - (a : Int) + 4) / 8 = p := by rw [← hp]; congr 2; omega
  have HP0 := Lib.hid hp0
  clear hp hp0
  have HD := Lib.hid (show decP zs = if inR p 3 15 then decH zs p q else ⟨6, 0, []⟩ from by unfold decP; rw [HA.out]; show decA zs a = _; unfold decA; rw [HQ.out, HP.out])
  have key : ∀ W, RI W W.heap.size A n zs → Calls Try.prog 272 #[.slice A n c, .int .i64 q, .int .i64 0] W fun e w' => e = .returned (.int .i64 (optI og)) ∧ W = w' := fun W hW => firstW hW hn 0 (q + 1) (by omega) q (by omega) _ HG.out
  have KEY := Lib.hid key
  clear key
  -- up to the call that rounds
  have main : ∀ oh : Option Nat, oh.getD n = q → nxt zs 1 (a + 1) = oh → Calls Try.prog 252 #[.slice A n c] w (RetRun 2 w (decP zs)) := by
    intro oh hh hn1
    have HN1 := Lib.hid hn1
    clear hn1
    rcases bool_cases (inR p 3 15) with hr | hr
    case inr =>
      have E := Lib.hid (show decP zs = ⟨6, 0, []⟩ from by rw [HD.out, hr]; rfl)
      rcases oh with _ | j
      case' none => (obtain rfl : n = q := hh)
      case' some => (obtain rfl : j = q := hh)
      all_goals
        go_enter Try.func252, Try.ntmps252
        go_wp2_with fail
        refine (firstW h0 hn 0 0 (by omega) (-1) (by omega) _ HA.out).mono ?_
        dsimp only [optI]
        rintro e w' ⟨rfl, rfl⟩
        go_wp2_with fail
        refine (firstW h0 hn 1 (a + 1) (by omega) a (by omega) _ HN1.out).mono ?_
        dsimp only [optI]
        rintro e w' ⟨rfl, rfl⟩
        go_wp2_with fail
        refine (l22Round_any _ _ (by omega) (by omega)).mono ?_
        rw [HP0.out]
        rintro e w' ⟨rfl, rfl⟩
        go_wp2_with fail
        refine (KEY.out _ h0).mono ?_
        rintro e w' ⟨rfl, rfl⟩
        go_wp2_with fail
        refine (l18Preamble_any _ _).mono ?_
        rw [hr]
        rintro e w' ⟨rfl, rfl⟩
        go_wp2
        rw [E.out]
        exact bodyPost_ret (v := .agg #[.int .i64 0, .slice none 0 0, .int .i64 6]) (by simp [results, Try.results252, go_sem]) rfl ⟨none, 0, 0, rfl, OwnI.nil _ _ _, by go_grown⟩
    case inl =>
      rcases og with _ | g
      · have E := Lib.hid (show decP zs = ⟨6, 0, []⟩ from by rw [HD.out, hr]; show decH zs p q = _; unfold decH; rw [HG.out])
        rcases oh with _ | j
        case' none => (obtain rfl : n = q := hh)
        case' some => (obtain rfl : j = q := hh)
        all_goals
          go_enter Try.func252, Try.ntmps252
          go_wp2_with fail
          refine (firstW h0 hn 0 0 (by omega) (-1) (by omega) _ HA.out).mono ?_
          dsimp only [optI]
          rintro e w' ⟨rfl, rfl⟩
          go_wp2_with fail
          refine (firstW h0 hn 1 (a + 1) (by omega) a (by omega) _ HN1.out).mono ?_
          dsimp only [optI]
          rintro e w' ⟨rfl, rfl⟩
          go_wp2_with fail
          refine (l22Round_any _ _ (by omega) (by omega)).mono ?_
          rw [HP0.out]
          rintro e w' ⟨rfl, rfl⟩
          go_wp2_with fail
          refine (KEY.out _ h0).mono ?_
          (try dsimp only [optI])
          rintro e w' ⟨rfl, rfl⟩
          go_wp2_with fail
          refine (l18Preamble_any _ _).mono ?_
          rw [hr]
          rintro e w' ⟨rfl, rfl⟩
          go_wp2
          rw [E.out]
          exact bodyPost_ret (v := .agg #[.int .i64 0, .slice none 0 0, .int .i64 6]) (by simp [results, Try.results252, go_sem]) rfl ⟨none, 0, 0, rfl, OwnI.nil _ _ _, by go_grown⟩
      · obtain ⟨hg1, hg2⟩ := hgn g rfl
        clear hgn
        have HB := Lib.hid (show decP zs = if bad5 q g then ⟨6, 0, []⟩ else decF zs p q g from by rw [HD.out, hr]; show decH zs p q = _; unfold decH; rw [HG.out])
        have three : (19 < g - q ∨ g - q < 5 ∨ g - q = 12) ∨ ((¬ 19 < g - q ∧ ¬ g - q < 5 ∧ ¬ g - q = 12) ∧ g - q < 12) ∨ ((¬ 19 < g - q ∧ ¬ g - q < 5 ∧ ¬ g - q = 12) ∧ ¬ g - q < 12) := by omega
        rcases oh with _ | j
        · exfalso
          have : n = q := hh
          omega
        obtain rfl : j = q := hh
        rcases three with h5 | ⟨⟨h6, h7, h8⟩, h9⟩ | ⟨⟨h6, h7, h8⟩, h9⟩
        · have E := Lib.hid (show decP zs = ⟨6, 0, []⟩ from by
            rw [HB.out, show bad5 j g = true from by unfold bad5; simp only [Bool.or_eq_true, decide_eq_true_eq]; omega]; rfl)
          rcases h5 with h5 | h5 | h5
          case' inl => have hb12 : ((g : Int) - (j : Int) == 12) = false := by simp; omega
          case' inr.inl => have hb12 : ((g : Int) - (j : Int) == 12) = false := by simp; omega
          case' inr.inr => have hb12 : ((g : Int) - (j : Int) == 12) = true := by simp; omega
          all_goals
            go_enter Try.func252, Try.ntmps252
            go_wp2_with fail
            refine (firstW h0 hn 0 0 (by omega) (-1) (by omega) _ HA.out).mono ?_
            dsimp only [optI]
            rintro e w' ⟨rfl, rfl⟩
            go_wp2_with fail
            refine (firstW h0 hn 1 (a + 1) (by omega) a (by omega) _ HN1.out).mono ?_
            dsimp only [optI]
            rintro e w' ⟨rfl, rfl⟩
            go_wp2_with fail
            refine (l22Round_any _ _ (by omega) (by omega)).mono ?_
            rw [HP0.out]
            rintro e w' ⟨rfl, rfl⟩
            go_wp2_with fail
            refine (KEY.out _ h0).mono ?_
            (try dsimp only [optI])
            rintro e w' ⟨rfl, rfl⟩
            go_wp2_with fail
            refine (l18Preamble_any _ _).mono ?_
            rw [hr]
            rintro e w' ⟨rfl, rfl⟩
            go_wp2
            rw [E.out]
            exact bodyPost_ret (v := .agg #[.int .i64 0, .slice none 0 0, .int .i64 6]) (by simp [results, Try.results252, go_sem]) rfl ⟨none, 0, 0, rfl, OwnI.nil _ _ _, by go_grown⟩
        · have E := Lib.hid (show decP zs = ⟨tailC zs g, p, []⟩ from by
            rw [HB.out, show bad5 j g = false from by unfold bad5; simp [h6, h7, h8]]; show decF zs p j g = _; unfold decF; rw [if_pos h9])
          have hb12 : ((g : Int) - (j : Int) == 12) = false := by simp; omega
          all_goals
            go_enter Try.func252, Try.ntmps252
            go_wp2_with fail
            refine (firstW h0 hn 0 0 (by omega) (-1) (by omega) _ HA.out).mono ?_
            dsimp only [optI]
            rintro e w' ⟨rfl, rfl⟩
            go_wp2_with fail
            refine (firstW h0 hn 1 (a + 1) (by omega) a (by omega) _ HN1.out).mono ?_
            dsimp only [optI]
            rintro e w' ⟨rfl, rfl⟩
            go_wp2_with fail
            refine (l22Round_any _ _ (by omega) (by omega)).mono ?_
            rw [HP0.out]
            rintro e w' ⟨rfl, rfl⟩
            go_wp2_with fail
            refine (KEY.out _ h0).mono ?_
            (try dsimp only [optI])
            rintro e w' ⟨rfl, rfl⟩
            go_wp2_with fail
            refine (l18Preamble_any _ _).mono ?_
            rw [hr]
            rintro e w' ⟨rfl, rfl⟩
            go_wp2_with fail
            refine (l23Tail_any A n c zs g _ h0 (by omega) (by omega)).mono ?_
            rintro e w' ⟨rfl, rfl⟩
            go_wp2
            rw [E.out]
            exact bodyPost_ret (v := .agg #[.int .i64 p, .slice none 0 0, .int .i64 (tailC zs g)]) (by simp [results, Try.results252, go_sem]) rfl ⟨none, 0, 0, rfl, OwnI.nil _ _ _, by go_grown⟩
        · have E := Lib.hid (show decP zs = ⟨edgC zs g, p, edgL zs g⟩ from by
            rw [HB.out, show bad5 j g = false from by unfold bad5; simp [h6, h7, h8]]; show decF zs p j g = _; unfold decF; rw [if_neg h9]; unfold edgC edgL; cases edg zs g <;> rfl)
          have hb12 : ((g : Int) - (j : Int) == 12) = false := by simp; omega
          all_goals
            go_enter Try.func252, Try.ntmps252
            go_wp2_with fail
            refine (firstW h0 hn 0 0 (by omega) (-1) (by omega) _ HA.out).mono ?_
            dsimp only [optI]
            rintro e w' ⟨rfl, rfl⟩
            go_wp2_with fail
            refine (firstW h0 hn 1 (a + 1) (by omega) a (by omega) _ HN1.out).mono ?_
            dsimp only [optI]
            rintro e w' ⟨rfl, rfl⟩
            go_wp2_with fail
            refine (l22Round_any _ _ (by omega) (by omega)).mono ?_
            rw [HP0.out]
            rintro e w' ⟨rfl, rfl⟩
            go_wp2_with fail
            refine (KEY.out _ h0).mono ?_
            (try dsimp only [optI])
            rintro e w' ⟨rfl, rfl⟩
            go_wp2_with fail
            refine (l18Preamble_any _ _).mono ?_
            rw [hr]
            rintro e w' ⟨rfl, rfl⟩
            go_wp2_with fail
            refine (l23Edges_any A n c zs g _ h0 hn (by omega)).mono ?_
            rintro e w1 ⟨A1, n1, c1, rfl, hown1, hb1⟩
            obtain ⟨hc1, hf1⟩ := bcell hb1
            have hz1 : w.heap.size < w1.heap.size := by have := hb1.size; simp only [isz_alloc] at this; omega
            go_wp2
            rw [E.out]
            exact bodyPost_ret (v := .agg #[.int .i64 p, .slice A1 n1 c1, .int .i64 (edgC zs g)]) (by simp [results, Try.results252, go_sem, hc1]) rfl ⟨A1, n1, c1, rfl, (((hown1.other (by simp) _).other (by simp) _).other (by simp) _).weaken (by simp), ((((below_next hb1 (below_alloc (Below.refl _ _) (Nat.le_refl _) _) (Nat.le_refl _)).setCell (Nat.le_refl _) _).setCell (Nat.le_refl _) _).setCell (Nat.le_refl _) _)⟩
  exact main oh HOQ.out HO.out
end Go.Proofs.Ytlfbmedgkkfalaa
