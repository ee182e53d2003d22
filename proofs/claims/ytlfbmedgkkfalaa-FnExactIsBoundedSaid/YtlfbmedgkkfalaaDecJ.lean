/- The walks of the program's decoder as a whole. Conditions: lists of at most 2^20 numbers. -/
import Derived.Test.YtlfbmedgkkfalaaDecI
import Derived.Test.YtlfbmedgkkfalaaPre
namespace Go.Proofs.Ytlfbmedgkkfalaa
open Go.RowKit

theorem roundCells_any (n : Int) (w : World) (h : 0 ≤ n) (h2 : n ≤ 1099511627776) :
    Calls Try.prog 197 #[.int .i64 n] w fun e w' => e = .returned (.int .i64 ((n + 4) / 8)) ∧ w = w' := by
  have e1 : (n + 4).tdiv 8 = (n + 4) / 8 := Int.tdiv_eq_ediv_of_nonneg (by omega)
  go_enter Try.func197, Try.ntmps197
  go_wp2
  go_ret
  exact ⟨ret_int (by first | rfl | exact e1 | omega), rfl⟩

theorem isPreamble_any (n : Int) (w : World) :
    Calls Try.prog 263 #[.int .i64 n] w fun e w' => e = .returned (.bool (inR n 3 15)) ∧ w = w' := by
  go_enter Try.func263, Try.ntmps263
  go_wp2_with (go_at_call 145; refine (within_any _ _ _ _).mono ?_; rintro e w' ⟨rfl, rfl⟩)
  go_ret
  exact ⟨rfl, rfl⟩

/-- what decode leaves -/
def Dj (w : World) (g : Nat) (A : Option Addr) (n c : Nat) (d : Dec) (e : Ending) (w' : World) : Prop :=
  ∃ (A' : Option Addr) (m c' : Nat) (q : Int) (es : List Int), e = .returned (.int .i64 d.code) ∧ Blk3 w' g 134 (.slice A n c) (.int .i64 q) (.slice A' m c') ∧ OwnI 2 w' (g + 1) A' m c' es ∧ Below g w w' ∧
    (d.code = 0 → q = d.pre ∧ es = d.edges)

theorem nxA1 {zs : List Int} {a q : Nat} (h : endP zs a = q) (h2 : a + 1 ≤ zs.length) : nxA zs 1 (a + 1) = (q : Int) := by
  unfold nxA; rw [if_pos rfl, ← h]; unfold endP optN
  cases nxt zs 1 (a + 1) with
  | none => simp only [Option.getD_none]; congr 1; omega
  | some j => rfl

theorem edg_le {zs : List Int} : ∀ (m f : Nat) (r : List Int × Nat), zs.length - f ≤ m → f < zs.length → edg zs f = some r → r.2 ≤ zs.length + 72 := by
  intro m
  induction m with
  | zero => intro f r hm hf; omega
  | succ m ih =>
    intro f r hm hf he
    by_cases h : smp zs (f + 76) = 0
    · rw [edg_end h] at he
      obtain rfl := Option.some.inj he
      show f + 72 ≤ _
      omega
    · cases hg : nxt zs 0 (f + 77) with
      | none => rw [edg_none h hg] at he; cases he
      | some g =>
        have hgn := nxt_le hg
        by_cases hf2 : f + 84 < g
        · rw [edg_far h hg hf2] at he; cases he
        · rw [edg_go h hg hf2] at he
          cases hx : edg zs g with
          | none => rw [hx] at he; cases he
          | some x =>
            rw [hx] at he
            obtain rfl := Option.some.inj he
            exact ih g x (by omega) hgn.2.1 hx

set_option maxHeartbeats 4000000 in
theorem decode_any (A : Option Addr) (n c g : Nat) (zs : List Int) (w : World) (hk : Blk3 w g 134 (.slice A n c) (.int .i64 0) (.slice none 0 0)) (h : RI w g A n zs) (hn : n ≤ 1048576) :
    Calls Try.prog 225 #[.pointer (some ⟨g, 0, none⟩)] w (Dj w g A n c (decP zs)) := by
  have L := Lib.hid h.len
  have hgl := hk.lt
  have k0 := hk.c0
  have k1 := hk.c1
  have f1 := hk.free 1
  have hr := h.more (Nat.le_of_lt hgl)
  obtain ⟨oa, hoa⟩ : ∃ o, nxt zs 0 0 = o := ⟨_, rfl⟩
  rcases oa with _ | a
  · have E := Lib.hid (show decP zs = ⟨4, 0, []⟩ from by unfold decP; rw [hoa])
    have HA := Lib.hid hoa
    clear hoa
    go_enter Try.func225, Try.ntmps225
    go_wp2_with fail
    refine (nextW hr hn k0 0 0 (by omega) (-1) (by omega) (-1) (by rw [nxA0, HA.out]; rfl)).mono ?_
    rintro e w' ⟨rfl, rfl⟩
    go_wp2
    go_ret
    rw [E.out]
    exact ⟨_, _, _, _, _, rfl, hk, OwnI.nil _ _ _, Below.refl _ _, fun e => by cases e⟩
  have ha := nxt_le hoa
  rw [L.out] at ha
  obtain ⟨_, ha2, _⟩ := ha
  have HA := Lib.hid hoa
  obtain ⟨q, hq⟩ : ∃ q, endP zs a = q := ⟨_, rfl⟩
  have hq1 : a < q ∧ q ≤ n := by
    rw [← hq]; unfold endP
    cases hoh : nxt zs 1 (a + 1) with
    | none => simp only [Option.getD_none]; rw [L.out]; omega
    | some j =>
      have := nxt_le hoh
      rw [L.out] at this
      simp only [Option.getD_some]; omega
  obtain ⟨hq1, hq2⟩ := hq1
  have HQ := Lib.hid hq
  clear hq hoa
  obtain ⟨og, hog⟩ : ∃ o, nxt zs 0 (q + 1) = o := ⟨_, rfl⟩
  have HG := Lib.hid hog
  have hgn : ∀ y, og = some y → q < y ∧ y < n := by
    intro y e
    rw [e] at hog
    have := nxt_le hog
    rw [L.out] at this
    omega
  clear hog
  obtain ⟨p, hp⟩ : ∃ p, (((q - a : Nat) : Int) + 4) / 8 = p := ⟨_, rfl⟩
  have HP := Lib.hid hp
  have hp0 : ((q : Int) - (a : Int) + 4) / 8 = p := by rw [← hp]; congr 2; omega
  have HP0 := Lib.hid hp0
  clear hp hp0
  have HD := Lib.hid (show decP zs = if inR p 3 15 then decH zs p q else ⟨6, 0, []⟩ from by unfold decP; rw [HA.out]; show decA zs a = _; unfold decA; rw [HQ.out, HP.out])
  have hk1 := hk.set1 (.int .i64 p)
  have hb1 : Below g w (w.setCell ⟨g, 1, none⟩ (.int .i64 p)) := Below.setCell (Below.refl g w) (by simp) _
  have hr1 := (h.below hb1 (Nat.le_refl _)).more (Nat.le_of_lt hk1.lt)
  have k10 := hk1.c0
  have N0 := Lib.hid (nextW hr hn k0 0 0 (by omega) (-1) (by omega) a (by rw [nxA0, HA.out]; rfl))
  have N1 := Lib.hid (nextW hr hn k0 1 (a + 1) (by omega) a (by omega) q (nxA1 HQ.out (by rw [L.out]; omega)))
  have N2 := Lib.hid (nextW hr1 hn k10 0 (q + 1) (by omega) q (by omega) (optI og) (by rw [nxA0, HG.out]))
  rcases bool_cases (inR p 3 15) with hpr | hpr
  case inr =>
    have E := Lib.hid (show decP zs = ⟨6, 0, []⟩ from by rw [HD.out, hpr]; rfl)
    go_enter Try.func225, Try.ntmps225
    go_wp2_with fail
    refine N0.out.mono ?_
    rintro e w' ⟨rfl, rfl⟩
    go_wp2_with fail
    refine N1.out.mono ?_
    rintro e w' ⟨rfl, rfl⟩
    go_wp2_with fail
    refine (roundCells_any _ _ (by omega) (by omega)).mono ?_
    rw [HP0.out]
    rintro e w' ⟨rfl, rfl⟩
    go_wp2_with fail
    refine (isPreamble_any _ _).mono ?_
    rw [hpr]
    rintro e w' ⟨rfl, rfl⟩
    go_wp2
    go_ret
    rw [E.out]
    exact ⟨_, _, _, _, _, rfl, hk1, OwnI.nil _ _ _, hb1, fun e => by cases e⟩
  case inl =>
    rcases og with _ | y
    · have E := Lib.hid (show decP zs = ⟨6, 0, []⟩ from by rw [HD.out, hpr]; show decH zs p q = _; unfold decH; rw [HG.out])
      go_enter Try.func225, Try.ntmps225
      go_wp2_with fail
      refine N0.out.mono ?_
      rintro e w' ⟨rfl, rfl⟩
      go_wp2_with fail
      refine N1.out.mono ?_
      rintro e w' ⟨rfl, rfl⟩
      go_wp2_with fail
      refine (roundCells_any _ _ (by omega) (by omega)).mono ?_
      rw [HP0.out]
      rintro e w' ⟨rfl, rfl⟩
      go_wp2_with fail
      refine (isPreamble_any _ _).mono ?_
      rw [hpr]
      rintro e w' ⟨rfl, rfl⟩
      go_wp2_with fail
      refine N2.out.mono ?_
      (try dsimp only [optI])
      rintro e w' ⟨rfl, rfl⟩
      go_wp2
      go_ret
      rw [E.out]
      exact ⟨_, _, _, _, _, rfl, hk1, OwnI.nil _ _ _, hb1, fun e => by cases e⟩
    obtain ⟨hg1, hg2⟩ := hgn y rfl
    clear hgn
    have HB := Lib.hid (show decP zs = if bad5 q y then ⟨6, 0, []⟩ else decF zs p q y from by rw [HD.out, hpr]; show decH zs p q = _; unfold decH; rw [HG.out])
    have three : (19 < y - q ∨ y - q < 5 ∨ y - q = 12) ∨ ((¬ 19 < y - q ∧ ¬ y - q < 5 ∧ ¬ y - q = 12) ∧ y - q < 12) ∨ ((¬ 19 < y - q ∧ ¬ y - q < 5 ∧ ¬ y - q = 12) ∧ ¬ y - q < 12) := by omega
    rcases three with h5 | ⟨⟨h6, h7, h8⟩, h9⟩ | ⟨⟨h6, h7, h8⟩, h9⟩
    · have E := Lib.hid (show decP zs = ⟨6, 0, []⟩ from by
        rw [HB.out, show bad5 q y = true from by unfold bad5; simp only [Bool.or_eq_true, decide_eq_true_eq]; omega]; rfl)
      rcases h5 with h5 | h5 | h5
      case' inl => have hb12 : ((y : Int) - (q : Int) == 12) = false := by simp; omega
      case' inr.inl => have hb12 : ((y : Int) - (q : Int) == 12) = false := by simp; omega
      case' inr.inr => have hb12 : ((y : Int) - (q : Int) == 12) = true := by simp; omega
      all_goals
        go_enter Try.func225, Try.ntmps225
        go_wp2_with fail
        refine N0.out.mono ?_
        rintro e w' ⟨rfl, rfl⟩
        go_wp2_with fail
        refine N1.out.mono ?_
        rintro e w' ⟨rfl, rfl⟩
        go_wp2_with fail
        refine (roundCells_any _ _ (by omega) (by omega)).mono ?_
        rw [HP0.out]
        rintro e w' ⟨rfl, rfl⟩
        go_wp2_with fail
        refine (isPreamble_any _ _).mono ?_
        rw [hpr]
        rintro e w' ⟨rfl, rfl⟩
        go_wp2_with fail
        refine N2.out.mono ?_
        (try dsimp only [optI])
        rintro e w' ⟨rfl, rfl⟩
        go_wp2
        go_ret
        rw [E.out]
        exact ⟨_, _, _, _, _, rfl, hk1, OwnI.nil _ _ _, hb1, fun e => by cases e⟩
    · have hb12 : ((y : Int) - (q : Int) == 12) = false := by simp; omega
      have E := Lib.hid (show decP zs = ⟨tailC zs y, p, []⟩ from by
        rw [HB.out, show bad5 q y = false from by unfold bad5; simp [h6, h7, h8]]; show decF zs p q y = _; unfold decF; rw [if_pos h9])
      obtain ⟨o, ho⟩ : ∃ o, nxt zs 0 (y + 12) = o := ⟨_, rfl⟩
      have N3 := Lib.hid (nextW hr1 hn k10 0 (y + 12) (by omega) (y + 11) (by omega) (optI o) (by rw [nxA0, ho]))
      have HT := Lib.hid (show tailC zs y = if o.isSome then 6 else 0 from by unfold tailC; rw [ho])
      clear ho
      rcases o with _ | j
      all_goals
        go_enter Try.func225, Try.ntmps225
        go_wp2_with fail
        refine N0.out.mono ?_
        rintro e w' ⟨rfl, rfl⟩
        go_wp2_with fail
        refine N1.out.mono ?_
        rintro e w' ⟨rfl, rfl⟩
        go_wp2_with fail
        refine (roundCells_any _ _ (by omega) (by omega)).mono ?_
        rw [HP0.out]
        rintro e w' ⟨rfl, rfl⟩
        go_wp2_with fail
        refine (isPreamble_any _ _).mono ?_
        rw [hpr]
        rintro e w' ⟨rfl, rfl⟩
        go_wp2_with fail
        refine N2.out.mono ?_
        (try dsimp only [optI])
        rintro e w' ⟨rfl, rfl⟩
        go_wp2_with fail
        refine N3.out.mono ?_
        dsimp only [optI]
        rintro e w' ⟨rfl, rfl⟩
        go_wp2
        go_ret
        rw [E.out]
        exact ⟨_, _, _, _, _, ret_int HT.out.symm, hk1, OwnI.nil _ _ _, hb1, fun e => ⟨rfl, rfl⟩⟩
    · have hb12 : ((y : Int) - (q : Int) == 12) = false := by simp; omega
      obtain ⟨o, ho⟩ : ∃ o, edg zs y = o := ⟨_, rfl⟩
      have hbf := bytesFrom_any A n c g zs y p _ hk1 (h.below hb1 (Nat.le_refl _)) hn hg2
      rw [ho] at hbf
      have HBF := Lib.hid hbf
      clear hbf
      have E0 := Lib.hid (show decP zs = decF zs p q y from by rw [HB.out, show bad5 q y = false from by unfold bad5; simp [h6, h7, h8]]; rfl)
      rcases o with _ | r
      · have E := Lib.hid (show decP zs = ⟨6, p, []⟩ from by rw [E0.out]; unfold decF; rw [if_neg h9, ho])
        clear ho
        go_enter Try.func225, Try.ntmps225
        go_wp2_with fail
        refine N0.out.mono ?_
        rintro e w' ⟨rfl, rfl⟩
        go_wp2_with fail
        refine N1.out.mono ?_
        rintro e w' ⟨rfl, rfl⟩
        go_wp2_with fail
        refine (roundCells_any _ _ (by omega) (by omega)).mono ?_
        rw [HP0.out]
        rintro e w' ⟨rfl, rfl⟩
        go_wp2_with fail
        refine (isPreamble_any _ _).mono ?_
        rw [hpr]
        rintro e w' ⟨rfl, rfl⟩
        go_wp2_with fail
        refine N2.out.mono ?_
        (try dsimp only [optI])
        rintro e w' ⟨rfl, rfl⟩
        go_wp2_with fail
        refine HBF.out.mono ?_
        rintro e w2 ⟨A2, m2, c2, es, hblk2, hown2, hb2, hres⟩
        obtain rfl := hres
        go_wp2
        go_ret
        rw [E.out]
        exact ⟨_, _, _, _, _, rfl, hblk2, hown2, hb1.trans hb2, fun e => by cases e⟩
      · have E := Lib.hid (show decP zs = ⟨tailC zs r.2, p, r.1⟩ from by rw [E0.out]; unfold decF; rw [if_neg h9, ho])
        have hr72 := edg_le _ y r (Nat.le_refl _) (by rw [L.out]; exact hg2) ho
        rw [L.out] at hr72
        clear ho
        obtain ⟨rl, rt⟩ := r
        simp only at hr72
        obtain ⟨o, ho⟩ : ∃ o, nxt zs 0 (rt + 12) = o := ⟨_, rfl⟩
        have HT := Lib.hid (show tailC zs rt = if o.isSome then 6 else 0 from by unfold tailC; rw [ho])
        have HO := Lib.hid ho
        clear ho
        rcases o with _ | j
        all_goals
          go_enter Try.func225, Try.ntmps225
          go_wp2_with fail
          refine N0.out.mono ?_
          rintro e w' ⟨rfl, rfl⟩
          go_wp2_with fail
          refine N1.out.mono ?_
          rintro e w' ⟨rfl, rfl⟩
          go_wp2_with fail
          refine (roundCells_any _ _ (by omega) (by omega)).mono ?_
          rw [HP0.out]
          rintro e w' ⟨rfl, rfl⟩
          go_wp2_with fail
          refine (isPreamble_any _ _).mono ?_
          rw [hpr]
          rintro e w' ⟨rfl, rfl⟩
          go_wp2_with fail
          refine N2.out.mono ?_
          (try dsimp only [optI])
          rintro e w' ⟨rfl, rfl⟩
          go_wp2_with fail
          refine HBF.out.mono ?_
          rintro e w2 ⟨A2, m2, c2, es, hblk2, hown2, hb2, hres⟩
          obtain ⟨rfl, rfl⟩ := hres
          have hr2 := (h.below (hb1.trans hb2) (Nat.le_refl _)).more (Nat.le_of_lt hblk2.lt)
          go_wp2_with fail
          refine (nextW hr2 hn hblk2.c0 0 (rt + 12) (by omega) _ (by omega) _ (by rw [nxA0, HO.out])).mono ?_
          dsimp only [optI]
          rintro e w' ⟨rfl, rfl⟩
          go_wp2
          go_ret
          rw [E.out]
          exact ⟨_, _, _, _, _, ret_int HT.out.symm, hblk2, hown2, hb1.trans hb2, fun e => ⟨rfl, rfl⟩⟩

/-- what decodeVoted hands back -/
def Dv (w : World) (A : Option Addr) (n c : Nat) (d : Dec) (e : Ending) (w' : World) : Prop :=
  ∃ pv, e = .returned (.tuple #[pv, .int .i64 d.code]) ∧ Below w.heap.size w w' ∧
    (d.code = 0 → ∃ (A' : Option Addr) (m c' : Nat), pv = .pointer (some ⟨w.heap.size, 0, none⟩) ∧ Blk3 w' w.heap.size 134 (.slice A n c) (.int .i64 d.pre) (.slice A' m c') ∧ OwnI 2 w' (w.heap.size + 1) A' m c' d.edges)

set_option maxHeartbeats 2000000 in
theorem decodeVoted_any (A : Option Addr) (n c : Nat) (zs : List Int) (w : World) (h : RI w w.heap.size A n zs) (hn : n ≤ 1048576) :
    Calls Try.prog 157 #[.slice A n c] w (Dv w A n c (decZ zs)) := by
  have hn' : n ≤ 1099511627776 := by omega
  rcases bool_cases (isBits zs) with hz | hz
  case inr =>
    have E := Lib.hid (show decZ zs = ⟨1, 0, []⟩ from by unfold decZ; rw [hz]; rfl)
    go_enter Try.func157, Try.ntmps157
    go_wp2_with (go_at_call 155; refine (iIsBits_any _ _ _ _ _ h hn').mono ?_; rintro e w' ⟨rfl, rfl⟩)
    go_ret2
    rw [E.out]
    exact ⟨_, rfl, Below.refl _ _, fun e => by cases e⟩
  case inl =>
    obtain ⟨d, hd⟩ : ∃ d, decP zs = d := ⟨_, rfl⟩
    have E := Lib.hid (show decZ zs = d from by unfold decZ; rw [hz]; exact hd)
    have hk := Blk3.new w 134 (.slice A n c) (.int .i64 0) (.slice none 0 0)
    have hb0 : Below w.heap.size w (w.alloc (.cells #[.slice A n c, .int .i64 0, .slice none 0 0] 134)) := (Below.refl _ _).alloc (Nat.le_refl _) _
    have hdc := decode_any A n c w.heap.size zs _ hk (h.below hb0 (Nat.le_refl _)) hn
    rw [hd] at hdc
    have HDC := Lib.hid hdc
    clear hdc hd
    obtain ⟨dc, dp, de⟩ := d
    rcases ne_cases dc with rfl | ⟨h1, h2, h3⟩
    all_goals
      go_enter Try.func157, Try.ntmps157
      go_wp2_with (go_at_call 155; refine (iIsBits_any _ _ _ _ _ h hn').mono ?_; rintro e w' ⟨rfl, rfl⟩)
      refine HDC.out.mono ?_
      rintro e w1 ⟨A', m, c', q, es, rfl, hblk, hown, hb, hres⟩
      dsimp only
      go_wp2
      go_ret2
      rw [E.out]
    · obtain ⟨rfl, rfl⟩ := hres trivial
      exact ⟨_, rfl, hb0.trans hb, fun _ => ⟨A', m, c', rfl, hblk, hown⟩⟩
    · exact ⟨_, rfl, hb0.trans hb, fun e => absurd e h1⟩
end Go.Proofs.Ytlfbmedgkkfalaa
