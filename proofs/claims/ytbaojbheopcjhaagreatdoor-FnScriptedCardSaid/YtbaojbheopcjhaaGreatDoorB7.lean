/- Walks, laws and small notions for the claims of this seat, several texts as one (Sd, Sc, St). Conditions: as each theorem states them. -/
import Derived.Test.YtbaojbheopcjhaaGreatDoorB5
import Derived.Test.YtbaojbheopcjhaaGreatDoorB6
import Derived.Deep.DeepCutAuto
namespace Go.Proofs.YtbaojbheopcjhaaGreatDoor
open Go.RowKit

theorem frSize_bd {k n : Int} (h : frSize k n = true) : 0 ≤ n ∧ n ≤ 32 := by
  unfold frSize at h
  split at h
  · exact inR_iff.1 h
  · split at h
    · have := inR_iff.1 h; omega
    · have := of_decide_eq_true h; omega
theorem cellsN_bd {k n : Int} (h : 0 ≤ n ∧ n ≤ 32) : 41 ≤ cellsN k n ∧ cellsN k n ≤ 461 := by
  unfold cellsN bodyN
  split <;> split <;> omega
theorem kd4 {k : Int} (h : inR k 0 3 = true) : k = 0 ∨ k = 1 ∨ k = 2 ∨ k = 3 := by have := inR_iff.1 h; omega
theorem in_yes_s {n lo hi : Int} {b : Bool} (h : inR n lo hi = b) (w : World) : Calls Tryz.prog 39 #[.int .i64 n, .int .i64 lo, .int .i64 hi] w fun e w' => e = .returned (.bool b) ∧ w = w' := by
  have := l01In_any n lo hi w; rw [h] at this; exact this
theorem in_yes_i {n lo hi : Int} {b : Bool} (h : inR n lo hi = b) (w : World) : Calls Tryz.prog 32 #[.int .i64 n, .int .i64 lo, .int .i64 hi] w fun e w' => e = .returned (.bool b) ∧ w = w' := by
  have := within_any n lo hi w; rw [h] at this; exact this

set_option maxHeartbeats 2000000 in
theorem sBody_any (k n : Int) (hk : inR k 0 3 = true) (hn : 0 ≤ n ∧ n ≤ 32) (w : World) :
    Calls Tryz.prog 209 #[.int .i64 k, .int .i64 n] w fun e w' => e = .returned (.int .i64 (bodyN k n)) ∧ w = w' := by
  obtain ⟨hn1, hn2⟩ := hn
  rcases kd4 hk with rfl | rfl | rfl | rfl
  all_goals
    go_enter Tryz.func209, Tryz.ntmps209
    go_wp2
    go_ret
    exact ⟨by unfold bodyN; simp <;> go_num, rfl⟩
set_option maxHeartbeats 2000000 in
theorem sCells_any (k n : Int) (hk : inR k 0 3 = true) (hn : 0 ≤ n ∧ n ≤ 32) (w : World) :
    Calls Tryz.prog 170 #[.int .i64 k, .int .i64 n] w fun e w' => e = .returned (.int .i64 (cellsN k n)) ∧ w = w' := by
  have hb : 1 ≤ bodyN k n ∧ bodyN k n ≤ 42 := by unfold bodyN; split <;> split <;> omega
  have E := Lib.hid (show cellsN k n = 11 + 10 * (bodyN k n + 3) from rfl)
  have hc := sBody_any k n hk hn w
  clear hn hk
  generalize bodyN k n = B at E hc hb
  obtain ⟨hb1, hb2⟩ := hb
  go_enter Tryz.func170, Tryz.ntmps170
  go_wp2_with fail
  refine hc.mono ?_
  rintro e w' ⟨rfl, rfl⟩
  go_wp2
  go_ret
  exact ⟨by rw [E.out]; rfl, rfl⟩

set_option maxHeartbeats 4000000 in
theorem sIsDs_any (nd kd sz du : Int) (ch : Bool) (w : World) :
    Calls Tryz.prog 119 #[.agg #[.int .i64 nd, .int .i64 kd, .int .i64 sz, .int .i64 du, .bool ch]] w (RetV w (.bool (isDs nd kd sz du ch))) := by
  have E := Lib.hid (show isDs nd kd sz du ch = (inR nd 0 31 && (inR kd 0 3 && (frSize kd sz && (!(ch && decide (kd = 3)) && inR du (cellsN kd sz + 20) 1000)))) from rfl)
  rcases (show inR nd 0 31 = false ∨ (inR nd 0 31 = true ∧ inR kd 0 3 = false) ∨ (inR nd 0 31 = true ∧ inR kd 0 3 = true ∧ frSize kd sz = false) ∨ (inR nd 0 31 = true ∧ inR kd 0 3 = true ∧ frSize kd sz = true) by
    cases inR nd 0 31 <;> cases inR kd 0 3 <;> cases frSize kd sz <;> simp) with b1 | ⟨b1, b2⟩ | ⟨b1, b2, b3⟩ | ⟨b1, b2, b3⟩
  · go_enter Tryz.func119, Tryz.ntmps119
    go_wp2_with (first | (go_at_call 167; refine (l05Node_any _ _).mono ?_; rw [b1]; rintro e w' ⟨rfl, rfl⟩) | (go_at_call 168; refine (l06Kind_any _ _).mono ?_; rw [b2]; rintro e w' ⟨rfl, rfl⟩) | (go_at_call 169; refine (l06Size_any _ _ _).mono ?_; rw [b3]; rintro e w' ⟨rfl, rfl⟩) | fail)
    go_ret
    exact ⟨ret_bool (by rw [E.out, b1]; rfl), by go_grown⟩
  · go_enter Tryz.func119, Tryz.ntmps119
    go_wp2_with (first | (go_at_call 167; refine (l05Node_any _ _).mono ?_; rw [b1]; rintro e w' ⟨rfl, rfl⟩) | (go_at_call 168; refine (l06Kind_any _ _).mono ?_; rw [b2]; rintro e w' ⟨rfl, rfl⟩) | (go_at_call 169; refine (l06Size_any _ _ _).mono ?_; rw [b3]; rintro e w' ⟨rfl, rfl⟩) | fail)
    go_ret
    exact ⟨ret_bool (by rw [E.out, b1, b2]; rfl), by go_grown⟩
  · go_enter Tryz.func119, Tryz.ntmps119
    go_wp2_with (first | (go_at_call 167; refine (l05Node_any _ _).mono ?_; rw [b1]; rintro e w' ⟨rfl, rfl⟩) | (go_at_call 168; refine (l06Kind_any _ _).mono ?_; rw [b2]; rintro e w' ⟨rfl, rfl⟩) | (go_at_call 169; refine (l06Size_any _ _ _).mono ?_; rw [b3]; rintro e w' ⟨rfl, rfl⟩) | fail)
    go_ret
    exact ⟨ret_bool (by rw [E.out, b1, b2, b3]; rfl), by go_grown⟩
  · have hcl := fun w => sCells_any kd sz b2 (frSize_bd b3) w
    obtain ⟨C1, C2⟩ := cellsN_bd (k := kd) (frSize_bd b3)
    generalize cellsN kd sz = C at E hcl C1 C2
    cases ch
    all_goals
      rcases num_cases kd 3 with ⟨h3, h3'⟩ | ⟨h3, h3'⟩
      all_goals
        have H3 := Lib.hid h3'
        clear h3'
        rcases bool_cases (inR du (C + 20) 1000) with hr | hr
        all_goals
          go_enter Tryz.func119, Tryz.ntmps119
          go_wp2_with (first | (go_at_call 167; refine (l05Node_any _ _).mono ?_; rw [b1]; rintro e w' ⟨rfl, rfl⟩) | (go_at_call 168; refine (l06Kind_any _ _).mono ?_; rw [b2]; rintro e w' ⟨rfl, rfl⟩) | (go_at_call 169; refine (l06Size_any _ _ _).mono ?_; rw [b3]; rintro e w' ⟨rfl, rfl⟩) | fail)
          first
          | (go_ret; exact ⟨ret_bool (by rw [E.out, b1, b2, b3]; simp [H3.out]), by go_grown⟩)
          | (go_quiet (first | (go_at_call 170; exact quiet_same (hcl _)) | (go_at_call 39; exact quiet_same (in_yes_s hr _)))
             go_wp2
             go_ret
             exact ⟨ret_bool (by rw [E.out, b1, b2, b3]; simp [H3.out, hr]), (by exact below_drewN (by go_grown) _)⟩)

set_option maxHeartbeats 4000000 in
theorem sIsSl_any (md rn st nd kd sz du : Int) (ch : Bool) (w : World) :
    Calls Tryz.prog 207 #[.agg #[.int .i64 md, .int .i64 rn, .int .i64 st, .int .i64 nd, .int .i64 kd, .int .i64 sz, .int .i64 du, .bool ch]] w (RetV w (.bool (isSl ⟨md, rn, st, nd, kd, sz, du, ch⟩))) := by
  have E := Lib.hid (show isSl ⟨md, rn, st, nd, kd, sz, du, ch⟩ = (inR md 0 15 && (inR rn 0 7 && (inR st 0 15 && isDs nd kd sz du ch))) from rfl)
  rcases bool_cases (inR md 0 15) with b1 | b1 <;> rcases bool_cases (inR rn 0 7) with b2 | b2 <;> rcases bool_cases (inR st 0 15) with b3 | b3 <;> rcases bool_cases (isDs nd kd sz du ch) with b4 | b4
  all_goals
    go_enter Tryz.func207, Tryz.ntmps207
    go_wp2_with (first | (go_at_call 39; refine (l01In_any _ _ _ _).mono ?_; (first | rw [b1] | rw [b2] | rw [b3]); rintro e w' ⟨rfl, rfl⟩) | fail)
    first
    | (go_ret; exact ⟨ret_bool (by rw [E.out, b1, b2, b3]; rfl), by go_grown⟩)
    | (refine (sIsDs_any nd kd sz du ch _).mono ?_
       rw [b4]
       rintro e w1 ⟨rfl, hb1⟩
       go_wp2
       go_ret
       exact ⟨ret_bool (by rw [E.out, b1, b2, b3, b4]; rfl), below_next hb1 (by go_grown) (Nat.le_refl _)⟩)
theorem sSl_is {x : Sl} {b : Bool} (h : isSl x = b) (w : World) :
    Calls Tryz.prog 207 #[.agg #[.int .i64 x.md, .int .i64 x.rn, .int .i64 x.st, .int .i64 x.nd, .int .i64 x.kd, .int .i64 x.sz, .int .i64 x.du, .bool x.ch]] w (RetV w (.bool b)) := by
  have := sIsSl_any x.md x.rn x.st x.nd x.kd x.sz x.du x.ch w
  rw [show isSl ⟨x.md, x.rn, x.st, x.nd, x.kd, x.sz, x.du, x.ch⟩ = b from h] at this
  exact this

set_option maxHeartbeats 2000000 in
theorem iBody_any (k n : Int) (hk : inR k 0 3 = true) (hn : 0 ≤ n ∧ n ≤ 32) (w : World) :
    Calls Tryz.prog 203 #[.int .i64 k, .int .i64 n] w fun e w' => e = .returned (.int .i64 (bodyN k n)) ∧ w = w' := by
  obtain ⟨hn1, hn2⟩ := hn
  rcases kd4 hk with rfl | rfl | rfl | rfl
  all_goals
    go_enter Tryz.func203, Tryz.ntmps203
    go_wp2
    go_ret
    exact ⟨by unfold bodyN; simp <;> go_num, rfl⟩
set_option maxHeartbeats 2000000 in
theorem iCells_any (k n : Int) (hk : inR k 0 3 = true) (hn : 0 ≤ n ∧ n ≤ 32) (w : World) :
    Calls Tryz.prog 157 #[.int .i64 k, .int .i64 n] w fun e w' => e = .returned (.int .i64 (cellsN k n)) ∧ w = w' := by
  have hb : 1 ≤ bodyN k n ∧ bodyN k n ≤ 42 := by unfold bodyN; split <;> split <;> omega
  have E := Lib.hid (show cellsN k n = 11 + 10 * (bodyN k n + 3) from rfl)
  have hc := iBody_any k n hk hn w
  clear hn hk
  generalize bodyN k n = B at E hc hb
  obtain ⟨hb1, hb2⟩ := hb
  go_enter Tryz.func157, Tryz.ntmps157
  go_wp2_with fail
  refine hc.mono ?_
  rintro e w' ⟨rfl, rfl⟩
  go_wp2
  go_ret
  exact ⟨by rw [E.out]; rfl, rfl⟩

set_option maxHeartbeats 4000000 in
theorem iIsDs_any (nd kd sz du : Int) (ch : Bool) (w : World) :
    Calls Tryz.prog 113 #[.agg #[.int .i64 nd, .int .i64 kd, .int .i64 sz, .int .i64 du, .bool ch]] w (RetV w (.bool (isDs nd kd sz du ch))) := by
  have E := Lib.hid (show isDs nd kd sz du ch = (inR nd 0 31 && (inR kd 0 3 && (frSize kd sz && (!(ch && decide (kd = 3)) && inR du (cellsN kd sz + 20) 1000)))) from rfl)
  rcases (show inR nd 0 31 = false ∨ (inR nd 0 31 = true ∧ inR kd 0 3 = false) ∨ (inR nd 0 31 = true ∧ inR kd 0 3 = true ∧ frSize kd sz = false) ∨ (inR nd 0 31 = true ∧ inR kd 0 3 = true ∧ frSize kd sz = true) by
    cases inR nd 0 31 <;> cases inR kd 0 3 <;> cases frSize kd sz <;> simp) with b1 | ⟨b1, b2⟩ | ⟨b1, b2, b3⟩ | ⟨b1, b2, b3⟩
  · go_enter Tryz.func113, Tryz.ntmps113
    go_wp2_with (first | (go_at_call 154; refine (isNode_any _ _).mono ?_; rw [b1]; rintro e w' ⟨rfl, rfl⟩) | (go_at_call 155; refine (isKind_any _ _).mono ?_; rw [b2]; rintro e w' ⟨rfl, rfl⟩) | (go_at_call 156; refine (isDataSize_any _ _ _).mono ?_; rw [b3]; rintro e w' ⟨rfl, rfl⟩) | fail)
    go_ret
    exact ⟨ret_bool (by rw [E.out, b1]; rfl), by go_grown⟩
  · go_enter Tryz.func113, Tryz.ntmps113
    go_wp2_with (first | (go_at_call 154; refine (isNode_any _ _).mono ?_; rw [b1]; rintro e w' ⟨rfl, rfl⟩) | (go_at_call 155; refine (isKind_any _ _).mono ?_; rw [b2]; rintro e w' ⟨rfl, rfl⟩) | (go_at_call 156; refine (isDataSize_any _ _ _).mono ?_; rw [b3]; rintro e w' ⟨rfl, rfl⟩) | fail)
    go_ret
    exact ⟨ret_bool (by rw [E.out, b1, b2]; rfl), by go_grown⟩
  · go_enter Tryz.func113, Tryz.ntmps113
    go_wp2_with (first | (go_at_call 154; refine (isNode_any _ _).mono ?_; rw [b1]; rintro e w' ⟨rfl, rfl⟩) | (go_at_call 155; refine (isKind_any _ _).mono ?_; rw [b2]; rintro e w' ⟨rfl, rfl⟩) | (go_at_call 156; refine (isDataSize_any _ _ _).mono ?_; rw [b3]; rintro e w' ⟨rfl, rfl⟩) | fail)
    go_ret
    exact ⟨ret_bool (by rw [E.out, b1, b2, b3]; rfl), by go_grown⟩
  · have hcl := fun w => iCells_any kd sz b2 (frSize_bd b3) w
    obtain ⟨C1, C2⟩ := cellsN_bd (k := kd) (frSize_bd b3)
    generalize cellsN kd sz = C at E hcl C1 C2
    cases ch
    all_goals
      rcases num_cases kd 3 with ⟨h3, h3'⟩ | ⟨h3, h3'⟩
      all_goals
        have H3 := Lib.hid h3'
        clear h3'
        rcases bool_cases (inR du (C + 20) 1000) with hr | hr
        all_goals
          go_enter Tryz.func113, Tryz.ntmps113
          go_wp2_with (first | (go_at_call 154; refine (isNode_any _ _).mono ?_; rw [b1]; rintro e w' ⟨rfl, rfl⟩) | (go_at_call 155; refine (isKind_any _ _).mono ?_; rw [b2]; rintro e w' ⟨rfl, rfl⟩) | (go_at_call 156; refine (isDataSize_any _ _ _).mono ?_; rw [b3]; rintro e w' ⟨rfl, rfl⟩) | fail)
          first
          | (go_ret; exact ⟨ret_bool (by rw [E.out, b1, b2, b3]; simp [H3.out]), by go_grown⟩)
          | (go_quiet (first | (go_at_call 157; exact quiet_same (hcl _)) | (go_at_call 32; exact quiet_same (in_yes_i hr _)))
             go_wp2
             go_ret
             exact ⟨ret_bool (by rw [E.out, b1, b2, b3]; simp [H3.out, hr]), (by exact below_drewN (by go_grown) _)⟩)

set_option maxHeartbeats 4000000 in
theorem iIsSl_any (md rn st nd kd sz du : Int) (ch : Bool) (w : World) :
    Calls Tryz.prog 199 #[.agg #[.int .i64 md, .int .i64 rn, .int .i64 st, .int .i64 nd, .int .i64 kd, .int .i64 sz, .int .i64 du, .bool ch]] w (RetV w (.bool (isSl ⟨md, rn, st, nd, kd, sz, du, ch⟩))) := by
  have E := Lib.hid (show isSl ⟨md, rn, st, nd, kd, sz, du, ch⟩ = (inR md 0 15 && (inR rn 0 7 && (inR st 0 15 && isDs nd kd sz du ch))) from rfl)
  rcases bool_cases (inR md 0 15) with b1 | b1 <;> rcases bool_cases (inR rn 0 7) with b2 | b2 <;> rcases bool_cases (inR st 0 15) with b3 | b3 <;> rcases bool_cases (isDs nd kd sz du ch) with b4 | b4
  all_goals
    go_enter Tryz.func199, Tryz.ntmps199
    go_wp2_with (first | (go_at_call 32; refine (within_any _ _ _ _).mono ?_; (first | rw [b1] | rw [b2] | rw [b3]); rintro e w' ⟨rfl, rfl⟩) | fail)
    first
    | (go_ret; exact ⟨ret_bool (by rw [E.out, b1, b2, b3]; rfl), by go_grown⟩)
    | (refine (iIsDs_any nd kd sz du ch _).mono ?_
       rw [b4]
       rintro e w1 ⟨rfl, hb1⟩
       go_wp2
       go_ret
       exact ⟨ret_bool (by rw [E.out, b1, b2, b3, b4]; rfl), below_next hb1 (by go_grown) (Nat.le_refl _)⟩)
theorem iSl_is {x : Sl} {b : Bool} (h : isSl x = b) (w : World) :
    Calls Tryz.prog 199 #[.agg #[.int .i64 x.md, .int .i64 x.rn, .int .i64 x.st, .int .i64 x.nd, .int .i64 x.kd, .int .i64 x.sz, .int .i64 x.du, .bool x.ch]] w (RetV w (.bool b)) := by
  have := iIsSl_any x.md x.rn x.st x.nd x.kd x.sz x.du x.ch w
  rw [show isSl ⟨x.md, x.rn, x.st, x.nd, x.kd, x.sz, x.du, x.ch⟩ = b from h] at this
  exact this
end Go.Proofs.YtbaojbheopcjhaaGreatDoor

namespace Go.Proofs.YtbaojbheopcjhaaGreatDoor
open Go.RowKit

set_option maxHeartbeats 2000000 in
theorem compare_any (a b : Int) (w : World) : Calls Tryz.prog 224 #[.int .i64 a, .int .i64 b] w fun e w' => e = .returned (.int .i64 (cmpI a b)) ∧ w = w' := by
  have E := Lib.hid (show cmpI a b = if a < b then -1 else if b < a then 1 else 0 from rfl)
  by_cases h1 : a < b
  · go_enter Tryz.func224, Tryz.ntmps224
    go_wp2
    go_ret
    exact ⟨by rw [E.out, if_pos h1]; rfl, rfl⟩
  · by_cases h2 : b < a
    all_goals
      have H := Lib.hid h2
      go_enter Tryz.func224, Tryz.ntmps224
      go_wp2
      go_ret
      exact ⟨by rw [E.out, if_neg (by omega)]; first | (rw [if_pos (by omega)]; rfl) | (rw [if_neg (by omega)]; rfl), rfl⟩

set_option maxHeartbeats 2000000 in
theorem iCmp_any (x y : Sl) (w : World) :
    Calls Tryz.prog 200 #[.agg #[.int .i64 x.md, .int .i64 x.rn, .int .i64 x.st, .int .i64 x.nd, .int .i64 x.kd, .int .i64 x.sz, .int .i64 x.du, .bool x.ch], .agg #[.int .i64 y.md, .int .i64 y.rn, .int .i64 y.st, .int .i64 y.nd, .int .i64 y.kd, .int .i64 y.sz, .int .i64 y.du, .bool y.ch]] w (RetV w (.int .i64 (cmpS x y))) := by
  have E := Lib.hid (show cmpS x y = if x.md = y.md then (if x.rn = y.rn then cmpI x.st y.st else cmpI x.rn y.rn) else cmpI x.md y.md from rfl)
  rcases num_cases x.md y.md with ⟨h1, h1'⟩ | ⟨h1, h1'⟩
  · rcases num_cases x.rn y.rn with ⟨h2, h2'⟩ | ⟨h2, h2'⟩
    all_goals
      have H1 := Lib.hid h1'
      have H2 := Lib.hid h2'
      have g1 : (x.md != y.md) = false := by simp [h1']
      clear h1' h2'
    · have g2 : (x.rn != y.rn) = false := by simp [H2.out]
      go_enter Tryz.func200, Tryz.ntmps200
      go_wp2_with (go_at_call 224; refine (compare_any _ _ _).mono ?_; rintro e w' ⟨rfl, rfl⟩)
      go_ret
      exact ⟨by rw [E.out, if_pos H1.out, if_pos H2.out]; rfl, by go_grown⟩
    · have g2 : (x.rn != y.rn) = true := by simp [H2.out]
      go_enter Tryz.func200, Tryz.ntmps200
      go_wp2_with (go_at_call 224; refine (compare_any _ _ _).mono ?_; rintro e w' ⟨rfl, rfl⟩)
      go_ret
      exact ⟨by rw [E.out, if_pos H1.out, if_neg H2.out]; rfl, by go_grown⟩
  · have H1 := Lib.hid h1'
    have g1 : (x.md != y.md) = true := by simp [h1']
    clear h1'
    go_enter Tryz.func200, Tryz.ntmps200
    go_wp2_with (go_at_call 224; refine (compare_any _ _ _).mono ?_; rintro e w' ⟨rfl, rfl⟩)
    go_ret
    exact ⟨by rw [E.out, if_neg H1.out]; rfl, by go_grown⟩

theorem ri3 {w : World} {g : Nat} {T : TypeId} {a b c : Int} (h : BlkL w g T [.int .i64 a, .int .i64 b, .int .i64 c]) : RI w w.heap.size (some ⟨g, 0, none⟩) 3 [a, b, c] := by
  refine ⟨rfl, fun _ => ⟨g, 0, rfl, h.lt, fun i hi => ?_⟩⟩
  obtain rfl | rfl | rfl : i = 0 ∨ i = 1 ∨ i = 2 := by omega
  · exact h.c 0 rfl
  · exact h.c 1 rfl
  · exact h.c 2 rfl
set_option maxHeartbeats 4000000 in
theorem sCmp_any (x y : Sl) (w : World) :
    Calls Tryz.prog 208 #[.agg #[.int .i64 x.md, .int .i64 x.rn, .int .i64 x.st, .int .i64 x.nd, .int .i64 x.kd, .int .i64 x.sz, .int .i64 x.du, .bool x.ch], .agg #[.int .i64 y.md, .int .i64 y.rn, .int .i64 y.st, .int .i64 y.nd, .int .i64 y.kd, .int .i64 y.sz, .int .i64 y.du, .bool y.ch]] w (RetV w (.int .i64 (cmpS x y))) := by
  have E := Lib.hid (show cmpS x y = if x.md = y.md then (if x.rn = y.rn then cmpI x.st y.st else cmpI x.rn y.rn) else cmpI x.md y.md from rfl)
  go_enter Tryz.func208, Tryz.ntmps208
  go_upto_region 1 with fail
  go_cut [5, 6] (fun va vb wc => ∃ A1 c1 A2 c2, va = .slice A1 3 c1 ∧ vb = .slice A2 3 c2 ∧ RI wc wc.heap.size A1 3 [x.md, x.rn, x.st] ∧ RI wc wc.heap.size A2 3 [y.md, y.rn, y.st] ∧ Below w.heap.size w wc)
  case first =>
    go_region
    all_goals
      go_wp2_with fail
      go_meet
      exact ⟨_, _, _, _, rfl, rfl, ri3 (by first | exact (BlkL.new _ _ _ (by simp)).drew | exact ((BlkL.new _ _ _ (by simp)).alloc _).drew), ri3 (by first | exact (BlkL.new _ _ _ (by simp)).drew | exact ((BlkL.new _ _ _ (by simp)).alloc _).drew), by go_grown⟩
  case rest =>
    obtain ⟨A1, c1, A2, c2, rfl, rfl, r1, r2, hbc⟩ := hcut
    go_wp2_with fail
    go_loopw [7] (fun i wr => ∃ k : Nat, k ≤ 3 ∧ i = .int .i64 k ∧ (∀ j, j < k → gi [x.md, x.rn, x.st] j = gi [y.md, y.rn, y.st] j) ∧ Below wc.heap.size wc wr) (fun i _ => 3 - (intOf i).toNat)
    case atStart => exact ⟨0, by omega, rfl, fun j hj => absurd hj (by omega), Below.refl _ _⟩
    case round =>
      obtain ⟨k, hk, rfl, heq, hb⟩ := hrel
      have HE := Lib.hid heq
      clear heq
      have hbw := below_next hb hbc (Nat.le_refl _)
      obtain ⟨b1, o1, rfl, _, hx⟩ := (r1.up hb).get (by omega)
      obtain ⟨b2, o2, rfl, _, hy⟩ := (r2.up hb).get (by omega)
      rcases (show k = 0 ∨ k = 1 ∨ k = 2 ∨ k = 3 by omega) with rfl | rfl | rfl | rfl
      case inr.inr.inr =>
        have h0 : x.md = y.md := HE.out 0 (by omega)
        have h1 : x.rn = y.rn := HE.out 1 (by omega)
        have h2 : x.st = y.st := HE.out 2 (by omega)
        have HZ := Lib.hid (show cmpS x y = 0 by rw [E.out, if_pos h0, if_pos h1, h2]; unfold cmpI; simp)
        clear h0 h1 h2
        go_wp2
        go_ret
        exact ⟨by rw [HZ.out]; rfl, hbw⟩
      case inl =>
        have e1 : wr.cell? ⟨b1, o1, none⟩ = some (.int .i64 x.md) := hx 0 (by omega)
        have e2 : wr.cell? ⟨b2, o2, none⟩ = some (.int .i64 y.md) := hy 0 (by omega)
        clear hx hy
        by_cases l1 : x.md < y.md
        · have HZ := Lib.hid (show cmpS x y = -1 by rw [E.out, if_neg (by omega)]; unfold cmpI; rw [if_pos l1])
          clear HE
          go_wp2_with fail
          go_quiet (fail)
          go_wp2
          go_ret
          exact ⟨by rw [HZ.out]; rfl, by first | exact below_drewN (below_drewN hbw _) _ | exact below_drewN hbw _⟩
        by_cases l2 : y.md < x.md
        · have HZ := Lib.hid (show cmpS x y = 1 by rw [E.out, if_neg (by omega)]; unfold cmpI; rw [if_neg l1, if_pos l2])
          clear HE
          go_wp2_with fail
          go_quiet (fail)
          go_wp2_with fail
          go_quiet (fail)
          go_wp2
          go_ret
          exact ⟨by rw [HZ.out]; rfl, by first | exact below_drewN (below_drewN hbw _) _ | exact below_drewN hbw _⟩
        · have HQ := Lib.hid (show x.md = y.md by omega)
          go_wp2_with fail
          go_quiet (fail)
          go_wp2_with fail
          go_quiet (fail)
          go_wp2
          go_roundw
          case rel => exact ⟨1, by omega, by go_num, fun j hj => by
            rcases (show j < 0 ∨ j = 0 by omega) with hj | rfl
            · exact HE.out j hj
            · exact HQ.out, below_drewN hb _⟩
          case measure => simp [intOf]
      case inr.inl =>
        have e1 : wr.cell? ⟨b1, o1 + 1, none⟩ = some (.int .i64 x.rn) := hx 1 (by omega)
        have e2 : wr.cell? ⟨b2, o2 + 1, none⟩ = some (.int .i64 y.rn) := hy 1 (by omega)
        clear hx hy
        have h0 : x.md = y.md := HE.out 0 (by omega)
        by_cases l1 : x.rn < y.rn
        · have HZ := Lib.hid (show cmpS x y = -1 by rw [E.out, if_pos h0, if_neg (by omega)]; unfold cmpI; rw [if_pos l1])
          clear HE h0
          go_wp2_with fail
          go_quiet (fail)
          go_wp2
          go_ret
          exact ⟨by rw [HZ.out]; rfl, by first | exact below_drewN (below_drewN hbw _) _ | exact below_drewN hbw _⟩
        by_cases l2 : y.rn < x.rn
        · have HZ := Lib.hid (show cmpS x y = 1 by rw [E.out, if_pos h0, if_neg (by omega)]; unfold cmpI; rw [if_neg l1, if_pos l2])
          clear HE h0
          go_wp2_with fail
          go_quiet (fail)
          go_wp2_with fail
          go_quiet (fail)
          go_wp2
          go_ret
          exact ⟨by rw [HZ.out]; rfl, by first | exact below_drewN (below_drewN hbw _) _ | exact below_drewN hbw _⟩
        · have HQ := Lib.hid (show x.rn = y.rn by omega)
          clear h0
          go_wp2_with fail
          go_quiet (fail)
          go_wp2_with fail
          go_quiet (fail)
          go_wp2
          go_roundw
          case rel => exact ⟨2, by omega, by go_num, fun j hj => by
            rcases (show j < 1 ∨ j = 1 by omega) with hj | rfl
            · exact HE.out j hj
            · exact HQ.out, below_drewN hb _⟩
          case measure => simp [intOf]
      case inr.inr.inl =>
        have e1 : wr.cell? ⟨b1, o1 + 2, none⟩ = some (.int .i64 x.st) := hx 2 (by omega)
        have e2 : wr.cell? ⟨b2, o2 + 2, none⟩ = some (.int .i64 y.st) := hy 2 (by omega)
        clear hx hy
        have h0 : x.md = y.md := HE.out 0 (by omega)
        have h1 : x.rn = y.rn := HE.out 1 (by omega)
        by_cases l1 : x.st < y.st
        · have HZ := Lib.hid (show cmpS x y = -1 by rw [E.out, if_pos h0, if_pos h1]; unfold cmpI; rw [if_pos l1])
          clear HE h0 h1
          go_wp2_with fail
          go_quiet (fail)
          go_wp2
          go_ret
          exact ⟨by rw [HZ.out]; rfl, by first | exact below_drewN (below_drewN hbw _) _ | exact below_drewN hbw _⟩
        by_cases l2 : y.st < x.st
        · have HZ := Lib.hid (show cmpS x y = 1 by rw [E.out, if_pos h0, if_pos h1]; unfold cmpI; rw [if_neg l1, if_pos l2])
          clear HE h0 h1
          go_wp2_with fail
          go_quiet (fail)
          go_wp2_with fail
          go_quiet (fail)
          go_wp2
          go_ret
          exact ⟨by rw [HZ.out]; rfl, by first | exact below_drewN (below_drewN hbw _) _ | exact below_drewN hbw _⟩
        · have HQ := Lib.hid (show x.st = y.st by omega)
          clear h0 h1
          go_wp2_with fail
          go_quiet (fail)
          go_wp2_with fail
          go_quiet (fail)
          go_wp2
          go_roundw
          case rel => exact ⟨3, by omega, by go_num, fun j hj => by
            rcases (show j < 2 ∨ j = 2 by omega) with hj | rfl
            · exact HE.out j hj
            · exact HQ.out, below_drewN hb _⟩
          case measure => simp [intOf]
end Go.Proofs.YtbaojbheopcjhaaGreatDoor

namespace Go.Proofs.YtbaojbheopcjhaaGreatDoor
open Go.RowKit
theorem sCmp_is {x y : Sl} {C : Int} (h : cmpS x y = C) (w : World) :
    Calls Tryz.prog 208 #[.agg #[.int .i64 x.md, .int .i64 x.rn, .int .i64 x.st, .int .i64 x.nd, .int .i64 x.kd, .int .i64 x.sz, .int .i64 x.du, .bool x.ch], .agg #[.int .i64 y.md, .int .i64 y.rn, .int .i64 y.st, .int .i64 y.nd, .int .i64 y.kd, .int .i64 y.sz, .int .i64 y.du, .bool y.ch]] w (RetV w (.int .i64 C)) := by
  rw [← h]; exact sCmp_any x y w
theorem iCmp_is {x y : Sl} {C : Int} (h : cmpS x y = C) (w : World) :
    Calls Tryz.prog 200 #[.agg #[.int .i64 x.md, .int .i64 x.rn, .int .i64 x.st, .int .i64 x.nd, .int .i64 x.kd, .int .i64 x.sz, .int .i64 x.du, .bool x.ch], .agg #[.int .i64 y.md, .int .i64 y.rn, .int .i64 y.st, .int .i64 y.nd, .int .i64 y.kd, .int .i64 y.sz, .int .i64 y.du, .bool y.ch]] w (RetV w (.int .i64 C)) := by
  rw [← h]; exact iCmp_any x y w

set_option maxHeartbeats 4000000 in
theorem sIsSlotTable_any (A : Option Addr) (n c : Nat) (l : List Sl) (w : World) (h : RE encSl 8 w w.heap.size A n l) (hn : n ≤ 1099511627776) :
    Calls Tryz.prog 161 #[.slice A n c] w (RetV w (.bool (isST l))) := by
  have L := Lib.hid h.len
  by_cases hl : n ≤ 120
  case neg =>
    have HL := Lib.hid hl
    go_enter Tryz.func161, Tryz.ntmps161
    go_wp2
    go_ret
    exact ⟨ret_bool (by have := HL.out; unfold isST; rw [L.out]; simp; omega), Below.refl _ _⟩
  go_enter Tryz.func161, Tryz.ntmps161
  go_wp2
  go_loopw [3] (fun i wr => ∃ k : Nat, k ≤ n ∧ i = .int .i64 k ∧ stTo l k = true ∧ Below w.heap.size w wr) (fun i _ => n - (intOf i).toNat)
  case atStart => exact ⟨0, Nat.zero_le _, rfl, rfl, Below.refl _ _⟩
  case round =>
    obtain ⟨k, hk, rfl, hall, hb⟩ := hrel
    have Hall := Lib.hid hall
    clear hall
    by_cases hlt : k < n
    · obtain ⟨b, o, rfl, hbl, hc⟩ := (h.below hb (Nat.le_refl _)).get (by omega)
      have hc0 := hc k hlt 0 _ rfl
      have hc1 := hc k hlt 1 _ rfl
      have hc2 := hc k hlt 2 _ rfl
      have hc3 := hc k hlt 3 _ rfl
      have hc4 := hc k hlt 4 _ rfl
      have hc5 := hc k hlt 5 _ rfl
      have hc6 := hc k hlt 6 _ rfl
      have hc7 := hc k hlt 7 _ rfl
      have hp0 := hc (k - 1) (by omega) 0 _ rfl
      have hp1 := hc (k - 1) (by omega) 1 _ rfl
      have hp2 := hc (k - 1) (by omega) 2 _ rfl
      have hp3 := hc (k - 1) (by omega) 3 _ rfl
      have hp4 := hc (k - 1) (by omega) 4 _ rfl
      have hp5 := hc (k - 1) (by omega) 5 _ rfl
      have hp6 := hc (k - 1) (by omega) 6 _ rfl
      have hp7 := hc (k - 1) (by omega) 7 _ rfl
      clear hc
      rw [Nat.add_zero] at hc0 hp0
      have q0 : ∀ x : Cls (GB wr), x.w.cell? ⟨b, o + k * 8, none⟩ = some (.int .i64 (ge l (k)).md) := fun x => GB.c x hc0
      have q1 : ∀ x : Cls (GB wr), x.w.cell? ⟨b, o + k * 8 + 1, none⟩ = some (.int .i64 (ge l (k)).rn) := fun x => GB.c x hc1
      have q2 : ∀ x : Cls (GB wr), x.w.cell? ⟨b, o + k * 8 + 2, none⟩ = some (.int .i64 (ge l (k)).st) := fun x => GB.c x hc2
      have q3 : ∀ x : Cls (GB wr), x.w.cell? ⟨b, o + k * 8 + 3, none⟩ = some (.int .i64 (ge l (k)).nd) := fun x => GB.c x hc3
      have q4 : ∀ x : Cls (GB wr), x.w.cell? ⟨b, o + k * 8 + 4, none⟩ = some (.int .i64 (ge l (k)).kd) := fun x => GB.c x hc4
      have q5 : ∀ x : Cls (GB wr), x.w.cell? ⟨b, o + k * 8 + 5, none⟩ = some (.int .i64 (ge l (k)).sz) := fun x => GB.c x hc5
      have q6 : ∀ x : Cls (GB wr), x.w.cell? ⟨b, o + k * 8 + 6, none⟩ = some (.int .i64 (ge l (k)).du) := fun x => GB.c x hc6
      have q7 : ∀ x : Cls (GB wr), x.w.cell? ⟨b, o + k * 8 + 7, none⟩ = some (.bool (ge l (k)).ch) := fun x => GB.c x hc7
      have r0 : ∀ x : Cls (GB wr), x.w.cell? ⟨b, o + (k - 1) * 8, none⟩ = some (.int .i64 (ge l (k - 1)).md) := fun x => GB.c x hp0
      have r1 : ∀ x : Cls (GB wr), x.w.cell? ⟨b, o + (k - 1) * 8 + 1, none⟩ = some (.int .i64 (ge l (k - 1)).rn) := fun x => GB.c x hp1
      have r2 : ∀ x : Cls (GB wr), x.w.cell? ⟨b, o + (k - 1) * 8 + 2, none⟩ = some (.int .i64 (ge l (k - 1)).st) := fun x => GB.c x hp2
      have r3 : ∀ x : Cls (GB wr), x.w.cell? ⟨b, o + (k - 1) * 8 + 3, none⟩ = some (.int .i64 (ge l (k - 1)).nd) := fun x => GB.c x hp3
      have r4 : ∀ x : Cls (GB wr), x.w.cell? ⟨b, o + (k - 1) * 8 + 4, none⟩ = some (.int .i64 (ge l (k - 1)).kd) := fun x => GB.c x hp4
      have r5 : ∀ x : Cls (GB wr), x.w.cell? ⟨b, o + (k - 1) * 8 + 5, none⟩ = some (.int .i64 (ge l (k - 1)).sz) := fun x => GB.c x hp5
      have r6 : ∀ x : Cls (GB wr), x.w.cell? ⟨b, o + (k - 1) * 8 + 6, none⟩ = some (.int .i64 (ge l (k - 1)).du) := fun x => GB.c x hp6
      have r7 : ∀ x : Cls (GB wr), x.w.cell? ⟨b, o + (k - 1) * 8 + 7, none⟩ = some (.bool (ge l (k - 1)).ch) := fun x => GB.c x hp7
      have hV0 : GB wr wr.drew := (Below.refl _ _).drew
      haveI hne : Nonempty (Cls (GB wr)) := ⟨⟨_, hV0⟩⟩
      rcases bool_cases (isSl (ge l k)) with hnd | hnd
      case inr =>
        have HND := Lib.hid hnd
        have hcm : cmpS (ge l k) (ge l k) = cmpS (ge l k) (ge l k) := rfl
        go_wp2_with fail
        refine wp_region_cls (GB wr) (by kernel_rfl) (by kernel_rfl) hV0 ?_
        repeat (go_big_quiet_step (first | (go_at_call 207; rename_i x; exact cls_call (fun h1 h2 => GB.next h1 h2) (sSl_is hnd _)) | (go_at_call 208; rename_i x; exact cls_call (fun h1 h2 => GB.next h1 h2) (sCmp_is hcm _))))
        refine wpQuiet_nil ?_
        rintro _ ⟨x, rfl⟩
        have hv : Below w.heap.size w x.w := below_next (w1 := wr) x.h hb (Nat.le_refl _)
        clear q0 q1 q2 q3 q4 q5 q6 q7 r0 r1 r2 r3 r4 r5 r6 r7
        go_wp2
        go_ret
        exact ⟨ret_bool (isST_no (by rw [L.out]; exact hlt) (by unfold stAt; rw [HND.out]; rfl)).symm, hv⟩
      have HND := Lib.hid hnd
      by_cases hk0 : k = 0
      · subst hk0
        clear hp0 hp1 hp2 hp3 hp4 hp5 hp6 hp7 r0 r1 r2 r3 r4 r5 r6 r7
        rw [Nat.zero_mul, Nat.add_zero] at hc0 q0
        rw [Nat.zero_mul, Nat.add_zero] at hc1 hc2 hc3 hc4 hc5 hc6 hc7 q1 q2 q3 q4 q5 q6 q7
        have hcm : cmpS (ge l 0) (ge l 0) = cmpS (ge l 0) (ge l 0) := rfl
        go_wp2_with fail
        refine wp_region_cls (GB wr) (by kernel_rfl) (by kernel_rfl) hV0 ?_
        repeat (go_big_quiet_step (first | (go_at_call 207; rename_i x; exact cls_call (fun h1 h2 => GB.next h1 h2) (sSl_is hnd _)) | (go_at_call 208; rename_i x; exact cls_call (fun h1 h2 => GB.next h1 h2) (sCmp_is hcm _))))
        refine wpQuiet_nil ?_
        rintro _ ⟨x, rfl⟩
        have hv : Below w.heap.size w x.w := below_next (w1 := wr) x.h hb (Nat.le_refl _)
        clear q0 q1 q2 q3 q4 q5 q6 q7
        go_wp2
        go_roundw
        case rel => exact ⟨1, by omega, by go_num, by rw [stTo_succ, Hall.out]; unfold stAt; rw [HND.out]; rfl, hv⟩
        case measure => simp [intOf]; omega
      have hk1 : 0 < k := by omega
      obtain ⟨C, hcm⟩ : ∃ C, cmpS (ge l (k - 1)) (ge l k) = C := ⟨_, rfl⟩
      have HCM := Lib.hid hcm
      by_cases hg : 0 ≤ C
      · have HG := Lib.hid hg
        go_wp2_with fail
        refine wp_region_cls (GB wr) (by kernel_rfl) (by kernel_rfl) hV0 ?_
        repeat (go_big_quiet_step (first | (go_at_call 207; rename_i x; exact cls_call (fun h1 h2 => GB.next h1 h2) (sSl_is hnd _)) | (go_at_call 208; rename_i x; exact cls_call (fun h1 h2 => GB.next h1 h2) (sCmp_is hcm _))))
        refine wpQuiet_nil ?_
        rintro _ ⟨x, rfl⟩
        have hv : Below w.heap.size w x.w := below_next (w1 := wr) x.h hb (Nat.le_refl _)
        clear q0 q1 q2 q3 q4 q5 q6 q7 r0 r1 r2 r3 r4 r5 r6 r7
        go_wp2
        go_ret
        exact ⟨ret_bool (isST_no (by rw [L.out]; exact hlt) (by unfold stAt; rw [HND.out, HCM.out]; have := HG.out; simp; omega)).symm, hv⟩
      · have HG := Lib.hid hg
        go_wp2_with fail
        refine wp_region_cls (GB wr) (by kernel_rfl) (by kernel_rfl) hV0 ?_
        repeat (go_big_quiet_step (first | (go_at_call 207; rename_i x; exact cls_call (fun h1 h2 => GB.next h1 h2) (sSl_is hnd _)) | (go_at_call 208; rename_i x; exact cls_call (fun h1 h2 => GB.next h1 h2) (sCmp_is hcm _))))
        refine wpQuiet_nil ?_
        rintro _ ⟨x, rfl⟩
        have hv : Below w.heap.size w x.w := below_next (w1 := wr) x.h hb (Nat.le_refl _)
        clear q0 q1 q2 q3 q4 q5 q6 q7 r0 r1 r2 r3 r4 r5 r6 r7
        go_wp2
        go_roundw
        case rel => exact ⟨k + 1, by omega, by go_num, by rw [stTo_succ, Hall.out]; unfold stAt; rw [HND.out, HCM.out]; have := HG.out; simp; omega, hv⟩
        case measure => simp [intOf]; omega
    · have hkn : k = n := by omega
      have hz : stTo l l.length = true := by rw [L.out, ← hkn]; exact Hall.out
      have Hz := Lib.hid hz
      clear hz hkn
      go_wp2
      go_ret
      exact ⟨ret_bool (by unfold isST; rw [Hz.out, L.out]; simp; omega), hb⟩

set_option maxHeartbeats 4000000 in
theorem iIsSlotTable_any (A : Option Addr) (n c : Nat) (l : List Sl) (w : World) (h : RE encSl 8 w w.heap.size A n l) (hn : n ≤ 1099511627776) :
    Calls Tryz.prog 147 #[.slice A n c] w (RetV w (.bool (isST l))) := by
  have L := Lib.hid h.len
  go_enter Tryz.func147, Tryz.ntmps147
  go_wp2
  go_loopw [7, 3, 4] (fun i _ _ wr => ∃ k : Nat, k ≤ n ∧ i = .int .i64 k ∧ stTo l k = true ∧ Below w.heap.size w wr) (fun i _ _ _ => n - (intOf i).toNat)
  case atStart => exact ⟨0, Nat.zero_le _, rfl, rfl, Below.refl _ _⟩
  case round =>
    obtain ⟨k, hk, rfl, hall, hb⟩ := hrel
    have Hall := Lib.hid hall
    clear hall
    by_cases hlt : k < n
    · obtain ⟨b, o, rfl, hbl, hc⟩ := (h.below hb (Nat.le_refl _)).get (by omega)
      have hc0 := hc k hlt 0 _ rfl
      have hc1 := hc k hlt 1 _ rfl
      have hc2 := hc k hlt 2 _ rfl
      have hc3 := hc k hlt 3 _ rfl
      have hc4 := hc k hlt 4 _ rfl
      have hc5 := hc k hlt 5 _ rfl
      have hc6 := hc k hlt 6 _ rfl
      have hc7 := hc k hlt 7 _ rfl
      have hp0 := hc (k - 1) (by omega) 0 _ rfl
      have hp1 := hc (k - 1) (by omega) 1 _ rfl
      have hp2 := hc (k - 1) (by omega) 2 _ rfl
      have hp3 := hc (k - 1) (by omega) 3 _ rfl
      have hp4 := hc (k - 1) (by omega) 4 _ rfl
      have hp5 := hc (k - 1) (by omega) 5 _ rfl
      have hp6 := hc (k - 1) (by omega) 6 _ rfl
      have hp7 := hc (k - 1) (by omega) 7 _ rfl
      clear hc
      rw [Nat.add_zero] at hc0 hp0
      obtain ⟨w0, hw0⟩ : ∃ v, v = wr.alloc (.cells #[.int .i64 (ge l k).md, .int .i64 (ge l k).rn, .int .i64 (ge l k).st, .int .i64 (ge l k).nd, .int .i64 (ge l k).kd, .int .i64 (ge l k).sz, .int .i64 (ge l k).du, .bool (ge l k).ch] 102) := ⟨_, rfl⟩
      have hB0 : BlkL w0 wr.heap.size 102 [.int .i64 (ge l k).md, .int .i64 (ge l k).rn, .int .i64 (ge l k).st, .int .i64 (ge l k).nd, .int .i64 (ge l k).kd, .int .i64 (ge l k).sz, .int .i64 (ge l k).du, .bool (ge l k).ch] := by rw [hw0]; exact BlkL.new wr _ _ rfl
      have gb : Below wr.heap.size wr w0 := by rw [hw0]; go_grown
      have hb0 : Below w.heap.size w w0 := below_next gb hb (Nat.le_refl _)
      have q0 : ∀ x : Cls (GB w0), x.w.cell? ⟨wr.heap.size, 0, none⟩ = some (.int .i64 (ge l (k)).md) := fun x => GB.c x (hB0.c 0 rfl)
      have q1 : ∀ x : Cls (GB w0), x.w.cell? ⟨wr.heap.size, 1, none⟩ = some (.int .i64 (ge l (k)).rn) := fun x => GB.c x (hB0.c 1 rfl)
      have q2 : ∀ x : Cls (GB w0), x.w.cell? ⟨wr.heap.size, 2, none⟩ = some (.int .i64 (ge l (k)).st) := fun x => GB.c x (hB0.c 2 rfl)
      have q3 : ∀ x : Cls (GB w0), x.w.cell? ⟨wr.heap.size, 3, none⟩ = some (.int .i64 (ge l (k)).nd) := fun x => GB.c x (hB0.c 3 rfl)
      have q4 : ∀ x : Cls (GB w0), x.w.cell? ⟨wr.heap.size, 4, none⟩ = some (.int .i64 (ge l (k)).kd) := fun x => GB.c x (hB0.c 4 rfl)
      have q5 : ∀ x : Cls (GB w0), x.w.cell? ⟨wr.heap.size, 5, none⟩ = some (.int .i64 (ge l (k)).sz) := fun x => GB.c x (hB0.c 5 rfl)
      have q6 : ∀ x : Cls (GB w0), x.w.cell? ⟨wr.heap.size, 6, none⟩ = some (.int .i64 (ge l (k)).du) := fun x => GB.c x (hB0.c 6 rfl)
      have q7 : ∀ x : Cls (GB w0), x.w.cell? ⟨wr.heap.size, 7, none⟩ = some (.bool (ge l (k)).ch) := fun x => GB.c x (hB0.c 7 rfl)
      have r0 : ∀ x : Cls (GB w0), x.w.cell? ⟨b, o + (k - 1) * 8, none⟩ = some (.int .i64 (ge l (k - 1)).md) := fun x => GB.c x ((Below.cell gb (p := ⟨b, o + (k - 1) * 8, none⟩) (World.block_lt_of_cell? _ _ hp0)).trans hp0)
      have r1 : ∀ x : Cls (GB w0), x.w.cell? ⟨b, o + (k - 1) * 8 + 1, none⟩ = some (.int .i64 (ge l (k - 1)).rn) := fun x => GB.c x ((Below.cell gb (p := ⟨b, o + (k - 1) * 8 + 1, none⟩) (World.block_lt_of_cell? _ _ hp1)).trans hp1)
      have r2 : ∀ x : Cls (GB w0), x.w.cell? ⟨b, o + (k - 1) * 8 + 2, none⟩ = some (.int .i64 (ge l (k - 1)).st) := fun x => GB.c x ((Below.cell gb (p := ⟨b, o + (k - 1) * 8 + 2, none⟩) (World.block_lt_of_cell? _ _ hp2)).trans hp2)
      have r3 : ∀ x : Cls (GB w0), x.w.cell? ⟨b, o + (k - 1) * 8 + 3, none⟩ = some (.int .i64 (ge l (k - 1)).nd) := fun x => GB.c x ((Below.cell gb (p := ⟨b, o + (k - 1) * 8 + 3, none⟩) (World.block_lt_of_cell? _ _ hp3)).trans hp3)
      have r4 : ∀ x : Cls (GB w0), x.w.cell? ⟨b, o + (k - 1) * 8 + 4, none⟩ = some (.int .i64 (ge l (k - 1)).kd) := fun x => GB.c x ((Below.cell gb (p := ⟨b, o + (k - 1) * 8 + 4, none⟩) (World.block_lt_of_cell? _ _ hp4)).trans hp4)
      have r5 : ∀ x : Cls (GB w0), x.w.cell? ⟨b, o + (k - 1) * 8 + 5, none⟩ = some (.int .i64 (ge l (k - 1)).sz) := fun x => GB.c x ((Below.cell gb (p := ⟨b, o + (k - 1) * 8 + 5, none⟩) (World.block_lt_of_cell? _ _ hp5)).trans hp5)
      have r6 : ∀ x : Cls (GB w0), x.w.cell? ⟨b, o + (k - 1) * 8 + 6, none⟩ = some (.int .i64 (ge l (k - 1)).du) := fun x => GB.c x ((Below.cell gb (p := ⟨b, o + (k - 1) * 8 + 6, none⟩) (World.block_lt_of_cell? _ _ hp6)).trans hp6)
      have r7 : ∀ x : Cls (GB w0), x.w.cell? ⟨b, o + (k - 1) * 8 + 7, none⟩ = some (.bool (ge l (k - 1)).ch) := fun x => GB.c x ((Below.cell gb (p := ⟨b, o + (k - 1) * 8 + 7, none⟩) (World.block_lt_of_cell? _ _ hp7)).trans hp7)
      have hV0 : GB w0 w0.drew := (Below.refl _ _).drew
      haveI hne : Nonempty (Cls (GB w0)) := ⟨⟨_, hV0⟩⟩
      rcases bool_cases (isSl (ge l k)) with hnd | hnd
      case inr =>
        have HND := Lib.hid hnd
        have hcm : cmpS (ge l k) (ge l k) = cmpS (ge l k) (ge l k) := rfl
        go_wp2_with fail
        rw [← hw0]
        clear hw0
        refine wp_region_cls (GB w0) (by kernel_rfl) (by kernel_rfl) hV0 ?_
        repeat (go_big_quiet_step (first | (go_at_call 199; rename_i x; exact cls_call (fun h1 h2 => GB.next h1 h2) (iSl_is hnd _)) | (go_at_call 200; rename_i x; exact cls_call (fun h1 h2 => GB.next h1 h2) (iCmp_is hcm _))))
        refine wpQuiet_nil ?_
        rintro _ ⟨x, rfl⟩
        have hv : Below w.heap.size w x.w := below_next (w1 := w0) x.h hb0 (Nat.le_refl _)
        clear q0 q1 q2 q3 q4 q5 q6 q7 r0 r1 r2 r3 r4 r5 r6 r7
        go_wp2
        go_ret
        exact ⟨ret_bool (isST_no (by rw [L.out]; exact hlt) (by unfold stAt; rw [HND.out]; rfl)).symm, hv⟩
      have HND := Lib.hid hnd
      by_cases hk0 : k = 0
      · subst hk0
        clear hp0 hp1 hp2 hp3 hp4 hp5 hp6 hp7 r0 r1 r2 r3 r4 r5 r6 r7
        rw [Nat.zero_mul, Nat.add_zero] at hc0
        rw [Nat.zero_mul, Nat.add_zero] at hc1 hc2 hc3 hc4 hc5 hc6 hc7
        have hcm : cmpS (ge l 0) (ge l 0) = cmpS (ge l 0) (ge l 0) := rfl
        go_wp2_with fail
        rw [← hw0]
        clear hw0
        refine wp_region_cls (GB w0) (by kernel_rfl) (by kernel_rfl) hV0 ?_
        repeat (go_big_quiet_step (first | (go_at_call 199; rename_i x; exact cls_call (fun h1 h2 => GB.next h1 h2) (iSl_is hnd _)) | (go_at_call 200; rename_i x; exact cls_call (fun h1 h2 => GB.next h1 h2) (iCmp_is hcm _))))
        refine wpQuiet_nil ?_
        rintro _ ⟨x, rfl⟩
        have hv : Below w.heap.size w x.w := below_next (w1 := w0) x.h hb0 (Nat.le_refl _)
        clear q0 q1 q2 q3 q4 q5 q6 q7
        go_wp2
        go_roundw
        case rel => exact ⟨1, by omega, by go_num, by rw [stTo_succ, Hall.out]; unfold stAt; rw [HND.out]; rfl, hv⟩
        case measure => simp [intOf]; omega
      have hk1 : 0 < k := by omega
      obtain ⟨C, hcm⟩ : ∃ C, cmpS (ge l (k - 1)) (ge l k) = C := ⟨_, rfl⟩
      have HCM := Lib.hid hcm
      by_cases hg : 0 ≤ C
      · have HG := Lib.hid hg
        go_wp2_with fail
        rw [← hw0]
        clear hw0
        refine wp_region_cls (GB w0) (by kernel_rfl) (by kernel_rfl) hV0 ?_
        repeat (go_big_quiet_step (first | (go_at_call 199; rename_i x; exact cls_call (fun h1 h2 => GB.next h1 h2) (iSl_is hnd _)) | (go_at_call 200; rename_i x; exact cls_call (fun h1 h2 => GB.next h1 h2) (iCmp_is hcm _))))
        refine wpQuiet_nil ?_
        rintro _ ⟨x, rfl⟩
        have hv : Below w.heap.size w x.w := below_next (w1 := w0) x.h hb0 (Nat.le_refl _)
        clear q0 q1 q2 q3 q4 q5 q6 q7 r0 r1 r2 r3 r4 r5 r6 r7
        go_wp2
        go_ret
        exact ⟨ret_bool (isST_no (by rw [L.out]; exact hlt) (by unfold stAt; rw [HND.out, HCM.out]; have := HG.out; simp; omega)).symm, hv⟩
      · have HG := Lib.hid hg
        go_wp2_with fail
        rw [← hw0]
        clear hw0
        refine wp_region_cls (GB w0) (by kernel_rfl) (by kernel_rfl) hV0 ?_
        repeat (go_big_quiet_step (first | (go_at_call 199; rename_i x; exact cls_call (fun h1 h2 => GB.next h1 h2) (iSl_is hnd _)) | (go_at_call 200; rename_i x; exact cls_call (fun h1 h2 => GB.next h1 h2) (iCmp_is hcm _))))
        refine wpQuiet_nil ?_
        rintro _ ⟨x, rfl⟩
        have hv : Below w.heap.size w x.w := below_next (w1 := w0) x.h hb0 (Nat.le_refl _)
        clear q0 q1 q2 q3 q4 q5 q6 q7 r0 r1 r2 r3 r4 r5 r6 r7
        go_wp2
        go_roundw
        case rel => exact ⟨k + 1, by omega, by go_num, by rw [stTo_succ, Hall.out]; unfold stAt; rw [HND.out, HCM.out]; have := HG.out; simp; omega, hv⟩
        case measure => simp [intOf]; omega
    · have hkn : k = n := by omega
      have hz : stTo l l.length = true := by rw [L.out, ← hkn]; exact Hall.out
      have Hz := Lib.hid hz
      clear hz hkn
      by_cases h2 : n ≤ 120
      all_goals
        go_wp2
        go_ret
        exact ⟨ret_bool (by unfold isST; rw [Hz.out, L.out, Bool.and_true, decide_eq_decide]; omega), hb⟩
end Go.Proofs.YtbaojbheopcjhaaGreatDoor
