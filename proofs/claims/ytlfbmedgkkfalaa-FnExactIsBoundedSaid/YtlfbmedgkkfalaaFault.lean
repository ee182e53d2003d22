/- The walks of the functions on one fault. Conditions: none. -/
import Derived.Test.YtlfbmedgkkfalaaBase
import Derived.Test.YtlfbmedgkkfalaaKitE
import Derived.Handy
namespace Go.Proofs.Ytlfbmedgkkfalaa
open Go.RowKit

/-- has a kind a length; a value -/
def hasLen (k : Int) : Bool := decide (k = 2) || decide (k = 3) || decide (k = 4) || decide (k = 6)
def hasVal (k : Int) : Bool := decide (k = 4) || decide (k = 6)
/-- is a fault valid -/
def isFault (f : Flt) : Bool :=
  inR f.kd 1 6 && (inR f.pos 0 8192 && ((if hasLen f.kd then inR f.len 1 8192 else decide (f.len = 0)) && (if hasVal f.kd then inR f.val 0 1 else decide (f.val = 0))))

set_option maxHeartbeats 400000 in
theorem toFault_any (k p l v : Int) (w : World) :
    Calls Try.prog 63 #[.agg #[.int .i64 k, .int .i64 p, .int .i64 l, .int .i64 v]] w (RetV w (.agg #[.int .i64 k, .int .i64 p, .int .i64 l, .int .i64 v])) := by
  go_enter Try.func63, Try.ntmps63
  go_wp2
  exact bodyPost_ret (v := .agg #[.int .i64 k, .int .i64 p, .int .i64 l, .int .i64 v]) (by simp [results, Try.results63, go_sem]) rfl ⟨rfl, by go_grown⟩

theorem kd_cases {k : Int} (h : inR k 1 6 = true) : k = 1 ∨ k = 2 ∨ k = 3 ∨ k = 4 ∨ k = 5 ∨ k = 6 := by rw [inR_iff] at h; omega

theorem zero_cases (l : Int) : ((l == 0) = true ∧ (l != 0) = false ∧ decide (l = 0) = true) ∨ ((l == 0) = false ∧ (l != 0) = true ∧ decide (l = 0) = false) := by
  by_cases h : l = 0 <;> simp [h]
theorem bool_cases (b : Bool) : b = true ∨ b = false := by cases b <;> simp
theorem val_cases (v : Int) : (inR v 0 1 = true ∧ (v == 0) = true ∧ decide (v = 0) = true) ∨ (inR v 0 1 = true ∧ (v == 0) = false ∧ decide (v = 0) = false) ∨ (inR v 0 1 = false ∧ (v == 0) = false ∧ decide (v = 0) = false) := by
  by_cases h : v = 0
  · subst h; exact .inl ⟨by decide, by decide, by decide⟩
  · by_cases h2 : inR v 0 1 = true
    · exact .inr (.inl ⟨h2, by simp [h], by simp [h]⟩)
    · exact .inr (.inr ⟨by simpa using h2, by simp [h], by simp [h]⟩)

set_option maxHeartbeats 2000000 in
theorem sIsFault_any (k p l v : Int) (w : World) :
    Calls Try.prog 163 #[.agg #[.int .i64 k, .int .i64 p, .int .i64 l, .int .i64 v]] w (RetV w (.bool (isFault ⟨k, p, l, v⟩))) := by
  by_cases h1 : inR k 1 6 = true
  · by_cases h2 : inR p 0 8192 = true
    · have h1' := h1
      rcases kd_cases h1' with rfl | rfl | rfl | rfl | rfl | rfl
      all_goals clear h1'
      case inl | inr.inr.inr.inr.inl =>
        rcases zero_cases l with ⟨h3, h4, h5⟩ | ⟨h3, h4, h5⟩ <;> rcases val_cases v with ⟨h6, h7, h8⟩ | ⟨h6, h7, h8⟩ | ⟨h6, h7, h8⟩
        all_goals
          have F5 := Lib.hid h5
          have F8 := Lib.hid h8
          clear h5 h8
          go_enter Try.func163, Try.ntmps163
          go_wp2_with (first | (go_at_call 143; refine (l01In_any _ _ _ _).mono ?_; rintro e w' ⟨rfl, rfl⟩) | go_in)
          go_ret
          exact ⟨ret_bool (by have g5 := F5.out; have g8 := F8.out; unfold isFault; rw [h1, h2, h6, g5, g8]; rfl), by go_grown⟩
      all_goals
        rcases bool_cases (inR l 1 8192) with h5 | h5 <;> rcases val_cases v with ⟨h6, h7, h8⟩ | ⟨h6, h7, h8⟩ | ⟨h6, h7, h8⟩
      all_goals
        have F8 := Lib.hid h8
        clear h8
        go_enter Try.func163, Try.ntmps163
        go_wp2_with (first | (go_at_call 143; refine (l01In_any _ _ _ _).mono ?_; rintro e w' ⟨rfl, rfl⟩) | go_in)
        go_ret
        exact ⟨ret_bool (by have g8 := F8.out; unfold isFault; rw [h1, h2, h5, h6, g8]; rfl), by go_grown⟩
    · have h2' : inR p 0 8192 = false := by simpa using h2
      clear h2
      go_enter Try.func163, Try.ntmps163
      go_wp2_with (first | (go_at_call 143; refine (l01In_any _ _ _ _).mono ?_; rintro e w' ⟨rfl, rfl⟩) | go_in)
      go_ret
      exact ⟨ret_bool (by simp [isFault, h2']), by go_grown⟩
  · have h1' : inR k 1 6 = false := by simpa using h1
    clear h1
    go_enter Try.func163, Try.ntmps163
    go_wp2_with (first | (go_at_call 143; refine (l01In_any _ _ _ _).mono ?_; rintro e w' ⟨rfl, rfl⟩) | go_in)
    go_ret
    exact ⟨ret_bool (by simp [isFault, h1']), by go_grown⟩

set_option maxHeartbeats 2000000 in
theorem iIsFault_any (k p l v : Int) (w : World) :
    Calls Try.prog 165 #[.agg #[.int .i64 k, .int .i64 p, .int .i64 l, .int .i64 v]] w (RetV w (.bool (isFault ⟨k, p, l, v⟩))) := by
  by_cases h1 : inR k 1 6 = true
  · by_cases h2 : inR p 0 8192 = true
    · have h1' := h1
      rcases kd_cases h1' with rfl | rfl | rfl | rfl | rfl | rfl
      all_goals clear h1'
      case inl | inr.inr.inr.inr.inl =>
        rcases zero_cases l with ⟨h3, h4, h5⟩ | ⟨h3, h4, h5⟩ <;> rcases val_cases v with ⟨h6, h7, h8⟩ | ⟨h6, h7, h8⟩ | ⟨h6, h7, h8⟩
        all_goals
          have F5 := Lib.hid h5
          have F8 := Lib.hid h8
          clear h5 h8
          go_enter Try.func165, Try.ntmps165
          go_wp2_with (first | (go_at_call 145; refine (within_any _ _ _ _).mono ?_; rintro e w' ⟨rfl, rfl⟩) | go_in)
          go_quiet (fail)
          go_wp2_with (first | (go_at_call 145; refine (within_any _ _ _ _).mono ?_; rintro e w' ⟨rfl, rfl⟩) | go_in)
          go_ret
          exact ⟨ret_bool (by have g5 := F5.out; have g8 := F8.out; unfold isFault; rw [h1, h2, h6, g5, g8]; rfl), below_drewN (by go_grown) _⟩
      all_goals
        rcases bool_cases (inR l 1 8192) with h5 | h5 <;> rcases val_cases v with ⟨h6, h7, h8⟩ | ⟨h6, h7, h8⟩ | ⟨h6, h7, h8⟩
      all_goals
        have F8 := Lib.hid h8
        clear h8
        go_enter Try.func165, Try.ntmps165
        go_wp2_with (first | (go_at_call 145; refine (within_any _ _ _ _).mono ?_; rintro e w' ⟨rfl, rfl⟩) | go_in)
        go_quiet (fail)
        go_wp2_with (first | (go_at_call 145; refine (within_any _ _ _ _).mono ?_; rintro e w' ⟨rfl, rfl⟩) | go_in)
        go_ret
        exact ⟨ret_bool (by have g8 := F8.out; unfold isFault; rw [h1, h2, h5, h6, g8]; rfl), below_drewN (by go_grown) _⟩
    · have h2' : inR p 0 8192 = false := by simpa using h2
      clear h2
      go_enter Try.func165, Try.ntmps165
      go_wp2_with (first | (go_at_call 145; refine (within_any _ _ _ _).mono ?_; rintro e w' ⟨rfl, rfl⟩) | go_in)
      go_ret
      exact ⟨ret_bool (by simp [isFault, h2']), by go_grown⟩
  · have h1' : inR k 1 6 = false := by simpa using h1
    clear h1
    go_enter Try.func165, Try.ntmps165
    go_wp2_with (first | (go_at_call 145; refine (within_any _ _ _ _).mono ?_; rintro e w' ⟨rfl, rfl⟩) | go_in)
    go_ret
    exact ⟨ret_bool (by simp [isFault, h1']), by go_grown⟩

end Go.Proofs.Ytlfbmedgkkfalaa
