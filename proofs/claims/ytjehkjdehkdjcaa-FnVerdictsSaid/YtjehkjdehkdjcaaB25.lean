/- Walks, laws and small notions for the claims of this seat, several texts as one (FrB, Isv). Conditions: as each theorem states them. -/
import Derived.Test.YtjehkjdehkdjcaaB10
import Derived.Test.YtjehkjdehkdjcaaB1
namespace Go.Proofs.Ytjehkjdehkdjcaa
open Go.RowKit

def oneMem (b : Int) : Bool := decide (bitCnt b.toNat 32 = 1)
/-- what IsFrame answers -/
def isFrame (k r t m d s b : Int) (zs : List Int) : Bool :=
  inR k 0 3 && (inR r 0 7 && (frSize k zs.length && (isBytes zs &&
    (if k = 0 then decide (t = 0 ∧ m = 0 ∧ d = 0 ∧ s = 0 ∧ b = 0) else if k = 3 then isState t m d s b && (decide (m = 0) && (oneMem b && decide (r = 0))) else isState t m d s b))))
theorem isFrame_cold {r t m d s : Int} {B : Nat} {zs : List Int} (E : isFrame 3 r t m d s B zs = (isState t m d s B && (decide (m = 0) && (oneMem B && decide (r = 0))))) (h : m ≠ 0 ∨ oneMem B = false ∨ r ≠ 0) : isFrame 3 r t m d s B zs = false := by
  rw [E]
  rcases h with h | h | h <;> simp [h]
theorem oneMem_iff {B : Nat} (hB : B < 4294967296) : oneMem (B : Int) = true ↔ B ≠ 0 ∧ B &&& (B - 1) = 0 := by
  unfold oneMem
  rw [decide_eq_true_iff, Int.toNat_natCast]
  exact bitCnt_one 32 B hB

set_option maxHeartbeats 8000000 in
theorem sIsFrame_any (k r t m d s b : Int) (A : Option Addr) (n c : Nat) (zs : List Int) (w : World) (h : RI w w.heap.size A n zs) (hn : n ≤ 1099511627776) :
    Calls Try.prog 115 #[.agg #[.int .i64 k, .int .i64 r, .int .i64 t, .int .i64 m, .int .i64 d, .int .i64 s, .int .i64 b, .slice A n c]] w (RetV w (.bool (isFrame k r t m d s b zs))) := by
  have L := Lib.hid h.len
  rcases bool_cases (inR k 0 3) with h1 | h1
  case inr =>
    have E := Lib.hid (show isFrame k r t m d s b zs = false by simp [isFrame, h1])
    go_enter Try.func115, Try.ntmps115
    go_wp2_with (go_at_call 186; refine (l06Kind_any _ _).mono ?_; rw [h1]; rintro e w' ⟨rfl, rfl⟩)
    go_ret
    exact ⟨ret_bool E.out.symm, by go_grown⟩
  rcases bool_cases (inR r 0 7) with h2 | h2
  case inr =>
    have E := Lib.hid (show isFrame k r t m d s b zs = false by simp [isFrame, h2])
    go_enter Try.func115, Try.ntmps115
    go_wp2_with (first | (go_at_call 186; refine (l06Kind_any _ _).mono ?_; rw [h1]; rintro e w' ⟨rfl, rfl⟩) | (go_at_call 116; refine (l01In_any _ _ _ _).mono ?_; rw [h2]; rintro e w' ⟨rfl, rfl⟩))
    go_ret
    exact ⟨ret_bool E.out.symm, by go_grown⟩
  rcases bool_cases (frSize k n) with h3 | h3
  case inr =>
    have E := Lib.hid (show isFrame k r t m d s b zs = false by simp [isFrame, h3, L.out])
    go_enter Try.func115, Try.ntmps115
    go_wp2_with (first | (go_at_call 186; refine (l06Kind_any _ _).mono ?_; rw [h1]; rintro e w' ⟨rfl, rfl⟩) | (go_at_call 116; refine (l01In_any _ _ _ _).mono ?_; rw [h2]; rintro e w' ⟨rfl, rfl⟩) | (go_at_call 187; refine (l06Size_any _ _ _).mono ?_; rw [h3]; rintro e w' ⟨rfl, rfl⟩))
    go_ret
    exact ⟨ret_bool E.out.symm, by go_grown⟩
  rcases bool_cases (isBytes zs) with h4 | h4
  case inr =>
    have E := Lib.hid (show isFrame k r t m d s b zs = false by simp [isFrame, h4])
    go_enter Try.func115, Try.ntmps115
    go_wp2_with (first | (go_at_call 186; refine (l06Kind_any _ _).mono ?_; rw [h1]; rintro e w' ⟨rfl, rfl⟩) | (go_at_call 116; refine (l01In_any _ _ _ _).mono ?_; rw [h2]; rintro e w' ⟨rfl, rfl⟩) | (go_at_call 187; refine (l06Size_any _ _ _).mono ?_; rw [h3]; rintro e w' ⟨rfl, rfl⟩) | (go_at_call 127; refine (sIsBytes_any _ _ _ zs _ (RI.alloc' h _) hn).mono ?_; rw [h4]; rintro e w' ⟨rfl, rfl⟩))
    go_ret
    exact ⟨ret_bool E.out.symm, by go_grown⟩
  have E0 := Lib.hid (show isFrame k r t m d s b zs = (if k = 0 then decide (t = 0 ∧ m = 0 ∧ d = 0 ∧ s = 0 ∧ b = 0) else if k = 3 then isState t m d s b && (decide (m = 0) && (oneMem b && decide (r = 0))) else isState t m d s b) by simp [isFrame, L.out, h1, h2, h3, h4])
  rcases num_cases k 0 with ⟨h5, rfl⟩ | ⟨h5, h5'⟩
  · clear h5
    go_enter Try.func115, Try.ntmps115
    go_wp2_with (first | (go_at_call 186; refine (l06Kind_any _ _).mono ?_; rw [h1]; rintro e w' ⟨rfl, rfl⟩) | (go_at_call 116; refine (l01In_any _ _ _ _).mono ?_; rw [h2]; rintro e w' ⟨rfl, rfl⟩) | (go_at_call 187; refine (l06Size_any _ _ _).mono ?_; rw [h3]; rintro e w' ⟨rfl, rfl⟩) | (go_at_call 127; refine (sIsBytes_any _ _ _ zs _ (RI.alloc' h _) hn).mono ?_; rw [h4]; rintro e w' ⟨rfl, rfl⟩))
    all_goals
      go_ret
      exact ⟨ret_bool (by rw [E0.out]; simp [*]), by go_grown⟩
  rcases num_cases k 3 with ⟨h6, rfl⟩ | ⟨h6, h6'⟩
  case inr =>
    have E := Lib.hid (show isFrame k r t m d s b zs = isState t m d s b by rw [E0.out, if_neg h5', if_neg h6'])
    clear h5' h6'
    go_enter Try.func115, Try.ntmps115
    go_wp2_with (first | (go_at_call 186; refine (l06Kind_any _ _).mono ?_; rw [h1]; rintro e w' ⟨rfl, rfl⟩) | (go_at_call 116; refine (l01In_any _ _ _ _).mono ?_; rw [h2]; rintro e w' ⟨rfl, rfl⟩) | (go_at_call 187; refine (l06Size_any _ _ _).mono ?_; rw [h3]; rintro e w' ⟨rfl, rfl⟩) | (go_at_call 127; refine (sIsBytes_any _ _ _ zs _ (RI.alloc' h _) hn).mono ?_; rw [h4]; rintro e w' ⟨rfl, rfl⟩))
    refine (sIsState_any _ _ _ _ _ _).mono ?_
    rintro e w1 ⟨rfl, hb1⟩
    go_wp2
    go_ret
    exact ⟨ret_bool E.out.symm, below_next hb1 (below_alloc (Below.refl _ _) (Nat.le_refl _) _) (Nat.le_refl _)⟩
  have E1 := Lib.hid (show isFrame 3 r t m d s b zs = (isState t m d s b && (decide (m = 0) && (oneMem b && decide (r = 0)))) by rw [E0.out, if_neg h5', if_pos rfl])
  clear h5 h5' h6 E0
  obtain ⟨w0, hw0⟩ : ∃ x, w.alloc (.cells #[.int .i64 3, .int .i64 r, .int .i64 t, .int .i64 m, .int .i64 d, .int .i64 s, .int .i64 b, .slice A n c] 33) = x := ⟨_, rfl⟩
  have KX := Lib.hid (show BlkL w0 w.heap.size 33 [.int .i64 3, .int .i64 r, .int .i64 t, .int .i64 m, .int .i64 d, .int .i64 s, .int .i64 b, .slice A n c] from hw0 ▸ BlkL.new w _ _ rfl)
  have hB : Below w.heap.size w w0 := by rw [← hw0]; exact below_alloc (Below.refl _ _) (Nat.le_refl _) _
  have HB := Lib.hid hB
  have H0 := Lib.hid (h.up hB)
  have HW0 := Lib.hid hw0
  clear hw0 hB
  rcases bool_cases (inR b 0 4294967295) with hv | hv
  case inr =>
    have S0 := Lib.hid (show isState t m d s b = false by simp [isState, hv])
    have E := Lib.hid (show isFrame 3 r t m d s b zs = false by rw [E1.out]; simp [S0.out])
    have x0 := KX.out.c 0 rfl
    have x1 := KX.out.c 1 rfl
    have x2 := KX.out.c 2 rfl
    have x3 := KX.out.c 3 rfl
    have x4 := KX.out.c 4 rfl
    have x5 := KX.out.c 5 rfl
    have x6 := KX.out.c 6 rfl
    have x7 := KX.out.c 7 rfl
    go_enter Try.func115, Try.ntmps115
    go_wp2_with (first | rw [HW0.out] | (go_at_call 186; refine (l06Kind_any _ _).mono ?_; rw [h1]; rintro e w' ⟨rfl, rfl⟩) | (go_at_call 116; refine (l01In_any _ _ _ _).mono ?_; rw [h2]; rintro e w' ⟨rfl, rfl⟩) | (go_at_call 187; refine (l06Size_any _ _ _).mono ?_; rw [h3]; rintro e w' ⟨rfl, rfl⟩) | (go_at_call 127; refine (sIsBytes_any _ _ _ zs _ H0.out hn).mono ?_; rw [h4]; rintro e w' ⟨rfl, rfl⟩))
    refine (sMembersOf_no b _ hv).mono ?_
    rintro e w1 ⟨rfl, hb1⟩
    clear x0 x1 x2 x3 x4 x5 x6 x7
    have K1 := Lib.hid (KX.out.next hb1)
    have y0 := K1.out.c 0 rfl
    have y1 := K1.out.c 1 rfl
    have y2 := K1.out.c 2 rfl
    have y3 := K1.out.c 3 rfl
    have y4 := K1.out.c 4 rfl
    have y5 := K1.out.c 5 rfl
    have y6 := K1.out.c 6 rfl
    have y7 := K1.out.c 7 rfl
    have HB1 := Lib.hid (below_next hb1 HB.out (Nat.le_refl _))
    clear hb1
    go_wp2_with fail
    refine (sIsState_any _ _ _ _ _ _).mono ?_
    rw [S0.out]
    rintro e w2 ⟨rfl, hb2⟩
    clear y0 y1 y2 y3 y4 y5 y6 y7
    have K2 := Lib.hid (K1.out.next hb2)
    have z0 := K2.out.c 0 rfl
    have z1 := K2.out.c 1 rfl
    have z2 := K2.out.c 2 rfl
    have z3 := K2.out.c 3 rfl
    have z4 := K2.out.c 4 rfl
    have z5 := K2.out.c 5 rfl
    have z6 := K2.out.c 6 rfl
    have z7 := K2.out.c 7 rfl
    have HB2 := Lib.hid (below_next hb2 HB1.out (Nat.le_refl _))
    clear hb2
    go_wp2_with fail
    go_ret
    exact ⟨ret_bool E.out.symm, HB2.out⟩
  obtain ⟨B, rfl⟩ : ∃ B : Nat, b = (B : Int) := ⟨b.toNat, by rw [inR_iff] at hv; omega⟩
  have hB : B < 4294967296 := by rw [inR_iff] at hv; omega
  clear hv
  have hL : bitCnt B 32 ≤ 32 := bitCnt_le B 32
  obtain ⟨l, hl⟩ : ∃ l, bitCnt B 32 = l := ⟨_, rfl⟩
  have HL := Lib.hid hl
  rw [hl] at hL
  clear hl
  have ON := Lib.hid (show oneMem (B : Int) = decide (l = 1) by unfold oneMem; rw [Int.toNat_natCast, HL.out])
  have OI := Lib.hid (oneMem_iff hB)
  rcases bool_cases (isState t m d s B) with h7 | h7
  case inr =>
    have S0 := Lib.hid h7
    clear h7
    have E := Lib.hid (show isFrame 3 r t m d s B zs = false by rw [E1.out]; simp [S0.out])
    have x0 := KX.out.c 0 rfl
    have x1 := KX.out.c 1 rfl
    have x2 := KX.out.c 2 rfl
    have x3 := KX.out.c 3 rfl
    have x4 := KX.out.c 4 rfl
    have x5 := KX.out.c 5 rfl
    have x6 := KX.out.c 6 rfl
    have x7 := KX.out.c 7 rfl
    go_enter Try.func115, Try.ntmps115
    go_wp2_with (first | rw [HW0.out] | (go_at_call 186; refine (l06Kind_any _ _).mono ?_; rw [h1]; rintro e w' ⟨rfl, rfl⟩) | (go_at_call 116; refine (l01In_any _ _ _ _).mono ?_; rw [h2]; rintro e w' ⟨rfl, rfl⟩) | (go_at_call 187; refine (l06Size_any _ _ _).mono ?_; rw [h3]; rintro e w' ⟨rfl, rfl⟩) | (go_at_call 127; refine (sIsBytes_any _ _ _ zs _ H0.out hn).mono ?_; rw [h4]; rintro e w' ⟨rfl, rfl⟩))
    refine (sMembersOf_yes B hB _).mono ?_
    rw [HL.out]
    rintro e w1 ⟨A1, c1, rfl, hb1⟩
    clear x0 x1 x2 x3 x4 x5 x6 x7
    have K1 := Lib.hid (KX.out.next hb1)
    have y0 := K1.out.c 0 rfl
    have y1 := K1.out.c 1 rfl
    have y2 := K1.out.c 2 rfl
    have y3 := K1.out.c 3 rfl
    have y4 := K1.out.c 4 rfl
    have y5 := K1.out.c 5 rfl
    have y6 := K1.out.c 6 rfl
    have y7 := K1.out.c 7 rfl
    have HB1 := Lib.hid (below_next hb1 HB.out (Nat.le_refl _))
    clear hb1
    go_wp2_with fail
    refine (sIsState_any _ _ _ _ _ _).mono ?_
    rw [S0.out]
    rintro e w2 ⟨rfl, hb2⟩
    clear y0 y1 y2 y3 y4 y5 y6 y7
    have K2 := Lib.hid (K1.out.next hb2)
    have z0 := K2.out.c 0 rfl
    have z1 := K2.out.c 1 rfl
    have z2 := K2.out.c 2 rfl
    have z3 := K2.out.c 3 rfl
    have z4 := K2.out.c 4 rfl
    have z5 := K2.out.c 5 rfl
    have z6 := K2.out.c 6 rfl
    have z7 := K2.out.c 7 rfl
    have HB2 := Lib.hid (below_next hb2 HB1.out (Nat.le_refl _))
    clear hb2
    go_wp2_with fail
    go_ret
    exact ⟨ret_bool E.out.symm, HB2.out⟩
  have S0 := Lib.hid h7
  clear h7
  rcases num_cases m 0 with ⟨h8, h8'⟩ | ⟨h8, h8'⟩
  case inr =>
    have E := Lib.hid (isFrame_cold E1.out (.inl h8'))
    clear h8'
    have x0 := KX.out.c 0 rfl
    have x1 := KX.out.c 1 rfl
    have x2 := KX.out.c 2 rfl
    have x3 := KX.out.c 3 rfl
    have x4 := KX.out.c 4 rfl
    have x5 := KX.out.c 5 rfl
    have x6 := KX.out.c 6 rfl
    have x7 := KX.out.c 7 rfl
    go_enter Try.func115, Try.ntmps115
    go_wp2_with (first | rw [HW0.out] | (go_at_call 186; refine (l06Kind_any _ _).mono ?_; rw [h1]; rintro e w' ⟨rfl, rfl⟩) | (go_at_call 116; refine (l01In_any _ _ _ _).mono ?_; rw [h2]; rintro e w' ⟨rfl, rfl⟩) | (go_at_call 187; refine (l06Size_any _ _ _).mono ?_; rw [h3]; rintro e w' ⟨rfl, rfl⟩) | (go_at_call 127; refine (sIsBytes_any _ _ _ zs _ H0.out hn).mono ?_; rw [h4]; rintro e w' ⟨rfl, rfl⟩))
    refine (sMembersOf_yes B hB _).mono ?_
    rw [HL.out]
    rintro e w1 ⟨A1, c1, rfl, hb1⟩
    clear x0 x1 x2 x3 x4 x5 x6 x7
    have K1 := Lib.hid (KX.out.next hb1)
    have y0 := K1.out.c 0 rfl
    have y1 := K1.out.c 1 rfl
    have y2 := K1.out.c 2 rfl
    have y3 := K1.out.c 3 rfl
    have y4 := K1.out.c 4 rfl
    have y5 := K1.out.c 5 rfl
    have y6 := K1.out.c 6 rfl
    have y7 := K1.out.c 7 rfl
    have HB1 := Lib.hid (below_next hb1 HB.out (Nat.le_refl _))
    clear hb1
    go_wp2_with fail
    refine (sIsState_any _ _ _ _ _ _).mono ?_
    rw [S0.out]
    rintro e w2 ⟨rfl, hb2⟩
    clear y0 y1 y2 y3 y4 y5 y6 y7
    have K2 := Lib.hid (K1.out.next hb2)
    have z0 := K2.out.c 0 rfl
    have z1 := K2.out.c 1 rfl
    have z2 := K2.out.c 2 rfl
    have z3 := K2.out.c 3 rfl
    have z4 := K2.out.c 4 rfl
    have z5 := K2.out.c 5 rfl
    have z6 := K2.out.c 6 rfl
    have z7 := K2.out.c 7 rfl
    have HB2 := Lib.hid (below_next hb2 HB1.out (Nat.le_refl _))
    clear hb2
    go_wp2_with fail
    go_ret
    exact ⟨ret_bool E.out.symm, HB2.out⟩
  subst h8'
  clear h8
  by_cases h9 : l = 1
  case neg =>
    have f9 : ((l : Int) == 1) = false := by simp; omega
    have E := Lib.hid (isFrame_cold E1.out (.inr (.inl (by rw [ON.out]; simp [h9]))))
    clear h9
    have x0 := KX.out.c 0 rfl
    have x1 := KX.out.c 1 rfl
    have x2 := KX.out.c 2 rfl
    have x3 := KX.out.c 3 rfl
    have x4 := KX.out.c 4 rfl
    have x5 := KX.out.c 5 rfl
    have x6 := KX.out.c 6 rfl
    have x7 := KX.out.c 7 rfl
    go_enter Try.func115, Try.ntmps115
    go_wp2_with (first | rw [HW0.out] | (go_at_call 186; refine (l06Kind_any _ _).mono ?_; rw [h1]; rintro e w' ⟨rfl, rfl⟩) | (go_at_call 116; refine (l01In_any _ _ _ _).mono ?_; rw [h2]; rintro e w' ⟨rfl, rfl⟩) | (go_at_call 187; refine (l06Size_any _ _ _).mono ?_; rw [h3]; rintro e w' ⟨rfl, rfl⟩) | (go_at_call 127; refine (sIsBytes_any _ _ _ zs _ H0.out hn).mono ?_; rw [h4]; rintro e w' ⟨rfl, rfl⟩))
    refine (sMembersOf_yes B hB _).mono ?_
    rw [HL.out]
    rintro e w1 ⟨A1, c1, rfl, hb1⟩
    clear x0 x1 x2 x3 x4 x5 x6 x7
    have K1 := Lib.hid (KX.out.next hb1)
    have y0 := K1.out.c 0 rfl
    have y1 := K1.out.c 1 rfl
    have y2 := K1.out.c 2 rfl
    have y3 := K1.out.c 3 rfl
    have y4 := K1.out.c 4 rfl
    have y5 := K1.out.c 5 rfl
    have y6 := K1.out.c 6 rfl
    have y7 := K1.out.c 7 rfl
    have HB1 := Lib.hid (below_next hb1 HB.out (Nat.le_refl _))
    clear hb1
    go_wp2_with fail
    refine (sIsState_any _ _ _ _ _ _).mono ?_
    rw [S0.out]
    rintro e w2 ⟨rfl, hb2⟩
    clear y0 y1 y2 y3 y4 y5 y6 y7
    have K2 := Lib.hid (K1.out.next hb2)
    have z0 := K2.out.c 0 rfl
    have z1 := K2.out.c 1 rfl
    have z2 := K2.out.c 2 rfl
    have z3 := K2.out.c 3 rfl
    have z4 := K2.out.c 4 rfl
    have z5 := K2.out.c 5 rfl
    have z6 := K2.out.c 6 rfl
    have z7 := K2.out.c 7 rfl
    have HB2 := Lib.hid (below_next hb2 HB1.out (Nat.le_refl _))
    clear hb2
    go_wp2_with fail
    go_ret
    exact ⟨ret_bool E.out.symm, HB2.out⟩
  subst h9
  have OT := Lib.hid (show oneMem (B : Int) = true by rw [ON.out]; rfl)
  rcases num_cases r 0 with ⟨h11, h11'⟩ | ⟨h11, h11'⟩
  case inr =>
    have E := Lib.hid (isFrame_cold E1.out (.inr (.inr h11')))
    clear h11'
    have x0 := KX.out.c 0 rfl
    have x1 := KX.out.c 1 rfl
    have x2 := KX.out.c 2 rfl
    have x3 := KX.out.c 3 rfl
    have x4 := KX.out.c 4 rfl
    have x5 := KX.out.c 5 rfl
    have x6 := KX.out.c 6 rfl
    have x7 := KX.out.c 7 rfl
    go_enter Try.func115, Try.ntmps115
    go_wp2_with (first | rw [HW0.out] | (go_at_call 186; refine (l06Kind_any _ _).mono ?_; rw [h1]; rintro e w' ⟨rfl, rfl⟩) | (go_at_call 116; refine (l01In_any _ _ _ _).mono ?_; rw [h2]; rintro e w' ⟨rfl, rfl⟩) | (go_at_call 187; refine (l06Size_any _ _ _).mono ?_; rw [h3]; rintro e w' ⟨rfl, rfl⟩) | (go_at_call 127; refine (sIsBytes_any _ _ _ zs _ H0.out hn).mono ?_; rw [h4]; rintro e w' ⟨rfl, rfl⟩))
    refine (sMembersOf_yes B hB _).mono ?_
    rw [HL.out]
    rintro e w1 ⟨A1, c1, rfl, hb1⟩
    clear x0 x1 x2 x3 x4 x5 x6 x7
    have K1 := Lib.hid (KX.out.next hb1)
    have y0 := K1.out.c 0 rfl
    have y1 := K1.out.c 1 rfl
    have y2 := K1.out.c 2 rfl
    have y3 := K1.out.c 3 rfl
    have y4 := K1.out.c 4 rfl
    have y5 := K1.out.c 5 rfl
    have y6 := K1.out.c 6 rfl
    have y7 := K1.out.c 7 rfl
    have HB1 := Lib.hid (below_next hb1 HB.out (Nat.le_refl _))
    clear hb1
    go_wp2_with fail
    refine (sIsState_any _ _ _ _ _ _).mono ?_
    rw [S0.out]
    rintro e w2 ⟨rfl, hb2⟩
    clear y0 y1 y2 y3 y4 y5 y6 y7
    have K2 := Lib.hid (K1.out.next hb2)
    have z0 := K2.out.c 0 rfl
    have z1 := K2.out.c 1 rfl
    have z2 := K2.out.c 2 rfl
    have z3 := K2.out.c 3 rfl
    have z4 := K2.out.c 4 rfl
    have z5 := K2.out.c 5 rfl
    have z6 := K2.out.c 6 rfl
    have z7 := K2.out.c 7 rfl
    have HB2 := Lib.hid (below_next hb2 HB1.out (Nat.le_refl _))
    clear hb2
    go_wp2_with fail
    go_ret
    exact ⟨ret_bool E.out.symm, HB2.out⟩
  subst h11'
  clear h11
  have E := Lib.hid (show isFrame 3 0 t 0 d s B zs = true by rw [E1.out, S0.out, OT.out]; rfl)
  have x0 := KX.out.c 0 rfl
  have x1 := KX.out.c 1 rfl
  have x2 := KX.out.c 2 rfl
  have x3 := KX.out.c 3 rfl
  have x4 := KX.out.c 4 rfl
  have x5 := KX.out.c 5 rfl
  have x6 := KX.out.c 6 rfl
  have x7 := KX.out.c 7 rfl
  go_enter Try.func115, Try.ntmps115
  go_wp2_with (first | rw [HW0.out] | (go_at_call 186; refine (l06Kind_any _ _).mono ?_; rw [h1]; rintro e w' ⟨rfl, rfl⟩) | (go_at_call 116; refine (l01In_any _ _ _ _).mono ?_; rw [h2]; rintro e w' ⟨rfl, rfl⟩) | (go_at_call 187; refine (l06Size_any _ _ _).mono ?_; rw [h3]; rintro e w' ⟨rfl, rfl⟩) | (go_at_call 127; refine (sIsBytes_any _ _ _ zs _ H0.out hn).mono ?_; rw [h4]; rintro e w' ⟨rfl, rfl⟩))
  refine (sMembersOf_yes B hB _).mono ?_
  rw [HL.out]
  rintro e w1 ⟨A1, c1, rfl, hb1⟩
  clear x0 x1 x2 x3 x4 x5 x6 x7
  have K1 := Lib.hid (KX.out.next hb1)
  have y0 := K1.out.c 0 rfl
  have y1 := K1.out.c 1 rfl
  have y2 := K1.out.c 2 rfl
  have y3 := K1.out.c 3 rfl
  have y4 := K1.out.c 4 rfl
  have y5 := K1.out.c 5 rfl
  have y6 := K1.out.c 6 rfl
  have y7 := K1.out.c 7 rfl
  have HB1 := Lib.hid (below_next hb1 HB.out (Nat.le_refl _))
  clear hb1
  go_wp2_with fail
  refine (sIsState_any _ _ _ _ _ _).mono ?_
  rw [S0.out]
  rintro e w2 ⟨rfl, hb2⟩
  clear y0 y1 y2 y3 y4 y5 y6 y7
  have K2 := Lib.hid (K1.out.next hb2)
  have z0 := K2.out.c 0 rfl
  have z1 := K2.out.c 1 rfl
  have z2 := K2.out.c 2 rfl
  have z3 := K2.out.c 3 rfl
  have z4 := K2.out.c 4 rfl
  have z5 := K2.out.c 5 rfl
  have z6 := K2.out.c 6 rfl
  have z7 := K2.out.c 7 rfl
  have HB2 := Lib.hid (below_next hb2 HB1.out (Nat.le_refl _))
  clear hb2
  go_wp2_with fail
  go_ret
  exact ⟨ret_bool E.out.symm, HB2.out⟩

set_option maxHeartbeats 8000000 in
theorem iIsFrame_any (k r t m d s b : Int) (A : Option Addr) (n c : Nat) (zs : List Int) (w : World) (h : RI w w.heap.size A n zs) (hn : n ≤ 1099511627776) :
    Calls Try.prog 119 #[.agg #[.int .i64 k, .int .i64 r, .int .i64 t, .int .i64 m, .int .i64 d, .int .i64 s, .int .i64 b, .slice A n c]] w (RetV w (.bool (isFrame k r t m d s b zs))) := by
  have L := Lib.hid h.len
  rcases bool_cases (inR k 0 3) with h1 | h1
  case inr =>
    have E := Lib.hid (show isFrame k r t m d s b zs = false by simp [isFrame, h1])
    go_enter Try.func119, Try.ntmps119
    go_wp2_with (go_at_call 193; refine (isKind_any _ _).mono ?_; rw [h1]; rintro e w' ⟨rfl, rfl⟩)
    go_ret
    exact ⟨ret_bool E.out.symm, by go_grown⟩
  rcases bool_cases (inR r 0 7) with h2 | h2
  case inr =>
    have E := Lib.hid (show isFrame k r t m d s b zs = false by simp [isFrame, h2])
    go_enter Try.func119, Try.ntmps119
    go_wp2_with (first | (go_at_call 193; refine (isKind_any _ _).mono ?_; rw [h1]; rintro e w' ⟨rfl, rfl⟩) | (go_at_call 120; refine (within_any _ _ _ _).mono ?_; rw [h2]; rintro e w' ⟨rfl, rfl⟩))
    go_ret
    exact ⟨ret_bool E.out.symm, by go_grown⟩
  rcases bool_cases (frSize k n) with h3 | h3
  case inr =>
    have E := Lib.hid (show isFrame k r t m d s b zs = false by simp [isFrame, h3, L.out])
    go_enter Try.func119, Try.ntmps119
    go_wp2_with (first | (go_at_call 193; refine (isKind_any _ _).mono ?_; rw [h1]; rintro e w' ⟨rfl, rfl⟩) | (go_at_call 120; refine (within_any _ _ _ _).mono ?_; rw [h2]; rintro e w' ⟨rfl, rfl⟩) | (go_at_call 194; refine (isDataSize_any _ _ _).mono ?_; rw [h3]; rintro e w' ⟨rfl, rfl⟩))
    go_ret
    exact ⟨ret_bool E.out.symm, by go_grown⟩
  rcases bool_cases (isBytes zs) with h4 | h4
  case inr =>
    have E := Lib.hid (show isFrame k r t m d s b zs = false by simp [isFrame, h4])
    go_enter Try.func119, Try.ntmps119
    go_wp2_with (first | (go_at_call 193; refine (isKind_any _ _).mono ?_; rw [h1]; rintro e w' ⟨rfl, rfl⟩) | (go_at_call 120; refine (within_any _ _ _ _).mono ?_; rw [h2]; rintro e w' ⟨rfl, rfl⟩) | (go_at_call 194; refine (isDataSize_any _ _ _).mono ?_; rw [h3]; rintro e w' ⟨rfl, rfl⟩) | (go_at_call 195; refine (iIsBytes_any _ _ _ zs _ (RI.alloc' h _) hn).mono ?_; rw [h4]; rintro e w' ⟨rfl, rfl⟩))
    go_ret
    exact ⟨ret_bool E.out.symm, by go_grown⟩
  have E0 := Lib.hid (show isFrame k r t m d s b zs = (if k = 0 then decide (t = 0 ∧ m = 0 ∧ d = 0 ∧ s = 0 ∧ b = 0) else if k = 3 then isState t m d s b && (decide (m = 0) && (oneMem b && decide (r = 0))) else isState t m d s b) by simp [isFrame, L.out, h1, h2, h3, h4])
  rcases num_cases k 0 with ⟨h5, rfl⟩ | ⟨h5, h5'⟩
  · clear h5
    go_enter Try.func119, Try.ntmps119
    go_wp2_with (first | (go_at_call 193; refine (isKind_any _ _).mono ?_; rw [h1]; rintro e w' ⟨rfl, rfl⟩) | (go_at_call 120; refine (within_any _ _ _ _).mono ?_; rw [h2]; rintro e w' ⟨rfl, rfl⟩) | (go_at_call 194; refine (isDataSize_any _ _ _).mono ?_; rw [h3]; rintro e w' ⟨rfl, rfl⟩) | (go_at_call 195; refine (iIsBytes_any _ _ _ zs _ (RI.alloc' h _) hn).mono ?_; rw [h4]; rintro e w' ⟨rfl, rfl⟩))
    all_goals
      go_ret
      exact ⟨ret_bool (by rw [E0.out]; simp [*]), by go_grown⟩
  rcases num_cases k 3 with ⟨h6, rfl⟩ | ⟨h6, h6'⟩
  case inr =>
    have E := Lib.hid (show isFrame k r t m d s b zs = isState t m d s b by rw [E0.out, if_neg h5', if_neg h6'])
    clear h5' h6'
    go_enter Try.func119, Try.ntmps119
    go_wp2_with (first | (go_at_call 193; refine (isKind_any _ _).mono ?_; rw [h1]; rintro e w' ⟨rfl, rfl⟩) | (go_at_call 120; refine (within_any _ _ _ _).mono ?_; rw [h2]; rintro e w' ⟨rfl, rfl⟩) | (go_at_call 194; refine (isDataSize_any _ _ _).mono ?_; rw [h3]; rintro e w' ⟨rfl, rfl⟩) | (go_at_call 195; refine (iIsBytes_any _ _ _ zs _ (RI.alloc' h _) hn).mono ?_; rw [h4]; rintro e w' ⟨rfl, rfl⟩))
    refine (iIsState_any _ _ _ _ _ _).mono ?_
    rintro e w1 ⟨rfl, hb1⟩
    go_wp2
    go_ret
    exact ⟨ret_bool E.out.symm, below_next hb1 (below_alloc (Below.refl _ _) (Nat.le_refl _) _) (Nat.le_refl _)⟩
  have E1 := Lib.hid (show isFrame 3 r t m d s b zs = (isState t m d s b && (decide (m = 0) && (oneMem b && decide (r = 0)))) by rw [E0.out, if_neg h5', if_pos rfl])
  clear h5 h5' h6 E0
  obtain ⟨w0, hw0⟩ : ∃ x, w.alloc (.cells #[.int .i64 3, .int .i64 r, .int .i64 t, .int .i64 m, .int .i64 d, .int .i64 s, .int .i64 b, .slice A n c] 33) = x := ⟨_, rfl⟩
  have KX := Lib.hid (show BlkL w0 w.heap.size 33 [.int .i64 3, .int .i64 r, .int .i64 t, .int .i64 m, .int .i64 d, .int .i64 s, .int .i64 b, .slice A n c] from hw0 ▸ BlkL.new w _ _ rfl)
  have hB : Below w.heap.size w w0 := by rw [← hw0]; exact below_alloc (Below.refl _ _) (Nat.le_refl _) _
  have HB := Lib.hid hB
  have H0 := Lib.hid (h.up hB)
  have HW0 := Lib.hid hw0
  clear hw0 hB
  rcases bool_cases (inR b 0 4294967295) with hv | hv
  case inr =>
    have S0 := Lib.hid (show isState t m d s b = false by simp [isState, hv])
    have E := Lib.hid (show isFrame 3 r t m d s b zs = false by rw [E1.out]; simp [S0.out])
    have x0 := KX.out.c 0 rfl
    have x1 := KX.out.c 1 rfl
    have x2 := KX.out.c 2 rfl
    have x3 := KX.out.c 3 rfl
    have x4 := KX.out.c 4 rfl
    have x5 := KX.out.c 5 rfl
    have x6 := KX.out.c 6 rfl
    have x7 := KX.out.c 7 rfl
    go_enter Try.func119, Try.ntmps119
    go_wp2_with (first | rw [HW0.out] | (go_at_call 193; refine (isKind_any _ _).mono ?_; rw [h1]; rintro e w' ⟨rfl, rfl⟩) | (go_at_call 120; refine (within_any _ _ _ _).mono ?_; rw [h2]; rintro e w' ⟨rfl, rfl⟩) | (go_at_call 194; refine (isDataSize_any _ _ _).mono ?_; rw [h3]; rintro e w' ⟨rfl, rfl⟩) | (go_at_call 195; refine (iIsBytes_any _ _ _ zs _ H0.out hn).mono ?_; rw [h4]; rintro e w' ⟨rfl, rfl⟩))
    clear x0 x1 x2 x3 x4 x5 x6 x7
    have K1 := Lib.hid KX.out
    have y0 := K1.out.c 0 rfl
    have y1 := K1.out.c 1 rfl
    have y2 := K1.out.c 2 rfl
    have y3 := K1.out.c 3 rfl
    have y4 := K1.out.c 4 rfl
    have y5 := K1.out.c 5 rfl
    have y6 := K1.out.c 6 rfl
    have y7 := K1.out.c 7 rfl
    have HB1 := Lib.hid HB.out
    refine (iIsState_any _ _ _ _ _ _).mono ?_
    rw [S0.out]
    rintro e w2 ⟨rfl, hb2⟩
    clear y0 y1 y2 y3 y4 y5 y6 y7
    have K2 := Lib.hid (K1.out.next hb2)
    have z0 := K2.out.c 0 rfl
    have z1 := K2.out.c 1 rfl
    have z2 := K2.out.c 2 rfl
    have z3 := K2.out.c 3 rfl
    have z4 := K2.out.c 4 rfl
    have z5 := K2.out.c 5 rfl
    have z6 := K2.out.c 6 rfl
    have z7 := K2.out.c 7 rfl
    have HB2 := Lib.hid (below_next hb2 HB1.out (Nat.le_refl _))
    clear hb2
    go_wp2_with fail
    go_ret
    exact ⟨ret_bool E.out.symm, HB2.out⟩
  obtain ⟨B, rfl⟩ : ∃ B : Nat, b = (B : Int) := ⟨b.toNat, by rw [inR_iff] at hv; omega⟩
  have hB : B < 4294967296 := by rw [inR_iff] at hv; omega
  clear hv
  have hL : bitCnt B 32 ≤ 32 := bitCnt_le B 32
  obtain ⟨l, hl⟩ : ∃ l, bitCnt B 32 = l := ⟨_, rfl⟩
  have HL := Lib.hid hl
  rw [hl] at hL
  clear hl
  have ON := Lib.hid (show oneMem (B : Int) = decide (l = 1) by unfold oneMem; rw [Int.toNat_natCast, HL.out])
  have OI := Lib.hid (oneMem_iff hB)
  rcases bool_cases (isState t m d s B) with h7 | h7
  case inr =>
    have S0 := Lib.hid h7
    clear h7
    have E := Lib.hid (show isFrame 3 r t m d s B zs = false by rw [E1.out]; simp [S0.out])
    have x0 := KX.out.c 0 rfl
    have x1 := KX.out.c 1 rfl
    have x2 := KX.out.c 2 rfl
    have x3 := KX.out.c 3 rfl
    have x4 := KX.out.c 4 rfl
    have x5 := KX.out.c 5 rfl
    have x6 := KX.out.c 6 rfl
    have x7 := KX.out.c 7 rfl
    go_enter Try.func119, Try.ntmps119
    go_wp2_with (first | rw [HW0.out] | (go_at_call 193; refine (isKind_any _ _).mono ?_; rw [h1]; rintro e w' ⟨rfl, rfl⟩) | (go_at_call 120; refine (within_any _ _ _ _).mono ?_; rw [h2]; rintro e w' ⟨rfl, rfl⟩) | (go_at_call 194; refine (isDataSize_any _ _ _).mono ?_; rw [h3]; rintro e w' ⟨rfl, rfl⟩) | (go_at_call 195; refine (iIsBytes_any _ _ _ zs _ H0.out hn).mono ?_; rw [h4]; rintro e w' ⟨rfl, rfl⟩))
    clear x0 x1 x2 x3 x4 x5 x6 x7
    have K1 := Lib.hid KX.out
    have y0 := K1.out.c 0 rfl
    have y1 := K1.out.c 1 rfl
    have y2 := K1.out.c 2 rfl
    have y3 := K1.out.c 3 rfl
    have y4 := K1.out.c 4 rfl
    have y5 := K1.out.c 5 rfl
    have y6 := K1.out.c 6 rfl
    have y7 := K1.out.c 7 rfl
    have HB1 := Lib.hid HB.out
    refine (iIsState_any _ _ _ _ _ _).mono ?_
    rw [S0.out]
    rintro e w2 ⟨rfl, hb2⟩
    clear y0 y1 y2 y3 y4 y5 y6 y7
    have K2 := Lib.hid (K1.out.next hb2)
    have z0 := K2.out.c 0 rfl
    have z1 := K2.out.c 1 rfl
    have z2 := K2.out.c 2 rfl
    have z3 := K2.out.c 3 rfl
    have z4 := K2.out.c 4 rfl
    have z5 := K2.out.c 5 rfl
    have z6 := K2.out.c 6 rfl
    have z7 := K2.out.c 7 rfl
    have HB2 := Lib.hid (below_next hb2 HB1.out (Nat.le_refl _))
    clear hb2
    go_wp2_with fail
    go_ret
    exact ⟨ret_bool E.out.symm, HB2.out⟩
  have S0 := Lib.hid h7
  clear h7
  rcases num_cases m 0 with ⟨h8, h8'⟩ | ⟨h8, h8'⟩
  case inr =>
    have E := Lib.hid (isFrame_cold E1.out (.inl h8'))
    clear h8'
    have x0 := KX.out.c 0 rfl
    have x1 := KX.out.c 1 rfl
    have x2 := KX.out.c 2 rfl
    have x3 := KX.out.c 3 rfl
    have x4 := KX.out.c 4 rfl
    have x5 := KX.out.c 5 rfl
    have x6 := KX.out.c 6 rfl
    have x7 := KX.out.c 7 rfl
    go_enter Try.func119, Try.ntmps119
    go_wp2_with (first | rw [HW0.out] | (go_at_call 193; refine (isKind_any _ _).mono ?_; rw [h1]; rintro e w' ⟨rfl, rfl⟩) | (go_at_call 120; refine (within_any _ _ _ _).mono ?_; rw [h2]; rintro e w' ⟨rfl, rfl⟩) | (go_at_call 194; refine (isDataSize_any _ _ _).mono ?_; rw [h3]; rintro e w' ⟨rfl, rfl⟩) | (go_at_call 195; refine (iIsBytes_any _ _ _ zs _ H0.out hn).mono ?_; rw [h4]; rintro e w' ⟨rfl, rfl⟩))
    clear x0 x1 x2 x3 x4 x5 x6 x7
    have K1 := Lib.hid KX.out
    have y0 := K1.out.c 0 rfl
    have y1 := K1.out.c 1 rfl
    have y2 := K1.out.c 2 rfl
    have y3 := K1.out.c 3 rfl
    have y4 := K1.out.c 4 rfl
    have y5 := K1.out.c 5 rfl
    have y6 := K1.out.c 6 rfl
    have y7 := K1.out.c 7 rfl
    have HB1 := Lib.hid HB.out
    refine (iIsState_any _ _ _ _ _ _).mono ?_
    rw [S0.out]
    rintro e w2 ⟨rfl, hb2⟩
    clear y0 y1 y2 y3 y4 y5 y6 y7
    have K2 := Lib.hid (K1.out.next hb2)
    have z0 := K2.out.c 0 rfl
    have z1 := K2.out.c 1 rfl
    have z2 := K2.out.c 2 rfl
    have z3 := K2.out.c 3 rfl
    have z4 := K2.out.c 4 rfl
    have z5 := K2.out.c 5 rfl
    have z6 := K2.out.c 6 rfl
    have z7 := K2.out.c 7 rfl
    have HB2 := Lib.hid (below_next hb2 HB1.out (Nat.le_refl _))
    clear hb2
    go_wp2_with fail
    go_ret
    exact ⟨ret_bool E.out.symm, HB2.out⟩
  subst h8'
  clear h8
  by_cases h9 : B = 0
  case pos =>
    have f9 : ((B : Int) != 0) = false := by simp; omega
    have E := Lib.hid (isFrame_cold E1.out (.inr (.inl (Bool.eq_false_iff.2 fun h => (OI.out.1 h).1 h9))))
    clear h9
    have x0 := KX.out.c 0 rfl
    have x1 := KX.out.c 1 rfl
    have x2 := KX.out.c 2 rfl
    have x3 := KX.out.c 3 rfl
    have x4 := KX.out.c 4 rfl
    have x5 := KX.out.c 5 rfl
    have x6 := KX.out.c 6 rfl
    have x7 := KX.out.c 7 rfl
    go_enter Try.func119, Try.ntmps119
    go_wp2_with (first | rw [HW0.out] | (go_at_call 193; refine (isKind_any _ _).mono ?_; rw [h1]; rintro e w' ⟨rfl, rfl⟩) | (go_at_call 120; refine (within_any _ _ _ _).mono ?_; rw [h2]; rintro e w' ⟨rfl, rfl⟩) | (go_at_call 194; refine (isDataSize_any _ _ _).mono ?_; rw [h3]; rintro e w' ⟨rfl, rfl⟩) | (go_at_call 195; refine (iIsBytes_any _ _ _ zs _ H0.out hn).mono ?_; rw [h4]; rintro e w' ⟨rfl, rfl⟩))
    clear x0 x1 x2 x3 x4 x5 x6 x7
    have K1 := Lib.hid KX.out
    have y0 := K1.out.c 0 rfl
    have y1 := K1.out.c 1 rfl
    have y2 := K1.out.c 2 rfl
    have y3 := K1.out.c 3 rfl
    have y4 := K1.out.c 4 rfl
    have y5 := K1.out.c 5 rfl
    have y6 := K1.out.c 6 rfl
    have y7 := K1.out.c 7 rfl
    have HB1 := Lib.hid HB.out
    refine (iIsState_any _ _ _ _ _ _).mono ?_
    rw [S0.out]
    rintro e w2 ⟨rfl, hb2⟩
    clear y0 y1 y2 y3 y4 y5 y6 y7
    have K2 := Lib.hid (K1.out.next hb2)
    have z0 := K2.out.c 0 rfl
    have z1 := K2.out.c 1 rfl
    have z2 := K2.out.c 2 rfl
    have z3 := K2.out.c 3 rfl
    have z4 := K2.out.c 4 rfl
    have z5 := K2.out.c 5 rfl
    have z6 := K2.out.c 6 rfl
    have z7 := K2.out.c 7 rfl
    have HB2 := Lib.hid (below_next hb2 HB1.out (Nat.le_refl _))
    clear hb2
    go_wp2_with fail
    go_ret
    exact ⟨ret_bool E.out.symm, HB2.out⟩
  have g9 : ((B : Int) != 0) = true := by simp; omega
  obtain ⟨P, hP⟩ : ∃ P, B &&& (B - 1) = P := ⟨_, rfl⟩
  have hbit : bits .and .i64 (B : Int) ((B : Int) - 1) = (P : Int) := by rw [← hP, ← bits_and_i64_nat B (B - 1) (by omega) (by omega), show ((B - 1 : Nat) : Int) = (B : Int) - 1 by omega]
  have HP := Lib.hid hP
  clear hP
  by_cases h10 : P = 0
  case neg =>
    have f10 : ((P : Int) == 0) = false := by simp; omega
    have E := Lib.hid (isFrame_cold E1.out (.inr (.inl (Bool.eq_false_iff.2 fun h => h10 (by rw [← HP.out]; exact (OI.out.1 h).2)))))
    clear h10
    have x0 := KX.out.c 0 rfl
    have x1 := KX.out.c 1 rfl
    have x2 := KX.out.c 2 rfl
    have x3 := KX.out.c 3 rfl
    have x4 := KX.out.c 4 rfl
    have x5 := KX.out.c 5 rfl
    have x6 := KX.out.c 6 rfl
    have x7 := KX.out.c 7 rfl
    go_enter Try.func119, Try.ntmps119
    go_wp2_with (first | rw [HW0.out] | (go_at_call 193; refine (isKind_any _ _).mono ?_; rw [h1]; rintro e w' ⟨rfl, rfl⟩) | (go_at_call 120; refine (within_any _ _ _ _).mono ?_; rw [h2]; rintro e w' ⟨rfl, rfl⟩) | (go_at_call 194; refine (isDataSize_any _ _ _).mono ?_; rw [h3]; rintro e w' ⟨rfl, rfl⟩) | (go_at_call 195; refine (iIsBytes_any _ _ _ zs _ H0.out hn).mono ?_; rw [h4]; rintro e w' ⟨rfl, rfl⟩))
    clear x0 x1 x2 x3 x4 x5 x6 x7
    have K1 := Lib.hid KX.out
    have y0 := K1.out.c 0 rfl
    have y1 := K1.out.c 1 rfl
    have y2 := K1.out.c 2 rfl
    have y3 := K1.out.c 3 rfl
    have y4 := K1.out.c 4 rfl
    have y5 := K1.out.c 5 rfl
    have y6 := K1.out.c 6 rfl
    have y7 := K1.out.c 7 rfl
    have HB1 := Lib.hid HB.out
    refine (iIsState_any _ _ _ _ _ _).mono ?_
    rw [S0.out]
    rintro e w2 ⟨rfl, hb2⟩
    clear y0 y1 y2 y3 y4 y5 y6 y7
    have K2 := Lib.hid (K1.out.next hb2)
    have z0 := K2.out.c 0 rfl
    have z1 := K2.out.c 1 rfl
    have z2 := K2.out.c 2 rfl
    have z3 := K2.out.c 3 rfl
    have z4 := K2.out.c 4 rfl
    have z5 := K2.out.c 5 rfl
    have z6 := K2.out.c 6 rfl
    have z7 := K2.out.c 7 rfl
    have HB2 := Lib.hid (below_next hb2 HB1.out (Nat.le_refl _))
    clear hb2
    go_wp2_with fail
    go_ret
    exact ⟨ret_bool E.out.symm, HB2.out⟩
  subst h10
  have OT := Lib.hid (show oneMem (B : Int) = true from OI.out.2 ⟨h9, HP.out⟩)
  rcases num_cases r 0 with ⟨h11, h11'⟩ | ⟨h11, h11'⟩
  case inr =>
    have E := Lib.hid (isFrame_cold E1.out (.inr (.inr h11')))
    clear h11'
    have x0 := KX.out.c 0 rfl
    have x1 := KX.out.c 1 rfl
    have x2 := KX.out.c 2 rfl
    have x3 := KX.out.c 3 rfl
    have x4 := KX.out.c 4 rfl
    have x5 := KX.out.c 5 rfl
    have x6 := KX.out.c 6 rfl
    have x7 := KX.out.c 7 rfl
    go_enter Try.func119, Try.ntmps119
    go_wp2_with (first | rw [HW0.out] | (go_at_call 193; refine (isKind_any _ _).mono ?_; rw [h1]; rintro e w' ⟨rfl, rfl⟩) | (go_at_call 120; refine (within_any _ _ _ _).mono ?_; rw [h2]; rintro e w' ⟨rfl, rfl⟩) | (go_at_call 194; refine (isDataSize_any _ _ _).mono ?_; rw [h3]; rintro e w' ⟨rfl, rfl⟩) | (go_at_call 195; refine (iIsBytes_any _ _ _ zs _ H0.out hn).mono ?_; rw [h4]; rintro e w' ⟨rfl, rfl⟩))
    clear x0 x1 x2 x3 x4 x5 x6 x7
    have K1 := Lib.hid KX.out
    have y0 := K1.out.c 0 rfl
    have y1 := K1.out.c 1 rfl
    have y2 := K1.out.c 2 rfl
    have y3 := K1.out.c 3 rfl
    have y4 := K1.out.c 4 rfl
    have y5 := K1.out.c 5 rfl
    have y6 := K1.out.c 6 rfl
    have y7 := K1.out.c 7 rfl
    have HB1 := Lib.hid HB.out
    refine (iIsState_any _ _ _ _ _ _).mono ?_
    rw [S0.out]
    rintro e w2 ⟨rfl, hb2⟩
    clear y0 y1 y2 y3 y4 y5 y6 y7
    have K2 := Lib.hid (K1.out.next hb2)
    have z0 := K2.out.c 0 rfl
    have z1 := K2.out.c 1 rfl
    have z2 := K2.out.c 2 rfl
    have z3 := K2.out.c 3 rfl
    have z4 := K2.out.c 4 rfl
    have z5 := K2.out.c 5 rfl
    have z6 := K2.out.c 6 rfl
    have z7 := K2.out.c 7 rfl
    have HB2 := Lib.hid (below_next hb2 HB1.out (Nat.le_refl _))
    clear hb2
    go_wp2_with fail
    go_ret
    exact ⟨ret_bool E.out.symm, HB2.out⟩
  subst h11'
  clear h11
  have E := Lib.hid (show isFrame 3 0 t 0 d s B zs = true by rw [E1.out, S0.out, OT.out]; rfl)
  have x0 := KX.out.c 0 rfl
  have x1 := KX.out.c 1 rfl
  have x2 := KX.out.c 2 rfl
  have x3 := KX.out.c 3 rfl
  have x4 := KX.out.c 4 rfl
  have x5 := KX.out.c 5 rfl
  have x6 := KX.out.c 6 rfl
  have x7 := KX.out.c 7 rfl
  go_enter Try.func119, Try.ntmps119
  go_wp2_with (first | rw [HW0.out] | (go_at_call 193; refine (isKind_any _ _).mono ?_; rw [h1]; rintro e w' ⟨rfl, rfl⟩) | (go_at_call 120; refine (within_any _ _ _ _).mono ?_; rw [h2]; rintro e w' ⟨rfl, rfl⟩) | (go_at_call 194; refine (isDataSize_any _ _ _).mono ?_; rw [h3]; rintro e w' ⟨rfl, rfl⟩) | (go_at_call 195; refine (iIsBytes_any _ _ _ zs _ H0.out hn).mono ?_; rw [h4]; rintro e w' ⟨rfl, rfl⟩))
  clear x0 x1 x2 x3 x4 x5 x6 x7
  have K1 := Lib.hid KX.out
  have y0 := K1.out.c 0 rfl
  have y1 := K1.out.c 1 rfl
  have y2 := K1.out.c 2 rfl
  have y3 := K1.out.c 3 rfl
  have y4 := K1.out.c 4 rfl
  have y5 := K1.out.c 5 rfl
  have y6 := K1.out.c 6 rfl
  have y7 := K1.out.c 7 rfl
  have HB1 := Lib.hid HB.out
  refine (iIsState_any _ _ _ _ _ _).mono ?_
  rw [S0.out]
  rintro e w2 ⟨rfl, hb2⟩
  clear y0 y1 y2 y3 y4 y5 y6 y7
  have K2 := Lib.hid (K1.out.next hb2)
  have z0 := K2.out.c 0 rfl
  have z1 := K2.out.c 1 rfl
  have z2 := K2.out.c 2 rfl
  have z3 := K2.out.c 3 rfl
  have z4 := K2.out.c 4 rfl
  have z5 := K2.out.c 5 rfl
  have z6 := K2.out.c 6 rfl
  have z7 := K2.out.c 7 rfl
  have HB2 := Lib.hid (below_next hb2 HB1.out (Nat.le_refl _))
  clear hb2
  go_wp2_with fail
  go_ret
  exact ⟨ret_bool E.out.symm, HB2.out⟩

end Go.Proofs.Ytjehkjdehkdjcaa

namespace Go.Proofs.Ytjehkjdehkdjcaa
open Go.RowKit
/-- what IsVerdict answers -/
def isV (x : Vdt) (zs : List Int) : Bool := if x.st = 3 then isFrame x.kd x.rq x.tm x.md x.rd x.sl x.mb zs else inR x.st 0 4 && sF x.kd x.rq x.tm x.md x.rd x.sl x.mb 0 0 0 0 0 0 0 zs []
theorem isV_3 {x : Vdt} {zs : List Int} (h : x.st = 3) : isV x zs = isFrame x.kd x.rq x.tm x.md x.rd x.sl x.mb zs := by unfold isV; rw [if_pos h]
theorem isV_no {x : Vdt} {zs : List Int} (h : x.st ≠ 3) (h2 : inR x.st 0 4 = false) : isV x zs = false := by unfold isV; rw [if_neg h, h2]; rfl
theorem isV_yes {x : Vdt} {zs : List Int} (h : x.st ≠ 3) (h2 : inR x.st 0 4 = true) : isV x zs = sF x.kd x.rq x.tm x.md x.rd x.sl x.mb 0 0 0 0 0 0 0 zs [] := by unfold isV; rw [if_neg h, h2]; rfl

set_option maxHeartbeats 8000000 in
theorem sIsV_any (x : Vdt) (A : Option Addr) (n c : Nat) (zs : List Int) (w : World) (h : RI w w.heap.size A n zs) (hn : n ≤ 1099511627776) :
    Calls Try.prog 17 #[aggV x A n c] w (RetV w (.bool (isV x zs))) := by
  unfold aggV
  obtain ⟨V, hV⟩ : ∃ V, isV x zs = V := ⟨_, rfl⟩
  rw [hV]
  rcases num_cases x.st 3 with ⟨h1, h1'⟩ | ⟨h1, h1'⟩
  · have E := Lib.hid (isV_3 (zs := zs) h1')
    have HV := Lib.hid hV
    clear h1' hV
    go_enter Try.func17, Try.ntmps17
    go_wp2_with (go_at_call 115; refine (sIsFrame_any _ _ _ _ _ _ _ _ _ _ zs _ (RI.alloc' h _) hn).mono ?_; rintro e w1 ⟨rfl, hb1⟩)
    go_ret
    exact ⟨ret_bool (E.out.symm.trans HV.out), below_next hb1 (below_alloc (Below.refl _ _) (Nat.le_refl _) _) (Nat.le_refl _)⟩
  rcases bool_cases (inR x.st 0 4) with h2 | h2
  case inr =>
    have E := Lib.hid (isV_no (zs := zs) h1' h2)
    have HV := Lib.hid hV
    clear h1' hV
    go_enter Try.func17, Try.ntmps17
    go_wp2_with (go_at_call 116; refine (l01In_any _ _ _ _).mono ?_; rw [h2]; rintro e w' ⟨rfl, rfl⟩)
    go_ret
    exact ⟨ret_bool (E.out.symm.trans HV.out), below_alloc (Below.refl _ _) (Nat.le_refl _) _⟩
  have E := Lib.hid (isV_yes (zs := zs) h1' h2)
  have HV := Lib.hid hV
  clear h1' hV
  go_enter Try.func17, Try.ntmps17
  go_wp2_with (first | (go_at_call 116; refine (l01In_any _ _ _ _).mono ?_; rw [h2]; rintro e w' ⟨rfl, rfl⟩) | (go_at_call 117; refine (l28Same_any _ _ _ _ _ _ _ _ _ _ _ _ _ _ _ _ _ _ _ _ zs [] _ (RI.alloc' h _) (RI.nil _ _ _) hn (by omega)).mono ?_; rintro e w1 ⟨rfl, hb1⟩))
  go_ret
  exact ⟨ret_bool (E.out.symm.trans HV.out), below_next hb1 (below_alloc (Below.refl _ _) (Nat.le_refl _) _) (Nat.le_refl _)⟩

set_option maxHeartbeats 8000000 in
theorem iIsV_any (x : Vdt) (A : Option Addr) (n c : Nat) (zs : List Int) (w : World) (h : RI w w.heap.size A n zs) (hn : n ≤ 1099511627776) :
    Calls Try.prog 19 #[aggV x A n c] w (RetV w (.bool (isV x zs))) := by
  unfold aggV
  obtain ⟨V, hV⟩ : ∃ V, isV x zs = V := ⟨_, rfl⟩
  rw [hV]
  rcases num_cases x.st 3 with ⟨h1, h1'⟩ | ⟨h1, h1'⟩
  · have E := Lib.hid (isV_3 (zs := zs) h1')
    have HV := Lib.hid hV
    clear h1' hV
    go_enter Try.func19, Try.ntmps19
    go_wp2_with (go_at_call 119; refine (iIsFrame_any _ _ _ _ _ _ _ _ _ _ zs _ (RI.alloc' h _) hn).mono ?_; rintro e w1 ⟨rfl, hb1⟩)
    go_ret
    exact ⟨ret_bool (E.out.symm.trans HV.out), below_next hb1 (below_alloc (Below.refl _ _) (Nat.le_refl _) _) (Nat.le_refl _)⟩
  rcases bool_cases (inR x.st 0 4) with h2 | h2
  case inr =>
    have E := Lib.hid (isV_no (zs := zs) h1' h2)
    have HV := Lib.hid hV
    clear h1' hV
    go_enter Try.func19, Try.ntmps19
    go_wp2_with (go_at_call 120; refine (within_any _ _ _ _).mono ?_; rw [h2]; rintro e w' ⟨rfl, rfl⟩)
    go_ret
    exact ⟨ret_bool (E.out.symm.trans HV.out), below_alloc (Below.refl _ _) (Nat.le_refl _) _⟩
  have E := Lib.hid (isV_yes (zs := zs) h1' h2)
  have HV := Lib.hid hV
  clear h1' hV
  go_enter Try.func19, Try.ntmps19
  go_wp2_with (first | (go_at_call 120; refine (within_any _ _ _ _).mono ?_; rw [h2]; rintro e w' ⟨rfl, rfl⟩) | (go_at_call 121; refine (sameFrame_any _ _ _ _ _ _ _ _ _ _ _ _ _ _ _ _ _ _ _ _ zs [] _ (RI.alloc' h _) (RI.nil _ _ _) hn (by omega)).mono ?_; rintro e w1 ⟨rfl, hb1⟩))
  go_ret
  exact ⟨ret_bool (E.out.symm.trans HV.out), below_next hb1 (below_alloc (Below.refl _ _) (Nat.le_refl _) _) (Nat.le_refl _)⟩

end Go.Proofs.Ytjehkjdehkdjcaa
