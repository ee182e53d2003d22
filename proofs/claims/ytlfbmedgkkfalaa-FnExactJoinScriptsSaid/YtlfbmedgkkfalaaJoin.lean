/- The walks of JoinScripts, of the program and the reference. Conditions: none. -/
import Derived.Test.YtlfbmedgkkfalaaScript
import Derived.Test.YtlfbmedgkkfalaaKit10
import Derived.Test.YtlfbmedgkkfalaaFaultS
namespace Go.Proofs.Ytlfbmedgkkfalaa
open Go.RowKit
namespace JoinScripts

set_option maxHeartbeats 2000000 in
theorem grow_any (n : Nat) (w : World) (hn : n ≤ 1099511627776) :
    Calls Try.prog 212 #[.slice none 0 0, .int .i64 n] w fun e w' => ∃ A c, e = .returned (.slice A 0 c) ∧ OwnE encF 4 76 w' w.heap.size A 0 c [] ∧ Below w.heap.size w w' := by
  by_cases h0 : n = 0
  · subst h0
    go_enter Try.func212, Try.ntmps212
    go_wp2
    go_ret
    exact ⟨none, 0, rfl, OwnE.nil _ _ _ _ _, Below.refl _ _⟩
  · obtain ⟨i, hi, hz, hs1, hb1⟩ := info_split infoFault
    have hpos : (n : Int) > 0 := by omega
    have hrun := fun ty => Lib.run_append_nil_zeros (P := Try.prog) w 40 3 ty 76 i _ .i64 .i64 Try.underlying40 Try.underlying3 hi hz n (by omega) (by omega) (by omega) (by rw [hb1]; omega)
    obtain ⟨G, hG⟩ : ∃ G, grownCap w n 0 76 = G := ⟨_, rfl⟩
    have hGn : n ≤ G := by rw [← hG]; exact grownCap_ge w _ _ _
    have hGm : G ≤ maxLen := by rw [← hG]; exact grownCap_le_maxLen w _ _ _ (by unfold maxLen; omega)
    rw [hG] at hrun
    obtain ⟨ROW, hROW⟩ : ∃ R : Array Value, Builtin.zeroCells (Value.agg #[.int .i64 0, .int .i64 0, .int .i64 0, .int .i64 0]).cells n ++ Builtin.zeroCells (Value.agg #[.int .i64 0, .int .i64 0, .int .i64 0, .int .i64 0]).cells (G - n) = R := ⟨_, rfl⟩
    have hRs : ROW.size = G * 4 := by
      rw [← hROW, Array.size_append, size_zeroCells, size_zeroCells]
      show n * 4 + (G - n) * 4 = G * 4
      omega
    rw [hROW] at hrun
    have HRUN := Lib.hid hrun
    have HRS := Lib.hid hRs
    have hGc : (0 : Nat) ≤ G := Nat.zero_le _
    clear hrun hG hROW hRs hi hz hs1 hb1
    go_enter Try.func212, Try.ntmps212
    go_wp2_with (at_builtin; refine Lib.wpList_append_run _ rfl _ _ _ _ rfl _ _ rfl rfl _ _ (HRUN.out _) ?_)
    go_ret
    refine ⟨some ⟨w.heap.size, 0, none⟩, G, rfl, ?_, ?_⟩
    · exact OwnE.room w.drew (Nat.le_refl _) hGm HRS.out
    · exact ((Below.refl w.heap.size w).drew).alloc (Nat.le_refl _) _

set_option maxRecDepth 20000 in
set_option maxHeartbeats 4000000 in
theorem concat_any (g : Nat) (A1 A2 : Option Addr) (n1 c1 n2 c2 : Nat) (xs ys : List Flt) (w : World) (e0 : w.cell? ⟨g, 0, none⟩ = some (.slice A1 n1 c1)) (e1 : w.cell? ⟨g, 1, none⟩ = some (.slice A2 n2 c2)) (hg : g < w.heap.size)
    (hx : RE encF 4 w w.heap.size A1 n1 xs) (hy : RE encF 4 w w.heap.size A2 n2 ys) (hA1 : A1 = none → c1 = 0) (hA2 : A2 = none → c2 = 0) (hn1 : n1 ≤ 1000000) (hn2 : n2 ≤ 1000000) :
    Calls Try.prog 140 #[.slice (some ⟨g, 0, none⟩) 2 2] w fun e w' => ∃ A n c, e = .returned (.slice A n c) ∧ OwnE encF 4 76 w' w.heap.size A n c (xs ++ ys) ∧ Below w.heap.size w w' := by
  go_enter Try.func140, Try.ntmps140
  go_wp2
  go_loop [3, 11] (fun s i => (i = .int .i64 0 ∧ s = .int .i64 0) ∨ (i = .int .i64 1 ∧ s = .int .i64 n1) ∨ (i = .int .i64 2 ∧ s = .int .i64 ((n1 + n2 : Nat) : Int))) (fun _ i => 2 - (intOf i).toNat)
  case atStart => exact .inl ⟨rfl, rfl⟩
  case round =>
    rcases hrel with ⟨rfl, rfl⟩ | ⟨rfl, rfl⟩ | ⟨rfl, rfl⟩
    · go_wp2
      go_round
      case rel => exact .inr (.inl ⟨rfl, by simp⟩)
      case measure => simp [intOf]
    · go_wp2
      go_round
      case rel => exact .inr (.inr ⟨rfl, by rw [Int.natCast_add]⟩)
      case measure => simp [intOf]
    · go_wp2_with fail
      refine (grow_any (n1 + n2) w (by omega)).mono ?_
      rintro e w1 ⟨A, c, rfl, hown, hb⟩
      go_wp2_with fail
      go_loopw [6, 27] (fun o i wr => ((i = .int .i64 0 ∧ ∃ A c, o = .slice A 0 c ∧ OwnE encF 4 76 wr w.heap.size A 0 c []) ∨ (i = .int .i64 1 ∧ ∃ A n c, n = n1 ∧ o = .slice A n c ∧ OwnE encF 4 76 wr w.heap.size A n c xs) ∨ (i = .int .i64 2 ∧ ∃ A n c, o = .slice A n c ∧ OwnE encF 4 76 wr w.heap.size A n c (xs ++ ys))) ∧ Below w.heap.size w wr) (fun _ i _ => 2 - (intOf i).toNat)
      case atStart => exact ⟨.inl ⟨rfl, A, c, rfl, hown⟩, hb⟩
      case round =>
        obtain ⟨hcase, hbr⟩ := hrel
        obtain ⟨hcr, hfr⟩ := bcell hbr
        have hx2 := hx.below hbr (Nat.le_refl _)
        have hy2 := hy.below hbr (Nat.le_refl _)
        rcases hcase with ⟨rfl, A', c', rfl, hown'⟩ | ⟨rfl, A', n', c', hn', rfl, hown'⟩ | ⟨rfl, A', n', c', rfl, hown'⟩
        · go_wp2_with (at_builtin; refine wpl_appRE encF 4 encF_len encF_one _ Try.underlying40 infoFault rfl (by omega) (by omega) rfl _ _ rfl w.heap.size _ _ _ _ rfl hown' A1 n1 c1 _ xs rfl hx2 hA1 (by omega) hbr.size ?_; intro A3 c3 w3 hown3 hB3 hg3)
          go_roundw
          case rel => exact ⟨.inr (.inl ⟨rfl, A3, n1, c3, rfl, rfl, by rw [Nat.zero_add, List.nil_append] at hown3; exact hown3⟩), hbr.trans (hB3 _ (Nat.le_refl _))⟩
          case measure => simp [intOf]
        · have hn9 : n' ≤ 1000000 := by omega
          clear hn'
          go_wp2_with (at_builtin; refine wpl_appRE encF 4 encF_len encF_one _ Try.underlying40 infoFault rfl (by omega) (by omega) rfl _ _ rfl w.heap.size _ _ _ _ rfl hown' A2 n2 c2 _ ys rfl hy2 hA2 (by omega) hbr.size ?_; intro A3 c3 w3 hown3 hB3 hg3)
          go_roundw
          case rel => exact ⟨.inr (.inr ⟨rfl, A3, _, c3, rfl, hown3⟩), hbr.trans (hB3 _ (Nat.le_refl _))⟩
          case measure => simp [intOf]
        · go_wp2
          go_ret
          exact ⟨A', n', c', rfl, hown', hbr⟩

def res (xs ys : List Flt) : List Flt := if isScript xs = true ∧ isScript ys = true ∧ xs.length + ys.length ≤ 30 then xs ++ ys else []
def cod (xs ys : List Flt) : Int := if isScript xs = true ∧ isScript ys = true then (if xs.length + ys.length ≤ 30 then 0 else 3) else 2
theorem slen {fs : List Flt} (h : isScript fs = true) : fs.length ≤ 30 := by
  unfold isScript at h; simp only [Bool.and_eq_true, decide_eq_true_eq] at h; exact h.1
theorem res_len (xs ys : List Flt) : (res xs ys).length ≤ 30 := by
  unfold res
  split
  · rename_i h; rw [List.length_append]; exact h.2.2
  · simp

set_option maxRecDepth 20000 in
set_option maxHeartbeats 4000000 in
theorem spec_any (A : Option Addr) (n c : Nat) (xs : List Flt) (B : Option Addr) (m d : Nat) (ys : List Flt) (w : World) (hx : RE encF 4 w w.heap.size A n xs) (hn : n ≤ 1099511627776) (hA : A = none → c = 0) (hy : RE encF 4 w w.heap.size B m ys) (hm : m ≤ 1099511627776) (hB : B = none → d = 0) :
    Calls Try.prog 30 #[.slice A n c, .slice B m d] w (RetEC encF 4 76 w (res xs ys) (cod xs ys)) := by
  have LX := Lib.hid hx.len
  have LY := Lib.hid hy.len
  rcases bool_cases (isScript xs) with h1 | h1
  case inr =>
    have E1 := Lib.hid (show res xs ys = [] from by simp [res, h1])
    have E2 := Lib.hid (show cod xs ys = 2 from by simp [cod, h1])
    go_enter Try.func30, Try.ntmps30
    go_wp2_with fail
    refine (sIsScript_any A n c xs _ hx hn).mono ?_
    rw [h1]
    rintro e w1 ⟨rfl, hb1⟩
    go_wp2
    go_ret2
    rw [E1.out, E2.out]
    exact ⟨none, 0, 0, rfl, OwnE.nil _ _ _ _ _, hb1⟩
  rcases bool_cases (isScript ys) with h2 | h2
  case inr =>
    have E1 := Lib.hid (show res xs ys = [] from by simp [res, h2])
    have E2 := Lib.hid (show cod xs ys = 2 from by simp [cod, h2])
    go_enter Try.func30, Try.ntmps30
    go_wp2_with fail
    refine (sIsScript_any A n c xs _ hx hn).mono ?_
    rw [h1]
    rintro e w1 ⟨rfl, hb1⟩
    go_wp2_with fail
    refine (sIsScript_any B m d ys _ (hy.up hb1) hm).mono ?_
    rw [h2]
    rintro e w2 ⟨rfl, hb2⟩
    go_wp2
    go_ret2
    rw [E1.out, E2.out]
    exact ⟨none, 0, 0, rfl, OwnE.nil _ _ _ _ _, below_next hb2 hb1 (Nat.le_refl _)⟩
  have hn30 : n ≤ 30 := by rw [← hx.len]; exact slen h1
  have hm30 : m ≤ 30 := by rw [← hy.len]; exact slen h2
  by_cases hs : n + m ≤ 30
  case neg =>
    have E1 := Lib.hid (show res xs ys = [] from by simp [res, LX.out, LY.out, hs])
    have E2 := Lib.hid (show cod xs ys = 3 from by simp [cod, h1, h2, LX.out, LY.out, hs])
    have hsi : (n : Int) + (m : Int) > 30 := by omega
    go_enter Try.func30, Try.ntmps30
    go_wp2_with fail
    refine (sIsScript_any A n c xs _ hx hn).mono ?_
    rw [h1]
    rintro e w1 ⟨rfl, hb1⟩
    go_wp2_with fail
    refine (sIsScript_any B m d ys _ (hy.up hb1) hm).mono ?_
    rw [h2]
    rintro e w2 ⟨rfl, hb2⟩
    go_wp2
    go_ret2
    rw [E1.out, E2.out]
    exact ⟨none, 0, 0, rfl, OwnE.nil _ _ _ _ _, below_next hb2 hb1 (Nat.le_refl _)⟩
  have E1 := Lib.hid (show res xs ys = xs ++ ys from by simp [res, h1, h2, LX.out, LY.out, hs])
  have E2 := Lib.hid (show cod xs ys = 0 from by simp [cod, h1, h2, LX.out, LY.out, hs])
  have hsi : ¬ ((n : Int) + (m : Int) > 30) := by omega
  go_enter Try.func30, Try.ntmps30
  go_wp2_with fail
  refine (sIsScript_any A n c xs _ hx hn).mono ?_
  rw [h1]
  rintro e w1 ⟨rfl, hb1⟩
  go_wp2_with fail
  refine (sIsScript_any B m d ys _ (hy.up hb1) hm).mono ?_
  rw [h2]
  rintro e w2 ⟨rfl, hb2⟩
  have hbb := below_next hb2 hb1 (Nat.le_refl _)
  have gx := hx.up hbb
  have gy := hy.up hbb
  have hb0 : Below w2.heap.size w2 (w2.alloc (.cells #[] 76)) := (Below.refl _ _).alloc (Nat.le_refl _) _
  have hown0 : OwnE encF 4 76 (w2.alloc (.cells #[] 76)) w2.heap.size (some ⟨w2.heap.size, 0, none⟩) 0 0 ([] : List Flt) := OwnE.empty w2 (Nat.le_refl _)
  go_wp2_with (first
    | (at_builtin; refine wpl_appRE encF 4 encF_len encF_one _ Try.underlying40 infoFault rfl (by omega) (by omega) rfl (.tmp 20) (.tmp 21) rfl w2.heap.size _ 0 0 _ rfl hown0 A n c _ xs rfl (gx.up hb0) hA (by omega) hb0.size ?_; intro A3 c3 w3 hown3 hB3 hg3; rw [Nat.zero_add, List.nil_append] at hown3; have hb3 := hb0.trans (hB3 _ (Nat.le_refl _)); have HO3 := Lib.hid hown3)
    | (at_builtin; refine wpl_appRE encF 4 encF_len encF_one _ Try.underlying40 infoFault rfl (by omega) (by omega) rfl (.tmp 22) (.tmp 23) rfl w2.heap.size _ _ _ _ rfl HO3.out B m d _ ys rfl (gy.up hb3) hB (by omega) hb3.size ?_; intro A4 c4 w4 hown4 hB4 hg4; have HO4 := Lib.hid hown4; have hb4 := hb3.trans (hB4 _ (Nat.le_refl _))))
  go_ret2
  rw [E1.out, E2.out]
  exact ⟨_, _, _, rfl, HO4.out.weaken hbb.size, hbb.trans (hb4.mono hbb.size)⟩

set_option maxRecDepth 20000 in
set_option maxHeartbeats 4000000 in
theorem impl_any (A : Option Addr) (n c : Nat) (xs : List Flt) (B : Option Addr) (m d : Nat) (ys : List Flt) (w : World) (hx : RE encF 4 w w.heap.size A n xs) (hn : n ≤ 1099511627776) (hA : A = none → c = 0) (hy : RE encF 4 w w.heap.size B m ys) (hm : m ≤ 1099511627776) (hB : B = none → d = 0) :
    Calls Try.prog 32 #[.slice A n c, .slice B m d] w (RetEC encF 4 76 w (res xs ys) (cod xs ys)) := by
  have LX := Lib.hid hx.len
  have LY := Lib.hid hy.len
  rcases bool_cases (isScript xs) with h1 | h1
  case inr =>
    have E1 := Lib.hid (show res xs ys = [] from by simp [res, h1])
    have E2 := Lib.hid (show cod xs ys = 2 from by simp [cod, h1])
    go_enter Try.func32, Try.ntmps32
    go_wp2_with fail
    refine (iIsScript_any A n c xs _ hx hn).mono ?_
    rw [h1]
    rintro e w1 ⟨rfl, hb1⟩
    go_wp2
    go_ret2
    rw [E1.out, E2.out]
    exact ⟨none, 0, 0, rfl, OwnE.nil _ _ _ _ _, hb1⟩
  rcases bool_cases (isScript ys) with h2 | h2
  case inr =>
    have E1 := Lib.hid (show res xs ys = [] from by simp [res, h2])
    have E2 := Lib.hid (show cod xs ys = 2 from by simp [cod, h2])
    go_enter Try.func32, Try.ntmps32
    go_wp2_with fail
    refine (iIsScript_any A n c xs _ hx hn).mono ?_
    rw [h1]
    rintro e w1 ⟨rfl, hb1⟩
    go_wp2_with fail
    refine (iIsScript_any B m d ys _ (hy.up hb1) hm).mono ?_
    rw [h2]
    rintro e w2 ⟨rfl, hb2⟩
    go_wp2
    go_ret2
    rw [E1.out, E2.out]
    exact ⟨none, 0, 0, rfl, OwnE.nil _ _ _ _ _, below_next hb2 hb1 (Nat.le_refl _)⟩
  have hn30 : n ≤ 30 := by rw [← hx.len]; exact slen h1
  have hm30 : m ≤ 30 := by rw [← hy.len]; exact slen h2
  by_cases hs : n + m ≤ 30
  case neg =>
    have E1 := Lib.hid (show res xs ys = [] from by simp [res, LX.out, LY.out, hs])
    have E2 := Lib.hid (show cod xs ys = 3 from by simp [cod, h1, h2, LX.out, LY.out, hs])
    have hsi : (n : Int) + (m : Int) > 30 := by omega
    go_enter Try.func32, Try.ntmps32
    go_wp2_with fail
    refine (iIsScript_any A n c xs _ hx hn).mono ?_
    rw [h1]
    rintro e w1 ⟨rfl, hb1⟩
    go_wp2_with fail
    refine (iIsScript_any B m d ys _ (hy.up hb1) hm).mono ?_
    rw [h2]
    rintro e w2 ⟨rfl, hb2⟩
    go_wp2
    go_ret2
    rw [E1.out, E2.out]
    exact ⟨none, 0, 0, rfl, OwnE.nil _ _ _ _ _, below_next hb2 hb1 (Nat.le_refl _)⟩
  have E1 := Lib.hid (show res xs ys = xs ++ ys from by simp [res, h1, h2, LX.out, LY.out, hs])
  have E2 := Lib.hid (show cod xs ys = 0 from by simp [cod, h1, h2, LX.out, LY.out, hs])
  have hsi : ¬ ((n : Int) + (m : Int) > 30) := by omega
  go_enter Try.func32, Try.ntmps32
  go_wp2_with fail
  refine (iIsScript_any A n c xs _ hx hn).mono ?_
  rw [h1]
  rintro e w1 ⟨rfl, hb1⟩
  go_wp2_with fail
  refine (iIsScript_any B m d ys _ (hy.up hb1) hm).mono ?_
  rw [h2]
  rintro e w2 ⟨rfl, hb2⟩
  have hbb := below_next hb2 hb1 (Nat.le_refl _)
  have gx := hx.up hbb
  have gy := hy.up hbb
  have hb0 : ∀ t, Below w2.heap.size w2 (w2.alloc (.cells #[.slice A n c, .slice B m d] t)) := fun t => (Below.refl _ _).alloc (Nat.le_refl _) _
  go_wp2_with fail
  refine (concat_any w2.heap.size A B n c m d xs ys _ ?_ ?_ (by simp) (gx.up (hb0 _)) (gy.up (hb0 _)) hA hB (by omega) (by omega)).mono ?_
  · simp [go_sem]
  · simp [go_sem]
  rintro e w3 ⟨A3, n3, c3, rfl, hown3, hb3⟩
  have hb4 := hbb.trans (((hb0 _).trans (hb3.mono (hb0 _).size)).mono hbb.size)
  go_wp2
  go_ret2
  rw [E1.out, E2.out]
  exact ⟨_, _, _, rfl, hown3.weaken (Nat.le_trans hbb.size (hb0 _).size), hb4⟩
end JoinScripts
end Go.Proofs.Ytlfbmedgkkfalaa
