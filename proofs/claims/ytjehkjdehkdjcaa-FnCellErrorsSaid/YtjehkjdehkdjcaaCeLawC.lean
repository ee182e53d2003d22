/- FnCellErrors: the wrong cells are those whose samples the script turns, for every code. Conditions: none. -/
import Derived.Test.YtjehkjdehkdjcaaB2
import Derived.Test.YtjehkjdehkdjcaaB9
import Derived.Test.YtjehkjdehkdjcaaB14
import Derived.Test.YtjehkjdehkdjcaaB12
import Derived.Test.YtjehkjdehkdjcaaB7
import Derived.Test.YtjehkjdehkdjcaaB16
import Derived.BigQuiet
import Derived.IntWalk
namespace Go.Proofs.Ytjehkjdehkdjcaa
open Go.ChangeShapes Go.WideShapes Go.ChangeAt Go.RowKit
namespace FnCellErrors

set_option maxRecDepth 100000 in
set_option maxHeartbeats 16000000 in
theorem walk (w : World) (A : Option Addr) (n c : Nat) (bs : List Int) (h : RB w w.heap.size A n bs) (hn : n ≤ maxLen) :
    Calls Try.prog 6 #[.slice A n c] w fun e w' => e = .returned (.bool true) ∧ Below w.heap.size w w' := by
  rcases bool_cases (decide (4096 < n)) with hbig | hbig
  · go_enter Try.func6, Try.ntmps6
    go_wp2_with (go_at_call 21; refine (big_any _ _ _ _ hn).mono ?_; rw [hbig]; rintro e w' ⟨rfl, rfl⟩)
    go_ret
    exact ⟨rfl, Below.refl _ _⟩
  have hn4 : n ≤ 4096 := by simpa using hbig
  have B := Lib.hid (Below.refl w.heap.size w)
  go_enter Try.func6, Try.ntmps6
  go_wp2_with (go_at_call 21; refine (big_any _ _ _ _ hn).mono ?_; rw [hbig]; rintro e w' ⟨rfl, rfl⟩)
  clear hbig hn
  refine (drawCellErrors_any A n c bs _ ((h.below B.out (Nat.le_refl _)).more B.out.size) (by omega)).mono ?_
  rintro e w1 ⟨A_s, n_s, c_s, z_s, A_a, n_a, c_a, z_a, rfl, o_s, hn_s, o_a, hn_a, hb⟩
  replace B := Lib.hid (below_next hb B.out (Nat.le_refl _))
  have r_s := o_s.reads
  have L_s := Lib.hid o_s.len
  have r_a := o_a.reads encF_len
  have L_a := Lib.hid o_a.len
  have non_s := Lib.hid (own_none o_s)
  clear hb o_s o_a
  obtain ⟨F, hF⟩ : ∃ x, CellErrors.res z_s z_a = x := ⟨_, rfl⟩
  obtain ⟨q, hq⟩ : ∃ x, CellErrors.cod z_s z_a = x := ⟨_, rfl⟩
  have HF := Lib.hid hF
  have HQ := Lib.hid hq
  have hFl : F.length ≤ 8200 := by rw [← hF]; exact Nat.le_trans (CellErrors.res_len _ _) (by rw [L_s.out]; exact hn_s)
  have HFL := Lib.hid hFl
  clear hF hq hFl
  go_wp2_with fail
  refine (CellErrors.impl_any A_s n_s c_s z_s A_a n_a c_a z_a _ r_s (by omega) (by omega) r_a (by omega) (by omega)).mono ?_
  rw [HF.out, HQ.out]
  rintro e w2 ⟨A_f, n_f, c_f, rfl, o_f, hb⟩
  replace B := Lib.hid (below_next hb B.out (Nat.le_refl _))
  replace r_s := r_s.up hb
  replace r_a := r_a.up hb
  have r_f := o_f.reads
  have L_f := Lib.hid o_f.len
  clear hb o_f
  go_wp2_with fail
  refine (CellErrors.spec_any A_s n_s c_s z_s A_a n_a c_a z_a _ r_s (by omega) (by omega) r_a (by omega) (by omega)).mono ?_
  rw [HF.out, HQ.out]
  rintro e w3 ⟨A_g, n_g, c_g, rfl, o_g, hb⟩
  replace B := Lib.hid (below_next hb B.out (Nat.le_refl _))
  replace r_s := r_s.up hb
  replace r_a := r_a.up hb
  replace r_f := r_f.up hb
  have r_g := o_g.reads
  have L_g := Lib.hid o_g.len
  clear hb o_g
  obtain ⟨N, hN⟩ : ∃ x, F.length = x := ⟨_, rfl⟩
  have HN := Lib.hid hN
  have hNl := HFL.out
  rw [hN] at hNl
  have e_f : N = n_f := by have := L_f.out; omega
  subst e_f
  have e_g : N = n_g := by have := L_g.out; omega
  subst e_g
  clear hN
  go_wp2_with fail
  have lk := likeIntsV A_f A_g (N) (N) c_f c_g F F _ r_f r_g (by omega) (by omega)
  rw [eqI_self] at lk
  refine lk.mono ?_
  clear lk
  rintro e w4 ⟨rfl, hb⟩
  replace B := Lib.hid (below_next hb B.out (Nat.le_refl _))
  replace r_s := r_s.up hb
  replace r_a := r_a.up hb
  replace r_f := r_f.up hb
  replace r_g := r_g.up hb
  clear hb
  rcases ne_cases q with rfl | ⟨g1, g2, g3⟩
  case inr =>
    go_wp2
    go_ret
    exact ⟨rfl, B.out⟩
  obtain ⟨s1, s2, s3⟩ := cells_law HQ.out
  rw [HF.out] at s3
  have r1 : ApplyScript.res z_s z_a = appS z_s z_a := by unfold ApplyScript.res; rw [if_pos s1]
  obtain ⟨X, hX⟩ : ∃ x, appS z_s z_a = x := ⟨_, rfl⟩
  rw [hX] at s2 s3 r1
  have R1 := Lib.hid r1
  have B1 := Lib.hid s1
  have S2 := Lib.hid s2
  rw [L_s.out] at s3
  have S3 := Lib.hid s3
  clear s1 s2 s3 hX r1
  clear r_f
  go_wp2_with fail
  refine (ApplyScript.impl_any A_s n_s c_s z_s A_a n_a c_a z_a _ r_s (by omega) non_s.out r_a (by omega)).mono ?_
  rw [R1.out, B1.out]
  rintro e w5 ⟨A_x, n_x, c_x, rfl, o_x, hb⟩
  replace B := Lib.hid (below_next hb B.out (Nat.le_refl _))
  replace r_s := r_s.up hb
  replace r_a := r_a.up hb
  replace r_g := r_g.up hb
  have r_x := o_x.reads
  have L_x := Lib.hid o_x.len
  clear hb o_x
  have e_x : n_s = n_x := by have := L_x.out; have := S2.out; have := L_s.out; omega
  subst e_x
  obtain ⟨M, hM⟩ : ∃ M, n_s / 8 = M := ⟨_, rfl⟩
  have hM1 : (n_s : Int).tdiv 8 = (M : Int) := by rw [Int.tdiv_eq_ediv_of_nonneg (by omega)]; omega
  have hM2 : 8 * M ≤ n_s := by omega
  rw [hM] at S3
  clear hM
  go_wp2_with fail
  go_loopw [11] (fun i wr => ∃ k m : Nat, k ≤ 8 * M ∧ i = .int .i64 k ∧ wr = w5.drewN m) (fun i _ => 8 * M - (intOf i).toNat)
  case atStart => exact ⟨0, 0, Nat.zero_le _, rfl, rfl⟩
  case round =>
    obtain ⟨k, m, hk, rfl, rfl⟩ := hrel
    by_cases hlt : k < 8 * M
    · obtain ⟨b, o, rfl, hbl, hc⟩ := r_x.get (by omega)
      have hcell := hc k (by omega)
      clear hc
      obtain ⟨b1, o1, rfl, hbl1, hc1⟩ := r_s.get (by omega)
      have hcell1 := hc1 k (by omega)
      clear hc1
      have hiff := S3.out k hlt
      have hd : ((k / 8 : Nat) : Int) = (k : Int) / 8 := by omega
      have hw : IntKind.i64.wrap ((k : Int) / 8) = (k : Int) / 8 := IntWalk.i64_in _ (by omega)
      rw [hd] at hiff
      clear hd
      have hlt2 : (k : Int) < (M : Int) * 8 := by omega
      have hkn : (k : Int) < (n_s : Int) := by omega
      by_cases hx : gi X k = gi z_s k
      · have hb1 : (gi X k != gi z_s k) = false := by simp [hx]
        have hm : decide ((k : Int) / 8 ∈ F) = false := by simpa using hiff.1 hx
        clear hiff hx
        go_wp2
        go_quiet ((go_at_call 47; exact quiet_plus (hasInt_any _ _ _ F _ _ r_g (by omega))))
        go_wp2
        go_roundw
        case rel => exact ⟨k + 1, _, by omega, by go_num, rfl⟩
        case measure => simp [intOf]; omega
      · have hb1 : (gi X k != gi z_s k) = true := by simp [hx]
        have hm : decide ((k : Int) / 8 ∈ F) = true := by
          by_cases hf : (k : Int) / 8 ∈ F
          · simp [hf]
          · exact absurd (hiff.2 hf) hx
        clear hiff hx
        go_wp2
        go_quiet ((go_at_call 47; exact quiet_plus (hasInt_any _ _ _ F _ _ r_g (by omega))))
        go_wp2
        go_roundw
        case rel => exact ⟨k + 1, _, by omega, by go_num, rfl⟩
        case measure => simp [intOf]; omega
    · have hkn : k = 8 * M := by omega
      have hlt2 : ¬ (k : Int) < (M : Int) * 8 := by omega
      clear hkn
      go_wp2
      go_ret
      exact ⟨rfl, below_drewN B.out _⟩

set_option maxRecDepth 100000 in
theorem lifted (os : Os) (started : os.Started) (H : Type) (enc : TypeId × Value → H) :
    ReturnsInHanded {} Try.checked os 6 .any (Rows.fnCellErrorsSpec.pre6 enc Try.prog Try.f6 Rows.fnCellErrorsRow.domain false) (Rows.fnCellErrorsSpec.post enc Try.prog Try.f6 false true false false) := by
  refine returnsInHanded_of_change (C := Try.checked) own started (by kernel_rfl) Try.func6
    (ChangeSpec.witness6 (enc := enc) (C := Try.checked) false ⟨#[], #[.slice none 0 0], []⟩ 8 (by kernel_rfl) (by kernel_rfl) (by kernel_rfl) (by kernel_rfl)) ?_
  intro W base args ds gs before hval0 hW _ _
  have hval : ∀ (j : Nat) t v, Try.f6.params[j]? = some t → args[j]? = some v → Value.okWide Try.prog W .any base t v := hval0
  have hW' := hW
  obtain ⟨p, q, hA0, hV, rfl, hfz, hnd⟩ := hW
  have hA : DataW.TrodAll enc Try.prog W 0 (fun _ => true) true Try.f6.params.toList args.toList ds p := hA0
  rw [Try.params6] at hA hval
  obtain ⟨v0, vs0, d0, ds0, p0, q0, hargs, rfl, rfl, h0, r0⟩ := trodAll_cons hA
  obtain ⟨rfl, rfl, rfl⟩ := trodAll_nil r0
  obtain rfl : args = #[v0] := by cases args; simp_all
  obtain ⟨A0, n0, c0, bs0, rfl, hr0, hn0⟩ := arg_bytes Try.underlying39 Try.underlying5 (by kernel_rfl) (hval 0 39 v0 rfl rfl) h0
  refine (walk W A0 n0 c0 bs0 hr0 hn0).mono fun e W' ⟨he, hb⟩ => ?_
  subst he
  exact ⟨_, rfl, law_post laidOut (by
    rw [show Try.f6.params.toList = [39] from rfl]
    intro t ht
    rw [List.mem_singleton.1 ht]; exact ⟨by kernel_rfl, of_decide_eq_true (by kernel_rfl)⟩) rfl Try.underlying4 rfl rfl hW' hb⟩

set_option maxRecDepth 100000 in
theorem closed : joinedFacts Try.prog 6 Try.f6 Rows.fnCellErrorsSpec Rows.fnCellErrorsRow = true := by
  unfold joinedFacts
  rw [mayEnter_ok, liftsFinal_ok, make_ok]
  change _ = true
  kernel_rfl

theorem holds : Rows.FnCellErrorsSaid :=
  OpenClaim.holds_of_wide 6 Try.f6 rfl rfl rfl rfl rfl rfl rfl ⟨rfl, rfl, rfl, rfl, rfl⟩ rfl rfl rfl rfl rfl (by kernel_rfl) Try.func6 closed
    (of_decide_eq_true (by kernel_rfl)) (by unfold Func.isWrapper; first | (rw [if_pos (by decide +kernel)]; kernel_rfl) | (rw [if_neg (by decide +kernel)]; exact ⟨rfl, rfl⟩))
    (fun os started H enc _ => lifted os started H enc)
end FnCellErrors
end Go.Proofs.Ytjehkjdehkdjcaa
