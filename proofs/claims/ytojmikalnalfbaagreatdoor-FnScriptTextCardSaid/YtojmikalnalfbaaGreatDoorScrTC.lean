/- FnScriptText: a script is recovered from its text, for every code. Conditions: the card's listed variables, as it ties them. -/
import Derived.Test.YtojmikalnalfbaaGreatDoorLzC
import Derived.Test.YtojmikalnalfbaaGreatDoorB9
import Derived.Test.YtojmikalnalfbaaGreatDoorDrwLC
import Derived.Test.YtojmikalnalfbaaGreatDoorTxJC
import Derived.Test.YtojmikalnalfbaaGreatDoorTxQC
import Derived.Test.YtojmikalnalfbaaGreatDoorTxWC
import Derived.Test.YtojmikalnalfbaaGreatDoorB8
namespace Go.Proofs.YtojmikalnalfbaaGreatDoor
open Go.ChangeShapes Go.WideShapes Go.ChangeAt Go.RowKit
namespace FnScriptText
theorem rd_stxt (a : List Flt) : (rdS (stxt a)).2 = true ∧ (isScript a = true → (rdS (stxt a)).1 = a) := by
  by_cases h : isScript a = true
  · have e : rdS (stxt a) = (a, true) := rdS_yes h (stxt_yes h).symm
    rw [e]; exact ⟨rfl, fun _ => rfl⟩
  · have e : stxt a = [] := stxt_no (by simpa using h)
    rw [e, rdS_nil]
    exact ⟨rfl, fun h2 => absurd h2 h⟩
theorem stxt_rd {s : List UInt8} (h : (rdS s).2 = true) : stxt (rdS s).1 = s := by
  rcases rdS_cases s with ⟨fs, h1, h2, h3⟩ | ⟨_, h3⟩
  · rw [h3]; exact (stxt_yes h1).trans h2
  · rw [h3] at h; cases h
theorem rd_len (s : List UInt8) : (rdS s).1.length ≤ 30 := by
  rcases rdS_cases s with ⟨fs, h1, _, h3⟩ | ⟨_, h3⟩
  · rw [h3]; exact isScr_len h1
  · rw [h3]; simp

set_option maxRecDepth 100000 in
set_option maxHeartbeats 16000000 in
theorem walk (w : World) (A : Option Addr) (n c : Nat) (bs : List Int) (h : RB w w.heap.size A n bs) (hn : n ≤ maxLen) (hl : LF w) :
    Calls Tryz.prog 4 #[.slice A n c] w fun e w' => e = .returned (.bool true) ∧ Below w.heap.size w w' := by
  rcases bool_cases (decide (4096 < n)) with hbig | hbig
  · clear hl
    go_enter Tryz.func4, Tryz.ntmps4
    go_wp2_with (go_at_call 5; refine (big_any _ _ _ _ hn).mono ?_; rw [hbig]; rintro e w' ⟨rfl, rfl⟩)
    go_ret
    exact ⟨rfl, Below.refl _ _⟩
  have hn4 : n ≤ 4096 := by simpa using hbig
  have B := Lib.hid (Below.refl w.heap.size w)
  have HL := Lib.hid hl
  clear hl
  go_enter Tryz.func4, Tryz.ntmps4
  go_wp2_with (go_at_call 5; refine (big_any _ _ _ _ hn).mono ?_; rw [hbig]; rintro e w' ⟨rfl, rfl⟩)
  clear hbig hn
  refine (drawScriptText_any A n c bs _ h (by omega)).mono ?_
  rintro e w1 ⟨Aa, na, ca, a, rfl, oa, hna, hb⟩
  replace B := Lib.hid (below_next hb B.out (Nat.le_refl _)); replace HL := Lib.hid (HL.out.up hb)
  have ra := oa.reads encF_len
  clear hb oa
  go_wp2_with fail
  refine (iScriptText_any Aa na ca a _ ra (by omega) HL.out.tb).mono ?_
  obtain ⟨T, hT⟩ : ∃ T : ByteArray, (⟨(stxt a).toArray⟩ : ByteArray) = T := ⟨_, rfl⟩
  have HT := Lib.hid hT
  have hTs : T.size ≤ 1410 := by rw [← hT, mk_size]; exact stxt_len a
  have HTD := Lib.hid (show T.data.toList = stxt a by rw [← hT])
  rw [hT]
  clear hT
  rintro e w2 ⟨rfl, hb⟩
  replace B := Lib.hid (below_next hb B.out (Nat.le_refl _)); replace HL := Lib.hid (HL.out.up hb); replace ra := ra.up hb
  clear hb
  go_wp2_with fail
  obtain ⟨X, hX⟩ : ∃ X, (rdS (stxt a)).1 = X := ⟨_, rfl⟩
  have HX := Lib.hid (show rdS T.data.toList = (X, true) by rw [HTD.out, ← hX, ← (rd_stxt a).1])
  have HXA := Lib.hid (show isScript a = true → X = a by rw [← hX]; exact (rd_stxt a).2)
  clear hX
  refine (iReadScript_any T _ (by omega) HL.out).mono ?_
  rw [HX.out]
  rintro e w3 ⟨Ax, nx, cx, rfl, ox, hb⟩
  replace B := Lib.hid (below_next hb B.out (Nat.le_refl _)); replace HL := Lib.hid (HL.out.up hb); replace ra := ra.up hb
  have rx := ox.reads encF_len
  clear hb ox
  go_wp2_with fail
  refine (drawReadScript_any A n c bs _ ((h.below B.out (Nat.le_refl _)).more B.out.size) (by omega)).mono ?_
  rintro e w4 ⟨u, rfl, hu, hb⟩
  replace B := Lib.hid (below_next hb B.out (Nat.le_refl _)); replace HL := Lib.hid (HL.out.up hb); replace ra := ra.up hb; replace rx := rx.up hb
  clear hb
  obtain ⟨Y, q, hY⟩ : ∃ Y q, rdS u.data.toList = (Y, q) := ⟨_, _, rfl⟩
  have HY := Lib.hid hY
  have hYl : Y.length ≤ 30 := by have := rd_len u.data.toList; rw [hY] at this; exact this
  have HYU := Lib.hid (show q = true → stxt Y = u.data.toList by
    intro h1
    have := stxt_rd (s := u.data.toList)
    rw [hY] at this
    exact this h1)
  clear hY
  go_wp2_with fail
  refine (iReadScript_any u _ hu HL.out).mono ?_
  rw [HY.out]
  rintro e w5 ⟨Ay, ny, cy, rfl, oy, hb⟩
  replace B := Lib.hid (below_next hb B.out (Nat.le_refl _)); replace HL := Lib.hid (HL.out.up hb); replace ra := ra.up hb; replace rx := rx.up hb
  have ry := oy.reads encF_len
  clear hb oy
  go_wp2_with fail
  refine (sReadScript_any u _ hu).mono ?_
  rw [HY.out]
  rintro e w6 ⟨Az, nz, cz, rfl, oz, hb⟩
  replace B := Lib.hid (below_next hb B.out (Nat.le_refl _)); replace HL := Lib.hid (HL.out.up hb); replace ra := ra.up hb; replace rx := rx.up hb; replace ry := ry.up hb
  have rz := oz.reads encF_len
  clear hb oz
  go_wp2_with fail
  refine (drawLengthAfter_any A n c bs _ ((h.below B.out (Nat.le_refl _)).more B.out.size) (by omega)).mono ?_
  rintro e w7 ⟨m, Ab, nb, cb, b, rfl, ob, hnb, hb⟩
  replace B := Lib.hid (below_next hb B.out (Nat.le_refl _)); replace HL := Lib.hid (HL.out.up hb); replace ra := ra.up hb; replace rx := rx.up hb; replace ry := ry.up hb; replace rz := rz.up hb
  have rb := ob.reads encF_len
  clear hb ob
  obtain ⟨V, hV⟩ : ∃ V, LengthAfter.val m b = V := ⟨_, rfl⟩
  obtain ⟨Q, hQ⟩ : ∃ V, LengthAfter.cod m b = V := ⟨_, rfl⟩
  have HV := Lib.hid hV
  have HQ := Lib.hid hQ
  clear hV hQ
  go_wp2_with fail
  refine (LengthAfter.impl_any m Ab nb cb b _ rb (by omega)).mono ?_
  rw [HV.out, HQ.out]
  rintro e w8 ⟨rfl, hb⟩
  replace B := Lib.hid (below_next hb B.out (Nat.le_refl _)); replace HL := Lib.hid (HL.out.up hb); replace ra := ra.up hb; replace rx := rx.up hb; replace ry := ry.up hb; replace rz := rz.up hb; replace rb := rb.up hb
  clear hb
  go_wp2_with fail
  refine (LengthAfter.spec_any m Ab nb cb b _ rb (by omega)).mono ?_
  rw [HV.out, HQ.out]
  rintro e w9 ⟨rfl, hb⟩
  replace B := Lib.hid (below_next hb B.out (Nat.le_refl _)); replace HL := Lib.hid (HL.out.up hb); replace ra := ra.up hb; replace rx := rx.up hb; replace ry := ry.up hb; replace rz := rz.up hb
  clear hb rb
  go_wp2_with fail
  refine (sScriptText_any Aa na ca a _ ra (by omega)).mono ?_
  rw [HT.out]
  rintro e w10 ⟨rfl, hb⟩
  replace B := Lib.hid (below_next hb B.out (Nat.le_refl _)); replace HL := Lib.hid (HL.out.up hb); replace ra := ra.up hb; replace rx := rx.up hb; replace ry := ry.up hb; replace rz := rz.up hb
  clear hb
  go_wp2_with fail
  refine (sIsScript_any Aa na ca a _ ra (by omega)).mono ?_
  obtain ⟨I, hI⟩ : ∃ I, isScript a = I := ⟨_, rfl⟩
  rw [hI]
  have HI := Lib.hid hI
  clear hI
  rintro e w11 ⟨rfl, hb⟩
  replace B := Lib.hid (below_next hb B.out (Nat.le_refl _)); replace HL := Lib.hid (HL.out.up hb); replace ra := ra.up hb; replace rx := rx.up hb; replace ry := ry.up hb; replace rz := rz.up hb
  clear hb
  cases I
  case false =>
    go_wp2_with fail
    have hnz : nz = ny := by rw [← rz.len, ← ry.len]
    subst hnz
    have hny : nz ≤ 30 := by rw [← ry.len]; exact hYl
    refine (likeFaultsV Ay Az _ cy cz _ _ ry rz (by omega)).mono ?_
    rintro e w13 ⟨rfl, hb⟩
    replace B := Lib.hid (below_next hb B.out (Nat.le_refl _)); replace HL := Lib.hid (HL.out.up hb); replace ry := ry.up hb; replace rz := rz.up hb
    clear hb
    cases q
    · go_wp2_with fail
      go_ret
      exact ⟨rfl, B.out⟩
    · have hyu := HYU.out rfl
      have HE := Lib.hid (show (⟨(stxt Y).toArray⟩ : ByteArray) = u by rw [hyu])
      clear hyu
      go_wp2_with fail
      refine (iScriptText_any Ay _ cy Y _ ry (by omega) HL.out.tb).mono ?_
      rw [HE.out]
      rintro e w14 ⟨rfl, hb⟩
      replace B := Lib.hid (below_next hb B.out (Nat.le_refl _))
      go_wp2_with fail
      go_ret
      exact ⟨rfl, B.out⟩
  case true =>
    go_wp2_with fail
    have hxa := HXA.out HI.out
    subst hxa
    have hnx : nx = na := by rw [← rx.len, ← ra.len]
    subst hnx
    refine (likeFaultsV Ax Aa _ cx ca _ _ rx ra (by omega)).mono ?_
    rintro e w12 ⟨rfl, hb⟩
    replace B := Lib.hid (below_next hb B.out (Nat.le_refl _)); replace HL := Lib.hid (HL.out.up hb); replace ry := ry.up hb; replace rz := rz.up hb
    clear hb
    go_wp2_with fail
    have hnz : nz = ny := by rw [← rz.len, ← ry.len]
    subst hnz
    have hny : nz ≤ 30 := by rw [← ry.len]; exact hYl
    refine (likeFaultsV Ay Az _ cy cz _ _ ry rz (by omega)).mono ?_
    rintro e w13 ⟨rfl, hb⟩
    replace B := Lib.hid (below_next hb B.out (Nat.le_refl _)); replace HL := Lib.hid (HL.out.up hb); replace ry := ry.up hb; replace rz := rz.up hb
    clear hb
    cases q
    · go_wp2_with fail
      go_ret
      exact ⟨rfl, B.out⟩
    · have hyu := HYU.out rfl
      have HE := Lib.hid (show (⟨(stxt Y).toArray⟩ : ByteArray) = u by rw [hyu])
      clear hyu
      go_wp2_with fail
      refine (iScriptText_any Ay _ cy Y _ ry (by omega) HL.out.tb).mono ?_
      rw [HE.out]
      rintro e w14 ⟨rfl, hb⟩
      replace B := Lib.hid (below_next hb B.out (Nat.le_refl _))
      go_wp2_with fail
      go_ret
      exact ⟨rfl, B.out⟩

set_option maxRecDepth 100000 in
theorem contract (H : Type) (enc : TypeId × Value → H) (W : World) (base : Nat) (args : Array Value) (ds gs : List (DataW H)) (before : List MemPlace)
    (hval : ∀ (j : Nat) t v, Tryz.f4.params[j]? = some t → args[j]? = some v → Value.okWide Tryz.prog W .any base t v)
    (hW : DataW.Whole enc Tryz.prog Tryz.f4.params.toList Rows.fnScriptTextSpec.vars false W args.toList ds gs before) (hL : laidMetH Tryz.prog Rows.fnScriptTextRow.laid W) (hsh : W.ShapedOpen Tryz.prog) :
    Calls Tryz.prog 4 args W fun e W' => ∃ v, e = .returned v ∧ Rows.fnScriptTextSpec.post enc Tryz.prog Tryz.f4 false true false false W args v W' := by
  have hW' := hW
  obtain ⟨p, q, hA0, hV, rfl, hfz, hnd⟩ := hW
  have hA : DataW.TrodAll enc Tryz.prog W 0 (fun _ => true) true Tryz.f4.params.toList args.toList ds p := hA0
  rw [Tryz.params4] at hA hval
  obtain ⟨v0, vs0, d0, ds0, p0, q0, hargs, rfl, rfl, h0, r0⟩ := trodAll_cons hA
  obtain ⟨rfl, rfl, rfl⟩ := trodAll_nil r0
  obtain rfl : args = #[v0] := by cases args; simp_all
  obtain ⟨A0, n0, c0, bs0, rfl, hr0, hn0⟩ := arg_bytes Tryz.underlying22 Tryz.underlying5 (by kernel_rfl) (hval 0 22 v0 rfl rfl) h0
  refine (walk W A0 n0 c0 bs0 hr0 hn0 (Lz_table hL hsh)).mono fun e W' ⟨he, hb⟩ => ?_
  subst he
  exact ⟨_, rfl, law_post laidOut (by
    rw [show Tryz.f4.params.toList = [22] from rfl]
    intro t ht
    rw [List.mem_singleton.1 ht]; exact ⟨by kernel_rfl, of_decide_eq_true (by kernel_rfl)⟩) rfl Tryz.underlying4 rfl rfl hW' hb⟩

theorem laid_met (os : Os) : laidMetH Tryz.prog Rows.fnScriptTextRow.laid ((LzWorld os).forCall (fun _ _ => 0) ⟨#[], #[.slice none 0 0], []⟩).memory :=
  Lz_met os _
theorem reads (os : Os) {H : Type} (enc : TypeId × Value → H) : ∃ places, DataW.whole enc Tryz.prog ((LzWorld os).forCall (fun _ _ => 0) ⟨#[], #[.slice none 0 0], []⟩).memory Tryz.f4.params.toList Rows.fnScriptTextSpec.vars false #[(.slice none 0 0 : Value)].toList 8 = some ([.nil], [], places) :=
  ⟨[], by kernel_rfl⟩

set_option maxRecDepth 100000 in
theorem lifted (os : Os) (started : os.Started) (H : Type) (enc : TypeId × Value → H) (F : Stop.Interp) :
    ReturnsInHanded {} Tryz.checked os 4 .any ((OpenSpec.ofChange Rows.fnScriptTextSpec).preRow enc Tryz.prog Tryz.f4 Rows.fnScriptTextRow.domain false Rows.fnScriptTextRow.laid) (((OpenSpec.ofChange Rows.fnScriptTextSpec).at F).post enc Tryz.prog Tryz.f4 false true false false) := by
  obtain ⟨places, hx⟩ := reads os enc
  refine returnsInHanded_of_row (C := Tryz.checked) (s := OpenSpec.ofChange Rows.fnScriptTextSpec) own started (by kernel_rfl) Tryz.func4
    (Lz_witness (enc := enc) (C := Tryz.checked) false (LzWorld os) #[.slice none 0 0] rfl (by kernel_rfl) (by kernel_rfl) (by kernel_rfl)
      (OpenSpec.preRow_of_cond 8 hx (by kernel_rfl) (fun k hk => by cases hk) (by kernel_rfl) (laid_met os))) ?_
  intro W base args ds gs before hval hW _ _ _ hL hsh _
  exact contract H enc W base args ds gs before hval hW hL hsh

theorem said : Rows.FnScriptTextSaid :=
  OpenClaim.holds_of_cond 4 Tryz.f4 rfl rfl rfl rfl rfl rfl rfl ⟨rfl, rfl, rfl, rfl, rfl⟩ rfl rfl rfl rfl rfl (by kernel_rfl) Tryz.func4 (by kernel_rfl)
    (of_decide_eq_true (by kernel_rfl)) (by unfold Func.isWrapper; first | (rw [if_pos (by decide +kernel)]; kernel_rfl) | (rw [if_neg (by decide +kernel)]; exact ⟨rfl, rfl⟩))
    (fun os started H enc _ F => by rw [OpenClaim.pre_eq_preRow]; exact lifted os started H enc F)

theorem plain (f : FuncId) (fn : Func) (hf : Tryz.pinned.checked.prog.funcNamed Rows.fnScriptTextRow.func = some f) (hfn : Tryz.pinned.checked.prog.funcs[f]? = some fn) :
    true = Tryz.pinned.checked.prog.looks [] ∧ ∀ (j : Nat) t, fn.params[j]? = some t → Tryz.pinned.checked.prog.wantsStandIn t = false := by
  obtain rfl : f = 4 := Option.some.inj ((show Tryz.prog.funcNamed Rows.fnScriptTextRow.func = some 4 by kernel_rfl).symm.trans hf) |>.symm
  obtain rfl : fn = Tryz.f4 := (Option.some.inj (Tryz.func4.symm.trans hfn)).symm
  refine ⟨by kernel_rfl, fun j t ht => ?_⟩
  rw [Tryz.params4] at ht
  obtain rfl : t = 22 := by simpa using Array.mem_of_getElem? ht
  exact (show Tryz.prog.wantsStandIn 22 = false by kernel_rfl)

theorem card : Rows.FnScriptTextCardSaid :=
  Claim7.holds_tied_plain_at .later [] _ _ _ _ said (fun _ h => by cases h) (by kernel_rfl) (fun _ h => by cases h) fnScriptText_row_tie rfl ⟨rfl, rfl⟩ (by kernel_rfl) rfl plain (by kernel_rfl)
end FnScriptText
end Go.Proofs.YtojmikalnalfbaaGreatDoor
