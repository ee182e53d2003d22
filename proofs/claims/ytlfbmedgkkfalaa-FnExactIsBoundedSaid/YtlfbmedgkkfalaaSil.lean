/- The walks of SilenceFrom, of the program and the reference. Conditions: lists of at most 2^20 numbers. -/
import Derived.Test.YtlfbmedgkkfalaaPreI
import Derived.Test.YtlfbmedgkkfalaaKit7
import Derived.Test.YtlfbmedgkkfalaaKit8
import Derived.Test.YtlfbmedgkkfalaaFault
import Derived.Deep.RegionHeld3
import Derived.Lib.SliceRun
namespace Go.Proofs.Ytlfbmedgkkfalaa
open Go.RowKit

/-- a list whose numbers from p on, below k, are 1 -/
def silF (zs : List Int) (p k : Nat) : List Int := (List.range zs.length).map fun i => if p ≤ i ∧ i < k then 1 else gi zs i
theorem silF_len (zs : List Int) (p k : Nat) : (silF zs p k).length = zs.length := by simp [silF]
theorem silF_gi {zs : List Int} {p k i : Nat} (h : i < zs.length) : gi (silF zs p k) i = if p ≤ i ∧ i < k then 1 else gi zs i := by simp [gi, silF, h]
theorem silF_none {zs : List Int} {p k : Nat} (h : k ≤ p) : silF zs p k = zs := by
  refine ext_gi (silF_len _ _ _) fun i hi => ?_
  rw [silF_len] at hi
  rw [silF_gi hi, if_neg (by omega)]
theorem silF_set {zs : List Int} {p k : Nat} (hk : p ≤ k) (hn : k < zs.length) : (silF zs p k).set k 1 = silF zs p (k + 1) := by
  refine ext_gi (by rw [List.length_set, silF_len, silF_len]) fun i hi => ?_
  rw [List.length_set, silF_len] at hi
  rw [silF_gi hi]
  have : gi ((silF zs p k).set k 1) i = if k = i then 1 else gi (silF zs p k) i := by
    unfold gi
    rw [List.getD_eq_getElem?_getD, List.getElem?_set, List.getD_eq_getElem?_getD]
    by_cases hik : k = i
    · rw [if_pos hik, if_pos hik, if_pos (by rw [silF_len]; omega)]; rfl
    · rw [if_neg hik, if_neg hik]
  rw [this, silF_gi hi]
  by_cases hik : k = i
  · rw [if_pos hik, if_pos (by omega)]
  · rw [if_neg hik]
    by_cases h2 : p ≤ i ∧ i < k
    · rw [if_pos h2, if_pos (by omega)]
    · rw [if_neg h2, if_neg (by omega)]
theorem silF_more {zs : List Int} {p k : Nat} (h : zs.length ≤ k) : silF zs p k = silF zs p zs.length := by
  refine ext_gi (by rw [silF_len, silF_len]) fun i hi => ?_
  rw [silF_len] at hi
  rw [silF_gi hi, silF_gi hi]
  by_cases h2 : p ≤ i
  · rw [if_pos (by omega), if_pos (by omega)]
  · rw [if_neg (by omega), if_neg (by omega)]

namespace SilenceFrom
theorem min_eq (a b : Int) : min a b = if a ≤ b then a else b := rfl

set_option maxRecDepth 20000 in
set_option maxHeartbeats 8000000 in
theorem l24Apply_sil (A : Option Addr) (n c : Nat) (zs : List Int) (q : Nat) (w : World) (hri : RI w w.heap.size A n zs) (hn : n ≤ 8192) (hq : q ≤ 8192) (hA : A = none → c = 0) :
    Calls Try.prog 164 #[.slice A n c, .agg #[.int .i64 5, .int .i64 q, .int .i64 0, .int .i64 0]] w (RetI 2 w n (silF zs q n)) := by
  have L := Lib.hid hri.len
  have hb0 : Below w.heap.size w (w.alloc (.cells #[.int .i64 5, .int .i64 q, .int .i64 0, .int .i64 0] 76)) := (Below.refl _ _).alloc (Nat.le_refl _) _
  have hr0 := hri.up hb0
  have hbx := Blk4.new w 76 (.int .i64 5) (.int .i64 q) (.int .i64 0) (.int .i64 0)
  obtain ⟨w0, hw0⟩ : ∃ x, w.alloc (.cells #[.int .i64 5, .int .i64 q, .int .i64 0, .int .i64 0] 76) = x := ⟨_, rfl⟩
  rw [hw0] at hb0 hr0 hbx
  have hk0 := hbx.c0
  have hk1 := hbx.c1
  have hk2 := hbx.c2
  have hgl := hbx.lt
  have HB := Lib.hid hb0
  clear hb0
  by_cases hlt : q < n
  case pos =>
    go_enter Try.func164, Try.ntmps164
    go_wp2_with fail
    go_region
    all_goals
      go_wp2_with fail
      refine (l01Own_any A n c zs w0.drew hr0 (by omega) hA).mono ?_
      rintro e w1 ⟨A1, c1, rfl, hown1, hb1⟩
      have hown1' : OwnI 2 w1 w0.heap.size A1 n c1 zs := hown1
      have hb1' : Below w0.heap.size w0 w1 := below_next_drew hb1 (Below.refl _ _) (Nat.le_refl _)
      clear hown1 hb1
      have hb1k := hbx.next hb1'
      have hl0 := hb1k.c0
      go_wp2_with fail
      clear hl0
      go_loopw [10] (fun i wr => ∃ k : Nat, q ≤ k ∧ k ≤ n ∧ i = .int .i64 k ∧ OwnI 2 wr w0.heap.size A1 n c1 (silF zs q k) ∧ Below w0.heap.size w0 wr) (fun i _ => n - (intOf i).toNat)
      case atStart => exact ⟨q, Nat.le_refl _, by omega, rfl, by rw [silF_none (by omega)]; exact hown1', hb1'⟩
      case round =>
        obtain ⟨k, hk0', hk, rfl, hown, hb⟩ := hrel
        have hbk := hbx.next hb
        have hl0 := hbk.c0
        by_cases hlt2 : k < n
        · obtain ⟨g, rfl, hg1, hg2⟩ := hown.form (by omega)
          have hold := hown.cell hlt2
          have hfr := hown.frozen k
          go_wp2
          go_roundw
          case rel =>
            have := hown.stored k 1
            rw [silF_set (by omega) (by rw [L.out]; exact hlt2)] at this
            exact ⟨k + 1, by omega, by omega, by go_num, this.1, hb.setCell (by simpa using hg1) _⟩
          case measure => simp [intOf]; omega
        · have hkn : k = n := by omega
          have HK := Lib.hid hkn
          clear hkn
          go_wp2
          go_ret
          rw [HK.out] at hown
          exact ⟨A1, c1, rfl, hown.weaken HB.out.size, below_next hb HB.out (Nat.le_refl _)⟩
  case neg =>
    go_enter Try.func164, Try.ntmps164
    go_wp2_with fail
    go_region
    all_goals
      go_wp2_with fail
      refine (l01Own_any A n c zs w0.drew hr0 (by omega) hA).mono ?_
      rintro e w1 ⟨A1, c1, rfl, hown1, hb1⟩
      have hown1' : OwnI 2 w1 w0.heap.size A1 n c1 zs := hown1
      have hb1' : Below w0.heap.size w0 w1 := below_next_drew hb1 (Below.refl _ _) (Nat.le_refl _)
      clear hown1 hb1
      have hb1k := hbx.next hb1'
      have hl0 := hb1k.c0
      go_wp2_with fail
      clear hl0
      go_loopw [10] (fun i wr => ∃ k : Nat, n ≤ k ∧ k ≤ n ∧ i = .int .i64 k ∧ OwnI 2 wr w0.heap.size A1 n c1 (silF zs q k) ∧ Below w0.heap.size w0 wr) (fun i _ => n - (intOf i).toNat)
      case atStart => exact ⟨n, Nat.le_refl _, by omega, rfl, by rw [silF_none (by omega)]; exact hown1', hb1'⟩
      case round =>
        obtain ⟨k, hk0', hk, rfl, hown, hb⟩ := hrel
        have hbk := hbx.next hb
        have hl0 := hbk.c0
        by_cases hlt2 : k < n
        · exfalso; omega
        · have hkn : k = n := by omega
          have HK := Lib.hid hkn
          clear hkn
          go_wp2
          go_ret
          rw [HK.out] at hown
          exact ⟨A1, c1, rfl, hown.weaken HB.out.size, below_next hb HB.out (Nat.le_refl _)⟩

set_option maxRecDepth 20000 in
set_option maxHeartbeats 2000000 in
theorem clone_any (A : Option Addr) (n c : Nat) (zs : List Int) (w : World) (h : RI w w.heap.size A n zs) (hn : n ≤ 1099511627776) (hA : A = none → c = 0) :
    Calls Try.prog 221 #[.slice A n c] w (RetI 2 w n zs) := by
  have hb0 : Below w.heap.size w (w.alloc (.cells #[] 2)) := (Below.refl _ _).alloc (Nat.le_refl _) _
  have hown0 : OwnI 2 (w.alloc (.cells #[] 2)) w.heap.size (some ⟨w.heap.size, 0, none⟩) 0 0 [] := OwnI.empty w (Nat.le_refl _)
  have hr0 := h.up hb0
  have q22 : ∀ (w : World) (a : Option Addr) (n c n' c' : Nat), (binOp .eql 24 (.slice a n c) (.slice none n' c')).run Try.prog w = .ok (.bool a.isNone) w := fun w a n c n' c' => Lib.run_eql_slice_nil w _ _ a n c n' c' Try.underlying24
  rcases A with _ | ad
  · obtain rfl := hA rfl
    have h0 : n = 0 := by
      rcases Nat.eq_zero_or_pos n with hh | hh
      · exact hh
      · obtain ⟨b, o', e, _⟩ := h.get hh; cases e
    subst h0
    obtain rfl : zs = [] := List.length_eq_zero_iff.1 h.len
    go_enter Try.func221, Try.ntmps221
    go_wp2
    go_ret
    exact ⟨none, 0, rfl, OwnI.nil _ _ _, Below.refl _ _⟩
  · go_enter Try.func221, Try.ntmps221
    go_wp2_with (at_builtin; refine wpl_appR _ Try.underlying24 infoInt rfl _ _ rfl w.heap.size _ 0 _ _ rfl hown0 (some ad) n c _ zs rfl hr0 (fun e => by cases e) (by omega) hb0.size ?_; intro A2 c2 w2 hown2 hB2 hg2)
    rw [Nat.zero_add] at hown2
    go_wp2
    go_ret
    exact ⟨A2, c2, by simp, hown2, hb0.trans (hB2 _ (Nat.le_refl _))⟩

theorem one_any (z : Int) (w : World) :
    Calls Try.prog 234 #[.int .i64 z] w fun e w' => e = .returned (.int .i64 1) ∧ w = w' := by
  go_enter Try.func234, Try.ntmps234
  go_wp2
  go_ret
  exact ⟨rfl, rfl⟩

set_option maxHeartbeats 4000000 in
theorem change_any (A1 : Option Addr) (n c1 base q : Nat) (zs : List Int) (w : World) (hown : OwnI 2 w base A1 n c1 zs) (hn : n ≤ 8192) (_ : q ≤ 8192) :
    Calls Try.prog 233 #[.slice A1 n c1, .int .i64 q, .int .i64 n, .func (.func 234) #[] #[]] w fun e w' => e = .returned (.tuple #[]) ∧ OwnI 2 w' base A1 n c1 (silF zs q n) ∧ w.grownBy w' (Value.slice A1 n c1).ownBlock := by
  have L := Lib.hid hown.len
  go_enter Try.func233, Try.ntmps233
  go_wp2
  go_loopw [8] (fun i wr => ∃ k : Nat, q ≤ k ∧ k ≤ max q n ∧ i = .int .i64 k ∧ OwnI 2 wr base A1 n c1 (silF zs q k) ∧ w.grownBy wr (Value.slice A1 n c1).ownBlock) (fun i _ => n - (intOf i).toNat)
  case atStart => exact ⟨q, Nat.le_refl _, by omega, rfl, by rw [silF_none (by omega)]; exact hown, World.grownBy.refl _ _⟩
  case round =>
    obtain ⟨k, hk0', hk, rfl, hown', hg⟩ := hrel
    have HK' := Lib.hid hk
    clear hk
    by_cases hlt2 : k < n
    · obtain ⟨g, rfl, hg1, hg2⟩ := hown'.form (by omega)
      have hold := hown'.cell hlt2
      have hfr := hown'.frozen k
      go_wp2_with fail
      refine (one_any _ _).mono ?_
      rintro e w' ⟨rfl, rfl⟩
      go_wp2
      go_roundw
      case rel =>
        have := hown'.stored k 1
        rw [silF_set (by omega) (by rw [L.out]; exact hlt2)] at this
        exact ⟨k + 1, by omega, by omega, by go_num, this.1, grown_tr hg this.2⟩
      case measure => simp [intOf]; omega
    · have HK := Lib.hid (show k = max q n from by have := HK'.out; omega)
      go_wp2
      go_end0
      refine ⟨rfl, ?_, hg⟩
      rw [HK.out] at hown'
      by_cases hqn : q ≤ n
      · rwa [Nat.max_eq_right hqn] at hown'
      · rw [Nat.max_eq_left (by omega), silF_more (by rw [L.out]; omega), L.out] at hown'
        exact hown'

set_option maxRecDepth 20000 in
set_option maxHeartbeats 4000000 in
theorem applyFault_sil (A : Option Addr) (n c : Nat) (zs : List Int) (q : Nat) (w : World) (hri : RI w w.heap.size A n zs) (hn : n ≤ 8192) (hq : q ≤ 8192) (hA : A = none → c = 0) :
    Calls Try.prog 166 #[.slice A n c, .agg #[.int .i64 5, .int .i64 q, .int .i64 0, .int .i64 0]] w (RetI 2 w n (silF zs q n)) := by
  have hb0 : Below w.heap.size w (w.alloc (.cells #[.int .i64 5, .int .i64 q, .int .i64 0, .int .i64 0] 76)) := (Below.refl _ _).alloc (Nat.le_refl _) _
  have hr0 := hri.up hb0
  have hbx := Blk4.new w 76 (.int .i64 5) (.int .i64 q) (.int .i64 0) (.int .i64 0)
  obtain ⟨w0, hw0⟩ : ∃ x, w.alloc (.cells #[.int .i64 5, .int .i64 q, .int .i64 0, .int .i64 0] 76) = x := ⟨_, rfl⟩
  rw [hw0] at hb0 hr0 hbx
  have HB := Lib.hid hb0
  clear hb0
  go_enter Try.func166, Try.ntmps166
  go_wp2_with fail
  refine (clone_any A n c zs w0 hr0 (by omega) hA).mono ?_
  rintro e w1 ⟨A1, c1, rfl, hown1, hb1⟩
  have hbk := hbx.next hb1
  have e0 := hbk.c0
  have e1 := hbk.c1
  go_wp2_with fail
  refine (change_any A1 n c1 w0.heap.size q zs w1 hown1 hn hq).mono ?_
  rintro e w2 ⟨rfl, hown2, hg2⟩
  go_wp2
  go_ret
  exact ⟨A1, c1, rfl, hown2.weaken HB.out.size, (below_next hb1 HB.out (Nat.le_refl _)).grown hg2 (Nat.le_trans HB.out.size hb1.size) (fun g e => Nat.le_trans HB.out.size (own_row hown1 g e).1)⟩

def res (zs : List Int) (a : Int) : List Int := if isBits zs = true ∧ inR a 0 8192 = true then silF zs a.toNat zs.length else []
def cod (zs : List Int) (a : Int) : Int := if isBits zs then (if inR a 0 8192 then 0 else 2) else 1
theorem res_len (zs : List Int) (a : Int) : (res zs a).length ≤ zs.length := by
  unfold res; split
  · rw [silF_len]; exact Nat.le_refl _
  · simp
theorem isFault5 (a : Int) : isFault ⟨5, a, 0, 0⟩ = inR a 0 8192 := by
  unfold isFault
  simp [hasLen, hasVal, inR]

set_option maxRecDepth 20000 in
set_option maxHeartbeats 4000000 in
theorem sApplyFault_any (A : Option Addr) (n c : Nat) (zs : List Int) (at' : Int) (w : World) (h : RI w w.heap.size A n zs) (hn' : n ≤ 1099511627776) (hA : A = none → c = 0) :
    Calls Try.prog 61 #[.slice A n c, .agg #[.int .i64 5, .int .i64 at', .int .i64 0, .int .i64 0]] w (RetIC 2 w (res zs at') (cod zs at')) := by
  have L := Lib.hid h.len
  have hb0 : Below w.heap.size w (w.alloc (.cells #[.int .i64 5, .int .i64 at', .int .i64 0, .int .i64 0] 76)) := (Below.refl _ _).alloc (Nat.le_refl _) _
  have hbx := Blk4.new w 76 (.int .i64 5) (.int .i64 at') (.int .i64 0) (.int .i64 0)
  have hr0 := h.up hb0
  obtain ⟨w0, hw0⟩ : ∃ x, w.alloc (.cells #[.int .i64 5, .int .i64 at', .int .i64 0, .int .i64 0] 76) = x := ⟨_, rfl⟩
  rw [hw0] at hb0 hr0 hbx
  have HB := Lib.hid hb0
  clear hb0
  have f0 := hbx.c0
  have f1 := hbx.c1
  have f2 := hbx.c2
  have f3 := hbx.c3
  rcases bool_cases (isBits zs) with hz | hz
  case inr =>
    have E1 := Lib.hid (show res zs at' = [] from by simp [res, hz])
    have E2 := Lib.hid (show cod zs at' = 1 from by simp [cod, hz])
    go_enter Try.func61, Try.ntmps61
    go_wp2_with fail
    refine (sIsBits_any _ _ _ _ _ hr0 hn').mono ?_
    rw [hz]
    rintro e w' ⟨rfl, rfl⟩
    go_wp2
    go_ret2
    rw [E1.out, E2.out]
    exact ⟨none, 0, 0, rfl, OwnI.nil _ _ _, HB.out⟩
  have hn : n ≤ 8192 := by
    have := hz
    unfold isBits at this
    simp only [Bool.and_eq_true, decide_eq_true_eq] at this
    rw [L.out] at this
    exact this.1
  rcases bool_cases (inR at' 0 8192) with hr | hr
  case inr =>
    have E1 := Lib.hid (show res zs at' = [] from by simp [res, hr])
    have E2 := Lib.hid (show cod zs at' = 2 from by simp [cod, hz, hr])
    have HF := Lib.hid (isFault5 at')
    go_enter Try.func61, Try.ntmps61
    go_wp2_with fail
    refine (sIsBits_any _ _ _ _ _ hr0 hn').mono ?_
    rw [hz]
    rintro e w' ⟨rfl, rfl⟩
    go_wp2_with fail
    refine (sIsFault_any _ _ _ _ _).mono ?_
    rw [HF.out, hr]
    rintro e w1 ⟨rfl, hb1⟩
    go_wp2
    go_ret2
    rw [E1.out, E2.out]
    exact ⟨none, 0, 0, rfl, OwnI.nil _ _ _, below_next hb1 HB.out (Nat.le_refl _)⟩
  have hr' := inR_iff.1 hr
  obtain ⟨q, rfl⟩ : ∃ q : Nat, at' = (q : Int) := ⟨at'.toNat, by omega⟩
  have hq : q ≤ 8192 := by omega
  have E1 := Lib.hid (show res zs (q : Int) = silF zs q n from by simp [res, hz, hr, L.out])
  have E2 := Lib.hid (show cod zs (q : Int) = 0 from by simp [cod, hz, hr])
  have HF := Lib.hid (isFault5 (q : Int))
  clear hr'
  go_enter Try.func61, Try.ntmps61
  go_wp2_with fail
  refine (sIsBits_any _ _ _ _ _ hr0 hn').mono ?_
  rw [hz]
  rintro e w' ⟨rfl, rfl⟩
  go_wp2_with fail
  refine (sIsFault_any _ _ _ _ _).mono ?_
  rw [HF.out, hr]
  rintro e w1 ⟨rfl, hb1⟩
  have hbk := hbx.next hb1
  have e0 := hbk.c0
  have e1 := hbk.c1
  have e2 := hbk.c2
  have e3 := hbk.c3
  clear f0 f1 f2 f3
  go_wp2_with fail
  refine (l24Apply_sil A n c zs q _ (hr0.up hb1) hn hq hA).mono ?_
  rintro e w2 ⟨A2, c2, rfl, hown2, hb2⟩
  go_wp2
  go_ret2
  rw [E1.out, E2.out]
  exact ⟨_, _, _, rfl, hown2.weaken (Nat.le_trans HB.out.size hb1.size), below_next hb2 (below_next hb1 HB.out (Nat.le_refl _)) (Nat.le_refl _)⟩

set_option maxHeartbeats 1000000 in
theorem spec_any (A : Option Addr) (n c : Nat) (zs : List Int) (at' : Int) (w : World) (h : RI w w.heap.size A n zs) (hn' : n ≤ 1099511627776) (hA : A = none → c = 0) :
    Calls Try.prog 82 #[.slice A n c, .int .i64 at'] w (RetIC 2 w (res zs at') (cod zs at')) := by
  go_enter Try.func82, Try.ntmps82
  go_wp2_with fail
  refine (sApplyFault_any A n c zs at' w h hn' hA).mono ?_
  rintro e w1 ⟨A1, n1, c1, rfl, hown1, hb1⟩
  go_wp2
  go_ret2
  exact ⟨_, _, _, rfl, hown1, hb1⟩

set_option maxRecDepth 20000 in
set_option maxHeartbeats 4000000 in
theorem iApplyFault_any (A : Option Addr) (n c : Nat) (zs : List Int) (at' : Int) (w : World) (h : RI w w.heap.size A n zs) (hn' : n ≤ 1099511627776) (hA : A = none → c = 0) :
    Calls Try.prog 64 #[.slice A n c, .agg #[.int .i64 5, .int .i64 at', .int .i64 0, .int .i64 0]] w (RetIC 2 w (res zs at') (cod zs at')) := by
  have L := Lib.hid h.len
  have hb0 : Below w.heap.size w (w.alloc (.cells #[.int .i64 5, .int .i64 at', .int .i64 0, .int .i64 0] 76)) := (Below.refl _ _).alloc (Nat.le_refl _) _
  have hbx := Blk4.new w 76 (.int .i64 5) (.int .i64 at') (.int .i64 0) (.int .i64 0)
  have hr0 := h.up hb0
  obtain ⟨w0, hw0⟩ : ∃ x, w.alloc (.cells #[.int .i64 5, .int .i64 at', .int .i64 0, .int .i64 0] 76) = x := ⟨_, rfl⟩
  rw [hw0] at hb0 hr0 hbx
  have HB := Lib.hid hb0
  clear hb0
  have f0 := hbx.c0
  have f1 := hbx.c1
  have f2 := hbx.c2
  have f3 := hbx.c3
  rcases bool_cases (isBits zs) with hz | hz
  case inr =>
    have E1 := Lib.hid (show res zs at' = [] from by simp [res, hz])
    have E2 := Lib.hid (show cod zs at' = 1 from by simp [cod, hz])
    go_enter Try.func64, Try.ntmps64
    go_wp2_with fail
    refine (iIsBits_any _ _ _ _ _ hr0 hn').mono ?_
    rw [hz]
    rintro e w' ⟨rfl, rfl⟩
    go_wp2
    go_ret2
    rw [E1.out, E2.out]
    exact ⟨none, 0, 0, rfl, OwnI.nil _ _ _, HB.out⟩
  have hn : n ≤ 8192 := by
    have := hz
    unfold isBits at this
    simp only [Bool.and_eq_true, decide_eq_true_eq] at this
    rw [L.out] at this
    exact this.1
  rcases bool_cases (inR at' 0 8192) with hr | hr
  case inr =>
    have E1 := Lib.hid (show res zs at' = [] from by simp [res, hr])
    have E2 := Lib.hid (show cod zs at' = 2 from by simp [cod, hz, hr])
    have HF := Lib.hid (isFault5 at')
    go_enter Try.func64, Try.ntmps64
    go_wp2_with fail
    refine (iIsBits_any _ _ _ _ _ hr0 hn').mono ?_
    rw [hz]
    rintro e w' ⟨rfl, rfl⟩
    go_wp2_with fail
    refine (iIsFault_any _ _ _ _ _).mono ?_
    rw [HF.out, hr]
    rintro e w1 ⟨rfl, hb1⟩
    go_wp2
    go_ret2
    rw [E1.out, E2.out]
    exact ⟨none, 0, 0, rfl, OwnI.nil _ _ _, below_next hb1 HB.out (Nat.le_refl _)⟩
  have hr' := inR_iff.1 hr
  obtain ⟨q, rfl⟩ : ∃ q : Nat, at' = (q : Int) := ⟨at'.toNat, by omega⟩
  have hq : q ≤ 8192 := by omega
  have E1 := Lib.hid (show res zs (q : Int) = silF zs q n from by simp [res, hz, hr, L.out])
  have E2 := Lib.hid (show cod zs (q : Int) = 0 from by simp [cod, hz, hr])
  have HF := Lib.hid (isFault5 (q : Int))
  clear hr'
  go_enter Try.func64, Try.ntmps64
  go_wp2_with fail
  refine (iIsBits_any _ _ _ _ _ hr0 hn').mono ?_
  rw [hz]
  rintro e w' ⟨rfl, rfl⟩
  go_wp2_with fail
  refine (iIsFault_any _ _ _ _ _).mono ?_
  rw [HF.out, hr]
  rintro e w1 ⟨rfl, hb1⟩
  have hbk := hbx.next hb1
  have e0 := hbk.c0
  have e1 := hbk.c1
  have e2 := hbk.c2
  have e3 := hbk.c3
  clear f0 f1 f2 f3
  go_wp2_with fail
  refine (applyFault_sil A n c zs q _ (hr0.up hb1) hn hq hA).mono ?_
  rintro e w2 ⟨A2, c2, rfl, hown2, hb2⟩
  go_wp2
  go_ret2
  rw [E1.out, E2.out]
  exact ⟨_, _, _, rfl, hown2.weaken (Nat.le_trans HB.out.size hb1.size), below_next hb2 (below_next hb1 HB.out (Nat.le_refl _)) (Nat.le_refl _)⟩

set_option maxHeartbeats 1000000 in
theorem impl_any (A : Option Addr) (n c : Nat) (zs : List Int) (at' : Int) (w : World) (h : RI w w.heap.size A n zs) (hn' : n ≤ 1099511627776) (hA : A = none → c = 0) :
    Calls Try.prog 81 #[.slice A n c, .int .i64 at'] w (RetIC 2 w (res zs at') (cod zs at')) := by
  go_enter Try.func81, Try.ntmps81
  go_wp2_with fail
  refine (iApplyFault_any A n c zs at' w h hn' hA).mono ?_
  rintro e w1 ⟨A1, n1, c1, rfl, hown1, hb1⟩
  go_wp2
  go_ret2
  exact ⟨_, _, _, rfl, hown1, hb1⟩
end SilenceFrom
end Go.Proofs.Ytlfbmedgkkfalaa
