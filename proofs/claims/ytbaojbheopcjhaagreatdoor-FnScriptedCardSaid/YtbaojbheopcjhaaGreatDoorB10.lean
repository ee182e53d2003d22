/- Walks, laws and small notions for the claims of this seat, several texts as one (Be, De, Fs, Sn, Sp). Conditions: as each theorem states them. -/
import Derived.Test.YtbaojbheopcjhaaGreatDoorB9
import Derived.Test.YtbaojbheopcjhaaGreatDoorB3
import Derived.Test.YtbaojbheopcjhaaGreatDoorB1
import Derived.Deep.DeepCutAuto
import Derived.Deep.RegionHeldLaw
import Derived.Test.YtbaojbheopcjhaaGreatDoorB7
import Derived.Laws.StructEq
namespace Go.Proofs.YtbaojbheopcjhaaGreatDoor
open Go.RowKit

/-- a state belongs to a schedule -/
def bel (M : Mdl) (t md rn sl mb : Int) : Bool :=
  isState t md rn sl mb && (decide (md < M.ms.length) && (decide (rn < (ge M.ms md.toNat).rd) && (decide (sl < (ge M.ms md.toNat).sl) && decide (mb.toNat &&& actV M.ns = mb.toNat))))
theorem isMedl_nt {M : Mdl} (h : isMedl M = true) : isNT M.ns = true ∧ isMT M.ms = true ∧ isST M.ss = true ∧ compl M = true := by
  unfold isMedl at h
  simp only [Bool.and_eq_true] at h
  exact ⟨h.2.1, h.2.2.1, h.2.2.2.1, h.2.2.2.2.1⟩
theorem isState_bd {t m d s b : Int} (h : isState t m d s b = true) : 0 ≤ m ∧ m ≤ 15 ∧ 0 ≤ d ∧ d ≤ 15 ∧ 0 ≤ s ∧ s ≤ 255 ∧ 0 ≤ b ∧ b ≤ 4294967295 := by
  unfold isState at h
  simp only [Bool.and_eq_true] at h
  have h1 := inR_iff.1 h.2.1; have h2 := inR_iff.1 h.2.2.1; have h3 := inR_iff.1 h.2.2.2.1; have h4 := inR_iff.1 h.2.2.2.2
  omega
theorem sState_is {t m d s b : Int} {v : Bool} (h : isState t m d s b = v) (w : World) : Calls Tryz.prog 117 #[.agg #[.int .i64 t, .int .i64 m, .int .i64 d, .int .i64 s, .int .i64 b]] w (RetV w (.bool v)) := by
  rw [← h]; exact sIsState_any t m d s b w
theorem iState_is {t m d s b : Int} {v : Bool} (h : isState t m d s b = v) (w : World) : Calls Tryz.prog 109 #[.agg #[.int .i64 t, .int .i64 m, .int .i64 d, .int .i64 s, .int .i64 b]] w (RetV w (.bool v)) := by
  rw [← h]; exact iIsState_any t m d s b w
set_option maxHeartbeats 1000000 in
theorem l11Mode_is {A : Option Addr} {n c : Nat} {md : Int} {v : Bool} (hn : n ≤ 1099511627776) (h : inR md 0 ((n : Int) - 1) = v) (w : World) : Calls Tryz.prog 118 #[.slice A n c, .int .i64 md] w fun e w' => e = .returned (.bool v) ∧ w = w' := by
  subst h
  go_enter Tryz.func118, Tryz.ntmps118
  go_wp2_with fail
  refine (l01In_any _ _ _ _).mono ?_
  rintro e w' ⟨rfl, rfl⟩
  go_wp2
  go_ret
  exact ⟨rfl, rfl⟩

set_option maxHeartbeats 8000000 in
theorem sBelongs_any (m : Mdv) (M : Mdl) (t md rn sl mb : Int) (w : World) (h : RD w w.heap.size m M) (hM : isMedl M = true) :
    Calls Tryz.prog 76 #[.agg #[.int .i64 m.id, .slice m.An m.nn m.cn, .slice m.Am m.nm m.cm, .slice m.As m.ns m.cs], .agg #[.int .i64 t, .int .i64 md, .int .i64 rn, .int .i64 sl, .int .i64 mb]] w (RetV w (.bool (bel M t md rn sl mb))) := by
  have LM := Lib.hid h.rm.len
  obtain ⟨hnt, hmt, hst, _⟩ := isMedl_nt hM
  have hml := isMT_len hmt
  rw [LM.out] at hml
  have hbm := h.bm
  have HMT := Lib.hid hmt
  have hact := actV_full hnt
  have hq := fun v (hv : RE encNd 4 v v.heap.size m.An m.nn M.ns) => l10Active_any m.An m.nn m.cn M.ns v hv h.bn (fun i hi => isNT_nd hnt hi)
  have E := Lib.hid (show bel M t md rn sl mb = (isState t md rn sl mb && (decide (md < M.ms.length) && (decide (rn < (ge M.ms md.toNat).rd) && (decide (sl < (ge M.ms md.toNat).sl) && decide (mb.toNat &&& actV M.ns = mb.toNat))))) from rfl)
  rw [LM.out] at E
  generalize actV M.ns = V at hq E hact
  clear hnt hst hM hmt
  obtain ⟨w0, hw0⟩ : ∃ v, v = (w.alloc (.cells #[.int .i64 m.id, .slice m.An m.nn m.cn, .slice m.Am m.nm m.cm, .slice m.As m.ns m.cs] 28)).alloc (.cells #[.int .i64 t, .int .i64 md, .int .i64 rn, .int .i64 sl, .int .i64 mb] 30) := ⟨_, rfl⟩
  have hB : BM w w.heap.size m M w0 := by rw [hw0]; exact (BM.box h).next (by go_grown)
  have hS : BlkL w0 (w.heap.size + 1) 30 [.int .i64 t, .int .i64 md, .int .i64 rn, .int .i64 sl, .int .i64 mb] := by rw [hw0]; exact BlkL.new _ _ _ (by simp)
  have m1 : ∀ x : Cls (GB w0), x.w.cell? ⟨w.heap.size, 1, none⟩ = some (.slice m.An m.nn m.cn) := fun x => GB.c x (hB.k.c 1 rfl)
  have s0 : ∀ x : Cls (GB w0), x.w.cell? ⟨w.heap.size + 1, 0, none⟩ = some (.int .i64 t) := fun x => GB.c x (hS.c 0 rfl)
  have s1 : ∀ x : Cls (GB w0), x.w.cell? ⟨w.heap.size + 1, 1, none⟩ = some (.int .i64 md) := fun x => GB.c x (hS.c 1 rfl)
  have s2 : ∀ x : Cls (GB w0), x.w.cell? ⟨w.heap.size + 1, 2, none⟩ = some (.int .i64 rn) := fun x => GB.c x (hS.c 2 rfl)
  have s3 : ∀ x : Cls (GB w0), x.w.cell? ⟨w.heap.size + 1, 3, none⟩ = some (.int .i64 sl) := fun x => GB.c x (hS.c 3 rfl)
  have s4 : ∀ x : Cls (GB w0), x.w.cell? ⟨w.heap.size + 1, 4, none⟩ = some (.int .i64 mb) := fun x => GB.c x (hS.c 4 rfl)
  have hV0 : GB w0 w0.drew := (Below.refl _ _).drew
  haveI hne : Nonempty (Cls (GB w0)) := ⟨⟨_, hV0⟩⟩
  have m2 : w0.cell? ⟨w.heap.size, 2, none⟩ = some (.slice m.Am m.nm m.cm) := hB.k.c 2 rfl
  rcases bool_cases (isState t md rn sl mb) with hT | hT
  case inr =>
    have m2' : ∀ x : Cls (GB w0), x.w.cell? ⟨w.heap.size, 2, none⟩ = some (.slice m.Am m.nm m.cm) := fun x => GB.c x m2
    have HT := Lib.hid hT
    go_enter Tryz.func76, Tryz.ntmps76
    go_wp2_with fail
    rw [← hw0]
    clear hw0
    refine wp_region_cls (GB w0) (by kernel_rfl) (by kernel_rfl) hV0 ?_
    repeat (go_big_quiet_step (first | (go_at_call 117; rename_i x; exact cls_call (fun h1 h2 => GB.next h1 h2) (sState_is hT _))))
    refine wpQuiet_nil ?_
    rintro _ ⟨x, rfl⟩
    have hb := (hB.next x.h).bel
    go_wp2
    go_ret
    exact ⟨ret_bool (by rw [E.out, HT.out]; rfl), hb⟩
  have hbd := isState_bd hT
  obtain ⟨k, hk⟩ : ∃ k : Nat, md = k := ⟨md.toNat, by omega⟩
  obtain ⟨B, hBm⟩ : ∃ B : Nat, mb = B := ⟨mb.toNat, by omega⟩
  subst hk
  subst hBm
  have HT := Lib.hid hT
  rw [Int.toNat_natCast, Int.toNat_natCast] at E
  by_cases hkm : k < m.nm
  case neg =>
    have hI : inR (k : Int) 0 ((m.nm : Int) - 1) = false := inR_no.2 (Or.inr (by omega))
    have HK := Lib.hid hkm
    have m2' : ∀ x : Cls (GB w0), x.w.cell? ⟨w.heap.size, 2, none⟩ = some (.slice m.Am m.nm m.cm) := fun x => GB.c x m2
    go_enter Tryz.func76, Tryz.ntmps76
    go_wp2_with fail
    rw [← hw0]
    clear hw0
    refine wp_region_cls (GB w0) (by kernel_rfl) (by kernel_rfl) hV0 ?_
    repeat (go_big_quiet_step (first | (go_at_call 117; rename_i x; exact cls_call (fun h1 h2 => GB.next h1 h2) (sState_is hT _)) | (go_at_call 118; exact cls_same (l11Mode_is hbm hI _))))
    refine wpQuiet_nil ?_
    rintro _ ⟨x, rfl⟩
    have hb := (hB.next x.h).bel
    go_wp2
    go_ret
    exact ⟨ret_bool (by rw [E.out, HT.out, show decide ((k : Int) < (m.nm : Int)) = false from decide_eq_false (by have := HK.out; omega)]; rfl), hb⟩
  have hI : inR (k : Int) 0 ((m.nm : Int) - 1) = true := inR_iff.2 (by omega)
  have HK := Lib.hid (show decide ((k : Int) < (m.nm : Int)) = true from decide_eq_true (by omega))
  have hmb := isMT_at HMT.out (i := k) (by rw [LM.out]; exact hkm)
  obtain ⟨b, o, A', n', c', eA, hbl, h0, h1, h2, _, _⟩ := hB.rd.rm.get hkm
  rw [eA] at m2
  have m2' : ∀ x : Cls (GB w0), x.w.cell? ⟨w.heap.size, 2, none⟩ = some (.slice (some ⟨b, o, none⟩) m.nm m.cm) := fun x => GB.c x m2
  have x0 : ∀ x : Cls (GB w0), x.w.cell? ⟨b, o + k * 3, none⟩ = some (.int .i64 (ge M.ms k).rd) := fun x => GB.c x h0
  have x1 : ∀ x : Cls (GB w0), x.w.cell? ⟨b, o + k * 3 + 1, none⟩ = some (.int .i64 (ge M.ms k).sl) := fun x => GB.c x h1
  clear eA
  generalize (ge M.ms k).rd = R at h0 x0 hmb E
  generalize (ge M.ms k).sl = S at h1 x1 hmb E
  clear h0 h1 h2 m2
  by_cases hr : R ≤ rn
  case pos =>
    have HR := Lib.hid hr
    go_enter Tryz.func76, Tryz.ntmps76
    go_wp2_with fail
    rw [← hw0]
    clear hw0
    refine wp_region_cls (GB w0) (by kernel_rfl) (by kernel_rfl) hV0 ?_
    repeat (go_big_quiet_step (first | (go_at_call 117; rename_i x; exact cls_call (fun h1 h2 => GB.next h1 h2) (sState_is hT _)) | (go_at_call 118; exact cls_same (l11Mode_is hbm hI _))))
    refine wpQuiet_nil ?_
    rintro _ ⟨x, rfl⟩
    have hb := (hB.next x.h).bel
    go_wp2
    go_ret
    exact ⟨ret_bool (by rw [E.out, HT.out, HK.out, show decide (rn < R) = false from decide_eq_false (by have := HR.out; omega)]; rfl), hb⟩
  have hr' : decide (R ≤ rn) = false := decide_eq_false hr
  by_cases hs : S ≤ sl
  case pos =>
    have HR := Lib.hid (And.intro hr hs)
    go_enter Tryz.func76, Tryz.ntmps76
    go_wp2_with fail
    rw [← hw0]
    clear hw0
    refine wp_region_cls (GB w0) (by kernel_rfl) (by kernel_rfl) hV0 ?_
    repeat (go_big_quiet_step (first | (go_at_call 117; rename_i x; exact cls_call (fun h1 h2 => GB.next h1 h2) (sState_is hT _)) | (go_at_call 118; exact cls_same (l11Mode_is hbm hI _))))
    refine wpQuiet_nil ?_
    rintro _ ⟨x, rfl⟩
    have hb := (hB.next x.h).bel
    go_wp2
    go_ret
    exact ⟨ret_bool (by rw [E.out, HT.out, HK.out, show decide (sl < S) = false from decide_eq_false (by have := HR.out.2; omega)]; simp), hb⟩
  have hs' : decide (S ≤ sl) = false := decide_eq_false hs
  have HR := Lib.hid (And.intro hr hs)
  have HZ := Lib.hid (show (bits .and .i64 (B : Int) (V : Int) == (B : Int)) = decide (B &&& V = B) by
    rw [bits_and_i64_nat B V (by omega) (by omega)]
    by_cases hh : B &&& V = B
    · rw [hh]; simp
    · rw [decide_eq_false hh, beq_eq_false_iff_ne]; omega)
  go_enter Tryz.func76, Tryz.ntmps76
  go_wp2_with fail
  rw [← hw0]
  clear hw0
  refine wp_region_cls (GB w0) (by kernel_rfl) (by kernel_rfl) hV0 ?_
  repeat (go_big_quiet_step (first | (go_at_call 117; rename_i x; exact cls_call (fun h1 h2 => GB.next h1 h2) (sState_is hT _)) | (go_at_call 118; exact cls_same (l11Mode_is hbm hI _))))
  refine wpQuiet_nil ?_
  rintro _ ⟨x, rfl⟩
  have hB2 := hB.next x.h
  have n1 := m1 x
  have n4 := s4 x
  clear m1 m2' s0 s1 s2 s3 s4 x0 x1
  go_wp2_with fail
  go_quiet (first | (go_at_call 86; exact quiet_same (hq _ hB2.rd.rn)))
  go_wp2
  go_ret
  exact ⟨ret_bool (HZ.out.trans (by rw [E.out, HT.out, HK.out, decide_eq_true (show rn < R by have := HR.out.1; omega), decide_eq_true (show sl < S by have := HR.out.2; omega)]; rfl)), below_drewN hB2.bel _⟩

set_option maxHeartbeats 8000000 in
theorem iBelongs_any (m : Mdv) (M : Mdl) (t md rn sl mb : Int) (w : World) (h : RD w w.heap.size m M) (hM : isMedl M = true) :
    Calls Tryz.prog 71 #[.agg #[.int .i64 m.id, .slice m.An m.nn m.cn, .slice m.Am m.nm m.cm, .slice m.As m.ns m.cs], .agg #[.int .i64 t, .int .i64 md, .int .i64 rn, .int .i64 sl, .int .i64 mb]] w (RetV w (.bool (bel M t md rn sl mb))) := by
  have LM := Lib.hid h.rm.len
  obtain ⟨hnt, hmt, hst, _⟩ := isMedl_nt hM
  have hml := isMT_len hmt
  rw [LM.out] at hml
  have hbm := h.bm
  have HMT := Lib.hid hmt
  have hact := actV_full hnt
  have hq := fun v (hv : RE encNd 4 v v.heap.size m.An m.nn M.ns) => activeVector_any m.An m.nn m.cn M.ns v hv h.bn (fun i hi => isNT_nd hnt hi)
  have E := Lib.hid (show bel M t md rn sl mb = (isState t md rn sl mb && (decide (md < M.ms.length) && (decide (rn < (ge M.ms md.toNat).rd) && (decide (sl < (ge M.ms md.toNat).sl) && decide (mb.toNat &&& actV M.ns = mb.toNat))))) from rfl)
  rw [LM.out] at E
  generalize actV M.ns = V at hq E hact
  clear hnt hst hM hmt
  obtain ⟨w0, hw0⟩ : ∃ v, v = (w.alloc (.cells #[.int .i64 m.id, .slice m.An m.nn m.cn, .slice m.Am m.nm m.cm, .slice m.As m.ns m.cs] 28)).alloc (.cells #[.int .i64 t, .int .i64 md, .int .i64 rn, .int .i64 sl, .int .i64 mb] 30) := ⟨_, rfl⟩
  have hB : BM w w.heap.size m M w0 := by rw [hw0]; exact (BM.box h).next (by go_grown)
  have hS : BlkL w0 (w.heap.size + 1) 30 [.int .i64 t, .int .i64 md, .int .i64 rn, .int .i64 sl, .int .i64 mb] := by rw [hw0]; exact BlkL.new _ _ _ (by simp)
  go_enter Tryz.func71, Tryz.ntmps71
  go_wp2_with fail
  rw [← hw0]
  refine (iState_is rfl _).mono ?_
  rcases bool_cases (isState t md rn sl mb) with hT | hT
  case inr =>
    have HT := Lib.hid hT
    rw [hT]
    clear hT
    rintro e w1 ⟨rfl, hb1⟩
    go_wp2
    go_ret
    exact ⟨ret_bool (by rw [E.out, HT.out]; rfl), (hB.next hb1).bel⟩
  have HT := Lib.hid hT
  have hbd := isState_bd hT
  rw [hT]
  clear hT
  obtain ⟨k, hk⟩ : ∃ k : Nat, md = k := ⟨md.toNat, by omega⟩
  obtain ⟨B, hBm⟩ : ∃ B : Nat, mb = B := ⟨mb.toNat, by omega⟩
  subst hk
  subst hBm
  rw [Int.toNat_natCast, Int.toNat_natCast] at E
  rintro e w1 ⟨rfl, hb1⟩
  have hB1 := hB.next hb1
  have hS1 := hS.next hb1
  clear hB hS hb1 hw0
  have c2 := hB1.k.c 2 rfl
  have e1 := hS1.c 1 rfl
  by_cases hkm : k < m.nm
  case neg =>
    have HK := Lib.hid hkm
    go_wp2
    go_ret
    exact ⟨ret_bool (by rw [E.out, HT.out, show decide ((k : Int) < (m.nm : Int)) = false from decide_eq_false (by have := HK.out; omega)]; rfl), hB1.bel⟩
  have HK := Lib.hid (show decide ((k : Int) < (m.nm : Int)) = true from decide_eq_true (by omega))
  have hmb := isMT_at HMT.out (i := k) (by rw [LM.out]; exact hkm)
  obtain ⟨b, o, A', n', c', eA, hbl, h0, h1, h2, _, _⟩ := hB1.rd.rm.get hkm
  rw [eA] at c2
  clear eA
  generalize (ge M.ms k).rd = R at h0 hmb E
  generalize (ge M.ms k).sl = S at h1 hmb E
  obtain ⟨w2, hw2⟩ : ∃ v, v = w1.alloc (.cells #[.int .i64 R, .int .i64 S, .slice A' n' c'] 110) := ⟨_, rfl⟩
  obtain ⟨g, hg⟩ : ∃ g, w1.heap.size = g := ⟨_, rfl⟩
  have hX : BlkL w2 g 110 [.int .i64 R, .int .i64 S, .slice A' n' c'] := by rw [hw2]; exact BlkL.new _ _ _ hg.symm
  have gb2 : Below w1.heap.size w1 w2 := by rw [hw2]; go_grown
  have hB2 := hB1.next gb2
  have hS2 := hS1.next gb2
  clear gb2
  have m1 : ∀ x : Cls (GB w2), x.w.cell? ⟨w.heap.size, 1, none⟩ = some (.slice m.An m.nn m.cn) := fun x => GB.c x (hB2.k.c 1 rfl)
  have s2 : ∀ x : Cls (GB w2), x.w.cell? ⟨w.heap.size + 1, 2, none⟩ = some (.int .i64 rn) := fun x => GB.c x (hS2.c 2 rfl)
  have s3 : ∀ x : Cls (GB w2), x.w.cell? ⟨w.heap.size + 1, 3, none⟩ = some (.int .i64 sl) := fun x => GB.c x (hS2.c 3 rfl)
  have s4 : ∀ x : Cls (GB w2), x.w.cell? ⟨w.heap.size + 1, 4, none⟩ = some (.int .i64 B) := fun x => GB.c x (hS2.c 4 rfl)
  have x0 : ∀ x : Cls (GB w2), x.w.cell? ⟨g, 0, none⟩ = some (.int .i64 R) := fun x => GB.c x (hX.c 0 rfl)
  have x1 : ∀ x : Cls (GB w2), x.w.cell? ⟨g, 1, none⟩ = some (.int .i64 S) := fun x => GB.c x (hX.c 1 rfl)
  have hV0 : GB w2 w2.drew := (Below.refl _ _).drew
  haveI hne : Nonempty (Cls (GB w2)) := ⟨⟨_, hV0⟩⟩
  obtain ⟨Z, hZ⟩ : ∃ Z, bits .andNot .i64 (B : Int) (V : Int) = Z := ⟨_, rfl⟩
  have hzz := bits_andNot_zero B V (by omega) (by omega)
  rw [hZ] at hzz
  have HZ := Lib.hid hzz
  clear hzz
  by_cases hr : rn < R
  case neg =>
    have HR := Lib.hid hr
    have hr' : decide (rn < R) = false := decide_eq_false hr
    go_wp2_with fail
    rw [← hw2]
    clear hw2 hg
    refine wp_region_cls (GB w2) (by kernel_rfl) (by kernel_rfl) hV0 ?_
    repeat (go_big_quiet_step (first | (go_at_call 110; rename_i x; exact cls_call (fun h1 h2 => GB.next h1 h2) (hq _ (hB2.rd.rn.up x.h)))))
    refine wpQuiet_nil ?_
    rintro _ ⟨x, rfl⟩
    have hb := (hB2.next x.h).bel
    go_wp2
    go_ret
    exact ⟨ret_bool (by rw [E.out, HT.out, HK.out, decide_eq_false (show ¬ rn < R by have := HR.out; omega)]; rfl), hb⟩
  by_cases hs : sl < S
  case neg =>
    have HR := Lib.hid (And.intro hr hs)
    have hs' : decide (sl < S) = false := decide_eq_false hs
    go_wp2_with fail
    rw [← hw2]
    clear hw2 hg
    refine wp_region_cls (GB w2) (by kernel_rfl) (by kernel_rfl) hV0 ?_
    repeat (go_big_quiet_step (first | (go_at_call 110; rename_i x; exact cls_call (fun h1 h2 => GB.next h1 h2) (hq _ (hB2.rd.rn.up x.h)))))
    refine wpQuiet_nil ?_
    rintro _ ⟨x, rfl⟩
    have hb := (hB2.next x.h).bel
    go_wp2
    go_ret
    exact ⟨ret_bool (by rw [E.out, HT.out, HK.out, decide_eq_false (show ¬ sl < S by have := HR.out; omega)]; simp), hb⟩
  have HR := Lib.hid (And.intro hr hs)
  go_wp2_with fail
  rw [← hw2]
  clear hw2 hg
  refine wp_region_cls (GB w2) (by kernel_rfl) (by kernel_rfl) hV0 ?_
  repeat (go_big_quiet_step (first | (go_at_call 110; rename_i x; exact cls_call (fun h1 h2 => GB.next h1 h2) (hq _ (hB2.rd.rn.up x.h)))))
  refine wpQuiet_nil ?_
  rintro _ ⟨x, rfl⟩
  have hb := (hB2.next x.h).bel
  go_wp2
  go_ret
  exact ⟨ret_bool (by rw [E.out, HT.out, HK.out, decide_eq_true HR.out.1, decide_eq_true HR.out.2, ← HZ.out]; rfl), hb⟩
end Go.Proofs.YtbaojbheopcjhaaGreatDoor

namespace Go.Proofs.YtbaojbheopcjhaaGreatDoor
open Go.RowKit

theorem bel_find {M : Mdl} {t md rn sl mb : Int} (hM : isMedl M = true) (h : bel M t md rn sl mb = true) : findI M.ss md rn sl < M.ss.length := by
  obtain ⟨_, hmt, _, hc⟩ := isMedl_nt hM
  unfold bel at h
  simp only [Bool.and_eq_true, decide_eq_true_eq] at h
  obtain ⟨hs, h1, h2, h3, _⟩ := h
  have hb := isState_bd hs
  have e : M.ss.map keyS = enumM M.ms := of_decide_eq_true hc
  rw [findI_lt, e, mem_enum (fun i hi => by have := isMT_at hmt hi; omega)]
  exact ⟨md.toNat, by omega, by show md = _; omega, ⟨show 0 ≤ rn by omega, h2⟩, show 0 ≤ sl by omega, h3⟩
theorem find_idx {l : List Sl} {md rn st : Int} (h : findI l md rn st < l.length) : idxZ (atKey md rn st) l = (findI l md rn st : Int) := by
  unfold idxZ
  exact if_pos h
theorem fd_fn : (Tryz.f80.name == "runtime.NumGoroutine") = false ∧ Tryz.f80.body.isSome = true := ⟨by kernel_rfl, by kernel_rfl⟩

set_option maxRecDepth 200000 in
set_option maxHeartbeats 8000000 in
theorem sDesc_any (m : Mdv) (M : Mdl) (t md rn sl mb : Int) (f : Nat) (w : World) (h : RD w w.heap.size m M) (hf : idxZ (atKey md rn sl) M.ss = (f : Int)) (hfl : f < m.ns) :
    Calls Tryz.prog 44 #[.agg #[.int .i64 m.id, .slice m.An m.nn m.cn, .slice m.Am m.nm m.cm, .slice m.As m.ns m.cs], .agg #[.int .i64 t, .int .i64 md, .int .i64 rn, .int .i64 sl, .int .i64 mb]] w (RetV w (.agg #[.int .i64 (ge M.ss f).nd, .int .i64 (ge M.ss f).kd, .int .i64 (ge M.ss f).sz, .int .i64 (ge M.ss f).du, .bool (ge M.ss f).ch])) := by
  have hbs := h.bs
  have hq := fun u (hu : RE encSl 8 u u.heap.size m.As m.ns M.ss) => l12Find_any m.As m.ns m.cs M.ss md rn sl u hu hbs
  rw [hf] at hq
  obtain ⟨w0, hw0⟩ : ∃ v, v = ((w.alloc (.cells #[.int .i64 m.id, .slice m.An m.nn m.cn, .slice m.Am m.nm m.cm, .slice m.As m.ns m.cs] 28)).alloc (.cells #[.int .i64 t, .int .i64 md, .int .i64 rn, .int .i64 sl, .int .i64 mb] 30)).alloc (.cells #[.int .i64 0, .int .i64 0, .int .i64 0, .int .i64 0, .bool false] 69) := ⟨_, rfl⟩
  have hB : BM w w.heap.size m M w0 := by rw [hw0]; exact (BM.box h).next (by go_grown)
  have hS : BlkL w0 (w.heap.size + 1) 30 [.int .i64 t, .int .i64 md, .int .i64 rn, .int .i64 sl, .int .i64 mb] := by rw [hw0]; exact (BlkL.new _ _ _ (by simp)).alloc _
  have hZ : BlkL w0 (w.heap.size + 1 + 1) 69 [.int .i64 0, .int .i64 0, .int .i64 0, .int .i64 0, .bool false] := by rw [hw0]; exact BlkL.new _ _ _ (by simp)
  go_enter Tryz.func44, Tryz.ntmps44
  go_upto_region 1 with fail
  rw [← hw0]
  clear hw0
  obtain ⟨b, o, hAs⟩ : ∃ b o, m.As = some ⟨b, o, none⟩ := let ⟨b, o, e, _⟩ := h.rs.get (by omega); ⟨b, o, e⟩
  rw [hAs]
  go_cut [15] (fun _ wc => BlkL wc (w.heap.size + 1 + 1) 69 [.int .i64 (ge M.ss f).nd, .int .i64 (ge M.ss f).kd, .int .i64 (ge M.ss f).sz, .int .i64 (ge M.ss f).du, .bool (ge M.ss f).ch] ∧ Below w.heap.size w wc)
  case first =>
    have hgl := hB.k.lt
    have hgl2 := hS.lt
    have hgl3 := hZ.lt
    have d3 := hB.k.c 3 rfl
    rw [hAs] at d3 hq
    have y1 := hS.c 1 rfl
    have y2 := hS.c 2 rfl
    have y3 := hS.c 3 rfl
    have hrs := hB.rd.rs
    rw [hAs] at hrs
    have hV : Below (w.heap.size + 1 + 1) w0 w0.drew := (Below.refl _ _).drew
    have hbw : Below w.heap.size w w0 := hB.bel
    have hsz : w.heap.size + 1 + 1 ≤ w0.heap.size := by omega
    have hrw : ∀ u, Below (w.heap.size + 1 + 1) w0 u → Below w.heap.size w u := fun u hu => hbw.trans (hu.mono (by omega))
    have hre : ∀ u, Below (w.heap.size + 1 + 1) w0 u → RE encSl 8 u u.heap.size (some ⟨b, o, none⟩) m.ns M.ss := fun u hu => hAs ▸ h.rs.up (hrw u hu)
    have HRW := Lib.hid hrw
    have HQ := Lib.hid (fun u (hu : Below (w.heap.size + 1 + 1) w0 u) => hq u (hre u hu))
    have HZ := Lib.hid hZ
    have HB := Lib.hid hB.bel
    have hcells : ∀ u, Below (w.heap.size + 1 + 1) w0 u → (Below (w.heap.size + 1 + 1) w0 u ∧ u.cell? ⟨w.heap.size, 3, none⟩ = some (.slice (some ⟨b, o, none⟩) m.ns m.cs) ∧ u.cell? ⟨w.heap.size + 1, 1, none⟩ = some (.int .i64 md) ∧ u.cell? ⟨w.heap.size + 1, 2, none⟩ = some (.int .i64 rn) ∧ u.cell? ⟨w.heap.size + 1, 3, none⟩ = some (.int .i64 sl)
        ∧ u.cell? ⟨b, o + f * 8 + 3, none⟩ = some (.int .i64 (ge M.ss f).nd) ∧ u.cell? ⟨b, o + f * 8 + 3 + 1, none⟩ = some (.int .i64 (ge M.ss f).kd) ∧ u.cell? ⟨b, o + f * 8 + 3 + 2, none⟩ = some (.int .i64 (ge M.ss f).sz) ∧ u.cell? ⟨b, o + f * 8 + 3 + 3, none⟩ = some (.int .i64 (ge M.ss f).du) ∧ u.cell? ⟨b, o + f * 8 + 3 + 4, none⟩ = some (.bool (ge M.ss f).ch)) := fun u hu => by
      obtain ⟨_, _, _, p3, p4, p5, p6, p7⟩ := cells8 (hre u hu) hfl
      exact ⟨hu, (Below.cell hu (p := ⟨w.heap.size, 3, none⟩) (by show w.heap.size < _; omega)).trans d3, (Below.cell hu (p := ⟨w.heap.size + 1, 1, none⟩) (by show w.heap.size + 1 < _; omega)).trans y1, (Below.cell hu (p := ⟨w.heap.size + 1, 2, none⟩) (by show w.heap.size + 1 < _; omega)).trans y2, (Below.cell hu (p := ⟨w.heap.size + 1, 3, none⟩) (by show w.heap.size + 1 < _; omega)).trans y3, p3, p4, p5, p6, p7⟩
    have HC := Lib.hid hcells
    clear hrs hZ hS hB hq hcells y1 y2 y3 d3 hrw hre hgl hgl2 hgl3
    first
    | go_region_held_law (fun u => Below (w.heap.size + 1 + 1) w0 u ∧ u.cell? ⟨w.heap.size, 3, none⟩ = some (.slice (some ⟨b, o, none⟩) m.ns m.cs) ∧ u.cell? ⟨w.heap.size + 1, 1, none⟩ = some (.int .i64 md) ∧ u.cell? ⟨w.heap.size + 1, 2, none⟩ = some (.int .i64 rn) ∧ u.cell? ⟨w.heap.size + 1, 3, none⟩ = some (.int .i64 sl)
        ∧ u.cell? ⟨b, o + f * 8 + 3, none⟩ = some (.int .i64 (ge M.ss f).nd) ∧ u.cell? ⟨b, o + f * 8 + 3 + 1, none⟩ = some (.int .i64 (ge M.ss f).kd) ∧ u.cell? ⟨b, o + f * 8 + 3 + 2, none⟩ = some (.int .i64 (ge M.ss f).sz) ∧ u.cell? ⟨b, o + f * 8 + 3 + 3, none⟩ = some (.int .i64 (ge M.ss f).du) ∧ u.cell? ⟨b, o + f * 8 + 3 + 4, none⟩ = some (.bool (ge M.ss f).ch)) (first | (with_reducible exact HC.out _ hV) | (with_reducible refine HC.out _ ?_; with_reducible assumption) | (with_reducible refine HC.out _ ?_; go_grown)) (first
      | (go_at_call 80; (have hgv : Below (w.heap.size + 1 + 1) w0 _ := And.left (‹Below (w.heap.size + 1 + 1) w0 _ ∧ _›)); (with_reducible refine (HQ.out _ hgv).mono ?_); rintro e cc ⟨rfl, rfl⟩; (have hv := hgv); have hz5 := HZ.out; have HZ5 := Lib.hid hz5; have HV5 := Lib.hid hv; have s0 := hz5.c 0 rfl; have s1 := hz5.c 1 rfl; have s2 := hz5.c 2 rfl; have s3 := hz5.c 3 rfl; have s4 := hz5.c 4 rfl; have r0 := hz5.free 0; have r1 := hz5.free 1; have r2 := hz5.free 2; have r3 := hz5.free 3; have r4 := hz5.free 4; clear hz5 hgv))
    | fail
    all_goals
      go_wp2_with fail
      go_meet
      have hbw5 := HRW.out _ HV5.out
      exact ⟨((((HZ5.out.set 0 _).set 1 _).set 2 _).set 3 _).set 4 _, by go_grown⟩
  case rest =>
    obtain ⟨hK, hb⟩ := hcut
    have k0 := hK.c 0 rfl
    have k1 := hK.c 1 rfl
    have k2 := hK.c 2 rfl
    have k3 := hK.c 3 rfl
    have k4 := hK.c 4 rfl
    clear hK
    go_wp2
    exact bodyPost_ret (v := .agg #[.int .i64 (ge M.ss f).nd, .int .i64 (ge M.ss f).kd, .int .i64 (ge M.ss f).sz, .int .i64 (ge M.ss f).du, .bool (ge M.ss f).ch]) (by simp [results, Tryz.results44, go_sem, k0, k1, k2, k3, k4]) rfl ⟨rfl, hb⟩

set_option maxRecDepth 200000 in
set_option maxHeartbeats 8000000 in
theorem iDesc_any (m : Mdv) (M : Mdl) (t md rn sl mb : Int) (f : Nat) (w : World) (h : RD w w.heap.size m M) (hf : idxZ (atKey md rn sl) M.ss = (f : Int)) (hfl : f < m.ns) :
    Calls Tryz.prog 36 #[.agg #[.int .i64 m.id, .slice m.An m.nn m.cn, .slice m.Am m.nm m.cm, .slice m.As m.ns m.cs], .agg #[.int .i64 t, .int .i64 md, .int .i64 rn, .int .i64 sl, .int .i64 mb]] w (RetV w (.agg #[.int .i64 (ge M.ss f).nd, .int .i64 (ge M.ss f).kd, .int .i64 (ge M.ss f).sz, .int .i64 (ge M.ss f).du, .bool (ge M.ss f).ch])) := by
  have hbs := h.bs
  have hq := fun u (hu : RE encSl 8 u u.heap.size m.As m.ns M.ss) => findSlot_any m.As m.ns m.cs M.ss md rn sl u hu hbs
  rw [hf] at hq
  obtain ⟨w0, hw0⟩ : ∃ v, v = ((w.alloc (.cells #[.int .i64 m.id, .slice m.An m.nn m.cn, .slice m.Am m.nm m.cm, .slice m.As m.ns m.cs] 28)).alloc (.cells #[.int .i64 t, .int .i64 md, .int .i64 rn, .int .i64 sl, .int .i64 mb] 30)).alloc (.cells #[.int .i64 0, .int .i64 0, .int .i64 0, .int .i64 0, .bool false] 69) := ⟨_, rfl⟩
  have hB : BM w w.heap.size m M w0 := by rw [hw0]; exact (BM.box h).next (by go_grown)
  have hS : BlkL w0 (w.heap.size + 1) 30 [.int .i64 t, .int .i64 md, .int .i64 rn, .int .i64 sl, .int .i64 mb] := by rw [hw0]; exact (BlkL.new _ _ _ (by simp)).alloc _
  have hZ : BlkL w0 (w.heap.size + 1 + 1) 69 [.int .i64 0, .int .i64 0, .int .i64 0, .int .i64 0, .bool false] := by rw [hw0]; exact BlkL.new _ _ _ (by simp)
  go_enter Tryz.func36, Tryz.ntmps36
  go_upto_region 1 with fail
  rw [← hw0]
  clear hw0
  obtain ⟨b, o, hAs⟩ : ∃ b o, m.As = some ⟨b, o, none⟩ := let ⟨b, o, e, _⟩ := h.rs.get (by omega); ⟨b, o, e⟩
  rw [hAs]
  go_cut [15] (fun _ wc => BlkL wc (w.heap.size + 1 + 1) 69 [.int .i64 (ge M.ss f).nd, .int .i64 (ge M.ss f).kd, .int .i64 (ge M.ss f).sz, .int .i64 (ge M.ss f).du, .bool (ge M.ss f).ch] ∧ Below w.heap.size w wc)
  case first =>
    have hgl := hB.k.lt
    have hgl2 := hS.lt
    have hgl3 := hZ.lt
    have d3 := hB.k.c 3 rfl
    rw [hAs] at d3 hq
    have y1 := hS.c 1 rfl
    have y2 := hS.c 2 rfl
    have y3 := hS.c 3 rfl
    have hrs := hB.rd.rs
    rw [hAs] at hrs
    have hV : Below (w.heap.size + 1 + 1) w0 w0.drew := (Below.refl _ _).drew
    have hbw : Below w.heap.size w w0 := hB.bel
    have hsz : w.heap.size + 1 + 1 ≤ w0.heap.size := by omega
    have hrw : ∀ u, Below (w.heap.size + 1 + 1) w0 u → Below w.heap.size w u := fun u hu => hbw.trans (hu.mono (by omega))
    have hre : ∀ u, Below (w.heap.size + 1 + 1) w0 u → RE encSl 8 u u.heap.size (some ⟨b, o, none⟩) m.ns M.ss := fun u hu => hAs ▸ h.rs.up (hrw u hu)
    have HRW := Lib.hid hrw
    have HQ := Lib.hid (fun u (hu : Below (w.heap.size + 1 + 1) w0 u) => hq u (hre u hu))
    have HZ := Lib.hid hZ
    have HB := Lib.hid hB.bel
    have hcells : ∀ u, Below (w.heap.size + 1 + 1) w0 u → (Below (w.heap.size + 1 + 1) w0 u ∧ u.cell? ⟨w.heap.size, 3, none⟩ = some (.slice (some ⟨b, o, none⟩) m.ns m.cs) ∧ u.cell? ⟨w.heap.size + 1, 1, none⟩ = some (.int .i64 md) ∧ u.cell? ⟨w.heap.size + 1, 2, none⟩ = some (.int .i64 rn) ∧ u.cell? ⟨w.heap.size + 1, 3, none⟩ = some (.int .i64 sl)
        ∧ u.cell? ⟨b, o + f * 8 + 3, none⟩ = some (.int .i64 (ge M.ss f).nd) ∧ u.cell? ⟨b, o + f * 8 + 3 + 1, none⟩ = some (.int .i64 (ge M.ss f).kd) ∧ u.cell? ⟨b, o + f * 8 + 3 + 2, none⟩ = some (.int .i64 (ge M.ss f).sz) ∧ u.cell? ⟨b, o + f * 8 + 3 + 3, none⟩ = some (.int .i64 (ge M.ss f).du) ∧ u.cell? ⟨b, o + f * 8 + 3 + 4, none⟩ = some (.bool (ge M.ss f).ch)) := fun u hu => by
      obtain ⟨_, _, _, p3, p4, p5, p6, p7⟩ := cells8 (hre u hu) hfl
      exact ⟨hu, (Below.cell hu (p := ⟨w.heap.size, 3, none⟩) (by show w.heap.size < _; omega)).trans d3, (Below.cell hu (p := ⟨w.heap.size + 1, 1, none⟩) (by show w.heap.size + 1 < _; omega)).trans y1, (Below.cell hu (p := ⟨w.heap.size + 1, 2, none⟩) (by show w.heap.size + 1 < _; omega)).trans y2, (Below.cell hu (p := ⟨w.heap.size + 1, 3, none⟩) (by show w.heap.size + 1 < _; omega)).trans y3, p3, p4, p5, p6, p7⟩
    have HC := Lib.hid hcells
    clear hrs hZ hS hB hq hcells y1 y2 y3 d3 hrw hre hgl hgl2 hgl3
    first
    | go_region_held_law (fun u => Below (w.heap.size + 1 + 1) w0 u ∧ u.cell? ⟨w.heap.size, 3, none⟩ = some (.slice (some ⟨b, o, none⟩) m.ns m.cs) ∧ u.cell? ⟨w.heap.size + 1, 1, none⟩ = some (.int .i64 md) ∧ u.cell? ⟨w.heap.size + 1, 2, none⟩ = some (.int .i64 rn) ∧ u.cell? ⟨w.heap.size + 1, 3, none⟩ = some (.int .i64 sl)
        ∧ u.cell? ⟨b, o + f * 8 + 3, none⟩ = some (.int .i64 (ge M.ss f).nd) ∧ u.cell? ⟨b, o + f * 8 + 3 + 1, none⟩ = some (.int .i64 (ge M.ss f).kd) ∧ u.cell? ⟨b, o + f * 8 + 3 + 2, none⟩ = some (.int .i64 (ge M.ss f).sz) ∧ u.cell? ⟨b, o + f * 8 + 3 + 3, none⟩ = some (.int .i64 (ge M.ss f).du) ∧ u.cell? ⟨b, o + f * 8 + 3 + 4, none⟩ = some (.bool (ge M.ss f).ch)) (first | (with_reducible exact HC.out _ hV) | (with_reducible refine HC.out _ ?_; with_reducible assumption) | (with_reducible refine HC.out _ ?_; go_grown)) (first
      | (go_at_call 73; (have hgv : Below (w.heap.size + 1 + 1) w0 _ := And.left (‹Below (w.heap.size + 1 + 1) w0 _ ∧ _›)); (with_reducible refine (HQ.out _ hgv).mono ?_); rintro e cc ⟨rfl, hb⟩; (have hv := below_next hb hgv hsz); have hz5 := HZ.out.drew.next hb; have HZ5 := Lib.hid hz5; have HV5 := Lib.hid hv; have s0 := hz5.c 0 rfl; have s1 := hz5.c 1 rfl; have s2 := hz5.c 2 rfl; have s3 := hz5.c 3 rfl; have s4 := hz5.c 4 rfl; have r0 := hz5.free 0; have r1 := hz5.free 1; have r2 := hz5.free 2; have r3 := hz5.free 3; have r4 := hz5.free 4; clear hz5 hgv))
    | fail
    all_goals
      go_wp2_with fail
      go_meet
      have hbw5 := HRW.out _ HV5.out
      exact ⟨((((HZ5.out.set 0 _).set 1 _).set 2 _).set 3 _).set 4 _, by go_grown⟩
  case rest =>
    obtain ⟨hK, hb⟩ := hcut
    have k0 := hK.c 0 rfl
    have k1 := hK.c 1 rfl
    have k2 := hK.c 2 rfl
    have k3 := hK.c 3 rfl
    have k4 := hK.c 4 rfl
    clear hK
    go_wp2
    exact bodyPost_ret (v := .agg #[.int .i64 (ge M.ss f).nd, .int .i64 (ge M.ss f).kd, .int .i64 (ge M.ss f).sz, .int .i64 (ge M.ss f).du, .bool (ge M.ss f).ch]) (by simp [results, Tryz.results36, go_sem, k0, k1, k2, k3, k4]) rfl ⟨rfl, hb⟩
end Go.Proofs.YtbaojbheopcjhaaGreatDoor

namespace Go.Proofs.YtbaojbheopcjhaaGreatDoor
open Go.RowKit

def fitF (kd sz : Int) (ch : Bool) (k r : Int) (n : Nat) : Bool := decide (k = kd) && (decide ((n : Int) = sz) && (ch || decide (r = 0)))
def fitD (nd kd sz du : Int) (ch : Bool) (k r ft fm fd fs fb : Int) (zs : List Int) : Bool := isDs nd kd sz du ch && (isFrame k r ft fm fd fs fb zs && fitF kd sz ch k r zs.length)
theorem fit_cases (kd sz : Int) (ch : Bool) (k r : Int) (n : Nat) : ((k == kd) = false ∧ fitF kd sz ch k r n = false) ∨ ((k == kd) = true ∧ ((n : Int) == sz) = false ∧ fitF kd sz ch k r n = false)
    ∨ ((k == kd) = true ∧ ((n : Int) == sz) = true ∧ (r == 0) = false ∧ fitF kd sz ch k r n = ch) ∨ ((k == kd) = true ∧ ((n : Int) == sz) = true ∧ (r == 0) = true ∧ fitF kd sz ch k r n = true) := by
  unfold fitF
  by_cases h1 : k = kd <;> by_cases h2 : (n : Int) = sz <;> by_cases h3 : r = 0 <;> simp [h1, h2, h3]

set_option maxHeartbeats 8000000 in
theorem sFits_any (nd kd sz du : Int) (ch : Bool) (k r ft fm fd fs fb : Int) (A : Option Addr) (n c : Nat) (zs : List Int) (w : World) (h : RI w w.heap.size A n zs) (hn : n ≤ 1099511627776) :
    Calls Tryz.prog 78 #[.agg #[.int .i64 nd, .int .i64 kd, .int .i64 sz, .int .i64 du, .bool ch], .agg #[.int .i64 k, .int .i64 r, .int .i64 ft, .int .i64 fm, .int .i64 fd, .int .i64 fs, .int .i64 fb, .slice A n c]] w (RetV w (.bool (fitD nd kd sz du ch k r ft fm fd fs fb zs))) := by
  have E := Lib.hid (show fitD nd kd sz du ch k r ft fm fd fs fb zs = (isDs nd kd sz du ch && (isFrame k r ft fm fd fs fb zs && fitF kd sz ch k r n)) by unfold fitD; rw [h.len])
  obtain ⟨b1, h1⟩ : ∃ b, isDs nd kd sz du ch = b := ⟨_, rfl⟩
  obtain ⟨b2, h2⟩ : ∃ b, isFrame k r ft fm fd fs fb zs = b := ⟨_, rfl⟩
  have hd := fun v => sIsDs_any nd kd sz du ch v
  rw [h1] at hd
  have hf := fun v hv => sIsFrame_any k r ft fm fd fs fb A n c zs v hv hn
  rw [h2] at hf
  have B1 := Lib.hid h1
  have B2 := Lib.hid h2
  clear h1 h2
  obtain ⟨w0, hw0⟩ : ∃ v, v = (w.alloc (.cells #[.int .i64 nd, .int .i64 kd, .int .i64 sz, .int .i64 du, .bool ch] 69)).alloc (.cells #[.int .i64 k, .int .i64 r, .int .i64 ft, .int .i64 fm, .int .i64 fd, .int .i64 fs, .int .i64 fb, .slice A n c] 33) := ⟨_, rfl⟩
  have hD : BlkL w0 w.heap.size 69 [.int .i64 nd, .int .i64 kd, .int .i64 sz, .int .i64 du, .bool ch] := by rw [hw0]; exact (BlkL.new _ _ _ rfl).alloc _
  have hF : BlkL w0 (w.heap.size + 1) 33 [.int .i64 k, .int .i64 r, .int .i64 ft, .int .i64 fm, .int .i64 fd, .int .i64 fs, .int .i64 fb, .slice A n c] := by rw [hw0]; exact BlkL.new _ _ _ (by simp)
  have gb0 : Below w.heap.size w w0 := by rw [hw0]; go_grown
  go_enter Tryz.func78, Tryz.ntmps78
  go_wp2_with fail
  rw [← hw0]
  clear hw0
  refine (hd _).mono ?_
  rintro e w1 ⟨rfl, hb1⟩
  have hD1 := hD.next hb1
  have hF1 := hF.next hb1
  have hb01 := below_next hb1 gb0 (Nat.le_refl _)
  clear hD hF
  have f0 := hF1.c 0 rfl
  have f1 := hF1.c 1 rfl
  have f2 := hF1.c 2 rfl
  have f3 := hF1.c 3 rfl
  have f4 := hF1.c 4 rfl
  have f5 := hF1.c 5 rfl
  have f6 := hF1.c 6 rfl
  have f7 := hF1.c 7 rfl
  clear hd
  cases b1
  case false =>
    clear hf
    go_wp2
    go_ret
    exact ⟨ret_bool (by rw [E.out, B1.out]; rfl), hb01⟩
  go_wp2_with fail
  refine (hf _ (h.up hb01)).mono ?_
  rintro e w2 ⟨rfl, hb2⟩
  have hD2 := hD1.next hb2
  have hF2 := hF1.next hb2
  have hb02 := below_next hb2 hb01 (Nat.le_refl _)
  clear hD1 hF1 f0 f1 f2 f3 f4 f5 f6 f7
  have f0 := hF2.c 0 rfl
  have f1 := hF2.c 1 rfl
  have f2 := hF2.c 2 rfl
  have f3 := hF2.c 3 rfl
  have f4 := hF2.c 4 rfl
  have f5 := hF2.c 5 rfl
  have f6 := hF2.c 6 rfl
  have f7 := hF2.c 7 rfl
  have d0 := hD2.c 0 rfl
  have d1 := hD2.c 1 rfl
  have d2 := hD2.c 2 rfl
  have d3 := hD2.c 3 rfl
  have d4 := hD2.c 4 rfl
  clear hf
  cases b2
  case false =>
    go_wp2
    go_ret
    exact ⟨ret_bool (by rw [E.out, B1.out, B2.out]; rfl), hb02⟩
  rcases fit_cases kd sz ch k r n with ⟨q1, qs⟩ | ⟨q1, q2, qs⟩ | ⟨q1, q2, q3, qs⟩ | ⟨q1, q2, q3, qs⟩
  all_goals
    have HQ := Lib.hid qs
    clear qs
    cases ch
    all_goals
      go_wp2
      go_ret
      exact ⟨ret_bool (by rw [E.out, B1.out, B2.out, HQ.out]; rfl), hb02⟩

set_option maxHeartbeats 4000000 in
theorem fits_any (nd kd sz du : Int) (ch : Bool) (k r ft fm fd fs fb : Int) (A : Option Addr) (n c : Nat) (w : World) :
    Calls Tryz.prog 115 #[.agg #[.int .i64 nd, .int .i64 kd, .int .i64 sz, .int .i64 du, .bool ch], .agg #[.int .i64 k, .int .i64 r, .int .i64 ft, .int .i64 fm, .int .i64 fd, .int .i64 fs, .int .i64 fb, .slice A n c]] w (RetV w (.bool (fitF kd sz ch k r n))) := by
  rcases fit_cases kd sz ch k r n with ⟨q1, qs⟩ | ⟨q1, q2, qs⟩ | ⟨q1, q2, q3, qs⟩ | ⟨q1, q2, q3, qs⟩
  all_goals
    have HQ := Lib.hid qs
    clear qs
    cases ch
    all_goals
      go_enter Tryz.func115, Tryz.ntmps115
      go_wp2
      go_ret
      exact ⟨ret_bool HQ.out.symm, by go_grown⟩

set_option maxHeartbeats 8000000 in
theorem iFits_any (nd kd sz du : Int) (ch : Bool) (k r ft fm fd fs fb : Int) (A : Option Addr) (n c : Nat) (zs : List Int) (w : World) (h : RI w w.heap.size A n zs) (hn : n ≤ 1099511627776) :
    Calls Tryz.prog 74 #[.agg #[.int .i64 nd, .int .i64 kd, .int .i64 sz, .int .i64 du, .bool ch], .agg #[.int .i64 k, .int .i64 r, .int .i64 ft, .int .i64 fm, .int .i64 fd, .int .i64 fs, .int .i64 fb, .slice A n c]] w (RetV w (.bool (fitD nd kd sz du ch k r ft fm fd fs fb zs))) := by
  have E := Lib.hid (show fitD nd kd sz du ch k r ft fm fd fs fb zs = (isDs nd kd sz du ch && (isFrame k r ft fm fd fs fb zs && fitF kd sz ch k r n)) by unfold fitD; rw [h.len])
  obtain ⟨b1, h1⟩ : ∃ b, isDs nd kd sz du ch = b := ⟨_, rfl⟩
  obtain ⟨b2, h2⟩ : ∃ b, isFrame k r ft fm fd fs fb zs = b := ⟨_, rfl⟩
  have hd := fun v => iIsDs_any nd kd sz du ch v
  rw [h1] at hd
  have hf := fun v hv => iIsFrame_any k r ft fm fd fs fb A n c zs v hv hn
  rw [h2] at hf
  have B1 := Lib.hid h1
  have B2 := Lib.hid h2
  clear h1 h2
  obtain ⟨w0, hw0⟩ : ∃ v, v = (w.alloc (.cells #[.int .i64 nd, .int .i64 kd, .int .i64 sz, .int .i64 du, .bool ch] 69)).alloc (.cells #[.int .i64 k, .int .i64 r, .int .i64 ft, .int .i64 fm, .int .i64 fd, .int .i64 fs, .int .i64 fb, .slice A n c] 33) := ⟨_, rfl⟩
  have hD : BlkL w0 w.heap.size 69 [.int .i64 nd, .int .i64 kd, .int .i64 sz, .int .i64 du, .bool ch] := by rw [hw0]; exact (BlkL.new _ _ _ rfl).alloc _
  have hF : BlkL w0 (w.heap.size + 1) 33 [.int .i64 k, .int .i64 r, .int .i64 ft, .int .i64 fm, .int .i64 fd, .int .i64 fs, .int .i64 fb, .slice A n c] := by rw [hw0]; exact BlkL.new _ _ _ (by simp)
  have gb0 : Below w.heap.size w w0 := by rw [hw0]; go_grown
  go_enter Tryz.func74, Tryz.ntmps74
  go_wp2_with fail
  rw [← hw0]
  clear hw0
  refine (hd _).mono ?_
  rintro e w1 ⟨rfl, hb1⟩
  have hD1 := hD.next hb1
  have hF1 := hF.next hb1
  have hb01 := below_next hb1 gb0 (Nat.le_refl _)
  clear hD hF
  have f0 := hF1.c 0 rfl
  have f1 := hF1.c 1 rfl
  have f2 := hF1.c 2 rfl
  have f3 := hF1.c 3 rfl
  have f4 := hF1.c 4 rfl
  have f5 := hF1.c 5 rfl
  have f6 := hF1.c 6 rfl
  have f7 := hF1.c 7 rfl
  clear hd
  cases b1
  case false =>
    clear hf
    go_wp2
    go_ret
    exact ⟨ret_bool (by rw [E.out, B1.out]; rfl), hb01⟩
  go_wp2_with fail
  refine (hf _ (h.up hb01)).mono ?_
  rintro e w2 ⟨rfl, hb2⟩
  have hD2 := hD1.next hb2
  have hF2 := hF1.next hb2
  have hb02 := below_next hb2 hb01 (Nat.le_refl _)
  clear hD1 hF1 f0 f1 f2 f3 f4 f5 f6 f7
  have f0 := hF2.c 0 rfl
  have f1 := hF2.c 1 rfl
  have f2 := hF2.c 2 rfl
  have f3 := hF2.c 3 rfl
  have f4 := hF2.c 4 rfl
  have f5 := hF2.c 5 rfl
  have f6 := hF2.c 6 rfl
  have f7 := hF2.c 7 rfl
  have d0 := hD2.c 0 rfl
  have d1 := hD2.c 1 rfl
  have d2 := hD2.c 2 rfl
  have d3 := hD2.c 3 rfl
  have d4 := hD2.c 4 rfl
  clear hf
  cases b2
  case false =>
    go_wp2
    go_ret
    exact ⟨ret_bool (by rw [E.out, B1.out, B2.out]; rfl), hb02⟩
  go_wp2_with fail
  refine (fits_any nd kd sz du ch k r ft fm fd fs fb A n c _).mono ?_
  rintro e w3 ⟨rfl, hb3⟩
  go_wp2
  go_ret
  exact ⟨ret_bool (by rw [E.out, B1.out, B2.out]; rfl), below_next hb3 hb02 (Nat.le_refl _)⟩
end Go.Proofs.YtbaojbheopcjhaaGreatDoor

namespace Go.Proofs.YtbaojbheopcjhaaGreatDoor
open Go.RowKit

theorem st_cases (a1 b1 a2 b2 a3 b3 a4 b4 a5 b5 : Int) : ((a1 == b1) = false ∧ decide (a1 = b1 ∧ a2 = b2 ∧ a3 = b3 ∧ a4 = b4 ∧ a5 = b5) = false)
    ∨ ((a1 == b1) = true ∧ (a2 == b2) = false ∧ decide (a1 = b1 ∧ a2 = b2 ∧ a3 = b3 ∧ a4 = b4 ∧ a5 = b5) = false)
    ∨ ((a1 == b1) = true ∧ (a2 == b2) = true ∧ (a3 == b3) = false ∧ decide (a1 = b1 ∧ a2 = b2 ∧ a3 = b3 ∧ a4 = b4 ∧ a5 = b5) = false)
    ∨ ((a1 == b1) = true ∧ (a2 == b2) = true ∧ (a3 == b3) = true ∧ (a4 == b4) = false ∧ decide (a1 = b1 ∧ a2 = b2 ∧ a3 = b3 ∧ a4 = b4 ∧ a5 = b5) = false)
    ∨ ((a1 == b1) = true ∧ (a2 == b2) = true ∧ (a3 == b3) = true ∧ (a4 == b4) = true ∧ (a5 == b5) = false ∧ decide (a1 = b1 ∧ a2 = b2 ∧ a3 = b3 ∧ a4 = b4 ∧ a5 = b5) = false)
    ∨ ((a1 == b1) = true ∧ (a2 == b2) = true ∧ (a3 == b3) = true ∧ (a4 == b4) = true ∧ (a5 == b5) = true ∧ decide (a1 = b1 ∧ a2 = b2 ∧ a3 = b3 ∧ a4 = b4 ∧ a5 = b5) = true) := by
  by_cases h1 : a1 = b1 <;> by_cases h2 : a2 = b2 <;> by_cases h3 : a3 = b3 <;> by_cases h4 : a4 = b4 <;> by_cases h5 : a5 = b5 <;> simp [h1, h2, h3, h4, h5]
theorem sHasSt_is {k : Int} {b : Bool} (h : (k != 0) = b) (w : World) : Calls Tryz.prog 77 #[.int .i64 k] w fun e w' => e = .returned (.bool b) ∧ w = w' := by
  subst h
  go_enter Tryz.func77, Tryz.ntmps77
  go_wp2
  go_ret
  exact ⟨rfl, rfl⟩
theorem iHasSt_is {k : Int} {b : Bool} (h : (k != 0) = b) (w : World) : Calls Tryz.prog 72 #[.int .i64 k] w fun e w' => e = .returned (.bool b) ∧ w = w' := by
  subst h
  go_enter Tryz.func72, Tryz.ntmps72
  go_wp2
  go_ret
  exact ⟨rfl, rfl⟩
/-- a state belongs to a well-formed schedule -/
def belTo (M : Mdl) (t md rn sl mb : Int) : Bool := isMedl M && bel M t md rn sl mb
/-- a frame may be sent in a slot -/
def sendB (x : Sl) (t md rn sl mb k r ft fm fd fs fb : Int) (zs : List Int) : Bool :=
  fitD x.nd x.kd x.sz x.du x.ch k r ft fm fd fs fb zs && (decide (k = 0) || decide (ft = t ∧ fm = md ∧ fd = rn ∧ fs = sl ∧ fb = mb))
def sendTo (M : Mdl) (t md rn sl mb k r ft fm fd fs fb : Int) (zs : List Int) : Bool :=
  belTo M t md rn sl mb && sendB (ge M.ss (findI M.ss md rn sl)) t md rn sl mb k r ft fm fd fs fb zs

set_option maxHeartbeats 4000000 in
theorem sBelTo_any (m : Mdv) (M : Mdl) (t md rn sl mb : Int) (w : World) (h : RD w w.heap.size m M) (hx : RX m M) :
    Calls Tryz.prog 50 #[.agg #[.int .i64 m.id, .slice m.An m.nn m.cn, .slice m.Am m.nm m.cm, .slice m.As m.ns m.cs], .agg #[.int .i64 t, .int .i64 md, .int .i64 rn, .int .i64 sl, .int .i64 mb]] w (RetV w (.bool (belTo M t md rn sl mb))) := by
  obtain ⟨w0, hw0⟩ : ∃ v, v = (w.alloc (.cells #[.int .i64 m.id, .slice m.An m.nn m.cn, .slice m.Am m.nm m.cm, .slice m.As m.ns m.cs] 28)).alloc (.cells #[.int .i64 t, .int .i64 md, .int .i64 rn, .int .i64 sl, .int .i64 mb] 30) := ⟨_, rfl⟩
  have hB : BM w w.heap.size m M w0 := by rw [hw0]; exact (BM.box h).next (by go_grown)
  have hS : BlkL w0 (w.heap.size + 1) 30 [.int .i64 t, .int .i64 md, .int .i64 rn, .int .i64 sl, .int .i64 mb] := by rw [hw0]; exact BlkL.new _ _ _ (by simp)
  have E := Lib.hid (show belTo M t md rn sl mb = (isMedl M && bel M t md rn sl mb) from rfl)
  obtain ⟨b1, h1⟩ : ∃ b, isMedl M = b := ⟨_, rfl⟩
  go_enter Tryz.func50, Tryz.ntmps50
  go_wp2_with fail
  rw [← hw0]
  clear hw0
  refine (sIsMedl_any m M _ hB.rd hx).mono ?_
  rw [h1]
  have H1 := Lib.hid h1
  clear h1
  rintro e w1 ⟨rfl, hb1⟩
  have hB1 := hB.next hb1
  have hS1 := hS.next hb1
  clear hB hS hb1
  cases b1
  case false =>
    go_wp2
    go_ret
    exact ⟨ret_bool (by rw [E.out, H1.out]; rfl), hB1.bel⟩
  have c0 := hB1.k.c 0 rfl
  have c1 := hB1.k.c 1 rfl
  have c2 := hB1.k.c 2 rfl
  have c3 := hB1.k.c 3 rfl
  have s0 := hS1.c 0 rfl
  have s1 := hS1.c 1 rfl
  have s2 := hS1.c 2 rfl
  have s3 := hS1.c 3 rfl
  have s4 := hS1.c 4 rfl
  go_wp2_with fail
  refine (sBelongs_any m M t md rn sl mb _ hB1.rd H1.out).mono ?_
  rintro e w2 ⟨rfl, hb2⟩
  go_wp2
  go_ret
  exact ⟨ret_bool (by rw [E.out, H1.out]; rfl), (hB1.next hb2).bel⟩

set_option maxHeartbeats 8000000 in
theorem sSend_any (m : Mdv) (M : Mdl) (t md rn sl mb k r ft fm fd fs fb : Int) (A : Option Addr) (n c : Nat) (zs : List Int) (f : Nat) (w : World) (h : RD w w.heap.size m M) (hz : RI w w.heap.size A n zs) (hn : n ≤ 1099511627776) (hf : idxZ (atKey md rn sl) M.ss = (f : Int)) (hfl : f < m.ns) :
    Calls Tryz.prog 41 #[.agg #[.int .i64 m.id, .slice m.An m.nn m.cn, .slice m.Am m.nm m.cm, .slice m.As m.ns m.cs], .agg #[.int .i64 t, .int .i64 md, .int .i64 rn, .int .i64 sl, .int .i64 mb], .agg #[.int .i64 k, .int .i64 r, .int .i64 ft, .int .i64 fm, .int .i64 fd, .int .i64 fs, .int .i64 fb, .slice A n c]] w (RetV w (.bool (sendB (ge M.ss f) t md rn sl mb k r ft fm fd fs fb zs))) := by
  obtain ⟨w0, hw0⟩ : ∃ v, v = ((w.alloc (.cells #[.int .i64 m.id, .slice m.An m.nn m.cn, .slice m.Am m.nm m.cm, .slice m.As m.ns m.cs] 28)).alloc (.cells #[.int .i64 t, .int .i64 md, .int .i64 rn, .int .i64 sl, .int .i64 mb] 30)).alloc (.cells #[.int .i64 k, .int .i64 r, .int .i64 ft, .int .i64 fm, .int .i64 fd, .int .i64 fs, .int .i64 fb, .slice A n c] 33) := ⟨_, rfl⟩
  have hB : BM w w.heap.size m M w0 := by rw [hw0]; exact (BM.box h).next (by go_grown)
  have hS : BlkL w0 (w.heap.size + 1) 30 [.int .i64 t, .int .i64 md, .int .i64 rn, .int .i64 sl, .int .i64 mb] := by rw [hw0]; exact (BlkL.new _ _ _ (by simp)).alloc _
  have hF : BlkL w0 (w.heap.size + 1 + 1) 33 [.int .i64 k, .int .i64 r, .int .i64 ft, .int .i64 fm, .int .i64 fd, .int .i64 fs, .int .i64 fb, .slice A n c] := by rw [hw0]; exact BlkL.new _ _ _ (by simp)
  have hz0 := hz.up hB.bel
  have m0 : ∀ x : Cls (GB w0), x.w.cell? ⟨w.heap.size, 0, none⟩ = some (.int .i64 m.id) := fun x => GB.c x (hB.k.c 0 rfl)
  have m1 : ∀ x : Cls (GB w0), x.w.cell? ⟨w.heap.size, 1, none⟩ = some (.slice m.An m.nn m.cn) := fun x => GB.c x (hB.k.c 1 rfl)
  have m2 : ∀ x : Cls (GB w0), x.w.cell? ⟨w.heap.size, 2, none⟩ = some (.slice m.Am m.nm m.cm) := fun x => GB.c x (hB.k.c 2 rfl)
  have m3 : ∀ x : Cls (GB w0), x.w.cell? ⟨w.heap.size, 3, none⟩ = some (.slice m.As m.ns m.cs) := fun x => GB.c x (hB.k.c 3 rfl)
  have s0 : ∀ x : Cls (GB w0), x.w.cell? ⟨w.heap.size + 1, 0, none⟩ = some (.int .i64 t) := fun x => GB.c x (hS.c 0 rfl)
  have s1 : ∀ x : Cls (GB w0), x.w.cell? ⟨w.heap.size + 1, 1, none⟩ = some (.int .i64 md) := fun x => GB.c x (hS.c 1 rfl)
  have s2 : ∀ x : Cls (GB w0), x.w.cell? ⟨w.heap.size + 1, 2, none⟩ = some (.int .i64 rn) := fun x => GB.c x (hS.c 2 rfl)
  have s3 : ∀ x : Cls (GB w0), x.w.cell? ⟨w.heap.size + 1, 3, none⟩ = some (.int .i64 sl) := fun x => GB.c x (hS.c 3 rfl)
  have s4 : ∀ x : Cls (GB w0), x.w.cell? ⟨w.heap.size + 1, 4, none⟩ = some (.int .i64 mb) := fun x => GB.c x (hS.c 4 rfl)
  have f0 : ∀ x : Cls (GB w0), x.w.cell? ⟨w.heap.size + 1 + 1, 0, none⟩ = some (.int .i64 k) := fun x => GB.c x (hF.c 0 rfl)
  have f1 : ∀ x : Cls (GB w0), x.w.cell? ⟨w.heap.size + 1 + 1, 1, none⟩ = some (.int .i64 r) := fun x => GB.c x (hF.c 1 rfl)
  have f2 : ∀ x : Cls (GB w0), x.w.cell? ⟨w.heap.size + 1 + 1, 2, none⟩ = some (.int .i64 ft) := fun x => GB.c x (hF.c 2 rfl)
  have f3 : ∀ x : Cls (GB w0), x.w.cell? ⟨w.heap.size + 1 + 1, 3, none⟩ = some (.int .i64 fm) := fun x => GB.c x (hF.c 3 rfl)
  have f4 : ∀ x : Cls (GB w0), x.w.cell? ⟨w.heap.size + 1 + 1, 4, none⟩ = some (.int .i64 fd) := fun x => GB.c x (hF.c 4 rfl)
  have f5 : ∀ x : Cls (GB w0), x.w.cell? ⟨w.heap.size + 1 + 1, 5, none⟩ = some (.int .i64 fs) := fun x => GB.c x (hF.c 5 rfl)
  have f6 : ∀ x : Cls (GB w0), x.w.cell? ⟨w.heap.size + 1 + 1, 6, none⟩ = some (.int .i64 fb) := fun x => GB.c x (hF.c 6 rfl)
  have f7 : ∀ x : Cls (GB w0), x.w.cell? ⟨w.heap.size + 1 + 1, 7, none⟩ = some (.slice A n c) := fun x => GB.c x (hF.c 7 rfl)
  have E := Lib.hid (show sendB (ge M.ss f) t md rn sl mb k r ft fm fd fs fb zs = (fitD (ge M.ss f).nd (ge M.ss f).kd (ge M.ss f).sz (ge M.ss f).du (ge M.ss f).ch k r ft fm fd fs fb zs && (decide (k = 0) || decide (ft = t ∧ fm = md ∧ fd = rn ∧ fs = sl ∧ fb = mb))) from rfl)
  obtain ⟨b1, h1⟩ : ∃ b, fitD (ge M.ss f).nd (ge M.ss f).kd (ge M.ss f).sz (ge M.ss f).du (ge M.ss f).ch k r ft fm fd fs fb zs = b := ⟨_, rfl⟩
  have hq := fun u hu => sFits_any (ge M.ss f).nd (ge M.ss f).kd (ge M.ss f).sz (ge M.ss f).du (ge M.ss f).ch k r ft fm fd fs fb A n c zs u hu hn
  rw [h1] at hq
  have H1 := Lib.hid h1
  have HQ := Lib.hid hq
  clear h1 hq
  have hV0 : GB w0 w0.drew := (Below.refl _ _).drew
  haveI hne : Nonempty (Cls (GB w0)) := ⟨⟨_, hV0⟩⟩
  cases b1
  case false =>
    go_enter Tryz.func41, Tryz.ntmps41
    go_wp2_with fail
    rw [← hw0]
    clear hw0
    refine wp_region_cls (GB w0) (by kernel_rfl) (by kernel_rfl) hV0 ?_
    repeat (go_big_quiet_step (first | (go_at_call 44; rename_i x; exact cls_call (fun h1 h2 => GB.next h1 h2) (sDesc_any m M t md rn sl mb f _ (hB.rd.up x.h) hf hfl)) | (go_at_call 78; rename_i x; exact cls_call (fun h1 h2 => GB.next h1 h2) (HQ.out _ (hz0.up x.h)))))
    refine wpQuiet_nil ?_
    rintro _ ⟨x, rfl⟩
    have hb := (hB.next x.h).bel
    go_wp2
    go_ret
    exact ⟨ret_bool (by rw [E.out, H1.out]; rfl), hb⟩
  rcases num_cases k 0 with ⟨q, q'⟩ | ⟨q, q'⟩
  case inl =>
    have HK := Lib.hid q'
    have q2 : (k != 0) = false := by simp [q']
    clear q'
    go_enter Tryz.func41, Tryz.ntmps41
    go_wp2_with fail
    rw [← hw0]
    clear hw0
    refine wp_region_cls (GB w0) (by kernel_rfl) (by kernel_rfl) hV0 ?_
    repeat (go_big_quiet_step (first | (go_at_call 44; rename_i x; exact cls_call (fun h1 h2 => GB.next h1 h2) (sDesc_any m M t md rn sl mb f _ (hB.rd.up x.h) hf hfl)) | (go_at_call 78; rename_i x; exact cls_call (fun h1 h2 => GB.next h1 h2) (HQ.out _ (hz0.up x.h))) | (go_at_call 77; exact cls_same (sHasSt_is q2 _))))
    refine wpQuiet_nil ?_
    rintro _ ⟨x, rfl⟩
    have hb := (hB.next x.h).bel
    go_wp2
    go_ret
    exact ⟨ret_bool (by rw [E.out, H1.out, decide_eq_true HK.out]; rfl), hb⟩
  have HK := Lib.hid q'
  have q2 : (k != 0) = true := by simp [q']
  clear q'
  rcases st_cases ft t fm md fd rn fs sl fb mb with ⟨e1, es⟩ | ⟨e1, e2, es⟩ | ⟨e1, e2, e3, es⟩ | ⟨e1, e2, e3, e4, es⟩ | ⟨e1, e2, e3, e4, e5, es⟩ | ⟨e1, e2, e3, e4, e5, es⟩
  all_goals
    have HE := Lib.hid es
    clear es
    go_enter Tryz.func41, Tryz.ntmps41
    go_wp2_with fail
    rw [← hw0]
    clear hw0
    refine wp_region_cls (GB w0) (by kernel_rfl) (by kernel_rfl) hV0 ?_
    repeat (go_big_quiet_step (first | (go_at_call 44; rename_i x; exact cls_call (fun h1 h2 => GB.next h1 h2) (sDesc_any m M t md rn sl mb f _ (hB.rd.up x.h) hf hfl)) | (go_at_call 78; rename_i x; exact cls_call (fun h1 h2 => GB.next h1 h2) (HQ.out _ (hz0.up x.h))) | (go_at_call 77; exact cls_same (sHasSt_is q2 _))))
    refine wpQuiet_nil ?_
    rintro _ ⟨x, rfl⟩
    have hb := (hB.next x.h).bel
    go_wp2
    go_ret
    exact ⟨ret_bool (by rw [E.out, H1.out, HE.out, decide_eq_false HK.out]; rfl), hb⟩

set_option maxHeartbeats 4000000 in
theorem iBelTo_any (m : Mdv) (M : Mdl) (t md rn sl mb : Int) (w : World) (h : RD w w.heap.size m M) (hx : RX m M) :
    Calls Tryz.prog 48 #[.agg #[.int .i64 m.id, .slice m.An m.nn m.cn, .slice m.Am m.nm m.cm, .slice m.As m.ns m.cs], .agg #[.int .i64 t, .int .i64 md, .int .i64 rn, .int .i64 sl, .int .i64 mb]] w (RetV w (.bool (belTo M t md rn sl mb))) := by
  obtain ⟨w0, hw0⟩ : ∃ v, v = (w.alloc (.cells #[.int .i64 m.id, .slice m.An m.nn m.cn, .slice m.Am m.nm m.cm, .slice m.As m.ns m.cs] 28)).alloc (.cells #[.int .i64 t, .int .i64 md, .int .i64 rn, .int .i64 sl, .int .i64 mb] 30) := ⟨_, rfl⟩
  have hB : BM w w.heap.size m M w0 := by rw [hw0]; exact (BM.box h).next (by go_grown)
  have hS : BlkL w0 (w.heap.size + 1) 30 [.int .i64 t, .int .i64 md, .int .i64 rn, .int .i64 sl, .int .i64 mb] := by rw [hw0]; exact BlkL.new _ _ _ (by simp)
  have E := Lib.hid (show belTo M t md rn sl mb = (isMedl M && bel M t md rn sl mb) from rfl)
  obtain ⟨b1, h1⟩ : ∃ b, isMedl M = b := ⟨_, rfl⟩
  go_enter Tryz.func48, Tryz.ntmps48
  go_wp2_with fail
  rw [← hw0]
  clear hw0
  refine (iIsMedl_any m M _ hB.rd hx).mono ?_
  rw [h1]
  have H1 := Lib.hid h1
  clear h1
  rintro e w1 ⟨rfl, hb1⟩
  have hB1 := hB.next hb1
  have hS1 := hS.next hb1
  clear hB hS hb1
  cases b1
  case false =>
    go_wp2
    go_ret
    exact ⟨ret_bool (by rw [E.out, H1.out]; rfl), hB1.bel⟩
  have c0 := hB1.k.c 0 rfl
  have c1 := hB1.k.c 1 rfl
  have c2 := hB1.k.c 2 rfl
  have c3 := hB1.k.c 3 rfl
  have s0 := hS1.c 0 rfl
  have s1 := hS1.c 1 rfl
  have s2 := hS1.c 2 rfl
  have s3 := hS1.c 3 rfl
  have s4 := hS1.c 4 rfl
  go_wp2_with fail
  refine (iBelongs_any m M t md rn sl mb _ hB1.rd H1.out).mono ?_
  rintro e w2 ⟨rfl, hb2⟩
  go_wp2
  go_ret
  exact ⟨ret_bool (by rw [E.out, H1.out]; rfl), (hB1.next hb2).bel⟩

set_option maxHeartbeats 8000000 in
theorem iSend_any (m : Mdv) (M : Mdl) (t md rn sl mb k r ft fm fd fs fb : Int) (A : Option Addr) (n c : Nat) (zs : List Int) (f : Nat) (w : World) (h : RD w w.heap.size m M) (hz : RI w w.heap.size A n zs) (hn : n ≤ 1099511627776) (hf : idxZ (atKey md rn sl) M.ss = (f : Int)) (hfl : f < m.ns) :
    Calls Tryz.prog 37 #[.agg #[.int .i64 m.id, .slice m.An m.nn m.cn, .slice m.Am m.nm m.cm, .slice m.As m.ns m.cs], .agg #[.int .i64 t, .int .i64 md, .int .i64 rn, .int .i64 sl, .int .i64 mb], .agg #[.int .i64 k, .int .i64 r, .int .i64 ft, .int .i64 fm, .int .i64 fd, .int .i64 fs, .int .i64 fb, .slice A n c]] w (RetV w (.bool (sendB (ge M.ss f) t md rn sl mb k r ft fm fd fs fb zs))) := by
  obtain ⟨w0, hw0⟩ : ∃ v, v = ((w.alloc (.cells #[.int .i64 m.id, .slice m.An m.nn m.cn, .slice m.Am m.nm m.cm, .slice m.As m.ns m.cs] 28)).alloc (.cells #[.int .i64 t, .int .i64 md, .int .i64 rn, .int .i64 sl, .int .i64 mb] 30)).alloc (.cells #[.int .i64 k, .int .i64 r, .int .i64 ft, .int .i64 fm, .int .i64 fd, .int .i64 fs, .int .i64 fb, .slice A n c] 33) := ⟨_, rfl⟩
  have hB : BM w w.heap.size m M w0 := by rw [hw0]; exact (BM.box h).next (by go_grown)
  have hS : BlkL w0 (w.heap.size + 1) 30 [.int .i64 t, .int .i64 md, .int .i64 rn, .int .i64 sl, .int .i64 mb] := by rw [hw0]; exact (BlkL.new _ _ _ (by simp)).alloc _
  have hF : BlkL w0 (w.heap.size + 1 + 1) 33 [.int .i64 k, .int .i64 r, .int .i64 ft, .int .i64 fm, .int .i64 fd, .int .i64 fs, .int .i64 fb, .slice A n c] := by rw [hw0]; exact BlkL.new _ _ _ (by simp)
  have hz0 := hz.up hB.bel
  have m0 : ∀ x : Cls (GB w0), x.w.cell? ⟨w.heap.size, 0, none⟩ = some (.int .i64 m.id) := fun x => GB.c x (hB.k.c 0 rfl)
  have m1 : ∀ x : Cls (GB w0), x.w.cell? ⟨w.heap.size, 1, none⟩ = some (.slice m.An m.nn m.cn) := fun x => GB.c x (hB.k.c 1 rfl)
  have m2 : ∀ x : Cls (GB w0), x.w.cell? ⟨w.heap.size, 2, none⟩ = some (.slice m.Am m.nm m.cm) := fun x => GB.c x (hB.k.c 2 rfl)
  have m3 : ∀ x : Cls (GB w0), x.w.cell? ⟨w.heap.size, 3, none⟩ = some (.slice m.As m.ns m.cs) := fun x => GB.c x (hB.k.c 3 rfl)
  have s0 : ∀ x : Cls (GB w0), x.w.cell? ⟨w.heap.size + 1, 0, none⟩ = some (.int .i64 t) := fun x => GB.c x (hS.c 0 rfl)
  have s1 : ∀ x : Cls (GB w0), x.w.cell? ⟨w.heap.size + 1, 1, none⟩ = some (.int .i64 md) := fun x => GB.c x (hS.c 1 rfl)
  have s2 : ∀ x : Cls (GB w0), x.w.cell? ⟨w.heap.size + 1, 2, none⟩ = some (.int .i64 rn) := fun x => GB.c x (hS.c 2 rfl)
  have s3 : ∀ x : Cls (GB w0), x.w.cell? ⟨w.heap.size + 1, 3, none⟩ = some (.int .i64 sl) := fun x => GB.c x (hS.c 3 rfl)
  have s4 : ∀ x : Cls (GB w0), x.w.cell? ⟨w.heap.size + 1, 4, none⟩ = some (.int .i64 mb) := fun x => GB.c x (hS.c 4 rfl)
  have f0 : ∀ x : Cls (GB w0), x.w.cell? ⟨w.heap.size + 1 + 1, 0, none⟩ = some (.int .i64 k) := fun x => GB.c x (hF.c 0 rfl)
  have f1 : ∀ x : Cls (GB w0), x.w.cell? ⟨w.heap.size + 1 + 1, 1, none⟩ = some (.int .i64 r) := fun x => GB.c x (hF.c 1 rfl)
  have f2 : ∀ x : Cls (GB w0), x.w.cell? ⟨w.heap.size + 1 + 1, 2, none⟩ = some (.int .i64 ft) := fun x => GB.c x (hF.c 2 rfl)
  have f3 : ∀ x : Cls (GB w0), x.w.cell? ⟨w.heap.size + 1 + 1, 3, none⟩ = some (.int .i64 fm) := fun x => GB.c x (hF.c 3 rfl)
  have f4 : ∀ x : Cls (GB w0), x.w.cell? ⟨w.heap.size + 1 + 1, 4, none⟩ = some (.int .i64 fd) := fun x => GB.c x (hF.c 4 rfl)
  have f5 : ∀ x : Cls (GB w0), x.w.cell? ⟨w.heap.size + 1 + 1, 5, none⟩ = some (.int .i64 fs) := fun x => GB.c x (hF.c 5 rfl)
  have f6 : ∀ x : Cls (GB w0), x.w.cell? ⟨w.heap.size + 1 + 1, 6, none⟩ = some (.int .i64 fb) := fun x => GB.c x (hF.c 6 rfl)
  have f7 : ∀ x : Cls (GB w0), x.w.cell? ⟨w.heap.size + 1 + 1, 7, none⟩ = some (.slice A n c) := fun x => GB.c x (hF.c 7 rfl)
  have E := Lib.hid (show sendB (ge M.ss f) t md rn sl mb k r ft fm fd fs fb zs = (fitD (ge M.ss f).nd (ge M.ss f).kd (ge M.ss f).sz (ge M.ss f).du (ge M.ss f).ch k r ft fm fd fs fb zs && (decide (k = 0) || decide (ft = t ∧ fm = md ∧ fd = rn ∧ fs = sl ∧ fb = mb))) from rfl)
  obtain ⟨b1, h1⟩ : ∃ b, fitD (ge M.ss f).nd (ge M.ss f).kd (ge M.ss f).sz (ge M.ss f).du (ge M.ss f).ch k r ft fm fd fs fb zs = b := ⟨_, rfl⟩
  have hq := fun u hu => iFits_any (ge M.ss f).nd (ge M.ss f).kd (ge M.ss f).sz (ge M.ss f).du (ge M.ss f).ch k r ft fm fd fs fb A n c zs u hu hn
  rw [h1] at hq
  have H1 := Lib.hid h1
  have HQ := Lib.hid hq
  clear h1 hq
  have hV0 : GB w0 w0.drew := (Below.refl _ _).drew
  haveI hne : Nonempty (Cls (GB w0)) := ⟨⟨_, hV0⟩⟩
  cases b1
  case false =>
    go_enter Tryz.func37, Tryz.ntmps37
    go_wp2_with fail
    rw [← hw0]
    clear hw0
    refine wp_region_cls (GB w0) (by kernel_rfl) (by kernel_rfl) hV0 ?_
    repeat (go_big_quiet_step (first | (go_at_call 36; rename_i x; exact cls_call (fun h1 h2 => GB.next h1 h2) (iDesc_any m M t md rn sl mb f _ (hB.rd.up x.h) hf hfl)) | (go_at_call 74; rename_i x; exact cls_call (fun h1 h2 => GB.next h1 h2) (HQ.out _ (hz0.up x.h)))))
    refine wpQuiet_nil ?_
    rintro _ ⟨x, rfl⟩
    have hb := (hB.next x.h).bel
    go_wp2
    go_ret
    exact ⟨ret_bool (by rw [E.out, H1.out]; rfl), hb⟩
  rcases num_cases k 0 with ⟨q, q'⟩ | ⟨q, q'⟩
  case inl =>
    have HK := Lib.hid q'
    have q2 : (k != 0) = false := by simp [q']
    clear q'
    go_enter Tryz.func37, Tryz.ntmps37
    go_wp2_with fail
    rw [← hw0]
    clear hw0
    refine wp_region_cls (GB w0) (by kernel_rfl) (by kernel_rfl) hV0 ?_
    repeat (go_big_quiet_step (first | (go_at_call 36; rename_i x; exact cls_call (fun h1 h2 => GB.next h1 h2) (iDesc_any m M t md rn sl mb f _ (hB.rd.up x.h) hf hfl)) | (go_at_call 74; rename_i x; exact cls_call (fun h1 h2 => GB.next h1 h2) (HQ.out _ (hz0.up x.h))) | (go_at_call 72; exact cls_same (iHasSt_is q2 _))))
    refine wpQuiet_nil ?_
    rintro _ ⟨x, rfl⟩
    have hb := (hB.next x.h).bel
    go_wp2
    go_ret
    exact ⟨ret_bool (by rw [E.out, H1.out, decide_eq_true HK.out]; rfl), hb⟩
  have HK := Lib.hid q'
  have q2 : (k != 0) = true := by simp [q']
  clear q'
  rcases st_cases ft t fm md fd rn fs sl fb mb with ⟨e1, es⟩ | ⟨e1, e2, es⟩ | ⟨e1, e2, e3, es⟩ | ⟨e1, e2, e3, e4, es⟩ | ⟨e1, e2, e3, e4, e5, es⟩ | ⟨e1, e2, e3, e4, e5, es⟩
  all_goals
    have HE := Lib.hid es
    clear es
    go_enter Tryz.func37, Tryz.ntmps37
    go_wp2_with fail
    rw [← hw0]
    clear hw0
    refine wp_region_cls (GB w0) (by kernel_rfl) (by kernel_rfl) hV0 ?_
    repeat (go_big_quiet_step (first | (go_at_call 36; rename_i x; exact cls_call (fun h1 h2 => GB.next h1 h2) (iDesc_any m M t md rn sl mb f _ (hB.rd.up x.h) hf hfl)) | (go_at_call 74; rename_i x; exact cls_call (fun h1 h2 => GB.next h1 h2) (HQ.out _ (hz0.up x.h))) | (go_at_call 72; exact cls_same (iHasSt_is q2 _))))
    refine wpQuiet_nil ?_
    rintro _ ⟨x, rfl⟩
    have hb := (hB.next x.h).bel
    go_wp2
    go_ret
    exact ⟨ret_bool (by rw [E.out, H1.out, HE.out, decide_eq_false HK.out]; rfl), hb⟩
end Go.Proofs.YtbaojbheopcjhaaGreatDoor

namespace Go.Proofs.YtbaojbheopcjhaaGreatDoor
open Go.RowKit

set_option maxHeartbeats 8000000 in
theorem iIsSend_any (m : Mdv) (M : Mdl) (t md rn sl mb k r ft fm fd fs fb : Int) (A : Option Addr) (n c : Nat) (zs : List Int) (w : World) (h : RD w w.heap.size m M) (hx : RX m M) (hz : RI w w.heap.size A n zs) (hn : n ≤ 1099511627776) :
    Calls Tryz.prog 20 #[.agg #[.int .i64 m.id, .slice m.An m.nn m.cn, .slice m.Am m.nm m.cm, .slice m.As m.ns m.cs], .agg #[.int .i64 t, .int .i64 md, .int .i64 rn, .int .i64 sl, .int .i64 mb], .agg #[.int .i64 k, .int .i64 r, .int .i64 ft, .int .i64 fm, .int .i64 fd, .int .i64 fs, .int .i64 fb, .slice A n c]] w (RetV w (.bool (sendTo M t md rn sl mb k r ft fm fd fs fb zs))) := by
  have LS := h.rs.len
  obtain ⟨w0, hw0⟩ : ∃ v, v = ((w.alloc (.cells #[.int .i64 m.id, .slice m.An m.nn m.cn, .slice m.Am m.nm m.cm, .slice m.As m.ns m.cs] 28)).alloc (.cells #[.int .i64 t, .int .i64 md, .int .i64 rn, .int .i64 sl, .int .i64 mb] 30)).alloc (.cells #[.int .i64 k, .int .i64 r, .int .i64 ft, .int .i64 fm, .int .i64 fd, .int .i64 fs, .int .i64 fb, .slice A n c] 33) := ⟨_, rfl⟩
  have hB : BM w w.heap.size m M w0 := by rw [hw0]; exact (BM.box h).next (by go_grown)
  have hS : BlkL w0 (w.heap.size + 1) 30 [.int .i64 t, .int .i64 md, .int .i64 rn, .int .i64 sl, .int .i64 mb] := by rw [hw0]; exact (BlkL.new _ _ _ (by simp)).alloc _
  have hF : BlkL w0 (w.heap.size + 1 + 1) 33 [.int .i64 k, .int .i64 r, .int .i64 ft, .int .i64 fm, .int .i64 fd, .int .i64 fs, .int .i64 fb, .slice A n c] := by rw [hw0]; exact BlkL.new _ _ _ (by simp)
  have hz0 := hz.up hB.bel
  have E := Lib.hid (show sendTo M t md rn sl mb k r ft fm fd fs fb zs = (belTo M t md rn sl mb && sendB (ge M.ss (findI M.ss md rn sl)) t md rn sl mb k r ft fm fd fs fb zs) from rfl)
  obtain ⟨b1, h1⟩ : ∃ b, belTo M t md rn sl mb = b := ⟨_, rfl⟩
  go_enter Tryz.func20, Tryz.ntmps20
  go_wp2_with fail
  rw [← hw0]
  clear hw0
  refine (iBelTo_any m M t md rn sl mb _ hB.rd hx).mono ?_
  rw [h1]
  have H1 := Lib.hid h1
  clear h1
  rintro e w1 ⟨rfl, hb1⟩
  have hB1 := hB.next hb1
  have hS1 := hS.next hb1
  have hF1 := hF.next hb1
  have hz1 := hz0.up hb1
  clear hB hS hF hb1 hz0
  cases b1
  case false =>
    go_wp2
    go_ret
    exact ⟨ret_bool (by rw [E.out, H1.out]; rfl), hB1.bel⟩
  have c0 := hB1.k.c 0 rfl
  have c1 := hB1.k.c 1 rfl
  have c2 := hB1.k.c 2 rfl
  have c3 := hB1.k.c 3 rfl
  have s0 := hS1.c 0 rfl
  have s1 := hS1.c 1 rfl
  have s2 := hS1.c 2 rfl
  have s3 := hS1.c 3 rfl
  have s4 := hS1.c 4 rfl
  have f0 := hF1.c 0 rfl
  have f1 := hF1.c 1 rfl
  have f2 := hF1.c 2 rfl
  have f3 := hF1.c 3 rfl
  have f4 := hF1.c 4 rfl
  have f5 := hF1.c 5 rfl
  have f6 := hF1.c 6 rfl
  have f7 := hF1.c 7 rfl
  have hfl : findI M.ss md rn sl < M.ss.length := by
    have := H1.out
    unfold belTo at this
    simp only [Bool.and_eq_true] at this
    exact bel_find this.1 this.2
  go_wp2_with fail
  refine (iSend_any m M t md rn sl mb k r ft fm fd fs fb A n c zs _ _ hB1.rd hz1 hn (find_idx hfl) (by rw [← LS]; exact hfl)).mono ?_
  rintro e w2 ⟨rfl, hb2⟩
  go_wp2
  go_ret
  exact ⟨ret_bool (by rw [E.out, H1.out]; rfl), (hB1.next hb2).bel⟩
end Go.Proofs.YtbaojbheopcjhaaGreatDoor
