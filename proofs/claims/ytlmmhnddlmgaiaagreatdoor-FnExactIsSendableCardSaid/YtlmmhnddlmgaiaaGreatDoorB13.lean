/- Walks, laws and small notions for the claims of this seat, several texts as one (Isn). Conditions: as each theorem states them. -/
import Derived.Test.YtlmmhnddlmgaiaaGreatDoorB11
import Derived.Test.YtlmmhnddlmgaiaaGreatDoorB10
import Derived.Deep.RegionHeldLaw
import Derived.Deep.DeepCutAuto
namespace Go.Proofs.YtlmmhnddlmgaiaaGreatDoor
open Go.RowKit

set_option maxRecDepth 200000 in
set_option maxHeartbeats 40000000 in
theorem isnLaw_any (m : Mdv) (M : Mdl) (t md rn sl mb k r ft fm fd fs fb : Int) (A : Option Addr) (n c : Nat) (zs : List Int) (w : World) (hid : M.id = m.id) (hrn : RE encNd 4 w w.heap.size m.An m.nn M.ns) (hrm : RM w w.heap.size m.Am m.nm M.ms) (hrs : RE encSl 8 w w.heap.size m.As m.ns M.ss)
    (hnn : m.nn ≤ maxLen) (hnm : m.nm ≤ maxLen) (hns : m.ns ≤ maxLen) (hnb : ∀ i, i < m.nn → (ge M.ns i).nm.size ≤ maxLen) (hz : RI w w.heap.size A n zs) (hn : n ≤ maxLen) :
    Calls Tryz.prog 3 #[.agg #[.int .i64 m.id, .slice m.An m.nn m.cn, .slice m.Am m.nm m.cm, .slice m.As m.ns m.cs], .agg #[.int .i64 t, .int .i64 md, .int .i64 rn, .int .i64 sl, .int .i64 mb], .agg #[.int .i64 k, .int .i64 r, .int .i64 ft, .int .i64 fm, .int .i64 fd, .int .i64 fs, .int .i64 fb, .slice A n c]] w (RetV w (.bool true)) := by
  obtain ⟨w0, hw0⟩ : ∃ v, v = ((w.alloc (.cells #[.int .i64 m.id, .slice m.An m.nn m.cn, .slice m.Am m.nm m.cm, .slice m.As m.ns m.cs] 26)).alloc (.cells #[.int .i64 t, .int .i64 md, .int .i64 rn, .int .i64 sl, .int .i64 mb] 28)).alloc (.cells #[.int .i64 k, .int .i64 r, .int .i64 ft, .int .i64 fm, .int .i64 fd, .int .i64 fs, .int .i64 fb, .slice A n c] 31) := ⟨_, rfl⟩
  have k1 : BlkL w0 w.heap.size 26 [.int .i64 m.id, .slice m.An m.nn m.cn, .slice m.Am m.nm m.cm, .slice m.As m.ns m.cs] := by rw [hw0]; exact ((BlkL.new _ _ _ rfl).alloc _).alloc _
  have k2 : BlkL w0 (w.heap.size + 1) 28 [.int .i64 t, .int .i64 md, .int .i64 rn, .int .i64 sl, .int .i64 mb] := by rw [hw0]; exact (BlkL.new _ _ _ (by simp)).alloc _
  have k3 : BlkL w0 (w.heap.size + 1 + 1) 31 [.int .i64 k, .int .i64 r, .int .i64 ft, .int .i64 fm, .int .i64 fd, .int .i64 fs, .int .i64 fb, .slice A n c] := by rw [hw0]; exact BlkL.new _ _ _ (by simp)
  have gb : Below w.heap.size w w0 := by rw [hw0]; go_grown
  go_enter Tryz.func3, Tryz.ntmps3
  go_wp2_with fail
  rw [← hw0]
  clear hw0
  refine (szMedl_any m M 1048576 _ (hrn.up gb) (hrm.up gb) hnn hnm hns hnb (by omega) (by omega)).mono ?_
  rintro e w1 ⟨v1, rfl, hv1, hb1⟩
  have l1 := k1.next hb1
  have l2 := k2.next hb1
  have l3 := k3.next hb1
  have gb1 := below_next hb1 gb (Nat.le_refl _)
  clear k1 k2 k3 gb hb1
  rcases hv1 with rfl | ⟨p1, p2, p3, p4, p5, p6, p7⟩
  · go_wp2
    go_ret
    exact ⟨rfl, gb1⟩
  have P6 := Lib.hid p6
  have P7 := Lib.hid p7
  clear p6 p7
  have f0 := l3.c 0 rfl
  have f1 := l3.c 1 rfl
  have f2 := l3.c 2 rfl
  have f3 := l3.c 3 rfl
  have f4 := l3.c 4 rfl
  have f5 := l3.c 5 rfl
  have f6 := l3.c 6 rfl
  have f7 := l3.c 7 rfl
  go_wp2_with fail
  refine (szFrame_any k r ft fm fd fs fb A n c v1 _ hn p1 (by omega)).mono ?_
  rcases (show (v1 < (n : Int) ∧ szL n v1 = -1) ∨ ((n : Int) ≤ v1 ∧ szL n v1 = v1 - n) by
    by_cases hh : v1 < (n : Int)
    · exact Or.inl ⟨hh, szL_neg hh⟩
    · exact Or.inr ⟨by omega, szL_pos (by omega)⟩) with ⟨hh, e0⟩ | ⟨hh, e0⟩
  all_goals
    rw [e0]
    clear e0
    rintro e w2 ⟨rfl, hb2⟩
    have k1 := l1.next hb2
    have k2 := l2.next hb2
    have k3 := l3.next hb2
    have gb2 := below_next hb2 gb1 (Nat.le_refl _)
    clear l1 l2 l3 gb1 hb2 f0 f1 f2 f3 f4 f5 f6 f7
  · go_wp2
    go_ret
    exact ⟨rfl, gb2⟩
  have hR : RD w w.heap.size m M := ⟨hid, hrn, hrm, hrs, by omega, by omega, by omega⟩
  have hX7 : ∀ i, i < m.nm → (ge M.ms i).nx.length ≤ 1099511627776 := fun i hi => by have := P7.out i hi; omega
  have hX6 : ∀ i, i < m.nn → (ge M.ns i).nm.size ≤ 1099511627776 := fun i hi => by have := P6.out i hi; omega
  have hn' : n ≤ 1099511627776 := by omega
  go_upto_region 8 with fail
  have hV : Below w2.heap.size w2 w2.drew := (Below.refl _ _).drew
  have HTM := Lib.hid (fun u (hu : Below w2.heap.size w2 u) => toMedl_any m M u (hR.up (below_next hu gb2 (Nat.le_refl _))) hX7)
  have HTS := Lib.hid (fun u => toState_any t md rn sl mb u)
  have HTF := Lib.hid (fun u (hu : Below w2.heap.size w2 u) => toFrame_any k r ft fm fd fs fb A n c zs u (hz.up (below_next hu gb2 (Nat.le_refl _))) hn')
  have hcells : ∀ u, Below w2.heap.size w2 u → (Below w2.heap.size w2 u ∧ u.cell? ⟨w.heap.size, 0, none⟩ = some (.int .i64 m.id) ∧ u.cell? ⟨w.heap.size, 1, none⟩ = some (.slice m.An m.nn m.cn) ∧ u.cell? ⟨w.heap.size, 2, none⟩ = some (.slice m.Am m.nm m.cm) ∧ u.cell? ⟨w.heap.size, 3, none⟩ = some (.slice m.As m.ns m.cs) ∧ u.cell? ⟨w.heap.size + 1, 0, none⟩ = some (.int .i64 t) ∧ u.cell? ⟨w.heap.size + 1, 1, none⟩ = some (.int .i64 md) ∧ u.cell? ⟨w.heap.size + 1, 2, none⟩ = some (.int .i64 rn) ∧ u.cell? ⟨w.heap.size + 1, 3, none⟩ = some (.int .i64 sl) ∧ u.cell? ⟨w.heap.size + 1, 4, none⟩ = some (.int .i64 mb) ∧ u.cell? ⟨w.heap.size + 1 + 1, 0, none⟩ = some (.int .i64 k) ∧ u.cell? ⟨w.heap.size + 1 + 1, 1, none⟩ = some (.int .i64 r) ∧ u.cell? ⟨w.heap.size + 1 + 1, 2, none⟩ = some (.int .i64 ft) ∧ u.cell? ⟨w.heap.size + 1 + 1, 3, none⟩ = some (.int .i64 fm) ∧ u.cell? ⟨w.heap.size + 1 + 1, 4, none⟩ = some (.int .i64 fd) ∧ u.cell? ⟨w.heap.size + 1 + 1, 5, none⟩ = some (.int .i64 fs) ∧ u.cell? ⟨w.heap.size + 1 + 1, 6, none⟩ = some (.int .i64 fb) ∧ u.cell? ⟨w.heap.size + 1 + 1, 7, none⟩ = some (.slice A n c)) := fun u hu => ⟨hu, (k1.next hu).c 0 rfl, (k1.next hu).c 1 rfl, (k1.next hu).c 2 rfl, (k1.next hu).c 3 rfl, (k2.next hu).c 0 rfl, (k2.next hu).c 1 rfl, (k2.next hu).c 2 rfl, (k2.next hu).c 3 rfl, (k2.next hu).c 4 rfl, (k3.next hu).c 0 rfl, (k3.next hu).c 1 rfl, (k3.next hu).c 2 rfl, (k3.next hu).c 3 rfl, (k3.next hu).c 4 rfl, (k3.next hu).c 5 rfl, (k3.next hu).c 6 rfl, (k3.next hu).c 7 rfl⟩
  have HC := Lib.hid hcells
  have HX6 := Lib.hid hX6
  have HX7 := Lib.hid hX7
  have HR := Lib.hid hR
  have HZ := Lib.hid hz
  have K1 := Lib.hid k1
  have K2 := Lib.hid k2
  have K3 := Lib.hid k3
  have GB2 := Lib.hid gb2
  clear hcells hX6 hX7 hR hz k1 k2 k3 gb2 hrn hrm hrs hnb hid
  go_cut [8] (fun v8 wc => v8 = .bool (sendTo M t md rn sl mb k r ft fm fd fs fb zs) ∧ Below w2.heap.size w2 wc)
  case first =>
    go_region_held_law (fun u => Below w2.heap.size w2 u ∧ u.cell? ⟨w.heap.size, 0, none⟩ = some (.int .i64 m.id) ∧ u.cell? ⟨w.heap.size, 1, none⟩ = some (.slice m.An m.nn m.cn) ∧ u.cell? ⟨w.heap.size, 2, none⟩ = some (.slice m.Am m.nm m.cm) ∧ u.cell? ⟨w.heap.size, 3, none⟩ = some (.slice m.As m.ns m.cs) ∧ u.cell? ⟨w.heap.size + 1, 0, none⟩ = some (.int .i64 t) ∧ u.cell? ⟨w.heap.size + 1, 1, none⟩ = some (.int .i64 md) ∧ u.cell? ⟨w.heap.size + 1, 2, none⟩ = some (.int .i64 rn) ∧ u.cell? ⟨w.heap.size + 1, 3, none⟩ = some (.int .i64 sl) ∧ u.cell? ⟨w.heap.size + 1, 4, none⟩ = some (.int .i64 mb) ∧ u.cell? ⟨w.heap.size + 1 + 1, 0, none⟩ = some (.int .i64 k) ∧ u.cell? ⟨w.heap.size + 1 + 1, 1, none⟩ = some (.int .i64 r) ∧ u.cell? ⟨w.heap.size + 1 + 1, 2, none⟩ = some (.int .i64 ft) ∧ u.cell? ⟨w.heap.size + 1 + 1, 3, none⟩ = some (.int .i64 fm) ∧ u.cell? ⟨w.heap.size + 1 + 1, 4, none⟩ = some (.int .i64 fd) ∧ u.cell? ⟨w.heap.size + 1 + 1, 5, none⟩ = some (.int .i64 fs) ∧ u.cell? ⟨w.heap.size + 1 + 1, 6, none⟩ = some (.int .i64 fb) ∧ u.cell? ⟨w.heap.size + 1 + 1, 7, none⟩ = some (.slice A n c)) (first | (with_reducible exact HC.out _ hV) | (with_reducible refine HC.out _ ?_; with_reducible assumption) | (with_reducible refine HC.out _ ?_; go_grown)) (first
      | (go_at_call 12; (have hgv : Below w2.heap.size w2 _ := And.left (‹Below w2.heap.size w2 _ ∧ _›)); (with_reducible refine (HTM.out _ hgv).mono ?_); rintro e cc ⟨A1, c1, A2, c2, A3, c3, rfl, hRD, hcap, hb⟩; (have hv := below_next hb hgv (Nat.le_refl _)); (try (replace HRI := Lib.hid (HRI.out.up hb))); have HRD := Lib.hid hRD; have HCP := Lib.hid hcap; clear hRD hcap hgv hb)
      | (go_at_call 13; (have hgv : Below w2.heap.size w2 _ := And.left (‹Below w2.heap.size w2 _ ∧ _›)); (with_reducible refine (HTS.out _).mono ?_); rintro e cc ⟨rfl, hb⟩; (have hv := below_next hb hgv (Nat.le_refl _)); (try (replace HRI := Lib.hid (HRI.out.up hb))); (try (replace HRD := Lib.hid (HRD.out.up hb))); clear hgv hb)
      | (go_at_call 14; (have hgv : Below w2.heap.size w2 _ := And.left (‹Below w2.heap.size w2 _ ∧ _›)); (with_reducible refine (HTF.out _ hgv).mono ?_); rintro e cc ⟨A4, c4, rfl, hown, hb⟩; (have hv := below_next hb hgv (Nat.le_refl _)); (try (replace HRD := Lib.hid (HRD.out.up hb))); have HRI := Lib.hid hown.reads; clear hown hgv hb)
      | (go_at_call 11; (have hgv : Below w2.heap.size w2 _ := And.left (‹Below w2.heap.size w2 _ ∧ _›)); (refine (sIsSend_any ⟨m.id, A1, m.nn, c1, A2, m.nm, c2, A3, m.ns, c3⟩ M t md rn sl mb k r ft fm fd fs fb A4 n c4 zs _ HRD.out ⟨HX6.out, HX7.out, HCP.out⟩ HRI.out hn').mono ?_); rintro e cc ⟨rfl, hb⟩; (have hv := below_next hb hgv (Nat.le_refl _)); have HV9 := Lib.hid hv; clear hgv hb))
    all_goals
      go_wp2_with fail
      go_meet
      exact ⟨rfl, HV9.out⟩
  case rest =>
    obtain ⟨rfl, hv8⟩ := hcut
    obtain ⟨bb, hbb⟩ : ∃ b, sendTo M t md rn sl mb k r ft fm fd fs fb zs = b := ⟨_, rfl⟩
    rw [hbb]
    have HBB := Lib.hid hbb
    clear hbb
    have k1 := K1.out.next hv8
    have k2 := K2.out.next hv8
    have k3 := K3.out.next hv8
    have gb8 := below_next hv8 GB2.out (Nat.le_refl _)
    clear K1 K2 K3 HTM HTS HTF HC hV hv8 GB2
    have a0 := k1.c 0 rfl
    have a1 := k1.c 1 rfl
    have a2 := k1.c 2 rfl
    have a3 := k1.c 3 rfl
    go_wp2_with fail
    refine (toMedl_any m M _ (HR.out.up gb8) HX7.out).mono ?_
    rintro e w3 ⟨A1, c1, A2, c2, A3, c3, rfl, hRD, hcap, hb3⟩
    have j1 := k1.next hb3
    have j2 := k2.next hb3
    have j3 := k3.next hb3
    have gb3 := below_next hb3 gb8 (Nat.le_refl _)
    clear k1 k2 k3 gb8 hb3 a0 a1 a2 a3
    have f0 := j3.c 0 rfl
    have f1 := j3.c 1 rfl
    have f2 := j3.c 2 rfl
    have f3 := j3.c 3 rfl
    have f4 := j3.c 4 rfl
    have f5 := j3.c 5 rfl
    have f6 := j3.c 6 rfl
    have f7 := j3.c 7 rfl
    have hg3 := j3.lt
    obtain ⟨w4, hw4⟩ : ∃ v, v = w3.alloc (.cells #[.int .i64 m.id, .slice A1 m.nn c1, .slice A2 m.nm c2, .slice A3 m.ns c3] 39) := ⟨_, rfl⟩
    have x9 : BlkL w4 w3.heap.size 39 [.int .i64 m.id, .slice A1 m.nn c1, .slice A2 m.nm c2, .slice A3 m.ns c3] := by rw [hw4]; exact BlkL.new _ _ _ rfl
    have b34 : Below w3.heap.size w3 w4 := by rw [hw4]; go_grown
    have gb4 := below_next b34 gb3 (Nat.le_refl _)
    go_wp2_with fail
    rw [← hw4]
    clear hw4 f0 f1 f2 f3 f4 f5 f6 f7 hg3
    refine (toFrame_any k r ft fm fd fs fb A n c zs _ (HZ.out.up gb4) hn').mono ?_
    rintro e w5 ⟨A4, c4, rfl, hown, hb5⟩
    obtain ⟨w6, hw6⟩ : ∃ v, v = w5.alloc (.cells #[.int .i64 k, .int .i64 r, .int .i64 ft, .int .i64 fm, .int .i64 fd, .int .i64 fs, .int .i64 fb, .slice A4 n c4] 44) := ⟨_, rfl⟩
    have x10 : BlkL w6 w5.heap.size 44 [.int .i64 k, .int .i64 r, .int .i64 ft, .int .i64 fm, .int .i64 fd, .int .i64 fs, .int .i64 fb, .slice A4 n c4] := by rw [hw6]; exact BlkL.new _ _ _ rfl
    have b56 : Below w5.heap.size w5 w6 := by rw [hw6]; go_grown
    have b46 := below_next b56 hb5 (Nat.le_refl _)
    have b36 := below_next b46 b34 (Nat.le_refl _)
    have gb6 := below_next b36 gb3 (Nat.le_refl _)
    have y9 := x9.next b46
    have i1 := j1.next b36
    have i2 := j2.next b36
    have i3 := j3.next b36
    have rd6 := hRD.up b36
    have ri6 := hown.reads.up b56
    clear x9 j1 j2 j3 hRD hown b56 b46 b36 b34 gb3 gb4 hb5
    go_upto_region 11 with fail
    rw [← hw6]
    clear hw6
    have q0 : ∀ x : Cls (GB w6), x.w.cell? ⟨w3.heap.size, 0, none⟩ = some (.int .i64 m.id) := fun x => GB.c x (y9.c 0 rfl)
    have q1 : ∀ x : Cls (GB w6), x.w.cell? ⟨w3.heap.size, 1, none⟩ = some (.slice A1 m.nn c1) := fun x => GB.c x (y9.c 1 rfl)
    have q2 : ∀ x : Cls (GB w6), x.w.cell? ⟨w3.heap.size, 2, none⟩ = some (.slice A2 m.nm c2) := fun x => GB.c x (y9.c 2 rfl)
    have q3 : ∀ x : Cls (GB w6), x.w.cell? ⟨w3.heap.size, 3, none⟩ = some (.slice A3 m.ns c3) := fun x => GB.c x (y9.c 3 rfl)
    have s0 : ∀ x : Cls (GB w6), x.w.cell? ⟨w.heap.size + 1, 0, none⟩ = some (.int .i64 t) := fun x => GB.c x (i2.c 0 rfl)
    have s1 : ∀ x : Cls (GB w6), x.w.cell? ⟨w.heap.size + 1, 1, none⟩ = some (.int .i64 md) := fun x => GB.c x (i2.c 1 rfl)
    have s2 : ∀ x : Cls (GB w6), x.w.cell? ⟨w.heap.size + 1, 2, none⟩ = some (.int .i64 rn) := fun x => GB.c x (i2.c 2 rfl)
    have s3 : ∀ x : Cls (GB w6), x.w.cell? ⟨w.heap.size + 1, 3, none⟩ = some (.int .i64 sl) := fun x => GB.c x (i2.c 3 rfl)
    have s4 : ∀ x : Cls (GB w6), x.w.cell? ⟨w.heap.size + 1, 4, none⟩ = some (.int .i64 mb) := fun x => GB.c x (i2.c 4 rfl)
    have f0 : ∀ x : Cls (GB w6), x.w.cell? ⟨w5.heap.size, 0, none⟩ = some (.int .i64 k) := fun x => GB.c x (x10.c 0 rfl)
    have f1 : ∀ x : Cls (GB w6), x.w.cell? ⟨w5.heap.size, 1, none⟩ = some (.int .i64 r) := fun x => GB.c x (x10.c 1 rfl)
    have f2 : ∀ x : Cls (GB w6), x.w.cell? ⟨w5.heap.size, 2, none⟩ = some (.int .i64 ft) := fun x => GB.c x (x10.c 2 rfl)
    have f3 : ∀ x : Cls (GB w6), x.w.cell? ⟨w5.heap.size, 3, none⟩ = some (.int .i64 fm) := fun x => GB.c x (x10.c 3 rfl)
    have f4 : ∀ x : Cls (GB w6), x.w.cell? ⟨w5.heap.size, 4, none⟩ = some (.int .i64 fd) := fun x => GB.c x (x10.c 4 rfl)
    have f5 : ∀ x : Cls (GB w6), x.w.cell? ⟨w5.heap.size, 5, none⟩ = some (.int .i64 fs) := fun x => GB.c x (x10.c 5 rfl)
    have f6 : ∀ x : Cls (GB w6), x.w.cell? ⟨w5.heap.size, 6, none⟩ = some (.int .i64 fb) := fun x => GB.c x (x10.c 6 rfl)
    have f7 : ∀ x : Cls (GB w6), x.w.cell? ⟨w5.heap.size, 7, none⟩ = some (.slice A4 n c4) := fun x => GB.c x (x10.c 7 rfl)
    have hi := fun u hu hv => iIsSend_any ⟨m.id, A1, m.nn, c1, A2, m.nm, c2, A3, m.ns, c3⟩ M t md rn sl mb k r ft fm fd fs fb A4 n c4 zs u hu ⟨HX6.out, HX7.out, hcap⟩ hv hn'
    rw [HBB.out] at hi
    have HI := Lib.hid hi
    clear hi
    have hV0 : GB w6 w6.drew := (Below.refl _ _).drew
    haveI hne : Nonempty (Cls (GB w6)) := ⟨⟨_, hV0⟩⟩
    refine wp_region_cls (GB w6) (by kernel_rfl) (by kernel_rfl) hV0 ?_
    repeat (go_big_quiet_step (first | (go_at_call 13; rename_i x; exact cls_call (fun h1 h2 => GB.next h1 h2) (toState_any t md rn sl mb _)) | (go_at_call 15; rename_i x; exact cls_call (fun h1 h2 => GB.next h1 h2) (HI.out _ (rd6.up x.h) (ri6.up x.h)))))
    refine wpQuiet_nil ?_
    rintro _ ⟨x, rfl⟩
    obtain ⟨w7, hw7⟩ : ∃ v, v = x.w := ⟨_, rfl⟩
    have b67 : Below w6.heap.size w6 w7 := by rw [hw7]; exact x.h
    rw [← hw7]
    clear hw7
    have y9' := y9.next b67
    have x10' := x10.next b67
    have i1' := i1.next b67
    have i3' := i3.next b67
    have rd7 := rd6.up b67
    have ri7 := ri6.up b67
    have gb7 := below_next b67 gb6 (Nat.le_refl _)
    clear x q0 q1 q2 q3 s0 s1 s2 s3 s4 f0 f1 f2 f3 f4 f5 f6 f7 y9 x10 i1 i2 i3 rd6 ri6 gb6 b67 HI hne hV0
    have hbn : (bb != bb) = false := by cases bb <;> rfl
    go_upto_region 14 with fail
    have hV : Below w7.heap.size w7 w7.drew := (Below.refl _ _).drew
    have hcells : ∀ u, Below w7.heap.size w7 u → (Below w7.heap.size w7 u ∧ u.cell? ⟨w3.heap.size, 0, none⟩ = some (.int .i64 m.id) ∧ u.cell? ⟨w3.heap.size, 1, none⟩ = some (.slice A1 m.nn c1) ∧ u.cell? ⟨w3.heap.size, 2, none⟩ = some (.slice A2 m.nm c2) ∧ u.cell? ⟨w3.heap.size, 3, none⟩ = some (.slice A3 m.ns c3) ∧ u.cell? ⟨w.heap.size, 0, none⟩ = some (.int .i64 m.id) ∧ u.cell? ⟨w.heap.size, 1, none⟩ = some (.slice m.An m.nn m.cn) ∧ u.cell? ⟨w.heap.size, 2, none⟩ = some (.slice m.Am m.nm m.cm) ∧ u.cell? ⟨w.heap.size, 3, none⟩ = some (.slice m.As m.ns m.cs)) := fun u hu => ⟨hu, (y9'.next hu).c 0 rfl, (y9'.next hu).c 1 rfl, (y9'.next hu).c 2 rfl, (y9'.next hu).c 3 rfl, (i1'.next hu).c 0 rfl, (i1'.next hu).c 1 rfl, (i1'.next hu).c 2 rfl, (i1'.next hu).c 3 rfl⟩
    have HC := Lib.hid hcells
    have HTM := Lib.hid (fun u (hu : Below w7.heap.size w7 u) => toMedl_any m M u (HR.out.up (below_next hu gb7 (Nat.le_refl _))) HX7.out)
    have RD7 := Lib.hid (fun u (hu : Below w7.heap.size w7 u) => rd7.up hu)
    have Z10 := Lib.hid x10'
    have Z3 := Lib.hid i3'
    have RI7 := Lib.hid ri7
    have GB7 := Lib.hid gb7
    clear hcells y9' i1' x10' i3' rd7 ri7 gb7
    go_cut [45] (fun v8 wc => v8 = .bool false ∧ Below w7.heap.size w7 wc)
    case first =>
      go_region_held_law (fun u => Below w7.heap.size w7 u ∧ u.cell? ⟨w3.heap.size, 0, none⟩ = some (.int .i64 m.id) ∧ u.cell? ⟨w3.heap.size, 1, none⟩ = some (.slice A1 m.nn c1) ∧ u.cell? ⟨w3.heap.size, 2, none⟩ = some (.slice A2 m.nm c2) ∧ u.cell? ⟨w3.heap.size, 3, none⟩ = some (.slice A3 m.ns c3) ∧ u.cell? ⟨w.heap.size, 0, none⟩ = some (.int .i64 m.id) ∧ u.cell? ⟨w.heap.size, 1, none⟩ = some (.slice m.An m.nn m.cn) ∧ u.cell? ⟨w.heap.size, 2, none⟩ = some (.slice m.Am m.nm m.cm) ∧ u.cell? ⟨w.heap.size, 3, none⟩ = some (.slice m.As m.ns m.cs)) (first | (with_reducible exact HC.out _ hV) | (with_reducible refine HC.out _ ?_; with_reducible assumption) | (with_reducible refine HC.out _ ?_; go_grown)) (first
        | (go_at_call 12; (have hgv : Below w7.heap.size w7 _ := And.left (‹Below w7.heap.size w7 _ ∧ _›)); (with_reducible refine (HTM.out _ hgv).mono ?_); rintro e cc ⟨B1, d1, B2, d2, B3, d3, rfl, hRD, hcp, hb⟩; (have hv := below_next hb hgv (Nat.le_refl _)); have HRD := Lib.hid hRD; clear hRD hcp hgv hb)
        | (go_at_call 16; (have hgv : Below w7.heap.size w7 _ := And.left (‹Below w7.heap.size w7 _ ∧ _›)); (refine (eqMedl_self ⟨m.id, A1, m.nn, c1, A2, m.nm, c2, A3, m.ns, c3⟩ ⟨m.id, B1, m.nn, d1, B2, m.nm, d2, B3, m.ns, d3⟩ M _ (RD7.out _ hgv) HRD.out HX7.out).mono ?_); rintro e cc ⟨rfl, hb⟩; (have hv := below_next hb hgv (Nat.le_refl _)); have HV9 := Lib.hid hv; clear hgv hb))
      all_goals
        go_wp2_with fail
        go_meet
        exact ⟨rfl, HV9.out⟩
    case rest =>
      obtain ⟨rfl, b78⟩ := hcut
      obtain ⟨w8, hw8⟩ : ∃ v, v = wc := ⟨_, rfl⟩
      rw [← hw8] at b78 ⊢
      clear hw8
      have z10 := Z10.out.next b78
      have z3 := Z3.out.next b78
      have ri8 := RI7.out.up b78
      have gb8 := below_next b78 GB7.out (Nat.le_refl _)
      clear Z10 Z3 RI7 GB7 b78 HC HTM RD7 hV
      go_upto_region 16 with fail
      have hV : Below w8.heap.size w8 w8.drew := (Below.refl _ _).drew
      have hcells : ∀ u, Below w8.heap.size w8 u → (Below w8.heap.size w8 u ∧ u.cell? ⟨w5.heap.size, 0, none⟩ = some (.int .i64 k) ∧ u.cell? ⟨w5.heap.size, 1, none⟩ = some (.int .i64 r) ∧ u.cell? ⟨w5.heap.size, 2, none⟩ = some (.int .i64 ft) ∧ u.cell? ⟨w5.heap.size, 3, none⟩ = some (.int .i64 fm) ∧ u.cell? ⟨w5.heap.size, 4, none⟩ = some (.int .i64 fd) ∧ u.cell? ⟨w5.heap.size, 5, none⟩ = some (.int .i64 fs) ∧ u.cell? ⟨w5.heap.size, 6, none⟩ = some (.int .i64 fb) ∧ u.cell? ⟨w5.heap.size, 7, none⟩ = some (.slice A4 n c4) ∧ u.cell? ⟨w.heap.size + 1 + 1, 0, none⟩ = some (.int .i64 k) ∧ u.cell? ⟨w.heap.size + 1 + 1, 1, none⟩ = some (.int .i64 r) ∧ u.cell? ⟨w.heap.size + 1 + 1, 2, none⟩ = some (.int .i64 ft) ∧ u.cell? ⟨w.heap.size + 1 + 1, 3, none⟩ = some (.int .i64 fm) ∧ u.cell? ⟨w.heap.size + 1 + 1, 4, none⟩ = some (.int .i64 fd) ∧ u.cell? ⟨w.heap.size + 1 + 1, 5, none⟩ = some (.int .i64 fs) ∧ u.cell? ⟨w.heap.size + 1 + 1, 6, none⟩ = some (.int .i64 fb) ∧ u.cell? ⟨w.heap.size + 1 + 1, 7, none⟩ = some (.slice A n c)) := fun u hu => ⟨hu, (z10.next hu).c 0 rfl, (z10.next hu).c 1 rfl, (z10.next hu).c 2 rfl, (z10.next hu).c 3 rfl, (z10.next hu).c 4 rfl, (z10.next hu).c 5 rfl, (z10.next hu).c 6 rfl, (z10.next hu).c 7 rfl, (z3.next hu).c 0 rfl, (z3.next hu).c 1 rfl, (z3.next hu).c 2 rfl, (z3.next hu).c 3 rfl, (z3.next hu).c 4 rfl, (z3.next hu).c 5 rfl, (z3.next hu).c 6 rfl, (z3.next hu).c 7 rfl⟩
      have HC := Lib.hid hcells
      have HTF := Lib.hid (fun u (hu : Below w8.heap.size w8 u) => toFrame_any k r ft fm fd fs fb A n c zs u (HZ.out.up (below_next hu gb8 (Nat.le_refl _))) hn')
      have RI8 := Lib.hid (fun u (hu : Below w8.heap.size w8 u) => ri8.up hu)
      have GB8 := Lib.hid gb8
      clear hcells z10 z3 ri8 gb8
      go_cut [50] (fun v8 wc => v8 = .bool false ∧ Below w8.heap.size w8 wc)
      case first =>
        go_region_held_law (fun u => Below w8.heap.size w8 u ∧ u.cell? ⟨w5.heap.size, 0, none⟩ = some (.int .i64 k) ∧ u.cell? ⟨w5.heap.size, 1, none⟩ = some (.int .i64 r) ∧ u.cell? ⟨w5.heap.size, 2, none⟩ = some (.int .i64 ft) ∧ u.cell? ⟨w5.heap.size, 3, none⟩ = some (.int .i64 fm) ∧ u.cell? ⟨w5.heap.size, 4, none⟩ = some (.int .i64 fd) ∧ u.cell? ⟨w5.heap.size, 5, none⟩ = some (.int .i64 fs) ∧ u.cell? ⟨w5.heap.size, 6, none⟩ = some (.int .i64 fb) ∧ u.cell? ⟨w5.heap.size, 7, none⟩ = some (.slice A4 n c4) ∧ u.cell? ⟨w.heap.size + 1 + 1, 0, none⟩ = some (.int .i64 k) ∧ u.cell? ⟨w.heap.size + 1 + 1, 1, none⟩ = some (.int .i64 r) ∧ u.cell? ⟨w.heap.size + 1 + 1, 2, none⟩ = some (.int .i64 ft) ∧ u.cell? ⟨w.heap.size + 1 + 1, 3, none⟩ = some (.int .i64 fm) ∧ u.cell? ⟨w.heap.size + 1 + 1, 4, none⟩ = some (.int .i64 fd) ∧ u.cell? ⟨w.heap.size + 1 + 1, 5, none⟩ = some (.int .i64 fs) ∧ u.cell? ⟨w.heap.size + 1 + 1, 6, none⟩ = some (.int .i64 fb) ∧ u.cell? ⟨w.heap.size + 1 + 1, 7, none⟩ = some (.slice A n c)) (first | (with_reducible exact HC.out _ hV) | (with_reducible refine HC.out _ ?_; with_reducible assumption) | (with_reducible refine HC.out _ ?_; go_grown)) (first
          | (go_at_call 14; (have hgv : Below w8.heap.size w8 _ := And.left (‹Below w8.heap.size w8 _ ∧ _›)); (with_reducible refine (HTF.out _ hgv).mono ?_); rintro e cc ⟨B4, d4, rfl, hown, hb⟩; (have hv := below_next hb hgv (Nat.le_refl _)); have HRI := Lib.hid hown.reads; clear hown hgv hb)
          | (go_at_call 17; (have hgv : Below w8.heap.size w8 _ := And.left (‹Below w8.heap.size w8 _ ∧ _›)); (refine (eqFrame_self k r ft fm fd fs fb A4 B4 n c4 d4 zs _ (RI8.out _ hgv) HRI.out hn').mono ?_); rintro e cc ⟨rfl, hb⟩; (have hv := below_next hb hgv (Nat.le_refl _)); have HV9 := Lib.hid hv; clear hgv hb))
        all_goals
          go_wp2_with fail
          go_meet
          exact ⟨rfl, HV9.out⟩
      case rest =>
        obtain ⟨rfl, b89⟩ := hcut
        have gb9 := below_next b89 GB8.out (Nat.le_refl _)
        go_wp2
        go_ret
        exact ⟨rfl, gb9⟩
end Go.Proofs.YtlmmhnddlmgaiaaGreatDoor
