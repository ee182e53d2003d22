/- Walks, laws and small notions for the claims of this seat, several texts as one (Cs). Conditions: as each theorem states them. -/
import Derived.Test.YtbaojbheopcjhaaGreatDoorB18
import Derived.Test.YtbaojbheopcjhaaGreatDoorB15
namespace Go.Proofs.YtbaojbheopcjhaaGreatDoor
open Go.RowKit

/-- the code of a schedule, a state and a frame -/
def codeS (M : Mdl) (t md rn sl mb k r ft fm fd fs fb : Int) (zs : List Int) : Int := if codeM M t md rn sl mb = 0 then (if sendB (ge M.ss (findI M.ss md rn sl)) t md rn sl mb k r ft fm fd fs fb zs = true then 0 else 5) else codeM M t md rn sl mb
theorem codeS_ok {M : Mdl} {t md rn sl mb k r ft fm fd fs fb : Int} {zs : List Int} (h : codeS M t md rn sl mb k r ft fm fd fs fb zs = 0) : isMedl M = true ∧ bel M t md rn sl mb = true ∧ sendB (ge M.ss (findI M.ss md rn sl)) t md rn sl mb k r ft fm fd fs fb zs = true := by
  unfold codeS at h
  rcases codeM_cases M t md rn sl mb with h1 | h1 | ⟨h1, h2, h3⟩
  · rw [h1, if_neg (by decide)] at h; omega
  · rw [h1, if_neg (by decide)] at h; omega
  · rw [if_pos h1] at h
    refine ⟨h2, h3, ?_⟩
    split at h
    · assumption
    · omega
/-- the sealed frame of a slot -/
def slL (M : Mdl) (t md rn sl mb k r ft fm fd fs fb : Int) (zs : List Int) : List Int :=
  if codeS M t md rn sl mb k r ft fm fd fs fb zs = 0 then sealP k.toNat r.toNat ft.toNat fm.toNat fd.toNat fs.toNat fb.toNat zs M.id.toNat t.toNat md.toNat rn.toNat sl.toNat mb.toNat else []
theorem isMedl_id {M : Mdl} (h : isMedl M = true) : 1 ≤ M.id ∧ M.id ≤ 16777215 := by
  unfold isMedl at h; simp only [Bool.and_eq_true] at h
  exact inR_iff.1 h.1
theorem isState_all {t m d s b : Int} (h : isState t m d s b = true) : (0 ≤ t ∧ t ≤ 65535) ∧ (0 ≤ m ∧ m ≤ 15) ∧ (0 ≤ d ∧ d ≤ 15) ∧ (0 ≤ s ∧ s ≤ 255) ∧ (0 ≤ b ∧ b ≤ 4294967295) := by
  unfold isState at h; simp only [Bool.and_eq_true] at h
  exact ⟨inR_iff.1 h.1, inR_iff.1 h.2.1, inR_iff.1 h.2.2.1, inR_iff.1 h.2.2.2.1, inR_iff.1 h.2.2.2.2⟩
theorem frame_bd {k r ft fm fd fs fb : Int} {zs : List Int} (h : isFrame k r ft fm fd fs fb zs = true) : (0 ≤ k ∧ k ≤ 3) ∧ (0 ≤ r ∧ r ≤ 7) ∧ ((0 ≤ ft ∧ ft ≤ 65535) ∧ (0 ≤ fm ∧ fm ≤ 15) ∧ (0 ≤ fd ∧ fd ≤ 15) ∧ (0 ≤ fs ∧ fs ≤ 255) ∧ (0 ≤ fb ∧ fb ≤ 4294967295)) ∧ zs.length ≤ 32 ∧ allR zs 0 255 = true := by
  unfold isFrame at h
  simp only [Bool.and_eq_true] at h
  obtain ⟨h1, h2, h3, h4, h5⟩ := h
  have e1 := inR_iff.1 h1
  have e2 := inR_iff.1 h2
  refine ⟨e1, e2, ?_, ?_, ?_⟩
  · split at h5
    · have := of_decide_eq_true h5; omega
    · split at h5
      · simp only [Bool.and_eq_true] at h5
        exact isState_all h5.1
      · exact isState_all h5
  · unfold frSize at h3
    split at h3
    · have := inR_iff.1 h3; omega
    · split at h3
      · have := inR_iff.1 h3; omega
      · have := of_decide_eq_true h3; omega
  · unfold isBytes at h4; simp only [Bool.and_eq_true] at h4; exact h4.2
theorem send_bd {M : Mdl} {x : Sl} {t md rn sl mb k r ft fm fd fs fb : Int} {zs : List Int} (hb : bel M t md rn sl mb = true) (h : sendB x t md rn sl mb k r ft fm fd fs fb zs = true) :
    (0 ≤ k ∧ k ≤ 3) ∧ (0 ≤ r ∧ r ≤ 7) ∧ ((0 ≤ ft ∧ ft ≤ 65535) ∧ (0 ≤ fm ∧ fm ≤ 15) ∧ (0 ≤ fd ∧ fd ≤ 15) ∧ (0 ≤ fs ∧ fs ≤ 255) ∧ (0 ≤ fb ∧ fb ≤ 4294967295)) ∧ ((0 ≤ t ∧ t ≤ 65535) ∧ (0 ≤ md ∧ md ≤ 15) ∧ (0 ≤ rn ∧ rn ≤ 15) ∧ (0 ≤ sl ∧ sl ≤ 255) ∧ (0 ≤ mb ∧ mb ≤ 4294967295)) ∧ zs.length ≤ 32 ∧ allR zs 0 255 = true := by
  unfold sendB fitD at h
  simp only [Bool.and_eq_true] at h
  have h1 := frame_bd h.1.2.1
  unfold bel at hb
  simp only [Bool.and_eq_true] at hb
  exact ⟨h1.1, h1.2.1, h1.2.2.1, isState_all hb.1, h1.2.2.2⟩
theorem slL_len (M : Mdl) (t md rn sl mb k r ft fm fd fs fb : Int) (zs : List Int) : (slL M t md rn sl mb k r ft fm fd fs fb zs).length ≤ 45 := by
  unfold slL
  split
  · rename_i h
    obtain ⟨_, h2, h3⟩ := codeS_ok h
    have h4 := (send_bd h2 h3).2.2.2.2.1
    exact Nat.le_trans sealP_len (by omega)
  · simp

set_option maxRecDepth 100000 in
set_option maxHeartbeats 8000000 in
theorem sCodeS_any (m : Mdv) (M : Mdl) (t md rn sl mb k r ft fm fd fs fb : Int) (A : Option Addr) (n c : Nat) (zs : List Int) (w : World) (h : RD w w.heap.size m M) (hx : RX m M) (hz : RI w w.heap.size A n zs) (hn : n ≤ 1099511627776) :
    Calls Tryz.prog 60 #[.agg #[.int .i64 m.id, .slice m.An m.nn m.cn, .slice m.Am m.nm m.cm, .slice m.As m.ns m.cs], .agg #[.int .i64 t, .int .i64 md, .int .i64 rn, .int .i64 sl, .int .i64 mb], .agg #[.int .i64 k, .int .i64 r, .int .i64 ft, .int .i64 fm, .int .i64 fd, .int .i64 fs, .int .i64 fb, .slice A n c]] w (RetV w (.int .i64 (codeS M t md rn sl mb k r ft fm fd fs fb zs))) := by
  have LS := h.rs.len
  obtain ⟨w0, hw0⟩ : ∃ v, v = ((w.alloc (.cells #[.int .i64 m.id, .slice m.An m.nn m.cn, .slice m.Am m.nm m.cm, .slice m.As m.ns m.cs] 28)).alloc (.cells #[.int .i64 t, .int .i64 md, .int .i64 rn, .int .i64 sl, .int .i64 mb] 30)).alloc (.cells #[.int .i64 k, .int .i64 r, .int .i64 ft, .int .i64 fm, .int .i64 fd, .int .i64 fs, .int .i64 fb, .slice A n c] 33) := ⟨_, rfl⟩
  have hB : BM w w.heap.size m M w0 := by rw [hw0]; exact (BM.box h).next (by go_grown)
  have hS : BlkL w0 (w.heap.size + 1) 30 [.int .i64 t, .int .i64 md, .int .i64 rn, .int .i64 sl, .int .i64 mb] := by rw [hw0]; exact (BlkL.new _ _ _ (by simp)).alloc _
  have hF : BlkL w0 (w.heap.size + 1 + 1) 33 [.int .i64 k, .int .i64 r, .int .i64 ft, .int .i64 fm, .int .i64 fd, .int .i64 fs, .int .i64 fb, .slice A n c] := by rw [hw0]; exact BlkL.new _ _ _ (by simp)
  have hz0 := hz.up hB.bel
  have hc := codeM_cases M t md rn sl mb
  have E := Lib.hid (show codeS M t md rn sl mb k r ft fm fd fs fb zs = (if codeM M t md rn sl mb = 0 then (if sendB (ge M.ss (findI M.ss md rn sl)) t md rn sl mb k r ft fm fd fs fb zs = true then 0 else 5) else codeM M t md rn sl mb) from rfl)
  obtain ⟨cd, h1⟩ : ∃ b, codeM M t md rn sl mb = b := ⟨_, rfl⟩
  rw [h1] at hc
  go_enter Tryz.func60, Tryz.ntmps60
  go_wp2_with fail
  rw [← hw0]
  clear hw0
  refine (sCode_any m M t md rn sl mb _ hB.rd hx).mono ?_
  rw [h1]
  have H1 := Lib.hid h1
  clear h1
  rintro e w1 ⟨rfl, hb1⟩
  have hB1 := hB.next hb1
  have hS1 := hS.next hb1
  have hF1 := hF.next hb1
  have hz1 := hz0.up hb1
  clear hB hS hF hb1 hz0
  rcases hc with rfl | rfl | ⟨rfl, hi1, hi2⟩
  case inr.inr =>
    have c0 := hB1.k.c 0 rfl
    have c1 := hB1.k.c 1 rfl
    have c2 := hB1.k.c 2 rfl
    have c3 := hB1.k.c 3 rfl
    have s0 := hS1.c 0 rfl
    have s1 := hS1.c 1 rfl
    have s2 := hS1.c 2 rfl
    have s3 := hS1.c 3 rfl
    have s4 := hS1.c 4 rfl
    have f0 := hF1.c 0 rfl
    have f1 := hF1.c 1 rfl
    have f2 := hF1.c 2 rfl
    have f3 := hF1.c 3 rfl
    have f4 := hF1.c 4 rfl
    have f5 := hF1.c 5 rfl
    have f6 := hF1.c 6 rfl
    have f7 := hF1.c 7 rfl
    have hfl := bel_find hi1 hi2
    obtain ⟨b2, h2⟩ : ∃ b, sendB (ge M.ss (findI M.ss md rn sl)) t md rn sl mb k r ft fm fd fs fb zs = b := ⟨_, rfl⟩
    have hsd := fun (u : World) (hu : RD u u.heap.size m M) (hv : RI u u.heap.size A n zs) => sSend_any m M t md rn sl mb k r ft fm fd fs fb A n c zs (findI M.ss md rn sl) u hu hv hn (find_idx hfl) (by rw [← LS]; exact hfl)
    rw [h2] at hsd
    have HSD := Lib.hid hsd
    have H2 := Lib.hid h2
    clear hsd h2 hi1 hi2 hfl
    go_wp2_with fail
    refine (HSD.out _ hB1.rd hz1).mono ?_
    rintro e w2 ⟨rfl, hb2⟩
    have H9 := (hB1.next hb2).bel
    clear HSD
    cases b2
    all_goals
      go_wp2
      go_ret
      exact ⟨ret_int (by rw [E.out, if_pos H1.out, H2.out]; rfl), H9⟩
  all_goals
    go_wp2
    go_ret
    exact ⟨ret_int (by rw [E.out, if_neg (by rw [H1.out]; decide), H1.out]), hB1.bel⟩

set_option maxRecDepth 100000 in
set_option maxHeartbeats 8000000 in
theorem iCodeS_any (m : Mdv) (M : Mdl) (t md rn sl mb k r ft fm fd fs fb : Int) (A : Option Addr) (n c : Nat) (zs : List Int) (w : World) (h : RD w w.heap.size m M) (hx : RX m M) (hz : RI w w.heap.size A n zs) (hn : n ≤ 1099511627776) :
    Calls Tryz.prog 65 #[.agg #[.int .i64 m.id, .slice m.An m.nn m.cn, .slice m.Am m.nm m.cm, .slice m.As m.ns m.cs], .agg #[.int .i64 t, .int .i64 md, .int .i64 rn, .int .i64 sl, .int .i64 mb], .agg #[.int .i64 k, .int .i64 r, .int .i64 ft, .int .i64 fm, .int .i64 fd, .int .i64 fs, .int .i64 fb, .slice A n c]] w (RetV w (.int .i64 (codeS M t md rn sl mb k r ft fm fd fs fb zs))) := by
  have LS := h.rs.len
  obtain ⟨w0, hw0⟩ : ∃ v, v = ((w.alloc (.cells #[.int .i64 m.id, .slice m.An m.nn m.cn, .slice m.Am m.nm m.cm, .slice m.As m.ns m.cs] 28)).alloc (.cells #[.int .i64 t, .int .i64 md, .int .i64 rn, .int .i64 sl, .int .i64 mb] 30)).alloc (.cells #[.int .i64 k, .int .i64 r, .int .i64 ft, .int .i64 fm, .int .i64 fd, .int .i64 fs, .int .i64 fb, .slice A n c] 33) := ⟨_, rfl⟩
  have hB : BM w w.heap.size m M w0 := by rw [hw0]; exact (BM.box h).next (by go_grown)
  have hS : BlkL w0 (w.heap.size + 1) 30 [.int .i64 t, .int .i64 md, .int .i64 rn, .int .i64 sl, .int .i64 mb] := by rw [hw0]; exact (BlkL.new _ _ _ (by simp)).alloc _
  have hF : BlkL w0 (w.heap.size + 1 + 1) 33 [.int .i64 k, .int .i64 r, .int .i64 ft, .int .i64 fm, .int .i64 fd, .int .i64 fs, .int .i64 fb, .slice A n c] := by rw [hw0]; exact BlkL.new _ _ _ (by simp)
  have hz0 := hz.up hB.bel
  have hc := codeM_cases M t md rn sl mb
  have E := Lib.hid (show codeS M t md rn sl mb k r ft fm fd fs fb zs = (if codeM M t md rn sl mb = 0 then (if sendB (ge M.ss (findI M.ss md rn sl)) t md rn sl mb k r ft fm fd fs fb zs = true then 0 else 5) else codeM M t md rn sl mb) from rfl)
  obtain ⟨cd, h1⟩ : ∃ b, codeM M t md rn sl mb = b := ⟨_, rfl⟩
  rw [h1] at hc
  go_enter Tryz.func65, Tryz.ntmps65
  go_wp2_with fail
  rw [← hw0]
  clear hw0
  refine (iCode_any m M t md rn sl mb _ hB.rd hx).mono ?_
  rw [h1]
  have H1 := Lib.hid h1
  clear h1
  rintro e w1 ⟨rfl, hb1⟩
  have hB1 := hB.next hb1
  have hS1 := hS.next hb1
  have hF1 := hF.next hb1
  have hz1 := hz0.up hb1
  clear hB hS hF hb1 hz0
  rcases hc with rfl | rfl | ⟨rfl, hi1, hi2⟩
  case inr.inr =>
    have c0 := hB1.k.c 0 rfl
    have c1 := hB1.k.c 1 rfl
    have c2 := hB1.k.c 2 rfl
    have c3 := hB1.k.c 3 rfl
    have s0 := hS1.c 0 rfl
    have s1 := hS1.c 1 rfl
    have s2 := hS1.c 2 rfl
    have s3 := hS1.c 3 rfl
    have s4 := hS1.c 4 rfl
    have f0 := hF1.c 0 rfl
    have f1 := hF1.c 1 rfl
    have f2 := hF1.c 2 rfl
    have f3 := hF1.c 3 rfl
    have f4 := hF1.c 4 rfl
    have f5 := hF1.c 5 rfl
    have f6 := hF1.c 6 rfl
    have f7 := hF1.c 7 rfl
    have hfl := bel_find hi1 hi2
    obtain ⟨b2, h2⟩ : ∃ b, sendB (ge M.ss (findI M.ss md rn sl)) t md rn sl mb k r ft fm fd fs fb zs = b := ⟨_, rfl⟩
    have hsd := fun (u : World) (hu : RD u u.heap.size m M) (hv : RI u u.heap.size A n zs) => iSend_any m M t md rn sl mb k r ft fm fd fs fb A n c zs (findI M.ss md rn sl) u hu hv hn (find_idx hfl) (by rw [← LS]; exact hfl)
    rw [h2] at hsd
    have HSD := Lib.hid hsd
    have H2 := Lib.hid h2
    clear hsd h2 hi1 hi2 hfl
    go_wp2_with fail
    refine (HSD.out _ hB1.rd hz1).mono ?_
    rintro e w2 ⟨rfl, hb2⟩
    have H9 := (hB1.next hb2).bel
    clear HSD
    cases b2
    all_goals
      go_wp2
      go_ret
      exact ⟨ret_int (by rw [E.out, if_pos H1.out, H2.out]; rfl), H9⟩
  all_goals
    go_wp2
    go_ret
    exact ⟨ret_int (by rw [E.out, if_neg (by rw [H1.out]; decide), H1.out]), hB1.bel⟩

end Go.Proofs.YtbaojbheopcjhaaGreatDoor
