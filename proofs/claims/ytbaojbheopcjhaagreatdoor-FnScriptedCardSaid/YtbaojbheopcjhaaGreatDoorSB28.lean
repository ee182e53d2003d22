/- Walks, laws and small notions for the claims of this seat, several texts as one (Snd, Lwe). Conditions: as each theorem states them. -/
import Derived.Test.YtbaojbheopcjhaaGreatDoorB20
import Derived.Test.YtbaojbheopcjhaaGreatDoorSB27
import Derived.Test.YtbaojbheopcjhaaGreatDoorB14
namespace Go.Proofs.YtbaojbheopcjhaaGreatDoor
open Go.RowKit
/-- the code of SendScripted -/
def codeSS (M : Mdl) (t md rn sl mb k r ft fm fd fs fb : Int) (zs : List Int) (ss : List Flt) : Int := if codeS M t md rn sl mb k r ft fm fd fs fb zs = 0 then (if isScript ss = true then 0 else 3) else codeS M t md rn sl mb k r ft fm fd fs fb zs
/-- the samples that arrive behind a script -/
def sndL (M : Mdl) (t md rn sl mb k r ft fm fd fs fb : Int) (zs : List Int) (ss : List Flt) : List Int := if codeSS M t md rn sl mb k r ft fm fd fs fb zs ss = 0 then appS (smpL M t md rn sl mb k r ft fm fd fs fb zs) ss else []
theorem nom_01 {cs : List Int} (h : allR cs 0 1 = true) : allR (nom cs) 0 1 = true := by
  refine List.all_eq_true.2 fun z hz => ?_
  obtain ⟨b, hb, hz⟩ := List.mem_flatMap.1 hz
  rw [List.eq_of_mem_replicate hz]
  exact List.all_eq_true.1 h b hb
theorem smp_bits {M : Mdl} {t md rn sl mb k r ft fm fd fs fb : Int} {zs : List Int} (hc : codeS M t md rn sl mb k r ft fm fd fs fb zs = 0) : isBits (smpL M t md rn sl mb k r ft fm fd fs fb zs) = true := by
  have h1 := smpL_len M t md rn sl mb k r ft fm fd fs fb zs
  obtain ⟨_, _, h3⟩ := slc_facts hc
  unfold isBits
  rw [Bool.and_eq_true]
  refine ⟨by simp; omega, ?_⟩
  unfold smpL
  rw [if_pos hc]
  exact nom_01 h3
theorem sndL_len (M : Mdl) (t md rn sl mb k r ft fm fd fs fb : Int) (zs : List Int) (ss : List Flt) : (sndL M t md rn sl mb k r ft fm fd fs fb zs ss).length ≤ 1000000 := by
  unfold sndL
  split
  · rename_i h
    unfold codeSS at h
    by_cases hc : codeS M t md rn sl mb k r ft fm fd fs fb zs = 0
    · rw [if_pos hc] at h
      by_cases hs : isScript ss = true
      · have := isBits_len (appS_bits (smp_bits hc) (isScript_all hs))
        omega
      · rw [if_neg hs] at h; omega
    · rw [if_neg hc] at h; exact absurd h hc
  · simp


set_option maxRecDepth 200000 in
set_option maxHeartbeats 16000000 in
theorem sSendScr_any (m : Mdv) (M : Mdl) (t md rn sl mb k r ft fm fd fs fb : Int) (A : Option Addr) (n c : Nat) (zs : List Int) (B : Option Addr) (nf cf : Nat) (ss : List Flt) (w : World) (h : RD w w.heap.size m M) (hx : RX m M) (hz : RI w w.heap.size A n zs) (hA : A = none → c = 0) (hn : n ≤ 1099511627776) (hf : RE encF 4 w w.heap.size B nf ss) (hnf : nf ≤ 1099511627776) :
    Calls Tryz.prog 8 #[.agg #[.int .i64 m.id, .slice m.An m.nn m.cn, .slice m.Am m.nm m.cm, .slice m.As m.ns m.cs], .agg #[.int .i64 t, .int .i64 md, .int .i64 rn, .int .i64 sl, .int .i64 mb], .agg #[.int .i64 k, .int .i64 r, .int .i64 ft, .int .i64 fm, .int .i64 fd, .int .i64 fs, .int .i64 fb, .slice A n c], .slice B nf cf] w (RetIC 2 w (sndL M t md rn sl mb k r ft fm fd fs fb zs ss) (codeSS M t md rn sl mb k r ft fm fd fs fb zs ss)) := by
  have HK0 := fun (u : World) h1 h2 => sSamples_ok m M t md rn sl mb k r ft fm fd fs fb A n c zs u h1 hx h2 hA hn
  have hE : sndL M t md rn sl mb k r ft fm fd fs fb zs ss = if codeSS M t md rn sl mb k r ft fm fd fs fb zs ss = 0 then appS (smpL M t md rn sl mb k r ft fm fd fs fb zs) ss else [] := rfl
  have hC : codeSS M t md rn sl mb k r ft fm fd fs fb zs ss = if codeS M t md rn sl mb k r ft fm fd fs fb zs = 0 then (if isScript ss = true then 0 else 3) else codeS M t md rn sl mb k r ft fm fd fs fb zs := rfl
  have hB1 : codeS M t md rn sl mb k r ft fm fd fs fb zs = 0 → isBits (smpL M t md rn sl mb k r ft fm fd fs fb zs) = true := smp_bits
  obtain ⟨cs, hcs⟩ : ∃ x, smpL M t md rn sl mb k r ft fm fd fs fb zs = x := ⟨_, rfl⟩
  obtain ⟨cd, hcd⟩ : ∃ x, codeS M t md rn sl mb k r ft fm fd fs fb zs = x := ⟨_, rfl⟩
  obtain ⟨co, hco⟩ : ∃ x, codeSS M t md rn sl mb k r ft fm fd fs fb zs ss = x := ⟨_, rfl⟩
  obtain ⟨sm, hsm⟩ : ∃ x, sndL M t md rn sl mb k r ft fm fd fs fb zs ss = x := ⟨_, rfl⟩
  obtain ⟨b, hb⟩ : ∃ x, isScript ss = x := ⟨_, rfl⟩
  rw [hcs, hcd] at HK0
  rw [hcs, hco, hsm] at hE
  rw [hcd, hco, hb] at hC
  rw [hcs, hcd] at hB1
  rw [hsm, hco]
  have hIS := fun (u : World) (hu : RE encF 4 u u.heap.size B nf ss) => sIsScript_any B nf cf ss u hu hnf
  rw [hb] at hIS
  have HI := Lib.hid hIS
  have HK := Lib.hid HK0
  have HE := Lib.hid hE
  have HC := Lib.hid hC
  have HBT := Lib.hid hB1
  have HS := Lib.hid hb
  clear HK0 hE hC hB1 hcs hcd hco hsm hb hIS
  obtain ⟨w0, hw0⟩ : ∃ v, v = ((w.alloc (.cells #[.int .i64 m.id, .slice m.An m.nn m.cn, .slice m.Am m.nm m.cm, .slice m.As m.ns m.cs] 28)).alloc (.cells #[.int .i64 t, .int .i64 md, .int .i64 rn, .int .i64 sl, .int .i64 mb] 30)).alloc (.cells #[.int .i64 k, .int .i64 r, .int .i64 ft, .int .i64 fm, .int .i64 fd, .int .i64 fs, .int .i64 fb, .slice A n c] 33) := ⟨_, rfl⟩
  have hB : BM w w.heap.size m M w0 := by rw [hw0]; exact (BM.box h).next (by go_grown)
  have hS : BlkL w0 (w.heap.size + 1) 30 [.int .i64 t, .int .i64 md, .int .i64 rn, .int .i64 sl, .int .i64 mb] := by rw [hw0]; exact (BlkL.new _ _ _ (by simp)).alloc _
  have hF : BlkL w0 (w.heap.size + 1 + 1) 33 [.int .i64 k, .int .i64 r, .int .i64 ft, .int .i64 fm, .int .i64 fd, .int .i64 fs, .int .i64 fb, .slice A n c] := by rw [hw0]; exact BlkL.new _ _ _ (by simp)
  have hz0 := hz.up hB.bel
  have HF0 := Lib.hid (hf.up hB.bel)
  clear hf
  go_enter Tryz.func8, Tryz.ntmps8
  go_wp2_with fail
  rw [← hw0]
  clear hw0
  refine (HK.out _ hB.rd hz0).mono ?_
  rintro e w1 ⟨A1, n1, d1, rfl, own1, hb1⟩
  have hB1 := hB.next hb1
  have HF1 := Lib.hid (HF0.out.up hb1)
  have O1 := Lib.hid (own1.weaken hB.bel.size)
  clear hB hS hF hb1 HK own1 HF0
  by_cases hc : cd = 0
  · rw [if_pos hc] at HC
    have H0 := Lib.hid hc
    have hne : (cd != 0) = false := by simp [hc]
    have heq : (cd == 0) = true := by simp [hc]
    have HB9 := Lib.hid (HBT.out hc)
    clear hc HBT
    go_wp2_with fail
    refine (HI.out _ HF1.out).mono ?_
    rintro e w2 ⟨rfl, hb2⟩
    have hB2 := hB1.next hb2
    have HF2 := Lib.hid (HF1.out.up hb2)
    have O2 := Lib.hid (O1.out.below hb2)
    clear hB1 hb2 HF1 O1
    cases b
    · have HC2 := Lib.hid (show co = 3 from HC.out.trans (if_neg (by decide)))
      have HE2 := Lib.hid (show sm = [] from HE.out.trans (if_neg (by rw [HC2.out]; decide)))
      have H9 := hB2.bel
      go_wp2
      go_ret2
      exact ⟨none, 0, 0, by rw [HC2.out]; rfl, by rw [HE2.out]; exact OwnI.nil _ _ _, H9⟩
    · have HC2 := Lib.hid (show co = 0 from HC.out.trans (if_pos rfl))
      have HE2 := Lib.hid (show sm = appS cs ss from HE.out.trans (if_pos HC2.out))
      have sz2 := hB2.bel.size
      go_wp2_with fail
      refine (ApplyScript.l25Apply_any A1 n1 d1 cs B nf cf ss _ O2.out.reads HB9.out (ownI_zero O2.out) HF2.out (isScript_all HS.out) hnf).mono ?_
      rintro e w3 ⟨A3, c3, rfl, own3, hb3⟩
      have H9 := (hB2.next hb3).bel
      have O3 := Lib.hid (own3.weaken sz2)
      go_wp2
      go_ret2
      exact ⟨A3, _, c3, by rw [HC2.out]; rfl, by rw [HE2.out]; exact O3.out, H9⟩
  · rw [if_neg hc] at HC
    have HE2 := Lib.hid (show sm = [] from HE.out.trans (if_neg (by rw [HC.out]; exact hc)))
    have hne : (cd != 0) = true := by simp [hc]
    have heq : (cd == 0) = false := by simp [hc]
    have H9 := hB1.bel
    clear hc HBT O1
    go_wp2
    go_ret2
    exact ⟨none, 0, 0, by rw [HC.out]; rfl, by rw [HE2.out]; exact OwnI.nil _ _ _, H9⟩

set_option maxRecDepth 200000 in
set_option maxHeartbeats 16000000 in
theorem iSendScr_any (m : Mdv) (M : Mdl) (t md rn sl mb k r ft fm fd fs fb : Int) (A : Option Addr) (n c : Nat) (zs : List Int) (B : Option Addr) (nf cf : Nat) (ss : List Flt) (w : World) (h : RD w w.heap.size m M) (hx : RX m M) (hz : RI w w.heap.size A n zs) (hA : A = none → c = 0) (hn : n ≤ 1099511627776) (hf : RE encF 4 w w.heap.size B nf ss) (hnf : nf ≤ 1099511627776) :
    Calls Tryz.prog 7 #[.agg #[.int .i64 m.id, .slice m.An m.nn m.cn, .slice m.Am m.nm m.cm, .slice m.As m.ns m.cs], .agg #[.int .i64 t, .int .i64 md, .int .i64 rn, .int .i64 sl, .int .i64 mb], .agg #[.int .i64 k, .int .i64 r, .int .i64 ft, .int .i64 fm, .int .i64 fd, .int .i64 fs, .int .i64 fb, .slice A n c], .slice B nf cf] w (RetIC 2 w (sndL M t md rn sl mb k r ft fm fd fs fb zs ss) (codeSS M t md rn sl mb k r ft fm fd fs fb zs ss)) := by
  have HK0 := fun (u : World) h1 h2 => iSamples_ok m M t md rn sl mb k r ft fm fd fs fb A n c zs u h1 hx h2 hA hn
  have hE : sndL M t md rn sl mb k r ft fm fd fs fb zs ss = if codeSS M t md rn sl mb k r ft fm fd fs fb zs ss = 0 then appS (smpL M t md rn sl mb k r ft fm fd fs fb zs) ss else [] := rfl
  have hC : codeSS M t md rn sl mb k r ft fm fd fs fb zs ss = if codeS M t md rn sl mb k r ft fm fd fs fb zs = 0 then (if isScript ss = true then 0 else 3) else codeS M t md rn sl mb k r ft fm fd fs fb zs := rfl
  have hB1 : codeS M t md rn sl mb k r ft fm fd fs fb zs = 0 → isBits (smpL M t md rn sl mb k r ft fm fd fs fb zs) = true := smp_bits
  obtain ⟨cs, hcs⟩ : ∃ x, smpL M t md rn sl mb k r ft fm fd fs fb zs = x := ⟨_, rfl⟩
  obtain ⟨cd, hcd⟩ : ∃ x, codeS M t md rn sl mb k r ft fm fd fs fb zs = x := ⟨_, rfl⟩
  obtain ⟨co, hco⟩ : ∃ x, codeSS M t md rn sl mb k r ft fm fd fs fb zs ss = x := ⟨_, rfl⟩
  obtain ⟨sm, hsm⟩ : ∃ x, sndL M t md rn sl mb k r ft fm fd fs fb zs ss = x := ⟨_, rfl⟩
  obtain ⟨b, hb⟩ : ∃ x, isScript ss = x := ⟨_, rfl⟩
  rw [hcs, hcd] at HK0
  rw [hcs, hco, hsm] at hE
  rw [hcd, hco, hb] at hC
  rw [hcs, hcd] at hB1
  rw [hsm, hco]
  have hIS := fun (u : World) (hu : RE encF 4 u u.heap.size B nf ss) => iIsScript_any B nf cf ss u hu hnf
  rw [hb] at hIS
  have HI := Lib.hid hIS
  have HK := Lib.hid HK0
  have HE := Lib.hid hE
  have HC := Lib.hid hC
  have HBT := Lib.hid hB1
  have HS := Lib.hid hb
  clear HK0 hE hC hB1 hcs hcd hco hsm hb hIS
  obtain ⟨w0, hw0⟩ : ∃ v, v = ((w.alloc (.cells #[.int .i64 m.id, .slice m.An m.nn m.cn, .slice m.Am m.nm m.cm, .slice m.As m.ns m.cs] 28)).alloc (.cells #[.int .i64 t, .int .i64 md, .int .i64 rn, .int .i64 sl, .int .i64 mb] 30)).alloc (.cells #[.int .i64 k, .int .i64 r, .int .i64 ft, .int .i64 fm, .int .i64 fd, .int .i64 fs, .int .i64 fb, .slice A n c] 33) := ⟨_, rfl⟩
  have hB : BM w w.heap.size m M w0 := by rw [hw0]; exact (BM.box h).next (by go_grown)
  have hS : BlkL w0 (w.heap.size + 1) 30 [.int .i64 t, .int .i64 md, .int .i64 rn, .int .i64 sl, .int .i64 mb] := by rw [hw0]; exact (BlkL.new _ _ _ (by simp)).alloc _
  have hF : BlkL w0 (w.heap.size + 1 + 1) 33 [.int .i64 k, .int .i64 r, .int .i64 ft, .int .i64 fm, .int .i64 fd, .int .i64 fs, .int .i64 fb, .slice A n c] := by rw [hw0]; exact BlkL.new _ _ _ (by simp)
  have hz0 := hz.up hB.bel
  have HF0 := Lib.hid (hf.up hB.bel)
  clear hf
  go_enter Tryz.func7, Tryz.ntmps7
  go_wp2_with fail
  rw [← hw0]
  clear hw0
  refine (HK.out _ hB.rd hz0).mono ?_
  rintro e w1 ⟨A1, n1, d1, rfl, own1, hb1⟩
  have hB1 := hB.next hb1
  have HF1 := Lib.hid (HF0.out.up hb1)
  have O1 := Lib.hid (own1.weaken hB.bel.size)
  clear hB hS hF hb1 HK own1 HF0
  by_cases hc : cd = 0
  · rw [if_pos hc] at HC
    have H0 := Lib.hid hc
    have hne : (cd != 0) = false := by simp [hc]
    have heq : (cd == 0) = true := by simp [hc]
    have HB9 := Lib.hid (HBT.out hc)
    clear hc HBT
    go_wp2_with fail
    refine (HI.out _ HF1.out).mono ?_
    rintro e w2 ⟨rfl, hb2⟩
    have hB2 := hB1.next hb2
    have HF2 := Lib.hid (HF1.out.up hb2)
    have O2 := Lib.hid (O1.out.below hb2)
    clear hB1 hb2 HF1 O1
    cases b
    · have HC2 := Lib.hid (show co = 3 from HC.out.trans (if_neg (by decide)))
      have HE2 := Lib.hid (show sm = [] from HE.out.trans (if_neg (by rw [HC2.out]; decide)))
      have H9 := hB2.bel
      go_wp2
      go_ret2
      exact ⟨none, 0, 0, by rw [HC2.out]; rfl, by rw [HE2.out]; exact OwnI.nil _ _ _, H9⟩
    · have HC2 := Lib.hid (show co = 0 from HC.out.trans (if_pos rfl))
      have HE2 := Lib.hid (show sm = appS cs ss from HE.out.trans (if_pos HC2.out))
      have sz2 := hB2.bel.size
      go_wp2_with fail
      refine (ApplyScript.applyScript_any A1 n1 d1 cs B nf cf ss _ O2.out.reads HB9.out (ownI_zero O2.out) HF2.out (isScript_all HS.out) hnf).mono ?_
      rintro e w3 ⟨A3, c3, rfl, own3, hb3⟩
      have H9 := (hB2.next hb3).bel
      have O3 := Lib.hid (own3.weaken sz2)
      go_wp2
      go_ret2
      exact ⟨A3, _, c3, by rw [HC2.out]; rfl, by rw [HE2.out]; exact O3.out, H9⟩
  · rw [if_neg hc] at HC
    have HE2 := Lib.hid (show sm = [] from HE.out.trans (if_neg (by rw [HC.out]; exact hc)))
    have hne : (cd != 0) = true := by simp [hc]
    have heq : (cd == 0) = false := by simp [hc]
    have H9 := hB1.bel
    clear hc HBT O1
    go_wp2
    go_ret2
    exact ⟨none, 0, 0, by rw [HC.out]; rfl, by rw [HE2.out]; exact OwnI.nil _ _ _, H9⟩
end Go.Proofs.YtbaojbheopcjhaaGreatDoor

namespace Go.Proofs.YtbaojbheopcjhaaGreatDoor
open Go.RowKit

/-- a row of elements of the law's own, its block between lo and hi -/
structure RwE {α : Type} (enc : α → List Value) (sz : Nat) (T : TypeId) (v : World) (lo hi : Nat) (A : Option Addr) (n c : Nat) (xs : List α) : Prop where
  own : OwnE enc sz T v lo A n c xs
  top : ∀ g, (Value.slice A n c).ownBlock = some g → g < hi
section
variable {α : Type} {enc : α → List Value} {sz : Nat} {v v' : World} {S : TypeId → Prop} {lo hi lo' hi' n c : Nat} {T : TypeId} {A : Option Addr} {xs xs' : List α}
theorem RwE.next (h : RwE enc sz T v lo hi A n c xs) (hb : Below v.heap.size v v') : RwE enc sz T v' lo hi A n c xs := ⟨h.own.below hb, h.top⟩
theorem RwE.mkb (h : RwE enc sz T v lo hi A n c xs) (k : MKB S lo' hi' v v') (ha : hi ≤ lo' ∨ hi' ≤ lo) : RwE enc sz T v' lo hi A n c xs :=
  ⟨h.own.mkb k fun g hg => by
    have h1 := (h.own.row g hg).1
    have h2 := h.top g hg
    omega, h.top⟩
theorem RwE.reads [Inhabited α] (hk : ∀ x, (enc x).length = sz) (h : RwE enc sz T v lo hi A n c xs) : RE enc sz v v.heap.size A n xs := h.own.reads hk
theorem RwE.len (h : RwE enc sz T v lo hi A n c xs) : xs.length = n := h.own.len
end
end Go.Proofs.YtbaojbheopcjhaaGreatDoor
