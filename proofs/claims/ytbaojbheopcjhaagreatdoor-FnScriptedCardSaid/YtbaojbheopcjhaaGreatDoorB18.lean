/- Walks, laws and small notions for the claims of this seat, several texts as one (Bq, Br). Conditions: as each theorem states them. -/
import Derived.Test.YtbaojbheopcjhaaGreatDoorB17
import Derived.Test.YtbaojbheopcjhaaGreatDoorB14
import Derived.Test.YtbaojbheopcjhaaGreatDoorB10
namespace Go.Proofs.YtbaojbheopcjhaaGreatDoor
open Go.RowKit

/-- a row of one written number that has just been made -/
theorem OwnI.lit1 (w : World) (x : Int) (T : TypeId) {base : Nat} (hb : base ≤ w.heap.size) : OwnI T (w.alloc (.cells #[.int .i64 x] T)) base (some ⟨w.heap.size, 0, none⟩) 1 1 [x] := by
  refine OwnI.shut (cur := [.int .i64 x]) ?_ hb (Nat.le_refl _) (by decide) rfl rfl
  have := BlkL.new w T #[.int .i64 x] rfl
  exact this
/-- the body of a frame -/
def bodyP (k r t md rn sl mb : Nat) (zs : List Int) : List Int :=
  [((k * 64 + r * 8 : Nat) : Int)] ++ (if k = 0 then [] else bytesB (stB t md rn sl mb) 8) ++ (if k = 0 ∨ k = 2 then [(zs.length : Int)] ++ zs else [])
theorem bodyP_255 {k r t md rn sl mb : Nat} {zs : List Int} (hk : k ≤ 3) (hr : r ≤ 7) (hn : zs.length ≤ 255) (hz : allR zs 0 255 = true) : allR (bodyP k r t md rn sl mb zs) 0 255 = true := by
  unfold bodyP
  refine allR_app (allR_app ?_ ?_) ?_
  · simp [allR, inR]; omega
  · split
    · rfl
    · exact bytesB_255 (stB_01 _ _ _ _ _) 8
  · split
    · refine allR_app ?_ hz
      simp [allR, inR]; omega
    · rfl
theorem bodyP_len {k r t md rn sl mb : Nat} {zs : List Int} : (bodyP k r t md rn sl mb zs).length ≤ 10 + zs.length := by
  unfold bodyP
  simp only [List.length_append, List.length_cons, List.length_nil]
  split <;> split <;> simp [bytesB_len] <;> omega

theorem BlkL.keptRow {w w' : World} {g base n c : Nat} {T T2 : TypeId} {L : List Value} {A : Option Addr} {zs : List Int} (h : BlkL w g T L) (hT : T ≠ T2) (ho : OwnI T2 w base A n c zs) (hg : w.grownBy w' (Value.slice A n c).ownBlock) : BlkL w' g T L := by
  refine (hg.block g h.lt (fun e => ?_)).trans h
  rcases ho.2 with ⟨h1, h2⟩ | ⟨g', cap, cur, hv, hb, hh, _⟩
  · rw [h1] at e; cases e
  · rw [hv] at e
    simp only [Value.ownBlock, Option.some.injEq] at e
    subst e
    unfold BlkL at h
    rw [h] at hh
    injection hh with hh
    injection hh with _ hh
    exact hT hh
theorem sHasDt_is {k : Int} {b : Bool} (h : (k == 0 || k == 2) = b) (w : World) : Calls Tryz.prog 130 #[.int .i64 k] w fun e w' => e = .returned (.bool b) ∧ w = w' := by
  subst h
  rcases num_cases k 0 with ⟨h1, h1'⟩ | ⟨h1, h1'⟩
  · go_enter Tryz.func130, Tryz.ntmps130
    go_wp2
    go_ret
    exact ⟨ret_bool (by rw [h1]; rfl), rfl⟩
  · go_enter Tryz.func130, Tryz.ntmps130
    go_wp2
    go_ret
    exact ⟨ret_bool (by rw [h1]; rfl), rfl⟩
theorem iHasDt_is {k : Int} {b : Bool} (h : (k == 0 || k == 2) = b) (w : World) : Calls Tryz.prog 138 #[.int .i64 k] w fun e w' => e = .returned (.bool b) ∧ w = w' := by
  subst h
  rcases num_cases k 0 with ⟨h1, h1'⟩ | ⟨h1, h1'⟩
  · go_enter Tryz.func138, Tryz.ntmps138
    go_wp2
    go_ret
    exact ⟨ret_bool (by rw [h1]; rfl), rfl⟩
  · go_enter Tryz.func138, Tryz.ntmps138
    go_wp2
    go_ret
    exact ⟨ret_bool (by rw [h1]; rfl), rfl⟩

set_option maxRecDepth 200000 in
set_option maxHeartbeats 8000000 in
theorem sBod_any (k r ft fm fd fs fb : Nat) (A : Option Addr) (n c : Nat) (zs : List Int) (w : World) (hz : RI w w.heap.size A n zs) (hA : A = none → c = 0) (hn : n ≤ 1048576) (hk : k ≤ 3) (hr : r ≤ 7) (h1 : ft < 4611686018427387904) (h2 : fm < 4611686018427387904) (h3 : fd < 4611686018427387904) (h4 : fs < 4611686018427387904) (h5 : fb < 4611686018427387904) :
    Calls Tryz.prog 134 #[.agg #[.int .i64 k, .int .i64 r, .int .i64 ft, .int .i64 fm, .int .i64 fd, .int .i64 fs, .int .i64 fb, .slice A n c]] w (RetS 2 w (bodyP k r ft fm fd fs fb zs)) := by
  have L := Lib.hid hz.len
  obtain ⟨w0, hw0⟩ : ∃ v, v = (w.alloc (.cells #[.int .i64 k, .int .i64 r, .int .i64 ft, .int .i64 fm, .int .i64 fd, .int .i64 fs, .int .i64 fb, .slice A n c] 33)).alloc (.cells #[.int .i64 ((k * 64 + r * 8 : Nat) : Int)] 2) := ⟨_, rfl⟩
  have k0 : BlkL w0 w.heap.size 33 [.int .i64 k, .int .i64 r, .int .i64 ft, .int .i64 fm, .int .i64 fd, .int .i64 fs, .int .i64 fb, .slice A n c] := by rw [hw0]; exact (BlkL.new _ _ _ rfl).alloc _
  have o0 : OwnI 2 w0 w.heap.size (some ⟨w.heap.size + 1, 0, none⟩) 1 1 [((k * 64 + r * 8 : Nat) : Int)] := by
    have := OwnI.lit1 (w.alloc (.cells #[.int .i64 k, .int .i64 r, .int .i64 ft, .int .i64 fm, .int .i64 fd, .int .i64 fs, .int .i64 fb, .slice A n c] 33)) ((k * 64 + r * 8 : Nat) : Int) 2 (base := w.heap.size) (by simp)
    rw [World.size_alloc] at this
    rw [hw0]; exact this
  have gb : Below w.heap.size w w0 := by rw [hw0]; go_grown
  obtain ⟨q, hq⟩ : ∃ q : Nat, k * 64 + r * 8 = q := ⟨_, rfl⟩
  have hkr : ((k : Int) * 64 + (r : Int) * 8) = (q : Int) := by omega
  have hq3 : q ≤ 248 := by omega
  have E := Lib.hid (show bodyP k r ft fm fd fs fb zs = [(q : Int)] ++ (if k = 0 then [] else bytesB (stB ft fm fd fs fb) 8) ++ (if k = 0 ∨ k = 2 then [(zs.length : Int)] ++ zs else []) by rw [← hq]; rfl)
  rw [hq] at o0 hw0
  have O0 := Lib.hid o0
  have HZ := Lib.hid hz
  have K0 := Lib.hid k0
  clear o0 hz hq
  have c0 := k0.c 0 rfl
  have c1 := k0.c 1 rfl
  have c2 := k0.c 2 rfl
  have c3 := k0.c 3 rfl
  have c4 := k0.c 4 rfl
  have c5 := k0.c 5 rfl
  have c6 := k0.c 6 rfl
  have c7 := k0.c 7 rfl
  clear k0
  rcases (show k = 0 ∨ k = 1 ∨ k = 2 ∨ k = 3 by omega) with hkv | hkv | hkv | hkv
  · have hst : ((k : Int) != 0) = false := by rw [hkv]; rfl
    have hdt : ((k : Int) == 0 || (k : Int) == 2) = true := by rw [hkv]; rfl
    have HKV := Lib.hid hkv
    have HST := Lib.hid hst
    have HDT := Lib.hid hdt
    clear hkv hst hdt
    go_enter Tryz.func134, Tryz.ntmps134
    go_upto_region 2 with fail
    rw [← hw0]
    clear hw0 hkr
    go_upto_region 4 with (go_at_call 77; refine (sHasSt_is HST.out _).mono ?_; rintro e w9 ⟨rfl, rfl⟩)
    have s4 := gb.size
    go_upto_region 6 with (first | (go_at_call 130; refine (sHasDt_is HDT.out _).mono ?_; rintro e w9 ⟨rfl, rfl⟩) | (at_builtin; refine wpl_appI _ _ Tryz.underlying31 infoInt rfl _ _ rfl w.heap.size _ 1 _ _ rfl O0.out (n : Int) rfl (by omega) s4 ?_; intro A4 d4 w4 own4 hB4 hg4))
    have gb4 := gb.trans (hB4 _ (Nat.le_refl _))
    have k4 := K0.out.keptRow (by decide) O0.out hg4
    have c7 := k4.c 7 rfl
    have s5 := gb4.size
    have O4 := Lib.hid own4
    have R4 := Lib.hid (HZ.out.up gb4)
    have HG4 := Lib.hid gb4
    clear own4 hB4 hg4 k4 gb4 K0 O0 s4 gb c0 c1 c2 c3 c4 c5 c6
    go_wp2_with (at_builtin; refine wpl_appR _ Tryz.underlying31 infoInt rfl _ _ rfl w.heap.size _ (1 + 1) _ _ rfl O4.out A n c _ _ rfl R4.out hA (by omega) s5 ?_; intro A5 d5 w5 own5 hB5 hg5)
    go_ret
    exact ⟨A5, _, d5, rfl, by rw [E.out, if_pos HKV.out, List.append_nil, if_pos (by have := HKV.out; omega), L.out, ← List.append_assoc]; exact own5, HG4.out.trans (hB5 _ (Nat.le_refl _))⟩
  · have hst : ((k : Int) != 0) = true := by rw [hkv]; rfl
    have hdt : ((k : Int) == 0 || (k : Int) == 2) = false := by rw [hkv]; rfl
    have HKV := Lib.hid hkv
    have HST := Lib.hid hst
    have HDT := Lib.hid hdt
    clear hkv hst hdt
    go_enter Tryz.func134, Tryz.ntmps134
    go_upto_region 2 with fail
    rw [← hw0]
    clear hw0 hkr
    go_wp2_with (go_at_call 77; refine (sHasSt_is HST.out _).mono ?_; rintro e w9 ⟨rfl, rfl⟩)
    refine (l04Bits_any ft fm fd fs fb _ h1 h2 h3 h4 h5).mono ?_
    rintro e w1 ⟨A1, d1, rfl, own1, hb1⟩
    have K1 := Lib.hid (K0.out.next hb1)
    have O1 := Lib.hid (O0.out.below hb1)
    have gb1 := below_next hb1 gb (Nat.le_refl _)
    have ob1 := Lib.hid own1
    have hd1 : 64 ≤ d1 := own1.cap.1
    clear own1 hb1 gb K0 O0 c0 c1 c2 c3 c4 c5 c6 c7
    go_wp2_with fail
    refine (l01Byt_any A1 d1 _ _ ob1.out.reads (stB_01 _ _ _ _ _)).mono ?_
    rintro e w2 ⟨A2, d2, rfl, own2, hb2⟩
    have K2 := Lib.hid (K1.out.next hb2)
    have O2 := Lib.hid (O1.out.below hb2)
    have gb2 := below_next hb2 gb1 (Nat.le_refl _)
    have ob2 := Lib.hid own2
    have s2 := gb2.size
    clear own2 hb2 gb1 K1 O1 ob1 hd1
    go_upto_region 4 with (at_builtin; refine wpl_appR _ Tryz.underlying31 infoInt rfl _ _ rfl w.heap.size _ 1 _ _ rfl O2.out A2 8 d2 _ _ rfl ob2.out.reads (ownI_zero ob2.out) (by omega) s2 ?_; intro A3 d3 w3 own3 hB3 hg3)
    have gb3 := gb2.trans (hB3 _ (Nat.le_refl _))
    have k3 := K2.out.keptRow (by decide) O2.out hg3
    have O3 := Lib.hid own3
    have K3 := Lib.hid k3
    have c0 := k3.c 0 rfl
    have c7 := k3.c 7 rfl
    clear gb2 K2 O2 ob2 s2 own3 hB3 hg3 k3
    go_wp2_with (go_at_call 130; refine (sHasDt_is HDT.out _).mono ?_; rintro e w9 ⟨rfl, rfl⟩)
    go_ret
    exact ⟨A3, _, d3, rfl, by rw [E.out, if_neg (by have := HKV.out; omega), if_neg (by have := HKV.out; omega), List.append_nil]; exact O3.out, gb3⟩
  · have hst : ((k : Int) != 0) = true := by rw [hkv]; rfl
    have hdt : ((k : Int) == 0 || (k : Int) == 2) = true := by rw [hkv]; rfl
    have HKV := Lib.hid hkv
    have HST := Lib.hid hst
    have HDT := Lib.hid hdt
    clear hkv hst hdt
    go_enter Tryz.func134, Tryz.ntmps134
    go_upto_region 2 with fail
    rw [← hw0]
    clear hw0 hkr
    go_wp2_with (go_at_call 77; refine (sHasSt_is HST.out _).mono ?_; rintro e w9 ⟨rfl, rfl⟩)
    refine (l04Bits_any ft fm fd fs fb _ h1 h2 h3 h4 h5).mono ?_
    rintro e w1 ⟨A1, d1, rfl, own1, hb1⟩
    have K1 := Lib.hid (K0.out.next hb1)
    have O1 := Lib.hid (O0.out.below hb1)
    have gb1 := below_next hb1 gb (Nat.le_refl _)
    have ob1 := Lib.hid own1
    have hd1 : 64 ≤ d1 := own1.cap.1
    clear own1 hb1 gb K0 O0 c0 c1 c2 c3 c4 c5 c6 c7
    go_wp2_with fail
    refine (l01Byt_any A1 d1 _ _ ob1.out.reads (stB_01 _ _ _ _ _)).mono ?_
    rintro e w2 ⟨A2, d2, rfl, own2, hb2⟩
    have K2 := Lib.hid (K1.out.next hb2)
    have O2 := Lib.hid (O1.out.below hb2)
    have gb2 := below_next hb2 gb1 (Nat.le_refl _)
    have ob2 := Lib.hid own2
    have s2 := gb2.size
    clear own2 hb2 gb1 K1 O1 ob1 hd1
    go_upto_region 4 with (at_builtin; refine wpl_appR _ Tryz.underlying31 infoInt rfl _ _ rfl w.heap.size _ 1 _ _ rfl O2.out A2 8 d2 _ _ rfl ob2.out.reads (ownI_zero ob2.out) (by omega) s2 ?_; intro A3 d3 w3 own3 hB3 hg3)
    have gb3 := gb2.trans (hB3 _ (Nat.le_refl _))
    have k3 := K2.out.keptRow (by decide) O2.out hg3
    have O3 := Lib.hid own3
    have K3 := Lib.hid k3
    have c0 := k3.c 0 rfl
    have c7 := k3.c 7 rfl
    clear gb2 K2 O2 ob2 s2 own3 hB3 hg3 k3
    have s4 := gb3.size
    go_upto_region 6 with (first | (go_at_call 130; refine (sHasDt_is HDT.out _).mono ?_; rintro e w9 ⟨rfl, rfl⟩) | (at_builtin; refine wpl_appI _ _ Tryz.underlying31 infoInt rfl _ _ rfl w.heap.size _ (1 + 8) _ _ rfl O3.out (n : Int) rfl (by omega) s4 ?_; intro A4 d4 w4 own4 hB4 hg4))
    have gb4 := gb3.trans (hB4 _ (Nat.le_refl _))
    have k4 := K3.out.keptRow (by decide) O3.out hg4
    have c7 := k4.c 7 rfl
    have s5 := gb4.size
    have O4 := Lib.hid own4
    have R4 := Lib.hid (HZ.out.up gb4)
    have HG4 := Lib.hid gb4
    clear own4 hB4 hg4 k4 gb4 K3 O3 s4 gb3 c0
    go_wp2_with (at_builtin; refine wpl_appR _ Tryz.underlying31 infoInt rfl _ _ rfl w.heap.size _ ((1 + 8) + 1) _ _ rfl O4.out A n c _ _ rfl R4.out hA (by omega) s5 ?_; intro A5 d5 w5 own5 hB5 hg5)
    go_ret
    exact ⟨A5, _, d5, rfl, by rw [E.out, if_neg (by have := HKV.out; omega), if_pos (by have := HKV.out; omega), L.out, ← List.append_assoc]; exact own5, HG4.out.trans (hB5 _ (Nat.le_refl _))⟩
  · have hst : ((k : Int) != 0) = true := by rw [hkv]; rfl
    have hdt : ((k : Int) == 0 || (k : Int) == 2) = false := by rw [hkv]; rfl
    have HKV := Lib.hid hkv
    have HST := Lib.hid hst
    have HDT := Lib.hid hdt
    clear hkv hst hdt
    go_enter Tryz.func134, Tryz.ntmps134
    go_upto_region 2 with fail
    rw [← hw0]
    clear hw0 hkr
    go_wp2_with (go_at_call 77; refine (sHasSt_is HST.out _).mono ?_; rintro e w9 ⟨rfl, rfl⟩)
    refine (l04Bits_any ft fm fd fs fb _ h1 h2 h3 h4 h5).mono ?_
    rintro e w1 ⟨A1, d1, rfl, own1, hb1⟩
    have K1 := Lib.hid (K0.out.next hb1)
    have O1 := Lib.hid (O0.out.below hb1)
    have gb1 := below_next hb1 gb (Nat.le_refl _)
    have ob1 := Lib.hid own1
    have hd1 : 64 ≤ d1 := own1.cap.1
    clear own1 hb1 gb K0 O0 c0 c1 c2 c3 c4 c5 c6 c7
    go_wp2_with fail
    refine (l01Byt_any A1 d1 _ _ ob1.out.reads (stB_01 _ _ _ _ _)).mono ?_
    rintro e w2 ⟨A2, d2, rfl, own2, hb2⟩
    have K2 := Lib.hid (K1.out.next hb2)
    have O2 := Lib.hid (O1.out.below hb2)
    have gb2 := below_next hb2 gb1 (Nat.le_refl _)
    have ob2 := Lib.hid own2
    have s2 := gb2.size
    clear own2 hb2 gb1 K1 O1 ob1 hd1
    go_upto_region 4 with (at_builtin; refine wpl_appR _ Tryz.underlying31 infoInt rfl _ _ rfl w.heap.size _ 1 _ _ rfl O2.out A2 8 d2 _ _ rfl ob2.out.reads (ownI_zero ob2.out) (by omega) s2 ?_; intro A3 d3 w3 own3 hB3 hg3)
    have gb3 := gb2.trans (hB3 _ (Nat.le_refl _))
    have k3 := K2.out.keptRow (by decide) O2.out hg3
    have O3 := Lib.hid own3
    have K3 := Lib.hid k3
    have c0 := k3.c 0 rfl
    have c7 := k3.c 7 rfl
    clear gb2 K2 O2 ob2 s2 own3 hB3 hg3 k3
    go_wp2_with (go_at_call 130; refine (sHasDt_is HDT.out _).mono ?_; rintro e w9 ⟨rfl, rfl⟩)
    go_ret
    exact ⟨A3, _, d3, rfl, by rw [E.out, if_neg (by have := HKV.out; omega), if_neg (by have := HKV.out; omega), List.append_nil]; exact O3.out, gb3⟩

set_option maxRecDepth 200000 in
set_option maxHeartbeats 8000000 in
theorem iBod_any (k r ft fm fd fs fb : Nat) (A : Option Addr) (n c : Nat) (zs : List Int) (w : World) (hz : RI w w.heap.size A n zs) (hA : A = none → c = 0) (hn : n ≤ 1048576) (hk : k ≤ 3) (hr : r ≤ 7) (h1 : ft < 4611686018427387904) (h2 : fm < 4611686018427387904) (h3 : fd < 4611686018427387904) (h4 : fs < 4611686018427387904) (h5 : fb < 4611686018427387904) :
    Calls Tryz.prog 105 #[.agg #[.int .i64 k, .int .i64 r, .int .i64 ft, .int .i64 fm, .int .i64 fd, .int .i64 fs, .int .i64 fb, .slice A n c]] w (RetS 2 w (bodyP k r ft fm fd fs fb zs)) := by
  have L := Lib.hid hz.len
  obtain ⟨w0, hw0⟩ : ∃ v, v = (w.alloc (.cells #[.int .i64 k, .int .i64 r, .int .i64 ft, .int .i64 fm, .int .i64 fd, .int .i64 fs, .int .i64 fb, .slice A n c] 33)).alloc (.cells #[.int .i64 ((k * 64 + r * 8 : Nat) : Int)] 2) := ⟨_, rfl⟩
  have k0 : BlkL w0 w.heap.size 33 [.int .i64 k, .int .i64 r, .int .i64 ft, .int .i64 fm, .int .i64 fd, .int .i64 fs, .int .i64 fb, .slice A n c] := by rw [hw0]; exact (BlkL.new _ _ _ rfl).alloc _
  have o0 : OwnI 2 w0 w.heap.size (some ⟨w.heap.size + 1, 0, none⟩) 1 1 [((k * 64 + r * 8 : Nat) : Int)] := by
    have := OwnI.lit1 (w.alloc (.cells #[.int .i64 k, .int .i64 r, .int .i64 ft, .int .i64 fm, .int .i64 fd, .int .i64 fs, .int .i64 fb, .slice A n c] 33)) ((k * 64 + r * 8 : Nat) : Int) 2 (base := w.heap.size) (by simp)
    rw [World.size_alloc] at this
    rw [hw0]; exact this
  have gb : Below w.heap.size w w0 := by rw [hw0]; go_grown
  obtain ⟨q, hq⟩ : ∃ q : Nat, k * 64 + r * 8 = q := ⟨_, rfl⟩
  have hkr : ((k : Int) * 64 + (r : Int) * 8) = (q : Int) := by omega
  have hq3 : q ≤ 248 := by omega
  have E := Lib.hid (show bodyP k r ft fm fd fs fb zs = [(q : Int)] ++ (if k = 0 then [] else bytesB (stB ft fm fd fs fb) 8) ++ (if k = 0 ∨ k = 2 then [(zs.length : Int)] ++ zs else []) by rw [← hq]; rfl)
  rw [hq] at o0 hw0
  have O0 := Lib.hid o0
  have HZ := Lib.hid hz
  have K0 := Lib.hid k0
  clear o0 hz hq
  have c0 := k0.c 0 rfl
  have c1 := k0.c 1 rfl
  have c2 := k0.c 2 rfl
  have c3 := k0.c 3 rfl
  have c4 := k0.c 4 rfl
  have c5 := k0.c 5 rfl
  have c6 := k0.c 6 rfl
  have c7 := k0.c 7 rfl
  clear k0
  rcases (show k = 0 ∨ k = 1 ∨ k = 2 ∨ k = 3 by omega) with hkv | hkv | hkv | hkv
  · have hst : ((k : Int) != 0) = false := by rw [hkv]; rfl
    have hdt : ((k : Int) == 0 || (k : Int) == 2) = true := by rw [hkv]; rfl
    have HKV := Lib.hid hkv
    have HST := Lib.hid hst
    have HDT := Lib.hid hdt
    clear hkv hst hdt
    go_enter Tryz.func105, Tryz.ntmps105
    go_upto_region 2 with fail
    rw [← hw0]
    clear hw0 hkr
    go_upto_region 4 with (go_at_call 72; refine (iHasSt_is HST.out _).mono ?_; rintro e w9 ⟨rfl, rfl⟩)
    have s4 := gb.size
    go_upto_region 5 with (go_at_call 138; refine (iHasDt_is HDT.out _).mono ?_; rintro e w9 ⟨rfl, rfl⟩)
    have c7a := fun o => (K0.out.alloc o).c 7 rfl
    go_region_law (first
      | ((refine step_appR _ Tryz.underlying31 infoInt rfl (.tmp 24) (.tmp 28) rfl w.heap.size (some ⟨w.heap.size + 1, 0, none⟩) 1 1 _ (by simp [Act.eval]) ((OwnI.drew O0.out).alloc _) (some ⟨w0.heap.size, 0, none⟩) 1 1 (w0.heap.size + 1) [(n : Int)] (by simp [Act.eval]) (RI.lit w0.drew [(n : Int)] _) (fun e => by cases e) (by omega) (by show _ ≤ (w0.alloc (.cells #[.int .i64 (n : Int)] 2)).heap.size; rw [isz_alloc]; omega) ?_); intro A4 d4 w4 own4 hB4 hg4; (have k4 := ((BlkL.drew K0.out).alloc _).keptRow (by decide) ((OwnI.drew O0.out).alloc _) hg4); (have c7' := k4.c 7 rfl); (have gb4 := (below_alloc (Below.drew gb) (Nat.le_refl _) (.cells #[.int .i64 (n : Int)] 2)).trans (hB4 _ (Nat.le_refl _))); (have s5 := gb4.size); (have O4 := Lib.hid own4); (have R4 := Lib.hid (HZ.out.up gb4)); (have HG4 := Lib.hid gb4); clear own4 hB4 hg4 k4 gb4)
      | ((refine step_appR _ Tryz.underlying31 infoInt rfl (.tmp 29) (.tmp 31) rfl w.heap.size A4 (1 + 1) d4 _ (by simp [Act.eval]) O4.out A n c _ _ (by simp [Act.eval]) R4.out hA (by omega) s5 ?_); intro A5 d5 w5 own5 hB5 hg5))
    all_goals
      go_wp2
      go_ret
      exact ⟨A5, _, d5, rfl, by rw [E.out, if_pos HKV.out, List.append_nil, if_pos (by have := HKV.out; omega), L.out, ← List.append_assoc]; exact own5, HG4.out.trans (hB5 _ (Nat.le_refl _))⟩
  · have hst : ((k : Int) != 0) = true := by rw [hkv]; rfl
    have hdt : ((k : Int) == 0 || (k : Int) == 2) = false := by rw [hkv]; rfl
    have HKV := Lib.hid hkv
    have HST := Lib.hid hst
    have HDT := Lib.hid hdt
    clear hkv hst hdt
    go_enter Tryz.func105, Tryz.ntmps105
    go_upto_region 2 with fail
    rw [← hw0]
    clear hw0 hkr
    go_wp2_with (go_at_call 72; refine (iHasSt_is HST.out _).mono ?_; rintro e w9 ⟨rfl, rfl⟩)
    refine (stBits_any ft fm fd fs fb _ h1 h2 h3 h4 h5).mono ?_
    rintro e w1 ⟨A1, d1, rfl, own1, hb1⟩
    have K1 := Lib.hid (K0.out.next hb1)
    have O1 := Lib.hid (O0.out.below hb1)
    have gb1 := below_next hb1 gb (Nat.le_refl _)
    have ob1 := Lib.hid own1
    have hd1 : 64 ≤ d1 := own1.cap.1
    clear own1 hb1 gb K0 O0 c0 c1 c2 c3 c4 c5 c6 c7
    go_wp2_with fail
    refine (toByt_any A1 d1 _ _ ob1.out.reads (stB_01 _ _ _ _ _) hd1).mono ?_
    rintro e w2 ⟨A2, d2, rfl, own2, hb2⟩
    have K2 := Lib.hid (K1.out.next hb2)
    have O2 := Lib.hid (O1.out.below hb2)
    have gb2 := below_next hb2 gb1 (Nat.le_refl _)
    have ob2 := Lib.hid own2
    have s2 := gb2.size
    clear own2 hb2 gb1 K1 O1 ob1 hd1
    go_upto_region 4 with (at_builtin; refine wpl_appR _ Tryz.underlying31 infoInt rfl _ _ rfl w.heap.size _ 1 _ _ rfl O2.out A2 8 d2 _ _ rfl ob2.out.reads (ownI_zero ob2.out) (by omega) s2 ?_; intro A3 d3 w3 own3 hB3 hg3)
    have gb3 := gb2.trans (hB3 _ (Nat.le_refl _))
    have k3 := K2.out.keptRow (by decide) O2.out hg3
    have O3 := Lib.hid own3
    have K3 := Lib.hid k3
    have c0 := k3.c 0 rfl
    have c7 := k3.c 7 rfl
    clear gb2 K2 O2 ob2 s2 own3 hB3 hg3 k3
    go_wp2_with (go_at_call 138; refine (iHasDt_is HDT.out _).mono ?_; rintro e w9 ⟨rfl, rfl⟩)
    go_ret
    exact ⟨A3, _, d3, rfl, by rw [E.out, if_neg (by have := HKV.out; omega), if_neg (by have := HKV.out; omega), List.append_nil]; exact O3.out, gb3⟩
  · have hst : ((k : Int) != 0) = true := by rw [hkv]; rfl
    have hdt : ((k : Int) == 0 || (k : Int) == 2) = true := by rw [hkv]; rfl
    have HKV := Lib.hid hkv
    have HST := Lib.hid hst
    have HDT := Lib.hid hdt
    clear hkv hst hdt
    go_enter Tryz.func105, Tryz.ntmps105
    go_upto_region 2 with fail
    rw [← hw0]
    clear hw0 hkr
    go_wp2_with (go_at_call 72; refine (iHasSt_is HST.out _).mono ?_; rintro e w9 ⟨rfl, rfl⟩)
    refine (stBits_any ft fm fd fs fb _ h1 h2 h3 h4 h5).mono ?_
    rintro e w1 ⟨A1, d1, rfl, own1, hb1⟩
    have K1 := Lib.hid (K0.out.next hb1)
    have O1 := Lib.hid (O0.out.below hb1)
    have gb1 := below_next hb1 gb (Nat.le_refl _)
    have ob1 := Lib.hid own1
    have hd1 : 64 ≤ d1 := own1.cap.1
    clear own1 hb1 gb K0 O0 c0 c1 c2 c3 c4 c5 c6 c7
    go_wp2_with fail
    refine (toByt_any A1 d1 _ _ ob1.out.reads (stB_01 _ _ _ _ _) hd1).mono ?_
    rintro e w2 ⟨A2, d2, rfl, own2, hb2⟩
    have K2 := Lib.hid (K1.out.next hb2)
    have O2 := Lib.hid (O1.out.below hb2)
    have gb2 := below_next hb2 gb1 (Nat.le_refl _)
    have ob2 := Lib.hid own2
    have s2 := gb2.size
    clear own2 hb2 gb1 K1 O1 ob1 hd1
    go_upto_region 4 with (at_builtin; refine wpl_appR _ Tryz.underlying31 infoInt rfl _ _ rfl w.heap.size _ 1 _ _ rfl O2.out A2 8 d2 _ _ rfl ob2.out.reads (ownI_zero ob2.out) (by omega) s2 ?_; intro A3 d3 w3 own3 hB3 hg3)
    have gb3 := gb2.trans (hB3 _ (Nat.le_refl _))
    have k3 := K2.out.keptRow (by decide) O2.out hg3
    have O3 := Lib.hid own3
    have K3 := Lib.hid k3
    have c0 := k3.c 0 rfl
    have c7 := k3.c 7 rfl
    clear gb2 K2 O2 ob2 s2 own3 hB3 hg3 k3
    have s4 := gb3.size
    go_upto_region 5 with (go_at_call 138; refine (iHasDt_is HDT.out _).mono ?_; rintro e w9 ⟨rfl, rfl⟩)
    have c7a := fun o => (K3.out.alloc o).c 7 rfl
    go_region_law (first
      | ((refine step_appR _ Tryz.underlying31 infoInt rfl (.tmp 24) (.tmp 28) rfl w.heap.size A3 (1 + 8) d3 _ (by simp [Act.eval]) ((OwnI.drew O3.out).alloc _) (some ⟨w3.heap.size, 0, none⟩) 1 1 (w3.heap.size + 1) [(n : Int)] (by simp [Act.eval]) (RI.lit w3.drew [(n : Int)] _) (fun e => by cases e) (by omega) (by show _ ≤ (w3.alloc (.cells #[.int .i64 (n : Int)] 2)).heap.size; rw [isz_alloc]; omega) ?_); intro A4 d4 w4 own4 hB4 hg4; (have k4 := ((BlkL.drew K3.out).alloc _).keptRow (by decide) ((OwnI.drew O3.out).alloc _) hg4); (have c7' := k4.c 7 rfl); (have gb4 := (below_alloc (Below.drew gb3) (Nat.le_refl _) (.cells #[.int .i64 (n : Int)] 2)).trans (hB4 _ (Nat.le_refl _))); (have s5 := gb4.size); (have O4 := Lib.hid own4); (have R4 := Lib.hid (HZ.out.up gb4)); (have HG4 := Lib.hid gb4); clear own4 hB4 hg4 k4 gb4)
      | ((refine step_appR _ Tryz.underlying31 infoInt rfl (.tmp 29) (.tmp 31) rfl w.heap.size A4 ((1 + 8) + 1) d4 _ (by simp [Act.eval]) O4.out A n c _ _ (by simp [Act.eval]) R4.out hA (by omega) s5 ?_); intro A5 d5 w5 own5 hB5 hg5))
    all_goals
      go_wp2
      go_ret
      exact ⟨A5, _, d5, rfl, by rw [E.out, if_neg (by have := HKV.out; omega), if_pos (by have := HKV.out; omega), L.out, ← List.append_assoc]; exact own5, HG4.out.trans (hB5 _ (Nat.le_refl _))⟩
  · have hst : ((k : Int) != 0) = true := by rw [hkv]; rfl
    have hdt : ((k : Int) == 0 || (k : Int) == 2) = false := by rw [hkv]; rfl
    have HKV := Lib.hid hkv
    have HST := Lib.hid hst
    have HDT := Lib.hid hdt
    clear hkv hst hdt
    go_enter Tryz.func105, Tryz.ntmps105
    go_upto_region 2 with fail
    rw [← hw0]
    clear hw0 hkr
    go_wp2_with (go_at_call 72; refine (iHasSt_is HST.out _).mono ?_; rintro e w9 ⟨rfl, rfl⟩)
    refine (stBits_any ft fm fd fs fb _ h1 h2 h3 h4 h5).mono ?_
    rintro e w1 ⟨A1, d1, rfl, own1, hb1⟩
    have K1 := Lib.hid (K0.out.next hb1)
    have O1 := Lib.hid (O0.out.below hb1)
    have gb1 := below_next hb1 gb (Nat.le_refl _)
    have ob1 := Lib.hid own1
    have hd1 : 64 ≤ d1 := own1.cap.1
    clear own1 hb1 gb K0 O0 c0 c1 c2 c3 c4 c5 c6 c7
    go_wp2_with fail
    refine (toByt_any A1 d1 _ _ ob1.out.reads (stB_01 _ _ _ _ _) hd1).mono ?_
    rintro e w2 ⟨A2, d2, rfl, own2, hb2⟩
    have K2 := Lib.hid (K1.out.next hb2)
    have O2 := Lib.hid (O1.out.below hb2)
    have gb2 := below_next hb2 gb1 (Nat.le_refl _)
    have ob2 := Lib.hid own2
    have s2 := gb2.size
    clear own2 hb2 gb1 K1 O1 ob1 hd1
    go_upto_region 4 with (at_builtin; refine wpl_appR _ Tryz.underlying31 infoInt rfl _ _ rfl w.heap.size _ 1 _ _ rfl O2.out A2 8 d2 _ _ rfl ob2.out.reads (ownI_zero ob2.out) (by omega) s2 ?_; intro A3 d3 w3 own3 hB3 hg3)
    have gb3 := gb2.trans (hB3 _ (Nat.le_refl _))
    have k3 := K2.out.keptRow (by decide) O2.out hg3
    have O3 := Lib.hid own3
    have K3 := Lib.hid k3
    have c0 := k3.c 0 rfl
    have c7 := k3.c 7 rfl
    clear gb2 K2 O2 ob2 s2 own3 hB3 hg3 k3
    go_wp2_with (go_at_call 138; refine (iHasDt_is HDT.out _).mono ?_; rintro e w9 ⟨rfl, rfl⟩)
    go_ret
    exact ⟨A3, _, d3, rfl, by rw [E.out, if_neg (by have := HKV.out; omega), if_neg (by have := HKV.out; omega), List.append_nil]; exact O3.out, gb3⟩
end Go.Proofs.YtbaojbheopcjhaaGreatDoor

namespace Go.Proofs.YtbaojbheopcjhaaGreatDoor
open Go.RowKit

/-- a sealed frame -/
def sealP (k r ft fm fd fs fb : Nat) (zs : List Int) (id t md rn sl mb : Nat) : List Int :=
  bodyP k r ft fm fd fs fb zs ++ [((chkN k (bodyP k r ft fm fd fs fb zs) id t md rn sl mb / 65536 : Nat) : Int), ((chkN k (bodyP k r ft fm fd fs fb zs) id t md rn sl mb / 256 % 256 : Nat) : Int), ((chkN k (bodyP k r ft fm fd fs fb zs) id t md rn sl mb % 256 : Nat) : Int)]
theorem sealP_len {k r ft fm fd fs fb : Nat} {zs : List Int} {id t md rn sl mb : Nat} : (sealP k r ft fm fd fs fb zs id t md rn sl mb).length ≤ 13 + zs.length := by
  unfold sealP
  have := bodyP_len (k := k) (r := r) (t := ft) (md := fm) (rn := fd) (sl := fs) (mb := fb) (zs := zs)
  simp only [List.length_append, List.length_cons, List.length_nil]
  omega
theorem sealP_255 {k r ft fm fd fs fb : Nat} {zs : List Int} {id t md rn sl mb : Nat} (hk : k ≤ 3) (hr : r ≤ 7) (hn : zs.length ≤ 255) (hz : allR zs 0 255 = true) (hid : id < 16777216) : allR (sealP k r ft fm fd fs fb zs id t md rn sl mb) 0 255 = true := by
  unfold sealP
  have hx := chkN_lt (k := k) (body := bodyP k r ft fm fd fs fb zs) (t := t) (md := md) (rn := rn) (sl := sl) (mb := mb) hid
  refine allR_app (bodyP_255 hk hr hn hz) ?_
  simp [allR, inR]; omega
set_option maxHeartbeats 1000000 in
theorem three_any (x : Nat) (w : World) (h : x < 16777216) : Calls Tryz.prog 106 #[.int .i64 x] w (RetI 2 w 3 [((x / 65536 : Nat) : Int), ((x / 256 % 256 : Nat) : Int), ((x % 256 : Nat) : Int)]) := by
  have e1 : ((x : Int)) / 2 ^ 16 = ((x / 65536 : Nat) : Int) := by omega
  have e2 : ((x : Int)) / 65536 = ((x / 65536 : Nat) : Int) := by omega
  have b1 : bits .and .i64 (((x / 256 : Nat)) : Int) 255 = ((x / 256 % 256 : Nat) : Int) := by
    rw [show (255 : Int) = ((255 : Nat) : Int) from rfl, bits_and_i64_nat _ _ (by omega) (by omega), show (255 : Nat) = 2 ^ 8 - 1 from rfl, Nat.and_two_pow_sub_one_eq_mod]
  have b2 : bits .and .i64 (x : Int) 255 = ((x % 256 : Nat) : Int) := by
    rw [show (255 : Int) = ((255 : Nat) : Int) from rfl, bits_and_i64_nat _ _ (by omega) (by omega), show (255 : Nat) = 2 ^ 8 - 1 from rfl, Nat.and_two_pow_sub_one_eq_mod]
  have e3 : ((x : Int)) / 256 = ((x / 256 : Nat) : Int) := by omega
  obtain ⟨xa, hxa⟩ : ∃ a : Nat, x / 65536 = a := ⟨_, rfl⟩
  obtain ⟨xb, hxb⟩ : ∃ a : Nat, x / 256 % 256 = a := ⟨_, rfl⟩
  obtain ⟨xc, hxc⟩ : ∃ a : Nat, x % 256 = a := ⟨_, rfl⟩
  obtain ⟨xd, hxd⟩ : ∃ a : Nat, x / 256 = a := ⟨_, rfl⟩
  rw [hxb, hxd] at b1
  rw [hxc] at b2
  rw [hxa] at e1 e2
  rw [hxd] at e3
  rw [hxa, hxb, hxc]
  clear hxa hxb hxc hxd
  go_enter Tryz.func106, Tryz.ntmps106
  go_wp2
  go_ret
  refine ⟨some ⟨w.heap.size, 0, none⟩, 3, rfl, ?_, by go_grown⟩
  refine OwnI.shut (cur := ci [(xa : Int), (xb : Int), (xc : Int)]) ?_ (Nat.le_refl _) (Nat.le_refl _) (by decide) rfl rfl
  exact BlkL.new w 2 #[.int .i64 xa, .int .i64 xb, .int .i64 xc] rfl

set_option maxRecDepth 200000 in
set_option maxHeartbeats 8000000 in
theorem sSeal_any (k r ft fm fd fs fb id t md rn sl mb : Nat) (A : Option Addr) (n c : Nat) (zs : List Int) (w : World) (hz : RI w w.heap.size A n zs) (hA : A = none → c = 0) (hn : n ≤ 255) (hb : allR zs 0 255 = true) (hid : id < 16777216) (hk : k ≤ 3) (hr : r ≤ 7)
    (h1 : ft < 4611686018427387904) (h2 : fm < 4611686018427387904) (h3 : fd < 4611686018427387904) (h4 : fs < 4611686018427387904) (h5 : fb < 4611686018427387904) (g1 : t < 4611686018427387904) (g2 : md < 4611686018427387904) (g3 : rn < 4611686018427387904) (g4 : sl < 4611686018427387904) (g5 : mb < 4611686018427387904) :
    Calls Tryz.prog 102 #[.agg #[.int .i64 k, .int .i64 r, .int .i64 ft, .int .i64 fm, .int .i64 fd, .int .i64 fs, .int .i64 fb, .slice A n c], .int .i64 id, .agg #[.int .i64 t, .int .i64 md, .int .i64 rn, .int .i64 sl, .int .i64 mb]] w (RetS 2 w (sealP k r ft fm fd fs fb zs id t md rn sl mb)) := by
  have L := Lib.hid hz.len
  obtain ⟨w0, hw0⟩ : ∃ v, v = (w.alloc (.cells #[.int .i64 k, .int .i64 r, .int .i64 ft, .int .i64 fm, .int .i64 fd, .int .i64 fs, .int .i64 fb, .slice A n c] 33)).alloc (.cells #[.int .i64 t, .int .i64 md, .int .i64 rn, .int .i64 sl, .int .i64 mb] 30) := ⟨_, rfl⟩
  have k0 : BlkL w0 w.heap.size 33 [.int .i64 k, .int .i64 r, .int .i64 ft, .int .i64 fm, .int .i64 fd, .int .i64 fs, .int .i64 fb, .slice A n c] := by rw [hw0]; exact (BlkL.new _ _ _ rfl).alloc _
  have j0 : BlkL w0 (w.heap.size + 1) 30 [.int .i64 t, .int .i64 md, .int .i64 rn, .int .i64 sl, .int .i64 mb] := by rw [hw0]; exact BlkL.new _ _ _ (by simp)
  have gb : Below w.heap.size w w0 := by rw [hw0]; go_grown
  obtain ⟨bd, hbd⟩ : ∃ b, bodyP k r ft fm fd fs fb zs = b := ⟨_, rfl⟩
  have hb2 : allR bd 0 255 = true := by rw [← hbd]; exact bodyP_255 hk hr (by rw [L.out]; exact hn) hb
  have hbl : bd.length ≤ 265 := by rw [← hbd]; exact Nat.le_trans bodyP_len (by rw [L.out]; omega)
  obtain ⟨x, hx⟩ : ∃ x, chkN k bd id t md rn sl mb = x := ⟨_, rfl⟩
  have hxl : x < 16777216 := by rw [← hx]; exact chkN_lt hid
  have E := Lib.hid (show sealP k r ft fm fd fs fb zs id t md rn sl mb = bd ++ [((x / 65536 : Nat) : Int), ((x / 256 % 256 : Nat) : Int), ((x % 256 : Nat) : Int)] by unfold sealP; rw [hbd, hx])
  have hbdy := fun u hu => sBod_any k r ft fm fd fs fb A n c zs u hu hA (by omega) hk hr h1 h2 h3 h4 h5
  rw [hbd] at hbdy
  have HBD := Lib.hid hbdy
  have hchk := fun (u : World) (A2 : Option Addr) (n2 c2 : Nat) (hu : RI u u.heap.size A2 n2 bd) (hn2 : n2 ≤ 1048576) => sCheck_any k id t md rn sl mb A2 n2 c2 bd u hu hn2 hb2 hid g1 g2 g3 g4 g5
  rw [hx] at hchk
  have HCH := Lib.hid hchk
  have HZ := Lib.hid (hz.up gb)
  clear hbdy hchk hz hbd hx hb
  have c0 := k0.c 0 rfl
  have c1 := k0.c 1 rfl
  have c2 := k0.c 2 rfl
  have c3 := k0.c 3 rfl
  have c4 := k0.c 4 rfl
  have c5 := k0.c 5 rfl
  have c6 := k0.c 6 rfl
  have c7 := k0.c 7 rfl
  go_enter Tryz.func102, Tryz.ntmps102
  go_wp2_with fail
  rw [← hw0]
  clear hw0
  refine (HBD.out _ HZ.out).mono ?_
  rintro e w1 ⟨A1, n1, d1, rfl, own1, hb1⟩
  have k1 := k0.next hb1
  have j1 := j0.next hb1
  have gb1 := below_next hb1 gb (Nat.le_refl _)
  have sz0 := gb.size
  have hn1 : n1 ≤ 265 := by rw [← own1.len]; exact hbl
  have O1 := Lib.hid own1
  clear c0 c1 c2 c3 c4 c5 c6 c7 k0 j0 gb own1 hb1
  have c0 := k1.c 0 rfl
  have e0 := j1.c 0 rfl
  have e1 := j1.c 1 rfl
  have e2 := j1.c 2 rfl
  have e3 := j1.c 3 rfl
  have e4 := j1.c 4 rfl
  go_wp2_with fail
  refine (HCH.out _ A1 n1 d1 O1.out.reads (by omega)).mono ?_
  rintro e w2 ⟨rfl, hb2⟩
  have O2 := Lib.hid ((O1.out.below hb2).weaken sz0)
  have gb2 := below_next hb2 gb1 (Nat.le_refl _)
  have s2 := gb2.size
  clear c0 k1 j1 e0 e1 e2 e3 e4 gb1 O1 hb2
  obtain ⟨xa, hxa⟩ : ∃ a : Nat, x / 65536 = a := ⟨_, rfl⟩
  obtain ⟨xb, hxb⟩ : ∃ a : Nat, x / 256 % 256 = a := ⟨_, rfl⟩
  obtain ⟨xc, hxc⟩ : ∃ a : Nat, x % 256 = a := ⟨_, rfl⟩
  have hya : ((x : Int)) / 65536 = (xa : Int) := by omega
  have hyb : ((x : Int)) / 256 % 256 = (xb : Int) := by omega
  have hyc : ((x : Int)) % 256 = (xc : Int) := by omega
  have hyd : ((x : Int)).tmod 256 = (xc : Int) := by rw [Int.tmod_eq_emod_of_nonneg (by omega)]; omega
  have hye : (((x : Int)) / 256).tmod 256 = (xb : Int) := by rw [Int.tmod_eq_emod_of_nonneg (by omega)]; omega
  have E2 := E.out
  rw [hxa, hxb, hxc] at E2
  replace E := Lib.hid E2
  clear hxa hxb hxc E2
  go_wp2_with (at_builtin; refine wpl_appR _ Tryz.underlying31 infoInt rfl _ _ rfl w.heap.size _ n1 _ _ rfl (O2.out.alloc _) (some ⟨w2.heap.size, 0, none⟩) 3 3 (w2.heap.size + 1) [(xa : Int), (xb : Int), (xc : Int)] rfl (RI.lit w2 [(xa : Int), (xb : Int), (xc : Int)] _) (fun e => by cases e) (by omega) (by rw [isz_alloc]; omega) ?_; intro A3 d3 w3 own3 hB3 hg3)
  have gb3 : Below w.heap.size w w3 := (below_alloc gb2 (Nat.le_refl _) _).trans (hB3 _ (Nat.le_refl _))
  go_wp2
  go_ret
  exact ⟨A3, _, d3, rfl, by rw [E.out]; exact own3, gb3⟩

set_option maxRecDepth 200000 in
set_option maxHeartbeats 8000000 in
theorem iSeal_any (k r ft fm fd fs fb id t md rn sl mb : Nat) (A : Option Addr) (n c : Nat) (zs : List Int) (w : World) (hz : RI w w.heap.size A n zs) (hA : A = none → c = 0) (hn : n ≤ 255) (hb : allR zs 0 255 = true) (hid : id < 16777216) (hk : k ≤ 3) (hr : r ≤ 7)
    (h1 : ft < 4611686018427387904) (h2 : fm < 4611686018427387904) (h3 : fd < 4611686018427387904) (h4 : fs < 4611686018427387904) (h5 : fb < 4611686018427387904) (g1 : t < 4611686018427387904) (g2 : md < 4611686018427387904) (g3 : rn < 4611686018427387904) (g4 : sl < 4611686018427387904) (g5 : mb < 4611686018427387904) :
    Calls Tryz.prog 68 #[.agg #[.int .i64 k, .int .i64 r, .int .i64 ft, .int .i64 fm, .int .i64 fd, .int .i64 fs, .int .i64 fb, .slice A n c], .int .i64 id, .agg #[.int .i64 t, .int .i64 md, .int .i64 rn, .int .i64 sl, .int .i64 mb]] w (RetS 2 w (sealP k r ft fm fd fs fb zs id t md rn sl mb)) := by
  have L := Lib.hid hz.len
  obtain ⟨w0, hw0⟩ : ∃ v, v = (w.alloc (.cells #[.int .i64 k, .int .i64 r, .int .i64 ft, .int .i64 fm, .int .i64 fd, .int .i64 fs, .int .i64 fb, .slice A n c] 33)).alloc (.cells #[.int .i64 t, .int .i64 md, .int .i64 rn, .int .i64 sl, .int .i64 mb] 30) := ⟨_, rfl⟩
  have k0 : BlkL w0 w.heap.size 33 [.int .i64 k, .int .i64 r, .int .i64 ft, .int .i64 fm, .int .i64 fd, .int .i64 fs, .int .i64 fb, .slice A n c] := by rw [hw0]; exact (BlkL.new _ _ _ rfl).alloc _
  have j0 : BlkL w0 (w.heap.size + 1) 30 [.int .i64 t, .int .i64 md, .int .i64 rn, .int .i64 sl, .int .i64 mb] := by rw [hw0]; exact BlkL.new _ _ _ (by simp)
  have gb : Below w.heap.size w w0 := by rw [hw0]; go_grown
  obtain ⟨bd, hbd⟩ : ∃ b, bodyP k r ft fm fd fs fb zs = b := ⟨_, rfl⟩
  have hb2 : allR bd 0 255 = true := by rw [← hbd]; exact bodyP_255 hk hr (by rw [L.out]; exact hn) hb
  have hbl : bd.length ≤ 265 := by rw [← hbd]; exact Nat.le_trans bodyP_len (by rw [L.out]; omega)
  obtain ⟨x, hx⟩ : ∃ x, chkN k bd id t md rn sl mb = x := ⟨_, rfl⟩
  have hxl : x < 16777216 := by rw [← hx]; exact chkN_lt hid
  have E := Lib.hid (show sealP k r ft fm fd fs fb zs id t md rn sl mb = bd ++ [((x / 65536 : Nat) : Int), ((x / 256 % 256 : Nat) : Int), ((x % 256 : Nat) : Int)] by unfold sealP; rw [hbd, hx])
  have hbdy := fun u hu => iBod_any k r ft fm fd fs fb A n c zs u hu hA (by omega) hk hr h1 h2 h3 h4 h5
  rw [hbd] at hbdy
  have HBD := Lib.hid hbdy
  have hchk := fun (u : World) (A2 : Option Addr) (n2 c2 : Nat) (hu : RI u u.heap.size A2 n2 bd) (hn2 : n2 ≤ 1048576) => iCheck_any k id t md rn sl mb A2 n2 c2 bd u hu hn2 hb2 hid g1 g2 g3 g4 g5
  rw [hx] at hchk
  have HCH := Lib.hid hchk
  have HZ := Lib.hid (hz.up gb)
  clear hbdy hchk hz hbd hx hb
  have c0 := k0.c 0 rfl
  have c1 := k0.c 1 rfl
  have c2 := k0.c 2 rfl
  have c3 := k0.c 3 rfl
  have c4 := k0.c 4 rfl
  have c5 := k0.c 5 rfl
  have c6 := k0.c 6 rfl
  have c7 := k0.c 7 rfl
  go_enter Tryz.func68, Tryz.ntmps68
  go_wp2_with fail
  rw [← hw0]
  clear hw0
  refine (HBD.out _ HZ.out).mono ?_
  rintro e w1 ⟨A1, n1, d1, rfl, own1, hb1⟩
  have k1 := k0.next hb1
  have j1 := j0.next hb1
  have gb1 := below_next hb1 gb (Nat.le_refl _)
  have sz0 := gb.size
  have hn1 : n1 ≤ 265 := by rw [← own1.len]; exact hbl
  have O1 := Lib.hid own1
  clear c0 c1 c2 c3 c4 c5 c6 c7 k0 j0 gb own1 hb1
  have c0 := k1.c 0 rfl
  have e0 := j1.c 0 rfl
  have e1 := j1.c 1 rfl
  have e2 := j1.c 2 rfl
  have e3 := j1.c 3 rfl
  have e4 := j1.c 4 rfl
  go_wp2_with fail
  refine (HCH.out _ A1 n1 d1 O1.out.reads (by omega)).mono ?_
  rintro e w2 ⟨rfl, hb2⟩
  have O2 := Lib.hid ((O1.out.below hb2).weaken sz0)
  have gb2 := below_next hb2 gb1 (Nat.le_refl _)
  have s2 := gb2.size
  clear c0 k1 j1 e0 e1 e2 e3 e4 gb1 O1 hb2
  go_wp2_with fail
  refine (three_any x _ hxl).mono ?_
  rintro e w3 ⟨A3, d3, rfl, own3, hb3⟩
  have O3 := Lib.hid own3
  have O4 := Lib.hid (O2.out.below hb3)
  have gb3 := below_next hb3 gb2 (Nat.le_refl _)
  have s3 := gb3.size
  clear own3 hb3 gb2 O2 s2
  go_wp2_with (at_builtin; refine wpl_appR _ Tryz.underlying31 infoInt rfl _ _ rfl w.heap.size _ n1 _ _ rfl O4.out A3 3 d3 _ _ rfl O3.out.reads (ownI_zero O3.out) (by omega) s3 ?_; intro A5 d5 w5 own5 hB5 hg5)
  go_ret
  exact ⟨A5, _, d5, rfl, by rw [E.out]; exact own5, gb3.trans (hB5 _ (Nat.le_refl _))⟩
end Go.Proofs.YtbaojbheopcjhaaGreatDoor
