/- Walks, laws and small notions for the claims of this seat, several texts as one (Fo). Conditions: as each theorem states them. -/
import Derived.Test.YtjgmpiefndbnaaaGreatDoorB29
import Derived.Deep.RegionHeldLaw
import Derived.Deep.DeepCutAuto
namespace Go.Proofs.YtjgmpiefndbnaaaGreatDoor
open Go.RowKit
/-- the number of some bits -/
def nw (zs : List Int) (a w : Nat) : Nat := (numB ((zs.drop a).take w)).toNat
theorem nw_eq {zs : List Int} (h : allR zs 0 1 = true) (a w : Nat) : numB ((zs.drop a).take w) = ((nw zs a w : Nat) : Int) := by
  have h1 := numB_lt (allR_part h a w) ((zs.drop a).take w).length (Nat.le_refl _)
  rw [List.take_length] at h1
  unfold nw
  omega
theorem l01NumX (A : Option Addr) (n c at0 wd x : Nat) (a' w' : Int) (ha : (at0 : Int) = a') (hw' : (wd : Int) = w') (zs : List Int) (hx : nw zs at0 wd = x) (w : World) (h : RI w w.heap.size A n zs) (hn : n ≤ 1048576) (hq : at0 + wd ≤ n) (hw : 1 ≤ wd ∧ wd ≤ 40) (hz : allR zs 0 1 = true) :
    Calls Tryz.prog 276 #[.slice A n c, .int .i64 a', .int .i64 w'] w fun e w' => e = .returned (.int .i64 (x : Nat)) ∧ w = w' := by
  subst hx
  rw [← nw_eq hz]
  exact l01NumW_at A n c at0 wd a' w' ha hw' zs w h hn hq hw hz
theorem numOfX (A : Option Addr) (c at0 wd x : Nat) (zs : List Int) (hx : nw zs at0 wd = x) (w : World) (h : RI w w.heap.size A wd ((zs.drop at0).take wd)) (hw : 1 ≤ wd ∧ wd ≤ 40) (hz : allR zs 0 1 = true) :
    Calls Tryz.prog 269 #[.slice A wd c] w fun e w' => e = .returned (.int .i64 (x : Nat)) ∧ w' = w := by
  subst hx
  rw [← nw_eq hz]
  exact numOfW_any A wd c _ w h hw (allR_part hz at0 wd)

set_option maxRecDepth 100000 in
set_option maxHeartbeats 8000000 in
theorem sStOf_any (A : Option Addr) (n c : Nat) (zs : List Int) (x0 : Nat) (x1 : Nat) (x2 : Nat) (x3 : Nat) (x4 : Nat) (w : World) (h : RI w w.heap.size A n zs) (hn : 64 ≤ n ∧ n ≤ 1048576) (hz : allR zs 0 1 = true) (hx0 : nw zs 0 16 = x0) (hx1 : nw zs 16 4 = x1) (hx2 : nw zs 20 4 = x2) (hx3 : nw zs 24 8 = x3) (hx4 : nw zs 32 32 = x4) :
    Calls Tryz.prog 230 #[.slice A n c] w (RetV w (.agg #[.int .i64 (x0 : Nat), .int .i64 (x1 : Nat), .int .i64 (x2 : Nat), .int .i64 (x3 : Nat), .int .i64 (x4 : Nat)])) := by
  have gb : Below w.heap.size w (w.alloc (.cells #[.int .i64 0, .int .i64 0, .int .i64 0, .int .i64 0, .int .i64 0] 39)) := by go_grown
  have h0 := h.up gb
  go_enter Tryz.func230, Tryz.ntmps230
  go_wp2_with (go_at_call 276; first
    | ((with_reducible refine (l01NumX A n c 0 16 x0 0 16 rfl rfl zs hx0 _ h0 hn.2 (by omega) (by omega) hz).mono ?_); rintro e w' ⟨rfl, rfl⟩)
    | ((with_reducible refine (l01NumX A n c 16 4 x1 16 4 rfl rfl zs hx1 _ h0 hn.2 (by omega) (by omega) hz).mono ?_); rintro e w' ⟨rfl, rfl⟩)
    | ((with_reducible refine (l01NumX A n c 20 4 x2 20 4 rfl rfl zs hx2 _ h0 hn.2 (by omega) (by omega) hz).mono ?_); rintro e w' ⟨rfl, rfl⟩)
    | ((with_reducible refine (l01NumX A n c 24 8 x3 24 8 rfl rfl zs hx3 _ h0 hn.2 (by omega) (by omega) hz).mono ?_); rintro e w' ⟨rfl, rfl⟩)
    | ((with_reducible refine (l01NumX A n c 32 32 x4 32 32 rfl rfl zs hx4 _ h0 hn.2 (by omega) (by omega) hz).mono ?_); rintro e w' ⟨rfl, rfl⟩))
  exact bodyPost_ret (v := .agg #[.int .i64 (x0 : Nat), .int .i64 (x1 : Nat), .int .i64 (x2 : Nat), .int .i64 (x3 : Nat), .int .i64 (x4 : Nat)]) (by simp [results, Tryz.results230, go_sem]) rfl ⟨rfl, by go_grown⟩

set_option maxRecDepth 100000 in
set_option maxHeartbeats 8000000 in
theorem iStOf_any (A : Option Addr) (n c : Nat) (zs : List Int) (x0 : Nat) (x1 : Nat) (x2 : Nat) (x3 : Nat) (x4 : Nat) (w : World) (h : RI w w.heap.size A n zs) (hn : n = 64) (hc : n ≤ c) (hm : c ≤ maxLen) (hz : allR zs 0 1 = true) (hx0 : nw zs 0 16 = x0) (hx1 : nw zs 16 4 = x1) (hx2 : nw zs 20 4 = x2) (hx3 : nw zs 24 8 = x3) (hx4 : nw zs 32 32 = x4) :
    Calls Tryz.prog 238 #[.slice A n c] w (RetV w (.agg #[.int .i64 (x0 : Nat), .int .i64 (x1 : Nat), .int .i64 (x2 : Nat), .int .i64 (x3 : Nat), .int .i64 (x4 : Nat)])) := by
  subst hn
  obtain ⟨b, o, rfl, hbl, hcl⟩ := h.get (by omega)
  unfold maxLen at hm
  obtain ⟨w0, hw0⟩ : ∃ v, v = w.alloc (.cells #[.int .i64 0, .int .i64 0, .int .i64 0, .int .i64 0, .int .i64 0] 39) := ⟨_, rfl⟩
  have k0 : BlkL w0 w.heap.size 39 [.int .i64 0, .int .i64 0, .int .i64 0, .int .i64 0, .int .i64 0] := by rw [hw0]; exact BlkL.new _ _ _ rfl
  have gb : Below w.heap.size w w0 := by rw [hw0]; go_grown
  have h0 := Lib.hid h
  have r0 := Lib.hid (show RI w w.heap.size (some ⟨b, o, none⟩) 16 ((zs.drop 0).take 16) from h0.out.pre (k := 16) (by omega))
  have r1 := Lib.hid (show RI w w.heap.size (some ⟨b, o + 16, none⟩) 4 ((zs.drop 16).take 4) from (h0.out.suf (k := 16) (by omega)).pre (k := 4) (by omega))
  have r2 := Lib.hid (show RI w w.heap.size (some ⟨b, o + 20, none⟩) 4 ((zs.drop 20).take 4) from (h0.out.suf (k := 20) (by omega)).pre (k := 4) (by omega))
  have r3 := Lib.hid (show RI w w.heap.size (some ⟨b, o + 24, none⟩) 8 ((zs.drop 24).take 8) from (h0.out.suf (k := 24) (by omega)).pre (k := 8) (by omega))
  have r4 := Lib.hid (show RI w w.heap.size (some ⟨b, o + 32, none⟩) 32 ((zs.drop 32).take 32) from (h0.out.suf (k := 32) (by omega)).pre (k := 32) (by omega))
  have g1 : ¬ (c = 16) := by omega
  have g2 : ¬ (c = 20) := by omega
  have g3 : ¬ (c = 24) := by omega
  have g4 : ¬ (c = 32) := by omega
  have g5 : (64 : Int) ≤ (c : Int) := by omega
  have g6 : (16 : Int) ≤ (c : Int) := by omega
  have g7 : (20 : Int) ≤ (c : Int) := by omega
  have g8 : (24 : Int) ≤ (c : Int) := by omega
  have g9 : (32 : Int) ≤ (c : Int) := by omega
  clear hcl
  go_enter Tryz.func238, Tryz.ntmps238
  go_upto_region 1 with fail
  rw [← hw0]
  clear hw0
  have hz0 := k0.c 0 rfl
  have hz1 := k0.c 1 rfl
  have hz2 := k0.c 2 rfl
  have hz3 := k0.c 3 rfl
  have hz4 := k0.c 4 rfl
  have hf := k0.free
  have hV : Below w.heap.size w0 w0.drew := (Below.refl _ _).drew
  have HK := Lib.hid k0
  have HG := Lib.hid gb
  go_cut [] (fun wc => BlkL wc w.heap.size 39 [.int .i64 (x0 : Nat), .int .i64 (x1 : Nat), .int .i64 (x2 : Nat), .int .i64 (x3 : Nat), .int .i64 (x4 : Nat)] ∧ Below w.heap.size w wc)
  case first =>
    first
    | go_region_held_law (fun u => Below w.heap.size w0 u) (first | (with_reducible exact hV) | (with_reducible assumption) | go_grown) (first
    | (go_at_call 269; (have hgv := ‹Below w.heap.size w0 _›); (with_reducible refine (numOfX (some ⟨b, o, none⟩) c 0 16 x0 zs hx0 _ (r0.out.up (HG.out.trans hgv)) (by omega) hz).mono ?_); rintro e cc ⟨rfl, rfl⟩; clear hgv)
    | (go_at_call 269; (have hgv := ‹Below w.heap.size w0 _›); (with_reducible refine (numOfX (some ⟨b, o + 16, none⟩) (c - 16) 16 4 x1 zs hx1 _ (r1.out.up (HG.out.trans hgv)) (by omega) hz).mono ?_); rintro e cc ⟨rfl, rfl⟩; clear hgv)
    | (go_at_call 269; (have hgv := ‹Below w.heap.size w0 _›); (with_reducible refine (numOfX (some ⟨b, o + 20, none⟩) (c - 20) 20 4 x2 zs hx2 _ (r2.out.up (HG.out.trans hgv)) (by omega) hz).mono ?_); rintro e cc ⟨rfl, rfl⟩; clear hgv)
    | (go_at_call 269; (have hgv := ‹Below w.heap.size w0 _›); (with_reducible refine (numOfX (some ⟨b, o + 24, none⟩) (c - 24) 24 8 x3 zs hx3 _ (r3.out.up (HG.out.trans hgv)) (by omega) hz).mono ?_); rintro e cc ⟨rfl, rfl⟩; clear hgv)
    | (go_at_call 269; (have hgv := ‹Below w.heap.size w0 _›); (with_reducible refine (numOfX (some ⟨b, o + 32, none⟩) (c - 32) 32 32 x4 zs hx4 _ (r4.out.up (HG.out.trans hgv)) (by omega) hz).mono ?_); rintro e cc ⟨rfl, rfl⟩; clear hgv))
    | fail
    all_goals
      go_wp2_with fail
      go_meet
      exact ⟨((((HK.out.set 0 _).set 1 _).set 2 _).set 3 _).set 4 _, by go_grown⟩
  case rest =>
    obtain ⟨k9, gb9⟩ := hcut
    have d0 := k9.c 0 rfl
    have d1 := k9.c 1 rfl
    have d2 := k9.c 2 rfl
    have d3 := k9.c 3 rfl
    have d4 := k9.c 4 rfl
    go_wp2
    exact bodyPost_ret (v := .agg #[.int .i64 (x0 : Nat), .int .i64 (x1 : Nat), .int .i64 (x2 : Nat), .int .i64 (x3 : Nat), .int .i64 (x4 : Nat)]) (by simp [results, Tryz.results238, go_sem, d0, d1, d2, d3, d4]) rfl ⟨rfl, gb9⟩

end Go.Proofs.YtjgmpiefndbnaaaGreatDoor
