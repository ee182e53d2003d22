/- Walks, laws and small notions for the claims of this seat, several texts as one (Undo). Conditions: as each theorem states them. -/
import Derived.Test.YtojmikalnalfbaaGreatDoorB2
import Derived.Test.YtojmikalnalfbaaGreatDoorB1
import Derived.Deep.RegionHeld3
import Derived.Deep.DeepCutAuto
namespace Go.Proofs.YtojmikalnalfbaaGreatDoor
open Go.ChangeShapes Go.WideShapes Go.ChangeAt Go.RowKit

theorem isFault_kd16 {f : Flt} (h : isFault f = true) : inR f.kd 1 6 = true := by
  unfold isFault at h; simp only [Bool.and_eq_true] at h; exact h.1
theorem isFault_posU {f : Flt} (h : isFault f = true) : 0 ≤ f.pos ∧ f.pos ≤ 8192 := by
  unfold isFault at h; simp only [Bool.and_eq_true] at h; exact inR_iff.1 h.2.1
theorem isFault_lenU {f : Flt} (h : isFault f = true) : 0 ≤ f.len ∧ f.len ≤ 8192 := by
  unfold isFault at h
  simp only [Bool.and_eq_true] at h
  have h3 := h.2.2.1
  split at h3
  · have := inR_iff.1 h3; omega
  · simp at h3; omega

namespace UndoFault
structure Und where
  f : Flt
  ok : Bool
/-- the fault that undoes one -/
def undo (n : Nat) (b : Bool) (f : Flt) : Und :=
  if b = true ∧ isFault f = true then
    if f.kd = 1 ∨ f.kd = 2 then ⟨f, true⟩
    else if f.kd = 4 ∧ f.pos ≤ n ∧ n + f.len ≤ 8192 then ⟨⟨3, f.pos, f.len, 0⟩, true⟩ else ⟨⟨0, 0, 0, 0⟩, false⟩
  else ⟨⟨0, 0, 0, 0⟩, false⟩
def aggU (u : Und) : Value := .tuple #[.agg #[.int .i64 u.f.kd, .int .i64 u.f.pos, .int .i64 u.f.len, .int .i64 u.f.val], .bool u.ok]

set_option maxHeartbeats 2000000 in
theorem spec_any (A : Option Addr) (n c : Nat) (zs : List Int) (k p l v : Int) (w : World) (h : RI w w.heap.size A n zs) (hn : n ≤ 1099511627776) :
    Calls Tryz.prog 10 #[.slice A n c, .agg #[.int .i64 k, .int .i64 p, .int .i64 l, .int .i64 v]] w (RetV w (aggU (undo n (isBits zs) ⟨k, p, l, v⟩))) := by
  have h0 : RI ((w.alloc (.cells #[.int .i64 k, .int .i64 p, .int .i64 l, .int .i64 v] 26)).alloc (.cells #[.int .i64 0, .int .i64 0, .int .i64 0, .int .i64 0] 26)) ((w.alloc (.cells #[.int .i64 k, .int .i64 p, .int .i64 l, .int .i64 v] 26)).alloc (.cells #[.int .i64 0, .int .i64 0, .int .i64 0, .int .i64 0] 26)).heap.size A n zs :=
    h.up (((Below.refl _ _).alloc (Nat.le_refl _) _).alloc (by simp) _)
  rcases bool_cases (isBits zs) with hz | hz
  case inr =>
    have E := Lib.hid (show undo n false ⟨k, p, l, v⟩ = ⟨⟨0, 0, 0, 0⟩, false⟩ from by simp [undo])
    go_enter Tryz.func10, Tryz.ntmps10
    go_wp2_with (go_at_call 35; refine (sIsBits_any _ _ _ _ _ h0 hn).mono ?_; rintro e w' ⟨rfl, rfl⟩)
    (try rw [hz])
    rw [E.out]
    exact bodyPost_ret (v := aggU ⟨⟨0, 0, 0, 0⟩, false⟩) (by simp [aggU, results, Tryz.results10, go_sem]) rfl ⟨rfl, by go_grown⟩
  rcases bool_cases (isFault ⟨k, p, l, v⟩) with hf | hf
  case inr =>
    have E := Lib.hid (show undo n true ⟨k, p, l, v⟩ = ⟨⟨0, 0, 0, 0⟩, false⟩ from by simp [undo, hf])
    go_enter Tryz.func10, Tryz.ntmps10
    go_wp2_with (go_at_call 35; refine (sIsBits_any _ _ _ _ _ h0 hn).mono ?_; rintro e w' ⟨rfl, rfl⟩)
    refine (sIsFault_any _ _ _ _ _).mono ?_
    rintro e w1 ⟨rfl, hb1⟩
    obtain ⟨hc1, hf1⟩ := bcell hb1
    have hz1 : w.heap.size + 1 < w1.heap.size := by have := hb1.size; simp only [isz_alloc] at this; omega
    go_wp2
    (try rw [hz])
    rw [E.out]
    exact bodyPost_ret (v := aggU ⟨⟨0, 0, 0, 0⟩, false⟩) (by simp [aggU, results, Tryz.results10, go_sem, hc1]) rfl ⟨rfl, (by repeat (first | exact Below.refl _ _ | (refine below_next (by assumption) ?_ (by simp)) | refine Below.setCell ?_ (by simp) _ | refine Below.alloc ?_ (by simp) _))⟩
  have hk := isFault_kd16 hf
  have hpos := isFault_posU hf
  have hlen := isFault_lenU hf
  have HF := Lib.hid hf
  simp only at hk hpos hlen
  obtain ⟨hp1, hp2⟩ := hpos
  obtain ⟨hl1, hl2⟩ := hlen
  rcases kd_cases hk with rfl | rfl | rfl | rfl | rfl | rfl
  case inr.inr.inr.inl =>
    by_cases c1 : p ≤ n
    · by_cases c2 : n + l ≤ 8192
      · have E := Lib.hid (show undo n true ⟨4, p, l, v⟩ = ⟨⟨3, p, l, 0⟩, true⟩ from by simp [undo, hf, c1, c2])
        clear hk
        go_enter Tryz.func10, Tryz.ntmps10
        go_wp2_with (go_at_call 35; refine (sIsBits_any _ _ _ _ _ h0 hn).mono ?_; rintro e w' ⟨rfl, rfl⟩)
        refine (sIsFault_any _ _ _ _ _).mono ?_
        rintro e w1 ⟨rfl, hb1⟩
        obtain ⟨hc1, hf1⟩ := bcell hb1
        have hz1 : w.heap.size + 1 < w1.heap.size := by have := hb1.size; simp only [isz_alloc] at this; omega
        have hz0 : w.heap.size < w1.heap.size := by omega
        go_wp2
        (try rw [hz])
        rw [E.out]
        exact bodyPost_ret (v := aggU ⟨⟨3, p, l, 0⟩, true⟩) (by simp [aggU, results, Tryz.results10, go_sem, hc1]) rfl ⟨rfl, (by repeat (first | exact Below.refl _ _ | (refine below_next (by assumption) ?_ (by simp)) | refine Below.setCell ?_ (by simp) _ | refine Below.alloc ?_ (by simp) _))⟩
      · have E := Lib.hid (show undo n true ⟨4, p, l, v⟩ = ⟨⟨0, 0, 0, 0⟩, false⟩ from by simp [undo, hf, c2])
        clear hk
        go_enter Tryz.func10, Tryz.ntmps10
        go_wp2_with (go_at_call 35; refine (sIsBits_any _ _ _ _ _ h0 hn).mono ?_; rintro e w' ⟨rfl, rfl⟩)
        refine (sIsFault_any _ _ _ _ _).mono ?_
        rintro e w1 ⟨rfl, hb1⟩
        obtain ⟨hc1, hf1⟩ := bcell hb1
        have hz1 : w.heap.size + 1 < w1.heap.size := by have := hb1.size; simp only [isz_alloc] at this; omega
        have hz0 : w.heap.size < w1.heap.size := by omega
        go_wp2
        (try rw [hz])
        rw [E.out]
        exact bodyPost_ret (v := aggU ⟨⟨0, 0, 0, 0⟩, false⟩) (by simp [aggU, results, Tryz.results10, go_sem, hc1]) rfl ⟨rfl, (by repeat (first | exact Below.refl _ _ | (refine below_next (by assumption) ?_ (by simp)) | refine Below.setCell ?_ (by simp) _ | refine Below.alloc ?_ (by simp) _))⟩
    · have E := Lib.hid (show undo n true ⟨4, p, l, v⟩ = ⟨⟨0, 0, 0, 0⟩, false⟩ from by simp [undo, hf, c1])
      clear hk
      go_enter Tryz.func10, Tryz.ntmps10
      go_wp2_with (go_at_call 35; refine (sIsBits_any _ _ _ _ _ h0 hn).mono ?_; rintro e w' ⟨rfl, rfl⟩)
      refine (sIsFault_any _ _ _ _ _).mono ?_
      rintro e w1 ⟨rfl, hb1⟩
      obtain ⟨hc1, hf1⟩ := bcell hb1
      have hz1 : w.heap.size + 1 < w1.heap.size := by have := hb1.size; simp only [isz_alloc] at this; omega
      have hz0 : w.heap.size < w1.heap.size := by omega
      go_wp2
      (try rw [hz])
      rw [E.out]
      exact bodyPost_ret (v := aggU ⟨⟨0, 0, 0, 0⟩, false⟩) (by simp [aggU, results, Tryz.results10, go_sem, hc1]) rfl ⟨rfl, (by repeat (first | exact Below.refl _ _ | (refine below_next (by assumption) ?_ (by simp)) | refine Below.setCell ?_ (by simp) _ | refine Below.alloc ?_ (by simp) _))⟩
  case inl =>
    have E := Lib.hid (show undo n true ⟨1, p, l, v⟩ = ⟨⟨1, p, l, v⟩, true⟩ from by simp [undo, hf])
    clear hk
    go_enter Tryz.func10, Tryz.ntmps10
    go_wp2_with (go_at_call 35; refine (sIsBits_any _ _ _ _ _ h0 hn).mono ?_; rintro e w' ⟨rfl, rfl⟩)
    refine (sIsFault_any _ _ _ _ _).mono ?_
    rintro e w1 ⟨rfl, hb1⟩
    obtain ⟨hc1, hf1⟩ := bcell hb1
    have hz1 : w.heap.size + 1 < w1.heap.size := by have := hb1.size; simp only [isz_alloc] at this; omega
    have hz0 : w.heap.size < w1.heap.size := by omega
    go_wp2
    (try rw [hz])
    rw [E.out]
    exact bodyPost_ret (v := aggU ⟨⟨1, p, l, v⟩, true⟩) (by simp [aggU, results, Tryz.results10, go_sem, hc1]) rfl ⟨rfl, (by repeat (first | exact Below.refl _ _ | (refine below_next (by assumption) ?_ (by simp)) | refine Below.setCell ?_ (by simp) _ | refine Below.alloc ?_ (by simp) _))⟩
  case inr.inl =>
    have E := Lib.hid (show undo n true ⟨2, p, l, v⟩ = ⟨⟨2, p, l, v⟩, true⟩ from by simp [undo, hf])
    clear hk
    go_enter Tryz.func10, Tryz.ntmps10
    go_wp2_with (go_at_call 35; refine (sIsBits_any _ _ _ _ _ h0 hn).mono ?_; rintro e w' ⟨rfl, rfl⟩)
    refine (sIsFault_any _ _ _ _ _).mono ?_
    rintro e w1 ⟨rfl, hb1⟩
    obtain ⟨hc1, hf1⟩ := bcell hb1
    have hz1 : w.heap.size + 1 < w1.heap.size := by have := hb1.size; simp only [isz_alloc] at this; omega
    have hz0 : w.heap.size < w1.heap.size := by omega
    go_wp2
    (try rw [hz])
    rw [E.out]
    exact bodyPost_ret (v := aggU ⟨⟨2, p, l, v⟩, true⟩) (by simp [aggU, results, Tryz.results10, go_sem, hc1]) rfl ⟨rfl, (by repeat (first | exact Below.refl _ _ | (refine below_next (by assumption) ?_ (by simp)) | refine Below.setCell ?_ (by simp) _ | refine Below.alloc ?_ (by simp) _))⟩
  case inr.inr.inl =>
    have E := Lib.hid (show undo n true ⟨3, p, l, v⟩ = ⟨⟨0, 0, 0, 0⟩, false⟩ from by simp [undo, hf])
    clear hk
    go_enter Tryz.func10, Tryz.ntmps10
    go_wp2_with (go_at_call 35; refine (sIsBits_any _ _ _ _ _ h0 hn).mono ?_; rintro e w' ⟨rfl, rfl⟩)
    refine (sIsFault_any _ _ _ _ _).mono ?_
    rintro e w1 ⟨rfl, hb1⟩
    obtain ⟨hc1, hf1⟩ := bcell hb1
    have hz1 : w.heap.size + 1 < w1.heap.size := by have := hb1.size; simp only [isz_alloc] at this; omega
    have hz0 : w.heap.size < w1.heap.size := by omega
    go_wp2
    (try rw [hz])
    rw [E.out]
    exact bodyPost_ret (v := aggU ⟨⟨0, 0, 0, 0⟩, false⟩) (by simp [aggU, results, Tryz.results10, go_sem, hc1]) rfl ⟨rfl, (by repeat (first | exact Below.refl _ _ | (refine below_next (by assumption) ?_ (by simp)) | refine Below.setCell ?_ (by simp) _ | refine Below.alloc ?_ (by simp) _))⟩
  case inr.inr.inr.inr.inl =>
    have E := Lib.hid (show undo n true ⟨5, p, l, v⟩ = ⟨⟨0, 0, 0, 0⟩, false⟩ from by simp [undo, hf])
    clear hk
    go_enter Tryz.func10, Tryz.ntmps10
    go_wp2_with (go_at_call 35; refine (sIsBits_any _ _ _ _ _ h0 hn).mono ?_; rintro e w' ⟨rfl, rfl⟩)
    refine (sIsFault_any _ _ _ _ _).mono ?_
    rintro e w1 ⟨rfl, hb1⟩
    obtain ⟨hc1, hf1⟩ := bcell hb1
    have hz1 : w.heap.size + 1 < w1.heap.size := by have := hb1.size; simp only [isz_alloc] at this; omega
    have hz0 : w.heap.size < w1.heap.size := by omega
    go_wp2
    (try rw [hz])
    rw [E.out]
    exact bodyPost_ret (v := aggU ⟨⟨0, 0, 0, 0⟩, false⟩) (by simp [aggU, results, Tryz.results10, go_sem, hc1]) rfl ⟨rfl, (by repeat (first | exact Below.refl _ _ | (refine below_next (by assumption) ?_ (by simp)) | refine Below.setCell ?_ (by simp) _ | refine Below.alloc ?_ (by simp) _))⟩
  case inr.inr.inr.inr.inr =>
    have E := Lib.hid (show undo n true ⟨6, p, l, v⟩ = ⟨⟨0, 0, 0, 0⟩, false⟩ from by simp [undo, hf])
    clear hk
    go_enter Tryz.func10, Tryz.ntmps10
    go_wp2_with (go_at_call 35; refine (sIsBits_any _ _ _ _ _ h0 hn).mono ?_; rintro e w' ⟨rfl, rfl⟩)
    refine (sIsFault_any _ _ _ _ _).mono ?_
    rintro e w1 ⟨rfl, hb1⟩
    obtain ⟨hc1, hf1⟩ := bcell hb1
    have hz1 : w.heap.size + 1 < w1.heap.size := by have := hb1.size; simp only [isz_alloc] at this; omega
    have hz0 : w.heap.size < w1.heap.size := by omega
    go_wp2
    (try rw [hz])
    rw [E.out]
    exact bodyPost_ret (v := aggU ⟨⟨0, 0, 0, 0⟩, false⟩) (by simp [aggU, results, Tryz.results10, go_sem, hc1]) rfl ⟨rfl, (by repeat (first | exact Below.refl _ _ | (refine below_next (by assumption) ?_ (by simp)) | refine Below.setCell ?_ (by simp) _ | refine Below.alloc ?_ (by simp) _))⟩


set_option maxHeartbeats 2000000 in
theorem impl_any (A : Option Addr) (n c : Nat) (zs : List Int) (k p l v : Int) (w : World) (h : RI w w.heap.size A n zs) (hn : n ≤ 1099511627776) :
    Calls Tryz.prog 9 #[.slice A n c, .agg #[.int .i64 k, .int .i64 p, .int .i64 l, .int .i64 v]] w (RetV w (aggU (undo n (isBits zs) ⟨k, p, l, v⟩))) := by
  have h0 : RI ((w.alloc (.cells #[.int .i64 k, .int .i64 p, .int .i64 l, .int .i64 v] 26)).alloc (.cells #[.int .i64 0, .int .i64 0, .int .i64 0, .int .i64 0] 26)) ((w.alloc (.cells #[.int .i64 k, .int .i64 p, .int .i64 l, .int .i64 v] 26)).alloc (.cells #[.int .i64 0, .int .i64 0, .int .i64 0, .int .i64 0] 26)).heap.size A n zs :=
    h.up (((Below.refl _ _).alloc (Nat.le_refl _) _).alloc (by simp) _)
  rcases bool_cases (isBits zs) with hz | hz
  case inr =>
    have E := Lib.hid (show undo n false ⟨k, p, l, v⟩ = ⟨⟨0, 0, 0, 0⟩, false⟩ from by simp [undo])
    go_enter Tryz.func9, Tryz.ntmps9
    go_wp2_with (go_at_call 33; refine (iIsBits_any _ _ _ _ _ h0 hn).mono ?_; rintro e w' ⟨rfl, rfl⟩)
    (try rw [hz])
    rw [E.out]
    exact bodyPost_ret (v := aggU ⟨⟨0, 0, 0, 0⟩, false⟩) (by simp [aggU, results, Tryz.results9, go_sem]) rfl ⟨rfl, by go_grown⟩
  rcases bool_cases (isFault ⟨k, p, l, v⟩) with hf | hf
  case inr =>
    have E := Lib.hid (show undo n true ⟨k, p, l, v⟩ = ⟨⟨0, 0, 0, 0⟩, false⟩ from by simp [undo, hf])
    go_enter Tryz.func9, Tryz.ntmps9
    go_wp2_with (go_at_call 33; refine (iIsBits_any _ _ _ _ _ h0 hn).mono ?_; rintro e w' ⟨rfl, rfl⟩)
    refine (iIsFault_any _ _ _ _ _).mono ?_
    rintro e w1 ⟨rfl, hb1⟩
    obtain ⟨hc1, hf1⟩ := bcell hb1
    have hz1 : w.heap.size + 1 < w1.heap.size := by have := hb1.size; simp only [isz_alloc] at this; omega
    go_wp2
    (try rw [hz])
    rw [E.out]
    exact bodyPost_ret (v := aggU ⟨⟨0, 0, 0, 0⟩, false⟩) (by simp [aggU, results, Tryz.results9, go_sem, hc1]) rfl ⟨rfl, (by repeat (first | exact Below.refl _ _ | (refine below_next (by assumption) ?_ (by simp)) | refine Below.setCell ?_ (by simp) _ | refine Below.alloc ?_ (by simp) _))⟩
  have hk := isFault_kd16 hf
  have hpos := isFault_posU hf
  have hlen := isFault_lenU hf
  have HF := Lib.hid hf
  simp only at hk hpos hlen
  obtain ⟨hp1, hp2⟩ := hpos
  obtain ⟨hl1, hl2⟩ := hlen
  rcases kd_cases hk with rfl | rfl | rfl | rfl | rfl | rfl
  case inr.inr.inr.inl =>
    by_cases c1 : p ≤ n
    · by_cases c2 : n + l ≤ 8192
      · have E := Lib.hid (show undo n true ⟨4, p, l, v⟩ = ⟨⟨3, p, l, 0⟩, true⟩ from by simp [undo, hf, c1, c2])
        clear hk
        go_enter Tryz.func9, Tryz.ntmps9
        go_wp2_with (go_at_call 33; refine (iIsBits_any _ _ _ _ _ h0 hn).mono ?_; rintro e w' ⟨rfl, rfl⟩)
        refine (iIsFault_any _ _ _ _ _).mono ?_
        rintro e w1 ⟨rfl, hb1⟩
        obtain ⟨hc1, hf1⟩ := bcell hb1
        have hz1 : w.heap.size + 1 < w1.heap.size := by have := hb1.size; simp only [isz_alloc] at this; omega
        have hz0 : w.heap.size < w1.heap.size := by omega
        go_wp2
        (try rw [hz])
        rw [E.out]
        exact bodyPost_ret (v := aggU ⟨⟨3, p, l, 0⟩, true⟩) (by simp [aggU, results, Tryz.results9, go_sem, hc1]) rfl ⟨rfl, (by repeat (first | exact Below.refl _ _ | (refine below_next (by assumption) ?_ (by simp)) | refine Below.setCell ?_ (by simp) _ | refine Below.alloc ?_ (by simp) _))⟩
      · have E := Lib.hid (show undo n true ⟨4, p, l, v⟩ = ⟨⟨0, 0, 0, 0⟩, false⟩ from by simp [undo, hf, c2])
        clear hk
        go_enter Tryz.func9, Tryz.ntmps9
        go_wp2_with (go_at_call 33; refine (iIsBits_any _ _ _ _ _ h0 hn).mono ?_; rintro e w' ⟨rfl, rfl⟩)
        refine (iIsFault_any _ _ _ _ _).mono ?_
        rintro e w1 ⟨rfl, hb1⟩
        obtain ⟨hc1, hf1⟩ := bcell hb1
        have hz1 : w.heap.size + 1 < w1.heap.size := by have := hb1.size; simp only [isz_alloc] at this; omega
        have hz0 : w.heap.size < w1.heap.size := by omega
        go_wp2
        (try rw [hz])
        rw [E.out]
        exact bodyPost_ret (v := aggU ⟨⟨0, 0, 0, 0⟩, false⟩) (by simp [aggU, results, Tryz.results9, go_sem, hc1]) rfl ⟨rfl, (by repeat (first | exact Below.refl _ _ | (refine below_next (by assumption) ?_ (by simp)) | refine Below.setCell ?_ (by simp) _ | refine Below.alloc ?_ (by simp) _))⟩
    · have E := Lib.hid (show undo n true ⟨4, p, l, v⟩ = ⟨⟨0, 0, 0, 0⟩, false⟩ from by simp [undo, hf, c1])
      clear hk
      go_enter Tryz.func9, Tryz.ntmps9
      go_wp2_with (go_at_call 33; refine (iIsBits_any _ _ _ _ _ h0 hn).mono ?_; rintro e w' ⟨rfl, rfl⟩)
      refine (iIsFault_any _ _ _ _ _).mono ?_
      rintro e w1 ⟨rfl, hb1⟩
      obtain ⟨hc1, hf1⟩ := bcell hb1
      have hz1 : w.heap.size + 1 < w1.heap.size := by have := hb1.size; simp only [isz_alloc] at this; omega
      have hz0 : w.heap.size < w1.heap.size := by omega
      go_wp2
      (try rw [hz])
      rw [E.out]
      exact bodyPost_ret (v := aggU ⟨⟨0, 0, 0, 0⟩, false⟩) (by simp [aggU, results, Tryz.results9, go_sem, hc1]) rfl ⟨rfl, (by repeat (first | exact Below.refl _ _ | (refine below_next (by assumption) ?_ (by simp)) | refine Below.setCell ?_ (by simp) _ | refine Below.alloc ?_ (by simp) _))⟩
  case inl =>
    have E := Lib.hid (show undo n true ⟨1, p, l, v⟩ = ⟨⟨1, p, l, v⟩, true⟩ from by simp [undo, hf])
    clear hk
    go_enter Tryz.func9, Tryz.ntmps9
    go_wp2_with (go_at_call 33; refine (iIsBits_any _ _ _ _ _ h0 hn).mono ?_; rintro e w' ⟨rfl, rfl⟩)
    refine (iIsFault_any _ _ _ _ _).mono ?_
    rintro e w1 ⟨rfl, hb1⟩
    obtain ⟨hc1, hf1⟩ := bcell hb1
    have hz1 : w.heap.size + 1 < w1.heap.size := by have := hb1.size; simp only [isz_alloc] at this; omega
    have hz0 : w.heap.size < w1.heap.size := by omega
    go_wp2
    (try rw [hz])
    rw [E.out]
    exact bodyPost_ret (v := aggU ⟨⟨1, p, l, v⟩, true⟩) (by simp [aggU, results, Tryz.results9, go_sem, hc1]) rfl ⟨rfl, (by repeat (first | exact Below.refl _ _ | (refine below_next (by assumption) ?_ (by simp)) | refine Below.setCell ?_ (by simp) _ | refine Below.alloc ?_ (by simp) _))⟩
  case inr.inl =>
    have E := Lib.hid (show undo n true ⟨2, p, l, v⟩ = ⟨⟨2, p, l, v⟩, true⟩ from by simp [undo, hf])
    clear hk
    go_enter Tryz.func9, Tryz.ntmps9
    go_wp2_with (go_at_call 33; refine (iIsBits_any _ _ _ _ _ h0 hn).mono ?_; rintro e w' ⟨rfl, rfl⟩)
    refine (iIsFault_any _ _ _ _ _).mono ?_
    rintro e w1 ⟨rfl, hb1⟩
    obtain ⟨hc1, hf1⟩ := bcell hb1
    have hz1 : w.heap.size + 1 < w1.heap.size := by have := hb1.size; simp only [isz_alloc] at this; omega
    have hz0 : w.heap.size < w1.heap.size := by omega
    go_wp2
    (try rw [hz])
    rw [E.out]
    exact bodyPost_ret (v := aggU ⟨⟨2, p, l, v⟩, true⟩) (by simp [aggU, results, Tryz.results9, go_sem, hc1]) rfl ⟨rfl, (by repeat (first | exact Below.refl _ _ | (refine below_next (by assumption) ?_ (by simp)) | refine Below.setCell ?_ (by simp) _ | refine Below.alloc ?_ (by simp) _))⟩
  case inr.inr.inl =>
    have E := Lib.hid (show undo n true ⟨3, p, l, v⟩ = ⟨⟨0, 0, 0, 0⟩, false⟩ from by simp [undo, hf])
    clear hk
    go_enter Tryz.func9, Tryz.ntmps9
    go_wp2_with (go_at_call 33; refine (iIsBits_any _ _ _ _ _ h0 hn).mono ?_; rintro e w' ⟨rfl, rfl⟩)
    refine (iIsFault_any _ _ _ _ _).mono ?_
    rintro e w1 ⟨rfl, hb1⟩
    obtain ⟨hc1, hf1⟩ := bcell hb1
    have hz1 : w.heap.size + 1 < w1.heap.size := by have := hb1.size; simp only [isz_alloc] at this; omega
    have hz0 : w.heap.size < w1.heap.size := by omega
    go_wp2
    (try rw [hz])
    rw [E.out]
    exact bodyPost_ret (v := aggU ⟨⟨0, 0, 0, 0⟩, false⟩) (by simp [aggU, results, Tryz.results9, go_sem, hc1]) rfl ⟨rfl, (by repeat (first | exact Below.refl _ _ | (refine below_next (by assumption) ?_ (by simp)) | refine Below.setCell ?_ (by simp) _ | refine Below.alloc ?_ (by simp) _))⟩
  case inr.inr.inr.inr.inl =>
    have E := Lib.hid (show undo n true ⟨5, p, l, v⟩ = ⟨⟨0, 0, 0, 0⟩, false⟩ from by simp [undo, hf])
    clear hk
    go_enter Tryz.func9, Tryz.ntmps9
    go_wp2_with (go_at_call 33; refine (iIsBits_any _ _ _ _ _ h0 hn).mono ?_; rintro e w' ⟨rfl, rfl⟩)
    refine (iIsFault_any _ _ _ _ _).mono ?_
    rintro e w1 ⟨rfl, hb1⟩
    obtain ⟨hc1, hf1⟩ := bcell hb1
    have hz1 : w.heap.size + 1 < w1.heap.size := by have := hb1.size; simp only [isz_alloc] at this; omega
    have hz0 : w.heap.size < w1.heap.size := by omega
    go_wp2
    (try rw [hz])
    rw [E.out]
    exact bodyPost_ret (v := aggU ⟨⟨0, 0, 0, 0⟩, false⟩) (by simp [aggU, results, Tryz.results9, go_sem, hc1]) rfl ⟨rfl, (by repeat (first | exact Below.refl _ _ | (refine below_next (by assumption) ?_ (by simp)) | refine Below.setCell ?_ (by simp) _ | refine Below.alloc ?_ (by simp) _))⟩
  case inr.inr.inr.inr.inr =>
    have E := Lib.hid (show undo n true ⟨6, p, l, v⟩ = ⟨⟨0, 0, 0, 0⟩, false⟩ from by simp [undo, hf])
    clear hk
    go_enter Tryz.func9, Tryz.ntmps9
    go_wp2_with (go_at_call 33; refine (iIsBits_any _ _ _ _ _ h0 hn).mono ?_; rintro e w' ⟨rfl, rfl⟩)
    refine (iIsFault_any _ _ _ _ _).mono ?_
    rintro e w1 ⟨rfl, hb1⟩
    obtain ⟨hc1, hf1⟩ := bcell hb1
    have hz1 : w.heap.size + 1 < w1.heap.size := by have := hb1.size; simp only [isz_alloc] at this; omega
    have hz0 : w.heap.size < w1.heap.size := by omega
    go_wp2
    (try rw [hz])
    rw [E.out]
    exact bodyPost_ret (v := aggU ⟨⟨0, 0, 0, 0⟩, false⟩) (by simp [aggU, results, Tryz.results9, go_sem, hc1]) rfl ⟨rfl, (by repeat (first | exact Below.refl _ _ | (refine below_next (by assumption) ?_ (by simp)) | refine Below.setCell ?_ (by simp) _ | refine Below.alloc ?_ (by simp) _))⟩


/-- a struct of four numbers lies in a block of the call's own -/
def Bx4 (w : World) (B : Nat) (v : Value) (g : Nat) (f : Flt) : Prop :=
  v = .pointer (some ⟨g, 0, none⟩) ∧ B ≤ g ∧ g < w.heap.size ∧ w.cell? ⟨g, 0, none⟩ = some (.int .i64 f.kd) ∧ w.cell? ⟨g, 1, none⟩ = some (.int .i64 f.pos) ∧ w.cell? ⟨g, 2, none⟩ = some (.int .i64 f.len) ∧ w.cell? ⟨g, 3, none⟩ = some (.int .i64 f.val)

end UndoFault
end Go.Proofs.YtojmikalnalfbaaGreatDoor
