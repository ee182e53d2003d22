/- Walks, laws and small notions for the claims of this seat, several texts as one (Mi, Ix, Mj). Conditions: as each theorem states them. -/
import Derived.Test.YtbaojbheopcjhaaGreatDoorB5
import Derived.Test.YtbaojbheopcjhaaGreatDoorShT
namespace Go.Proofs.YtbaojbheopcjhaaGreatDoor
open Go.RowKit

def cutCs : List UInt8 := [97, 98, 99, 100, 101, 102, 103, 104, 105, 106, 107, 108, 109, 110, 111, 112, 113, 114, 115, 116, 117, 118, 119, 120, 121, 122, 48, 49, 50, 51, 52, 53, 54, 55, 56, 57]
set_option maxRecDepth 100000 in
theorem cut_nm (b : UInt8) : cutCs.contains b = nmCh b := by
  have key : ∀ n : Fin 256, cutCs.contains (UInt8.ofNat n.1) = nmCh (UInt8.ofNat n.1) := by decide
  have := key ⟨b.toNat, b.toNat_lt⟩
  rwa [UInt8.ofNat_toNat] at this
theorem dw_nil (p : UInt8 → Bool) : ∀ l : List UInt8, l.dropWhile p = [] ↔ ∀ x, x ∈ l → p x = true
  | [] => by simp
  | a :: l => by
    rw [List.dropWhile_cons]
    by_cases h : p a = true
    · rw [if_pos h, dw_nil p l]
      constructor
      · intro g x hx
        rcases List.mem_cons.1 hx with rfl | hx
        · exact h
        · exact g x hx
      · intro g x hx; exact g x (List.mem_cons_of_mem _ hx)
    · rw [if_neg h]
      exact ⟨fun e => by simp at e, fun g => absurd (g a (by simp)) h⟩
theorem tw_all (p : UInt8 → Bool) : ∀ (l : List UInt8) (x : UInt8), x ∈ l.takeWhile p → p x = true
  | [], x, h => by simp at h
  | a :: l, x, h => by
    rw [List.takeWhile_cons] at h
    by_cases hp : p a = true
    · rw [if_pos hp] at h
      rcases List.mem_cons.1 h with rfl | h
      · exact hp
      · exact tw_all p l x h
    · rw [if_neg hp] at h; simp at h
theorem trim_nil (l cs : List UInt8) : Lib.trimS l cs = [] ↔ l.all (cs.contains ·) = true := by
  unfold Lib.trimS Lib.trimLeftS Lib.trimRightS
  rw [dw_nil, List.all_eq_true]
  constructor
  · intro h x hx
    have e := List.takeWhile_append_dropWhile (p := (cs.contains ·)) (l := l.reverse)
    have hm : x ∈ l.reverse := List.mem_reverse.2 hx
    rw [← e, List.mem_append] at hm
    rcases hm with hm | hm
    · exact tw_all _ _ _ hm
    · exact h x (List.mem_reverse.2 hm)
  · intro h x hx
    have := (List.dropWhile_sublist _).subset (List.mem_reverse.1 hx)
    exact h x (List.mem_reverse.1 this)
theorem trim_any (s : ByteArray) (w : World) (hs : s.size ≤ 1099511627776) :
    Calls Tryz.prog 221 #[.string s, .string ⟨#[97, 98, 99, 100, 101, 102, 103, 104, 105, 106, 107, 108, 109, 110, 111, 112, 113, 114, 115, 116, 117, 118, 119, 120, 121, 122, 48, 49, 50, 51, 52, 53, 54, 55, 56, 57]⟩] w fun e w' => ∃ r : ByteArray, e = .returned (.string r) ∧ (r.toList == ([] : List UInt8)) = s.data.toList.all nmCh ∧ Below w.heap.size w w' := by
  have h := Any.strings_Trim_laid Tryz.lays160 (by kernel_rfl) s ⟨#[97, 98, 99, 100, 101, 102, 103, 104, 105, 106, 107, 108, 109, 110, 111, 112, 113, 114, 115, 116, 117, 118, 119, 120, 121, 122, 48, 49, 50, 51, 52, 53, 54, 55, 56, 57]⟩ w (by omega) (by decide) (ascii_of_all (by decide))
  refine Calls.mono (show Calls Tryz.prog 221 _ _ _ from h) ?_
  rintro e w' ⟨rfl, hb⟩
  refine ⟨_, rfl, ?_, hb⟩
  rw [Lib.toList_data, List.toList_toArray, Bool.eq_iff_iff, beq_iff_eq]
  have := trim_nil s.data.toList cutCs
  rw [show (cutCs.contains ·) = nmCh from funext cut_nm] at this
  exact this

theorem isNode_any (n : Int) (w : World) : Calls Tryz.prog 154 #[.int .i64 n] w fun e w' => e = .returned (.bool (inR n 0 31)) ∧ w = w' := by
  go_enter Tryz.func154, Tryz.ntmps154
  go_wp2_with (go_at_call 32; refine (within_any _ _ _ _).mono ?_; rintro e w' ⟨rfl, rfl⟩)
  go_ret
  exact ⟨rfl, rfl⟩
set_option maxHeartbeats 4000000 in
theorem iIsNodeInfo_any (id : Int) (nm : ByteArray) (dr : Int) (ps : Bool) (w : World) (hs : nm.size ≤ 1099511627776) :
    Calls Tryz.prog 194 #[.agg #[.int .i64 id, .string nm, .int .i64 dr, .bool ps]] w (RetV w (.bool (isNd ⟨id, nm, dr, ps⟩))) := by
  have E := Lib.hid (show isNd ⟨id, nm, dr, ps⟩ = (inR id 0 31 && ((decide (1 ≤ nm.size) && (decide (nm.size ≤ 6) && nm.data.toList.all nmCh)) && inR dr 0 1000)) from rfl)
  rcases bool_cases (inR id 0 31) with b1 | b1 <;> rcases bool_cases (inR dr 0 1000) with b2 | b2 <;> rcases bool_cases (nm.data.toList.all nmCh) with b3 | b3
  all_goals
    by_cases h1 : 1 ≤ nm.size
    · by_cases h6 : nm.size ≤ 6
      · have K := Lib.hid (And.intro h1 h6)
        go_enter Tryz.func194, Tryz.ntmps194
        go_wp2_with fail
        refine (trim_any nm _ hs).mono ?_
        rintro e w1 ⟨r, rfl, hr, hb1⟩
        rw [b3] at hr
        obtain ⟨hc1, hf1⟩ := bcell hb1
        go_wp2_with (first | (go_at_call 154; refine (isNode_any _ _).mono ?_; rw [b1]; rintro e w' ⟨rfl, rfl⟩) | (go_at_call 32; refine (within_any _ _ _ _).mono ?_; rw [b2]; rintro e w' ⟨rfl, rfl⟩))
        go_ret
        exact ⟨ret_bool (by rw [E.out, b1, b2, b3, decide_eq_true K.out.1, decide_eq_true K.out.2]; rfl), below_next hb1 (by go_grown) (Nat.le_refl _)⟩
      · have K := Lib.hid h6
        go_enter Tryz.func194, Tryz.ntmps194
        go_wp2_with (first | (go_at_call 154; refine (isNode_any _ _).mono ?_; rw [b1]; rintro e w' ⟨rfl, rfl⟩) | (go_at_call 32; refine (within_any _ _ _ _).mono ?_; rw [b2]; rintro e w' ⟨rfl, rfl⟩))
        go_ret
        exact ⟨ret_bool (by rw [E.out, decide_eq_false K.out]; simp), by go_grown⟩
    · have K := Lib.hid h1
      go_enter Tryz.func194, Tryz.ntmps194
      go_wp2_with (first | (go_at_call 154; refine (isNode_any _ _).mono ?_; rw [b1]; rintro e w' ⟨rfl, rfl⟩) | (go_at_call 32; refine (within_any _ _ _ _).mono ?_; rw [b2]; rintro e w' ⟨rfl, rfl⟩))
      go_ret
      exact ⟨ret_bool (by rw [E.out, decide_eq_false K.out]; simp), by go_grown⟩

theorem iNd_is {x : Nd} {b : Bool} (h : isNd x = b) (w : World) (hs : x.nm.size ≤ 1099511627776) :
    Calls Tryz.prog 194 #[.agg #[.int .i64 x.id, .string x.nm, .int .i64 x.dr, .bool x.ps]] w (RetV w (.bool b)) := by
  have := iIsNodeInfo_any x.id x.nm x.dr x.ps w hs
  rw [show isNd ⟨x.id, x.nm, x.dr, x.ps⟩ = b from h] at this
  exact this

set_option maxHeartbeats 1000000 in
theorem sameName_any (y : Nd) (g : Nat) (s : ByteArray) (w : World) (hg : w.cell? ⟨g, 1, none⟩ = some (.string s)) :
    Calls Tryz.prog 196 #[.agg #[.int .i64 y.id, .string y.nm, .int .i64 y.dr, .bool y.ps], .pointer (some ⟨g, 0, none⟩)] w (RetV w (.bool (y.nm.toList == s.toList))) := by
  have hlt := World.block_lt_of_cell? _ _ hg
  go_enter Tryz.func196, Tryz.ntmps196
  go_wp2
  go_ret
  exact ⟨rfl, by go_grown⟩
end Go.Proofs.YtbaojbheopcjhaaGreatDoor

namespace Go.Proofs.YtbaojbheopcjhaaGreatDoor
open Go.RowKit

def idxZ {α : Type} (p : α → Bool) (l : List α) : Int := if l.findIdx p < l.length then (l.findIdx p : Int) else -1
theorem idxZ_at {α : Type} [Inhabited α] {p : α → Bool} {l : List α} {k : Nat} (hk : k < l.length) (h : ∀ i, i < k → p (ge l i) = false) (h2 : p (ge l k) = true) : idxZ p l = k := by
  have : l.findIdx p = k := by
    rw [List.findIdx_eq hk]
    exact ⟨by rw [← ge_lt hk]; exact h2, fun j hj => by rw [← ge_lt]; exact h j hj⟩
  unfold idxZ; rw [this, if_pos hk]
theorem idxZ_none {α : Type} [Inhabited α] {p : α → Bool} {l : List α} (h : ∀ i, i < l.length → p (ge l i) = false) : idxZ p l = -1 := by
  have : l.findIdx p = l.length := by
    rw [List.findIdx_eq_length]
    intro x hx
    obtain ⟨i, hi, rfl⟩ := List.mem_iff_getElem.1 hx
    rw [← ge_lt hi]; exact h i hi
  unfold idxZ; rw [this, if_neg (by omega)]
theorem idxZ_any {α : Type} (p : α → Bool) (l : List α) : decide (0 ≤ idxZ p l) = l.any p := by
  unfold idxZ
  rw [Bool.eq_iff_iff, decide_eq_true_eq, List.any_eq_true, ← List.findIdx_lt_length]
  split
  · exact ⟨fun _ => by assumption, fun _ => by omega⟩
  · exact ⟨fun h => by omega, fun h => by contradiction⟩

set_option maxHeartbeats 2000000 in
theorem idxN_any (caps : Array Value) (p : Nd → Bool) (A : Option Addr) (n c : Nat) (l : List Nd) (w : World) (h : RE encNd 4 w w.heap.size A n l) (hn : n ≤ 1099511627776)
    (hcl : ∀ i, i < n → ∀ w', Below w.heap.size w w' → Calls Tryz.prog 196 (#[.agg #[.int .i64 (ge l i).id, .string (ge l i).nm, .int .i64 (ge l i).dr, .bool (ge l i).ps]] ++ caps) w' (RetV w' (.bool (p (ge l i))))) :
    Calls Tryz.prog 222 #[.slice A n c, .func (.func 196) #[] caps] w (RetV w (.int .i64 (idxZ p l))) := by
  have L := Lib.hid h.len
  have HCL := Lib.hid hcl
  clear hcl
  go_enter Tryz.func222, Tryz.ntmps222
  go_wp2
  go_loopw [5, 8] (fun _ i wr => ∃ k : Nat, k ≤ n ∧ i = .int .i64 k ∧ (∀ i, i < k → p (ge l i) = false) ∧ Below w.heap.size w wr) (fun _ i _ => n - (intOf i).toNat)
  case atStart => exact ⟨0, Nat.zero_le _, rfl, fun i hi => absurd hi (by omega), Below.refl _ _⟩
  case round =>
    obtain ⟨k, hk, rfl, hall, hb⟩ := hrel
    have Hall := Lib.hid hall
    clear hall
    by_cases hlt : k < n
    · obtain ⟨b, o, rfl, hbl, hc⟩ := (h.below hb (Nat.le_refl _)).get (by omega)
      have hc0 := hc k hlt 0 _ rfl
      have hc1 := hc k hlt 1 _ rfl
      have hc2 := hc k hlt 2 _ rfl
      have hc3 := hc k hlt 3 _ rfl
      clear hc
      rw [Nat.add_zero] at hc0
      go_wp2_with fail
      refine (HCL.out k hlt _ hb).mono ?_
      rcases bool_cases (p (ge l k)) with hp | hp
      all_goals
        have HP := Lib.hid hp
        rw [hp]
        clear hp
        rintro e w1 ⟨rfl, hb1⟩
        have hb1' := below_next hb1 hb (Nat.le_refl _)
      · go_wp2
        go_ret
        exact ⟨by rw [idxZ_at (by rw [L.out]; exact hlt) Hall.out HP.out]; rfl, hb1'⟩
      · go_wp2
        go_roundw
        case rel => exact ⟨k + 1, by omega, by go_num, fun i hi => by
          by_cases hik : i = k
          · subst hik; exact HP.out
          · exact Hall.out i (by omega), hb1'⟩
        case measure => simp [intOf]; omega
    · have hz := idxZ_none (p := p) (l := l) (fun i hi => Hall.out i (by have := L.out; omega))
      have Hz := Lib.hid hz
      clear hz
      go_wp2
      go_ret
      exact ⟨by rw [Hz.out]; rfl, hb⟩

set_option maxHeartbeats 2000000 in
theorem conN_any (caps : Array Value) (p : Nd → Bool) (A : Option Addr) (n c : Nat) (l : List Nd) (w : World) (h : RE encNd 4 w w.heap.size A n l) (hn : n ≤ 1099511627776)
    (hcl : ∀ i, i < n → ∀ w', Below w.heap.size w w' → Calls Tryz.prog 196 (#[.agg #[.int .i64 (ge l i).id, .string (ge l i).nm, .int .i64 (ge l i).dr, .bool (ge l i).ps]] ++ caps) w' (RetV w' (.bool (p (ge l i))))) :
    Calls Tryz.prog 195 #[.slice A n c, .func (.func 196) #[] caps] w (RetV w (.bool (l.any p))) := by
  go_enter Tryz.func195, Tryz.ntmps195
  go_wp2_with fail
  refine (idxN_any caps p A n c l _ h hn hcl).mono ?_
  obtain ⟨z, hz⟩ : ∃ z, idxZ p l = z := ⟨_, rfl⟩
  have hany := idxZ_any p l
  rw [hz] at hany ⊢
  have HA := Lib.hid hany
  clear hany hz
  rintro e w1 ⟨rfl, hb1⟩
  go_wp2
  go_ret
  exact ⟨ret_bool HA.out, hb1⟩

set_option maxHeartbeats 2000000 in
theorem idxF_any (caps : Array Value) (p : Sl → Bool) (A : Option Addr) (n c : Nat) (l : List Sl) (w : World) (h : RE encSl 8 w w.heap.size A n l) (hn : n ≤ 1099511627776)
    (hcl : ∀ i, i < n → ∀ w', Below w.heap.size w w' → Calls Tryz.prog 112 (#[.agg #[.int .i64 (ge l i).md, .int .i64 (ge l i).rn, .int .i64 (ge l i).st, .int .i64 (ge l i).nd, .int .i64 (ge l i).kd, .int .i64 (ge l i).sz, .int .i64 (ge l i).du, .bool (ge l i).ch]] ++ caps) w' (RetV w' (.bool (p (ge l i))))) :
    Calls Tryz.prog 111 #[.slice A n c, .func (.func 112) #[] caps] w (RetV w (.int .i64 (idxZ p l))) := by
  have L := Lib.hid h.len
  have HCL := Lib.hid hcl
  clear hcl
  go_enter Tryz.func111, Tryz.ntmps111
  go_wp2
  go_loopw [5, 8] (fun _ i wr => ∃ k : Nat, k ≤ n ∧ i = .int .i64 k ∧ (∀ i, i < k → p (ge l i) = false) ∧ Below w.heap.size w wr) (fun _ i _ => n - (intOf i).toNat)
  case atStart => exact ⟨0, Nat.zero_le _, rfl, fun i hi => absurd hi (by omega), Below.refl _ _⟩
  case round =>
    obtain ⟨k, hk, rfl, hall, hb⟩ := hrel
    have Hall := Lib.hid hall
    clear hall
    by_cases hlt : k < n
    · obtain ⟨b, o, rfl, hbl, hc⟩ := (h.below hb (Nat.le_refl _)).get (by omega)
      have hc0 := hc k hlt 0 _ rfl
      have hc1 := hc k hlt 1 _ rfl
      have hc2 := hc k hlt 2 _ rfl
      have hc3 := hc k hlt 3 _ rfl
      have hc4 := hc k hlt 4 _ rfl
      have hc5 := hc k hlt 5 _ rfl
      have hc6 := hc k hlt 6 _ rfl
      have hc7 := hc k hlt 7 _ rfl
      clear hc
      rw [Nat.add_zero] at hc0
      go_wp2_with fail
      refine (HCL.out k hlt _ hb).mono ?_
      rcases bool_cases (p (ge l k)) with hp | hp
      all_goals
        have HP := Lib.hid hp
        rw [hp]
        clear hp
        rintro e w1 ⟨rfl, hb1⟩
        have hb1' := below_next hb1 hb (Nat.le_refl _)
      · go_wp2
        go_ret
        exact ⟨by rw [idxZ_at (by rw [L.out]; exact hlt) Hall.out HP.out]; rfl, hb1'⟩
      · go_wp2
        go_roundw
        case rel => exact ⟨k + 1, by omega, by go_num, fun i hi => by
          by_cases hik : i = k
          · subst hik; exact HP.out
          · exact Hall.out i (by omega), hb1'⟩
        case measure => simp [intOf]; omega
    · have hz := idxZ_none (p := p) (l := l) (fun i hi => Hall.out i (by have := L.out; omega))
      have Hz := Lib.hid hz
      clear hz
      go_wp2
      go_ret
      exact ⟨by rw [Hz.out]; rfl, hb⟩

set_option maxHeartbeats 2000000 in
theorem idxS_any (caps : Array Value) (p : Sl → Bool) (A : Option Addr) (n c : Nat) (l : List Sl) (w : World) (h : RE encSl 8 w w.heap.size A n l) (hn : n ≤ 1099511627776)
    (hcl : ∀ i, i < n → ∀ w', Below w.heap.size w w' → Calls Tryz.prog 142 (#[.agg #[.int .i64 (ge l i).md, .int .i64 (ge l i).rn, .int .i64 (ge l i).st, .int .i64 (ge l i).nd, .int .i64 (ge l i).kd, .int .i64 (ge l i).sz, .int .i64 (ge l i).du, .bool (ge l i).ch]] ++ caps) w' (RetV w' (.bool (p (ge l i))))) :
    Calls Tryz.prog 111 #[.slice A n c, .func (.func 142) #[] caps] w (RetV w (.int .i64 (idxZ p l))) := by
  have L := Lib.hid h.len
  have HCL := Lib.hid hcl
  clear hcl
  go_enter Tryz.func111, Tryz.ntmps111
  go_wp2
  go_loopw [5, 8] (fun _ i wr => ∃ k : Nat, k ≤ n ∧ i = .int .i64 k ∧ (∀ i, i < k → p (ge l i) = false) ∧ Below w.heap.size w wr) (fun _ i _ => n - (intOf i).toNat)
  case atStart => exact ⟨0, Nat.zero_le _, rfl, fun i hi => absurd hi (by omega), Below.refl _ _⟩
  case round =>
    obtain ⟨k, hk, rfl, hall, hb⟩ := hrel
    have Hall := Lib.hid hall
    clear hall
    by_cases hlt : k < n
    · obtain ⟨b, o, rfl, hbl, hc⟩ := (h.below hb (Nat.le_refl _)).get (by omega)
      have hc0 := hc k hlt 0 _ rfl
      have hc1 := hc k hlt 1 _ rfl
      have hc2 := hc k hlt 2 _ rfl
      have hc3 := hc k hlt 3 _ rfl
      have hc4 := hc k hlt 4 _ rfl
      have hc5 := hc k hlt 5 _ rfl
      have hc6 := hc k hlt 6 _ rfl
      have hc7 := hc k hlt 7 _ rfl
      clear hc
      rw [Nat.add_zero] at hc0
      go_wp2_with fail
      refine (HCL.out k hlt _ hb).mono ?_
      rcases bool_cases (p (ge l k)) with hp | hp
      all_goals
        have HP := Lib.hid hp
        rw [hp]
        clear hp
        rintro e w1 ⟨rfl, hb1⟩
        have hb1' := below_next hb1 hb (Nat.le_refl _)
      · go_wp2
        go_ret
        exact ⟨by rw [idxZ_at (by rw [L.out]; exact hlt) Hall.out HP.out]; rfl, hb1'⟩
      · go_wp2
        go_roundw
        case rel => exact ⟨k + 1, by omega, by go_num, fun i hi => by
          by_cases hik : i = k
          · subst hik; exact HP.out
          · exact Hall.out i (by omega), hb1'⟩
        case measure => simp [intOf]; omega
    · have hz := idxZ_none (p := p) (l := l) (fun i hi => Hall.out i (by have := L.out; omega))
      have Hz := Lib.hid hz
      clear hz
      go_wp2
      go_ret
      exact ⟨by rw [Hz.out]; rfl, hb⟩

set_option maxHeartbeats 2000000 in
theorem conS_any (caps : Array Value) (p : Sl → Bool) (A : Option Addr) (n c : Nat) (l : List Sl) (w : World) (h : RE encSl 8 w w.heap.size A n l) (hn : n ≤ 1099511627776)
    (hcl : ∀ i, i < n → ∀ w', Below w.heap.size w w' → Calls Tryz.prog 142 (#[.agg #[.int .i64 (ge l i).md, .int .i64 (ge l i).rn, .int .i64 (ge l i).st, .int .i64 (ge l i).nd, .int .i64 (ge l i).kd, .int .i64 (ge l i).sz, .int .i64 (ge l i).du, .bool (ge l i).ch]] ++ caps) w' (RetV w' (.bool (p (ge l i))))) :
    Calls Tryz.prog 149 #[.slice A n c, .func (.func 142) #[] caps] w (RetV w (.bool (l.any p))) := by
  go_enter Tryz.func149, Tryz.ntmps149
  go_wp2_with fail
  refine (idxS_any caps p A n c l _ h hn hcl).mono ?_
  obtain ⟨z, hz⟩ : ∃ z, idxZ p l = z := ⟨_, rfl⟩
  have hany := idxZ_any p l
  rw [hz] at hany ⊢
  have HA := Lib.hid hany
  clear hany hz
  rintro e w1 ⟨rfl, hb1⟩
  go_wp2
  go_ret
  exact ⟨ret_bool HA.out, hb1⟩

set_option maxHeartbeats 2000000 in
theorem idxC_any (caps : Array Value) (p : Sl → Bool) (A : Option Addr) (n c : Nat) (l : List Sl) (w : World) (h : RE encSl 8 w w.heap.size A n l) (hn : n ≤ 1099511627776)
    (hcl : ∀ i, i < n → ∀ w', Below w.heap.size w w' → Calls Tryz.prog 144 (#[.agg #[.int .i64 (ge l i).md, .int .i64 (ge l i).rn, .int .i64 (ge l i).st, .int .i64 (ge l i).nd, .int .i64 (ge l i).kd, .int .i64 (ge l i).sz, .int .i64 (ge l i).du, .bool (ge l i).ch]] ++ caps) w' (RetV w' (.bool (p (ge l i))))) :
    Calls Tryz.prog 111 #[.slice A n c, .func (.func 144) #[] caps] w (RetV w (.int .i64 (idxZ p l))) := by
  have L := Lib.hid h.len
  have HCL := Lib.hid hcl
  clear hcl
  go_enter Tryz.func111, Tryz.ntmps111
  go_wp2
  go_loopw [5, 8] (fun _ i wr => ∃ k : Nat, k ≤ n ∧ i = .int .i64 k ∧ (∀ i, i < k → p (ge l i) = false) ∧ Below w.heap.size w wr) (fun _ i _ => n - (intOf i).toNat)
  case atStart => exact ⟨0, Nat.zero_le _, rfl, fun i hi => absurd hi (by omega), Below.refl _ _⟩
  case round =>
    obtain ⟨k, hk, rfl, hall, hb⟩ := hrel
    have Hall := Lib.hid hall
    clear hall
    by_cases hlt : k < n
    · obtain ⟨b, o, rfl, hbl, hc⟩ := (h.below hb (Nat.le_refl _)).get (by omega)
      have hc0 := hc k hlt 0 _ rfl
      have hc1 := hc k hlt 1 _ rfl
      have hc2 := hc k hlt 2 _ rfl
      have hc3 := hc k hlt 3 _ rfl
      have hc4 := hc k hlt 4 _ rfl
      have hc5 := hc k hlt 5 _ rfl
      have hc6 := hc k hlt 6 _ rfl
      have hc7 := hc k hlt 7 _ rfl
      clear hc
      rw [Nat.add_zero] at hc0
      go_wp2_with fail
      refine (HCL.out k hlt _ hb).mono ?_
      rcases bool_cases (p (ge l k)) with hp | hp
      all_goals
        have HP := Lib.hid hp
        rw [hp]
        clear hp
        rintro e w1 ⟨rfl, hb1⟩
        have hb1' := below_next hb1 hb (Nat.le_refl _)
      · go_wp2
        go_ret
        exact ⟨by rw [idxZ_at (by rw [L.out]; exact hlt) Hall.out HP.out]; rfl, hb1'⟩
      · go_wp2
        go_roundw
        case rel => exact ⟨k + 1, by omega, by go_num, fun i hi => by
          by_cases hik : i = k
          · subst hik; exact HP.out
          · exact Hall.out i (by omega), hb1'⟩
        case measure => simp [intOf]; omega
    · have hz := idxZ_none (p := p) (l := l) (fun i hi => Hall.out i (by have := L.out; omega))
      have Hz := Lib.hid hz
      clear hz
      go_wp2
      go_ret
      exact ⟨by rw [Hz.out]; rfl, hb⟩

set_option maxHeartbeats 2000000 in
theorem conC_any (caps : Array Value) (p : Sl → Bool) (A : Option Addr) (n c : Nat) (l : List Sl) (w : World) (h : RE encSl 8 w w.heap.size A n l) (hn : n ≤ 1099511627776)
    (hcl : ∀ i, i < n → ∀ w', Below w.heap.size w w' → Calls Tryz.prog 144 (#[.agg #[.int .i64 (ge l i).md, .int .i64 (ge l i).rn, .int .i64 (ge l i).st, .int .i64 (ge l i).nd, .int .i64 (ge l i).kd, .int .i64 (ge l i).sz, .int .i64 (ge l i).du, .bool (ge l i).ch]] ++ caps) w' (RetV w' (.bool (p (ge l i))))) :
    Calls Tryz.prog 149 #[.slice A n c, .func (.func 144) #[] caps] w (RetV w (.bool (l.any p))) := by
  go_enter Tryz.func149, Tryz.ntmps149
  go_wp2_with fail
  refine (idxC_any caps p A n c l _ h hn hcl).mono ?_
  obtain ⟨z, hz⟩ : ∃ z, idxZ p l = z := ⟨_, rfl⟩
  have hany := idxZ_any p l
  rw [hz] at hany ⊢
  have HA := Lib.hid hany
  clear hany hz
  rintro e w1 ⟨rfl, hb1⟩
  go_wp2
  go_ret
  exact ⟨ret_bool HA.out, hb1⟩
end Go.Proofs.YtbaojbheopcjhaaGreatDoor

namespace Go.Proofs.YtbaojbheopcjhaaGreatDoor
open Go.RowKit

theorem str_dec (a b : ByteArray) : (a.toList == b.toList) = decide (a = b) := by
  by_cases h : a = b
  · rw [str_same h, decide_eq_true h]
  · rw [str_other h, decide_eq_false h]
theorem RE.pre {α : Type} [Inhabited α] {enc : α → List Value} {sz : Nat} {w : World} {B n k : Nat} {A : Option Addr} {l : List α} (h : RE enc sz w B A n l) (hk : k ≤ n) : RE enc sz w B A k (l.take k) := by
  refine ⟨by rw [List.length_take, h.len]; omega, fun hn => ?_⟩
  obtain ⟨b, o, e, hb, hc⟩ := h.get (by omega)
  refine ⟨b, o, e, hb, fun i hi j u hu => hc i (by omega) j u ?_⟩
  rw [ge_lt (by rw [List.length_take, h.len]; omega), List.getElem_take] at hu
  rw [ge_lt (by rw [h.len]; omega)]; exact hu

set_option maxHeartbeats 4000000 in
theorem iIsNodeTable_any (A : Option Addr) (n c : Nat) (l : List Nd) (w : World) (h : RE encNd 4 w w.heap.size A n l) (hn : n ≤ 1099511627776) (hx : ∀ i, i < n → (ge l i).nm.size ≤ 1099511627776) (hnc : n ≤ c) :
    Calls Tryz.prog 145 #[.slice A n c] w (RetV w (.bool (isNT l))) := by
  have L := Lib.hid h.len
  go_enter Tryz.func145, Tryz.ntmps145
  go_wp2
  go_loopw [7, 3, 4] (fun i _ _ wr => ∃ k : Nat, k ≤ n ∧ i = .int .i64 k ∧ ntTo l k = true ∧ Below w.heap.size w wr) (fun i _ _ _ => n - (intOf i).toNat)
  case atStart => exact ⟨0, Nat.zero_le _, rfl, rfl, Below.refl _ _⟩
  case round =>
    obtain ⟨k, hk, rfl, hall, hb⟩ := hrel
    have Hall := Lib.hid hall
    clear hall
    by_cases hlt : k < n
    · obtain ⟨b, o, rfl, hbl, hc⟩ := (h.below hb (Nat.le_refl _)).get (by omega)
      have hc0 := hc k hlt 0 _ rfl
      have hc1 := hc k hlt 1 _ rfl
      have hc2 := hc k hlt 2 _ rfl
      have hc3 := hc k hlt 3 _ rfl
      have hp0 := hc (k - 1) (by omega) 0 _ rfl
      clear hc
      rw [Nat.add_zero] at hc0 hp0
      have hs := hx k hlt
      obtain ⟨w0, hw0⟩ : ∃ v, v = wr.alloc (.cells #[.int .i64 (ge l k).id, .string (ge l k).nm, .int .i64 (ge l k).dr, .bool (ge l k).ps] 84) := ⟨_, rfl⟩
      have hB0 : BlkL w0 wr.heap.size 84 [.int .i64 (ge l k).id, .string (ge l k).nm, .int .i64 (ge l k).dr, .bool (ge l k).ps] := by rw [hw0]; exact BlkL.new wr _ _ rfl
      have gb : Below wr.heap.size wr w0 := by rw [hw0]; go_grown
      have hb0 : Below w.heap.size w w0 := below_next gb hb (Nat.le_refl _)
      have q0 : ∀ x : Cls (GB w0), x.w.cell? ⟨wr.heap.size, 0, none⟩ = some (.int .i64 (ge l k).id) := fun x => GB.c x (hB0.c 0 rfl)
      have q1 : ∀ x : Cls (GB w0), x.w.cell? ⟨wr.heap.size, 1, none⟩ = some (.string (ge l k).nm) := fun x => GB.c x (hB0.c 1 rfl)
      have q2 : ∀ x : Cls (GB w0), x.w.cell? ⟨wr.heap.size, 2, none⟩ = some (.int .i64 (ge l k).dr) := fun x => GB.c x (hB0.c 2 rfl)
      have q3 : ∀ x : Cls (GB w0), x.w.cell? ⟨wr.heap.size, 3, none⟩ = some (.bool (ge l k).ps) := fun x => GB.c x (hB0.c 3 rfl)
      have q4 : ∀ x : Cls (GB w0), x.w.cell? ⟨b, o + (k - 1) * 4, none⟩ = some (.int .i64 (ge l (k - 1)).id) := fun x => GB.c x ((Below.cell gb (p := ⟨b, o + (k - 1) * 4, none⟩) (World.block_lt_of_cell? _ _ hp0)).trans hp0)
      have hV0 : GB w0 w0.drew := (Below.refl _ _).drew
      haveI hne : Nonempty (Cls (GB w0)) := ⟨⟨_, hV0⟩⟩
      rcases bool_cases (isNd (ge l k)) with hnd | hnd
      case inr =>
        have HND := Lib.hid hnd
        go_wp2_with fail
        rw [← hw0]
        clear hw0
        refine wp_region_cls (GB w0) (by kernel_rfl) (by kernel_rfl) hV0 ?_
        repeat (go_big_quiet_step (first | (go_at_call 194; rename_i x; exact cls_call (fun h1 h2 => GB.next h1 h2) (iNd_is hnd _ hs))))
        refine wpQuiet_nil ?_
        rintro _ ⟨x, rfl⟩
        have hv : Below w.heap.size w x.w := below_next (w1 := w0) x.h hb0 (Nat.le_refl _)
        have hg1 := q1 x
        clear q0 q1 q2 q3 q4
        go_wp2
        go_ret
        exact ⟨ret_bool (isNT_no (by rw [L.out]; exact hlt) (by unfold ntAt; rw [HND.out]; rfl)).symm, hv⟩
      have HND := Lib.hid hnd
      by_cases hk0 : k = 0
      · subst hk0
        rw [Nat.zero_mul, Nat.add_zero] at hc0
        rw [Nat.zero_mul, Nat.add_zero] at hc1 hc2 hc3
        go_wp2_with fail
        rw [← hw0]
        clear hw0
        refine wp_region_cls (GB w0) (by kernel_rfl) (by kernel_rfl) hV0 ?_
        repeat (go_big_quiet_step (first | (go_at_call 194; rename_i x; exact cls_call (fun h1 h2 => GB.next h1 h2) (iNd_is hnd _ hs))))
        refine wpQuiet_nil ?_
        rintro _ ⟨x, rfl⟩
        have hv : Below w.heap.size w x.w := below_next (w1 := w0) x.h hb0 (Nat.le_refl _)
        have hg1 := q1 x
        clear q0 q1 q2 q3 q4
        go_wp2_with fail
        refine (conN_any #[.pointer (some ⟨wr.heap.size, 0, none⟩)] (fun y => y.nm.toList == (ge l 0).nm.toList) (some ⟨b, o, none⟩) 0 _ (l.take 0) _ ((RE.up h hv).pre (by omega)) (by omega) (fun i hi w' hw' => sameName_any _ _ _ _ ((Below.cell hw' (p := ⟨wr.heap.size, 1, none⟩) (World.block_lt_of_cell? _ _ hg1)).trans hg1))).mono ?_
        rw [show (fun y : Nd => y.nm.toList == (ge l 0).nm.toList) = (fun y => decide (y.nm = (ge l 0).nm)) from funext fun y => str_dec _ _]
        rcases bool_cases ((l.take 0).any (fun y => decide (y.nm = (ge l 0).nm))) with hy | hy
        all_goals
          have HY := Lib.hid hy
          rw [hy]
          clear hy
          rintro e w1 ⟨rfl, hb1⟩
          have hv1 := below_next hb1 hv (Nat.le_refl _)
          go_wp2
        · go_ret
          exact ⟨ret_bool (isNT_no (by rw [L.out]; exact hlt) (by unfold ntAt; rw [HY.out]; simp)).symm, hv1⟩
        · go_roundw
          case rel => exact ⟨1, by omega, by go_num, by rw [ntTo_succ, Hall.out]; unfold ntAt; rw [HND.out, HY.out]; simp, hv1⟩
          case measure => simp [intOf]; omega
      have hk1 : 0 < k := by omega
      by_cases hg : (ge l k).id ≤ (ge l (k - 1)).id
      · have HG := Lib.hid hg
        go_wp2_with fail
        rw [← hw0]
        clear hw0
        refine wp_region_cls (GB w0) (by kernel_rfl) (by kernel_rfl) hV0 ?_
        repeat (go_big_quiet_step (first | (go_at_call 194; rename_i x; exact cls_call (fun h1 h2 => GB.next h1 h2) (iNd_is hnd _ hs))))
        refine wpQuiet_nil ?_
        rintro _ ⟨x, rfl⟩
        have hv : Below w.heap.size w x.w := below_next (w1 := w0) x.h hb0 (Nat.le_refl _)
        have hg1 := q1 x
        clear q0 q1 q2 q3 q4
        go_wp2
        go_ret
        exact ⟨ret_bool (isNT_no (by rw [L.out]; exact hlt) (by unfold ntAt; rw [HND.out]; have := HG.out; simp; omega)).symm, hv⟩
      · have HG := Lib.hid hg
        go_wp2_with fail
        rw [← hw0]
        clear hw0
        refine wp_region_cls (GB w0) (by kernel_rfl) (by kernel_rfl) hV0 ?_
        repeat (go_big_quiet_step (first | (go_at_call 194; rename_i x; exact cls_call (fun h1 h2 => GB.next h1 h2) (iNd_is hnd _ hs))))
        refine wpQuiet_nil ?_
        rintro _ ⟨x, rfl⟩
        have hv : Below w.heap.size w x.w := below_next (w1 := w0) x.h hb0 (Nat.le_refl _)
        have hg1 := q1 x
        clear q0 q1 q2 q3 q4
        go_wp2_with fail
        refine (conN_any #[.pointer (some ⟨wr.heap.size, 0, none⟩)] (fun y => y.nm.toList == (ge l k).nm.toList) (some ⟨b, o, none⟩) k _ (l.take k) _ ((RE.up h hv).pre (by omega)) (by omega) (fun i hi w' hw' => sameName_any _ _ _ _ ((Below.cell hw' (p := ⟨wr.heap.size, 1, none⟩) (World.block_lt_of_cell? _ _ hg1)).trans hg1))).mono ?_
        rw [show (fun y : Nd => y.nm.toList == (ge l k).nm.toList) = (fun y => decide (y.nm = (ge l k).nm)) from funext fun y => str_dec _ _]
        rcases bool_cases ((l.take k).any (fun y => decide (y.nm = (ge l k).nm))) with hy | hy
        all_goals
          have HY := Lib.hid hy
          rw [hy]
          clear hy
          rintro e w1 ⟨rfl, hb1⟩
          have hv1 := below_next hb1 hv (Nat.le_refl _)
          go_wp2
        · go_ret
          exact ⟨ret_bool (isNT_no (by rw [L.out]; exact hlt) (by unfold ntAt; rw [HY.out]; simp)).symm, hv1⟩
        · go_roundw
          case rel => exact ⟨k + 1, by omega, by go_num, by rw [ntTo_succ, Hall.out]; unfold ntAt; rw [HND.out, HY.out]; simp; have := HG.out; omega, hv1⟩
          case measure => simp [intOf]; omega
    · have hkn : k = n := by omega
      have hz : ntTo l l.length = true := by rw [L.out, ← hkn]; exact Hall.out
      have Hz := Lib.hid hz
      clear hz hkn
      by_cases h1 : 1 ≤ n
      · by_cases h2 : n ≤ 32
        all_goals
          go_wp2
          go_ret
          exact ⟨ret_bool (by unfold isNT; rw [Hz.out, L.out, Bool.and_true, decide_eq_true h1, Bool.true_and, decide_eq_decide]; omega), hb⟩
      · go_wp2
        go_ret
        exact ⟨ret_bool (by unfold isNT; rw [Hz.out, L.out]; simp; omega), hb⟩
end Go.Proofs.YtbaojbheopcjhaaGreatDoor
