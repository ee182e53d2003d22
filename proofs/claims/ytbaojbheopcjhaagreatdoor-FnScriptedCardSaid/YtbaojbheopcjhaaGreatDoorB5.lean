/- Walks, laws and small notions for the claims of this seat, several texts as one (Mn, Ms, Mt). Conditions: as each theorem states them. -/
import Derived.Test.YtbaojbheopcjhaaGreatDoorB4
import Derived.Test.YtbaojbheopcjhaaGreatDoorB3
namespace Go.Proofs.YtbaojbheopcjhaaGreatDoor
open Go.RowKit

set_option maxHeartbeats 400000 in
theorem l05Node_any (n : Int) (w : World) : Calls Tryz.prog 167 #[.int .i64 n] w fun e w' => e = .returned (.bool (inR n 0 31)) ∧ w = w' := by
  go_enter Tryz.func167, Tryz.ntmps167
  go_wp2_with (go_at_call 39; refine (l01In_any _ _ _ _).mono ?_; rintro e w' ⟨rfl, rfl⟩)
  go_ret
  exact ⟨rfl, rfl⟩

/-- a name's bytes as far as they are read -/
def nmTo (s : ByteArray) (k : Nat) : Bool := (s.data.toList.take k).all nmCh
theorem nmTo_succ {s : ByteArray} {k : Nat} (h : k < s.size) : nmTo s (k + 1) = (nmTo s k && nmCh s[k]) := by
  have hk : k < s.data.toList.length := by rw [← Lib.size_eq]; exact h
  unfold nmTo
  rw [List.take_succ_eq_append_getElem hk, List.all_append]
  simp
  rfl
theorem nmTo_full {s : ByteArray} : nmTo s s.size = s.data.toList.all nmCh := by
  unfold nmTo; rw [Lib.size_eq, List.take_length]
theorem nm_no {s : ByteArray} {k : Nat} (h : k < s.size) (h2 : nmCh s[k] = false) : s.data.toList.all nmCh = false := by
  have hk : k < s.data.toList.length := by rw [← Lib.size_eq]; exact h
  refine Bool.eq_false_iff.2 fun ht => ?_
  have := List.all_eq_true.1 ht _ (List.getElem_mem hk)
  rw [show s.data.toList[k] = s[k] from rfl, h2] at this
  cases this

set_option maxRecDepth 20000 in
set_option maxHeartbeats 4000000 in
theorem l10Name_any (s : ByteArray) (w : World) (hs : s.size ≤ 1099511627776) :
    Calls Tryz.prog 225 #[.string s] w fun e w' => e = .returned (.bool (nameOk s)) ∧ w = w' := by
  go_enter Tryz.func225, Tryz.ntmps225
  go_wp2
  go_loop [3] (fun i => ∃ k : Nat, k ≤ s.size ∧ i = .int .i64 k ∧ nmTo s k = true) (fun i => s.size - (intOf i).toNat)
  case atStart => exact ⟨0, Nat.zero_le _, rfl, rfl⟩
  case round =>
    obtain ⟨k, hk, rfl, hall⟩ := hrel
    have Hall := Lib.hid hall
    clear hall
    by_cases hlt : k < s.size
    · have hsucc := Lib.hid (nmTo_succ hlt)
      have hno := Lib.hid (nm_no hlt)
      have hch : nmCh s[k] = ((decide (97 ≤ s[k].toNat) && decide (s[k].toNat ≤ 122)) || (decide (48 ≤ s[k].toNat) && decide (s[k].toNat ≤ 57))) := rfl
      rw [hch] at hsucc hno
      clear hch
      obtain ⟨v, hv⟩ : ∃ v : Nat, s[k].toNat = v := ⟨_, rfl⟩
      rw [hv] at hsucc hno
      rcases (show v < 48 ∨ (48 ≤ v ∧ v ≤ 57) ∨ (57 < v ∧ v < 97) ∨ (97 ≤ v ∧ v ≤ 122) ∨ 122 < v by omega) with h1 | h1 | h1 | h1 | h1
      all_goals
        go_wp2_with fail
      · go_ret
        exact ⟨ret_bool (by unfold nameOk; rw [hno.out (by simp; omega)]; simp), rfl⟩
      · go_round
        case rel => exact ⟨k + 1, by omega, by go_num, by rw [hsucc.out, Hall.out]; simp; omega⟩
        case measure => simp [intOf]; omega
      · go_ret
        exact ⟨ret_bool (by unfold nameOk; rw [hno.out (by simp; omega)]; simp), rfl⟩
      · go_round
        case rel => exact ⟨k + 1, by omega, by go_num, by rw [hsucc.out, Hall.out]; simp; omega⟩
        case measure => simp [intOf]; omega
      · go_ret
        exact ⟨ret_bool (by unfold nameOk; rw [hno.out (by simp; omega)]; simp), rfl⟩
    · have hkn : k = s.size := by omega
      have hz := Hall.out
      rw [hkn, nmTo_full] at hz
      have Hz := Lib.hid hz
      clear hz hkn
      by_cases h1 : 1 ≤ s.size
      · by_cases h6 : s.size ≤ 6
        all_goals
          go_wp2
          go_ret
          exact ⟨ret_bool (by unfold nameOk; rw [Hz.out, Bool.and_true, decide_eq_true h1, Bool.true_and, decide_eq_decide]; omega), rfl⟩
      · go_wp2
        go_ret
        exact ⟨ret_bool (by unfold nameOk; rw [Hz.out]; simp; omega), rfl⟩

/- worlds that have only grown -/
def GB (w0 v : World) : Prop := Below w0.heap.size w0 v
theorem GB.next {w0 u u' : World} (h : GB w0 u) (h2 : Below u.heap.size u u') : GB w0 u' := below_next h2 h (Nat.le_refl _)
theorem GB.c {w0 : World} (x : Cls (GB w0)) {b j : Nat} {v : Value} (h : w0.cell? ⟨b, j, none⟩ = some v) : x.w.cell? ⟨b, j, none⟩ = some v :=
  (Below.cell x.h (p := ⟨b, j, none⟩) (World.block_lt_of_cell? _ _ h)).trans h

set_option maxHeartbeats 1000000 in
theorem sIsNodeInfo_any (id : Int) (nm : ByteArray) (dr : Int) (ps : Bool) (w : World) (hs : nm.size ≤ 1099511627776) :
    Calls Tryz.prog 204 #[.agg #[.int .i64 id, .string nm, .int .i64 dr, .bool ps]] w (RetV w (.bool (isNd ⟨id, nm, dr, ps⟩))) := by
  rcases bool_cases (inR id 0 31) with h1 | h1 <;> rcases bool_cases (nameOk nm) with h2 | h2 <;> rcases bool_cases (inR dr 0 1000) with h3 | h3
  all_goals
    go_enter Tryz.func204, Tryz.ntmps204
    go_wp2_with (first | (go_at_call 167; refine (l05Node_any _ _).mono ?_; rintro e w' ⟨rfl, rfl⟩) | (go_at_call 225; refine (l10Name_any _ _ hs).mono ?_; rintro e w' ⟨rfl, rfl⟩) | (go_at_call 39; refine (l01In_any _ _ _ _).mono ?_; rintro e w' ⟨rfl, rfl⟩))
    go_ret
    exact ⟨ret_bool (by unfold isNd; simp only [h1, h2, h3]; rfl), by go_grown⟩
end Go.Proofs.YtbaojbheopcjhaaGreatDoor

namespace Go.Proofs.YtbaojbheopcjhaaGreatDoor
open Go.RowKit

theorem str_same {a b : ByteArray} (h : a = b) : (a.toList == b.toList) = true := by subst h; exact beq_self_eq_true _
theorem str_other {a b : ByteArray} (h : ¬ a = b) : (a.toList == b.toList) = false := by
  rw [beq_eq_false_iff_ne]
  intro e
  rw [Lib.toList_data, Lib.toList_data] at e
  obtain ⟨⟨x⟩⟩ := a
  obtain ⟨⟨y⟩⟩ := b
  exact h (by simpa using e)
theorem any_no {l : List Nd} {k : Nat} {s : ByteArray} (hk : k ≤ l.length) (h : ∀ i, i < k → ¬ (ge l i).nm = s) : (l.take k).any (fun y => decide (y.nm = s)) = false := by
  rw [List.any_eq_false]
  intro y hy
  obtain ⟨i, hi, e⟩ := List.mem_iff_getElem.1 hy
  rw [List.length_take] at hi
  rw [List.getElem_take] at e
  have := h i (by omega)
  rw [ge_lt (by omega), e] at this
  simpa using this
theorem any_yes {l : List Nd} {k i : Nat} {s : ByteArray} (hk : k ≤ l.length) (hi : i < k) (h : (ge l i).nm = s) : (l.take k).any (fun y => decide (y.nm = s)) = true := by
  rw [List.any_eq_true]
  refine ⟨ge l i, ?_, by simpa using h⟩
  rw [ge_lt (by omega)]
  rw [List.mem_iff_getElem]
  exact ⟨i, by rw [List.length_take]; omega, by rw [List.getElem_take]⟩

theorem sNd_is {x : Nd} {b : Bool} (h : isNd x = b) (w : World) (hs : x.nm.size ≤ 1099511627776) :
    Calls Tryz.prog 204 #[.agg #[.int .i64 x.id, .string x.nm, .int .i64 x.dr, .bool x.ps]] w (RetV w (.bool b)) := by
  have := sIsNodeInfo_any x.id x.nm x.dr x.ps w hs
  rw [show isNd ⟨x.id, x.nm, x.dr, x.ps⟩ = b from h] at this
  exact this

set_option maxHeartbeats 4000000 in
theorem sIsNodeTable_any (A : Option Addr) (n c : Nat) (l : List Nd) (w : World) (h : RE encNd 4 w w.heap.size A n l) (hn : n ≤ 1099511627776) (hx : ∀ i, i < n → (ge l i).nm.size ≤ 1099511627776) :
    Calls Tryz.prog 159 #[.slice A n c] w (RetV w (.bool (isNT l))) := by
  have L := Lib.hid h.len
  rcases bool_cases (inR (n : Int) 1 32) with hl | hl
  case inr =>
    have HL := Lib.hid hl
    go_enter Tryz.func159, Tryz.ntmps159
    go_wp2_with (go_at_call 39; refine (l01In_no hl _).mono ?_; rintro e w' ⟨rfl, rfl⟩)
    go_ret
    exact ⟨ret_bool (by have := inR_no.1 HL.out; unfold isNT; rw [L.out]; simp; omega), Below.refl _ _⟩
  have HL := Lib.hid hl
  go_enter Tryz.func159, Tryz.ntmps159
  go_wp2_with (go_at_call 39; refine (l01In_yes hl _).mono ?_; rintro e w' ⟨rfl, rfl⟩)
  clear hl
  go_loopw [3] (fun i wr => ∃ k : Nat, k ≤ n ∧ i = .int .i64 k ∧ ntTo l k = true ∧ Below w.heap.size w wr) (fun i _ => n - (intOf i).toNat)
  case atStart => exact ⟨0, Nat.zero_le _, rfl, rfl, Below.refl _ _⟩
  case round =>
    obtain ⟨k, hk, rfl, hall, hb⟩ := hrel
    have Hall := Lib.hid hall
    clear hall
    by_cases hlt : k < n
    · obtain ⟨b, o, rfl, hbl, hc⟩ := (h.below hb (Nat.le_refl _)).get (by omega)
      have hc0 := hc k hlt 0 _ rfl
      have hc1 := hc k hlt 1 _ rfl
      have hc2 := hc k hlt 2 _ rfl
      have hc3 := hc k hlt 3 _ rfl
      have hp0 := hc (k - 1) (by omega) 0 _ rfl
      have HC := Lib.hid hc
      clear hc
      rw [Nat.add_zero] at hc0 hp0
      have hs := hx k hlt
      have q0 : ∀ x : Cls (GB wr), x.w.cell? ⟨b, o + k * 4, none⟩ = some (.int .i64 (ge l k).id) := fun x => GB.c x hc0
      have q1 : ∀ x : Cls (GB wr), x.w.cell? ⟨b, o + k * 4 + 1, none⟩ = some (.string (ge l k).nm) := fun x => GB.c x hc1
      have q2 : ∀ x : Cls (GB wr), x.w.cell? ⟨b, o + k * 4 + 2, none⟩ = some (.int .i64 (ge l k).dr) := fun x => GB.c x hc2
      have q3 : ∀ x : Cls (GB wr), x.w.cell? ⟨b, o + k * 4 + 3, none⟩ = some (.bool (ge l k).ps) := fun x => GB.c x hc3
      have q4 : ∀ x : Cls (GB wr), x.w.cell? ⟨b, o + (k - 1) * 4, none⟩ = some (.int .i64 (ge l (k - 1)).id) := fun x => GB.c x hp0
      have hV0 : GB wr wr.drew := (Below.refl _ _).drew
      haveI hne : Nonempty (Cls (GB wr)) := ⟨⟨_, hV0⟩⟩
      rcases bool_cases (isNd (ge l k)) with hnd | hnd
      case inr =>
        have HND := Lib.hid hnd
        go_wp2_with fail
        refine wp_region_cls (GB wr) (by kernel_rfl) (by kernel_rfl) hV0 ?_
        repeat (go_big_quiet_step (first | (go_at_call 204; rename_i x; exact cls_call (fun h1 h2 => GB.next h1 h2) (sNd_is hnd _ hs))))
        refine wpQuiet_nil ?_
        rintro _ ⟨x, rfl⟩
        have hv := below_next (w1 := wr) x.h hb (Nat.le_refl _)
        go_wp2
        go_ret
        exact ⟨ret_bool (isNT_no (by rw [L.out]; exact hlt) (by unfold ntAt; rw [HND.out]; rfl)).symm, hv⟩
      have HND := Lib.hid hnd
      by_cases hk0 : k = 0
      · subst hk0
        rw [Nat.zero_mul, Nat.add_zero] at hc0 q0
        rw [Nat.zero_mul, Nat.add_zero] at hc1 q1 hc2 q2 hc3 q3
        go_wp2_with fail
        refine wp_region_cls (GB wr) (by kernel_rfl) (by kernel_rfl) hV0 ?_
        repeat (go_big_quiet_step (first | (go_at_call 204; rename_i x; exact cls_call (fun h1 h2 => GB.next h1 h2) (sNd_is hnd _ hs))))
        refine wpQuiet_nil ?_
        rintro _ ⟨x, rfl⟩
        have hv := below_next (w1 := wr) x.h hb (Nat.le_refl _)
        clear q0 q1 q2 q3 q4
        go_wp2_with fail
        go_loopw [4] (fun i wi => ∃ m : Nat, m ≤ 0 ∧ i = .int .i64 m ∧ (∀ i, i < m → ¬ (ge l i).nm = (ge l 0).nm) ∧ Below w.heap.size w wi) (fun i _ => 0 - (intOf i).toNat)
        case atStart => exact ⟨0, Nat.zero_le _, rfl, fun i hi => absurd hi (by omega), hv⟩
        case round =>
          obtain ⟨m, hm, rfl, hne2, hbi⟩ := hrel
          have HN := Lib.hid hne2
          clear hne2
          by_cases hmk : m < 0
          · exact absurd hmk (Nat.not_lt_zero _)
          · have hmk2 : m = 0 := by omega
            have HA := Lib.hid (any_no (l := l) (k := 0) (s := (ge l 0).nm) (by rw [L.out]; omega) (fun i hi => HN.out i (by omega)))
            clear hmk2
            go_wp2
            go_roundw
            case rel => exact ⟨1, by omega, by go_num, by rw [ntTo_succ, Hall.out]; unfold ntAt; rw [HND.out, HA.out]; simp, hbi⟩
            case measure => simp [intOf]; omega
      have hk1 : 0 < k := by omega
      by_cases hg : (ge l k).id ≤ (ge l (k - 1)).id
      · have HG := Lib.hid hg
        go_wp2_with fail
        refine wp_region_cls (GB wr) (by kernel_rfl) (by kernel_rfl) hV0 ?_
        repeat (go_big_quiet_step (first | (go_at_call 204; rename_i x; exact cls_call (fun h1 h2 => GB.next h1 h2) (sNd_is hnd _ hs))))
        refine wpQuiet_nil ?_
        rintro _ ⟨x, rfl⟩
        have hv := below_next (w1 := wr) x.h hb (Nat.le_refl _)
        clear q0 q1 q2 q3 q4
        go_wp2
        go_ret
        exact ⟨ret_bool (isNT_no (by rw [L.out]; exact hlt) (by unfold ntAt; rw [HND.out]; have := HG.out; simp; omega)).symm, hv⟩
      · have HG := Lib.hid hg
        go_wp2_with fail
        refine wp_region_cls (GB wr) (by kernel_rfl) (by kernel_rfl) hV0 ?_
        repeat (go_big_quiet_step (first | (go_at_call 204; rename_i x; exact cls_call (fun h1 h2 => GB.next h1 h2) (sNd_is hnd _ hs))))
        refine wpQuiet_nil ?_
        rintro _ ⟨x, rfl⟩
        have hv := below_next (w1 := wr) x.h hb (Nat.le_refl _)
        clear q0 q1 q2 q3 q4
        go_wp2_with fail
        go_loopw [4] (fun i wi => ∃ m : Nat, m ≤ k ∧ i = .int .i64 m ∧ (∀ i, i < m → ¬ (ge l i).nm = (ge l k).nm) ∧ Below w.heap.size w wi) (fun i _ => k - (intOf i).toNat)
        case atStart => exact ⟨0, Nat.zero_le _, rfl, fun i hi => absurd hi (by omega), hv⟩
        case round =>
          obtain ⟨m, hm, rfl, hne2, hbi⟩ := hrel
          have HN := Lib.hid hne2
          clear hne2
          by_cases hmk : m < k
          · obtain ⟨b2, o2, e2, hbl2, hc2'⟩ := (h.below hbi (Nat.le_refl _)).get (by omega)
            obtain ⟨rfl, rfl⟩ : b = b2 ∧ o = o2 := by simpa using e2
            clear e2
            have hd1 := hc2' k hlt 1 _ rfl
            have hd2 := hc2' m (by omega) 1 _ rfl
            clear hc2'
            by_cases hnm : (ge l m).nm = (ge l k).nm
            · have HM := Lib.hid hnm
              have bq := str_same hnm
              clear hnm
              go_wp2_with fail
              go_quiet (fail)
              go_wp2
              go_ret
              exact ⟨ret_bool (isNT_no (by rw [L.out]; exact hlt) (by unfold ntAt; rw [any_yes (by rw [L.out]; omega) hmk HM.out]; simp)).symm, below_drewN hbi _⟩
            · have HM := Lib.hid hnm
              have bq := str_other hnm
              clear hnm
              go_wp2_with fail
              go_quiet (fail)
              go_wp2
              go_roundw
              case rel => exact ⟨m + 1, by omega, by go_num, fun i hi => by
                by_cases him : i = m
                · subst him; exact HM.out
                · exact HN.out i (by omega), below_drewN hbi _⟩
              case measure => simp [intOf]; omega
          · have hmk2 : m = k := by omega
            have HA := Lib.hid (any_no (l := l) (k := k) (s := (ge l k).nm) (by rw [L.out]; omega) (fun i hi => HN.out i (by omega)))
            clear hmk2
            go_wp2
            go_roundw
            case rel => exact ⟨k + 1, by omega, by go_num, by rw [ntTo_succ, Hall.out]; unfold ntAt; rw [HND.out, HA.out]; simp; have := HG.out; omega, hbi⟩
            case measure => simp [intOf]; omega
    · have hkn : k = n := by omega
      have hz : ntTo l l.length = true := by rw [L.out, ← hkn]; exact Hall.out
      have Hz := Lib.hid hz
      clear hz hkn
      go_wp2
      go_ret
      exact ⟨ret_bool (by have := inR_iff.1 HL.out; unfold isNT; rw [Hz.out, L.out]; simp; omega), hb⟩
end Go.Proofs.YtbaojbheopcjhaaGreatDoor

namespace Go.Proofs.YtbaojbheopcjhaaGreatDoor
open Go.RowKit

set_option maxHeartbeats 4000000 in
theorem l01Has_any (A : Option Addr) (n c : Nat) (zs : List Int) (v : Int) (w : World) (h : RI w w.heap.size A n zs) (hn : n ≤ 1099511627776) :
    Calls Tryz.prog 206 #[.slice A n c, .int .i64 v] w fun e w' => e = .returned (.bool (decide (v ∈ zs))) ∧ w = w' := by
  have L := Lib.hid h.len
  go_enter Tryz.func206, Tryz.ntmps206
  go_wp2
  go_loop [5] (fun i => ∃ k : Nat, k ≤ n ∧ i = .int .i64 k ∧ ∀ j, j < k → gi zs j ≠ v) (fun i => n - (intOf i).toNat)
  case atStart => exact ⟨0, Nat.zero_le _, rfl, fun j hj => absurd hj (by omega)⟩
  case round =>
    obtain ⟨k, hk, rfl, hno⟩ := hrel
    have HNO := Lib.hid hno
    clear hno
    by_cases hlt : k < n
    · obtain ⟨b, o, rfl, _, hc⟩ := h.get (by omega)
      have hcell := hc k hlt
      clear hc
      by_cases hv : gi zs k = v
      · have hm : v ∈ zs := by rw [← hv]; exact mem_gi (by rw [L.out]; exact hlt)
        have HM := Lib.hid hm
        have bv : (gi zs k == v) = true := by simp [hv]
        clear hv hm
        go_wp2
        go_ret
        exact ⟨ret_bool (by simp [HM.out]), rfl⟩
      · have HV := Lib.hid hv
        have bv : (gi zs k == v) = false := by simp [hv]
        clear hv
        go_wp2
        go_round
        case rel => exact ⟨k + 1, by omega, by go_num, fun j hj => by
          by_cases hjk : j = k
          · subst hjk; exact HV.out
          · exact HNO.out j (by omega)⟩
        case measure => simp [intOf]; omega
    · have hkn : k = n := by omega
      have hm : ¬ v ∈ zs := by
        intro hm
        obtain ⟨j, hj, hjv⟩ := List.getElem_of_mem hm
        exact HNO.out j (by rw [hkn, ← L.out]; exact hj) (by rw [gi_lt hj, hjv])
      have HM := Lib.hid hm
      clear hkn hm
      go_wp2
      go_ret
      exact ⟨ret_bool (by simp [HM.out]), rfl⟩

set_option maxHeartbeats 4000000 in
theorem indexI_any (A : Option Addr) (n c : Nat) (zs : List Int) (v : Int) (w : World) (h : RI w w.heap.size A n zs) (hn : n ≤ 1099511627776) :
    Calls Tryz.prog 223 #[.slice A n c, .int .i64 v] w fun e w' => (∃ z : Int, e = .returned (.int .i64 z) ∧ decide (0 ≤ z) = decide (v ∈ zs)) ∧ w = w' := by
  have L := Lib.hid h.len
  go_enter Tryz.func223, Tryz.ntmps223
  go_wp2
  go_loop [5, 8] (fun _ i => ∃ k : Nat, k ≤ n ∧ i = .int .i64 k ∧ ∀ j, j < k → gi zs j ≠ v) (fun _ i => n - (intOf i).toNat)
  case atStart => exact ⟨0, Nat.zero_le _, rfl, fun j hj => absurd hj (by omega)⟩
  case round =>
    obtain ⟨k, hk, rfl, hno⟩ := hrel
    have HNO := Lib.hid hno
    clear hno
    by_cases hlt : k < n
    · obtain ⟨b, o, rfl, _, hc⟩ := h.get (by omega)
      have hcell := hc k hlt
      clear hc
      by_cases hv : v = gi zs k
      · have hm : v ∈ zs := by rw [hv]; exact mem_gi (by rw [L.out]; exact hlt)
        have HM := Lib.hid hm
        have bv : (v == gi zs k) = true := by simp [hv]
        clear hv hm
        go_wp2
        go_ret
        exact ⟨⟨k, rfl, by simp [HM.out]⟩, rfl⟩
      · have HV := Lib.hid hv
        have bv : (v == gi zs k) = false := by simp [hv]
        clear hv
        go_wp2
        go_round
        case rel => exact ⟨k + 1, by omega, by go_num, fun j hj => by
          by_cases hjk : j = k
          · subst hjk; exact fun e => HV.out e.symm
          · exact HNO.out j (by omega)⟩
        case measure => simp [intOf]; omega
    · have hm : ¬ v ∈ zs := fun hm => by
        obtain ⟨j, hj, hjv⟩ := List.getElem_of_mem hm
        exact HNO.out j (by have := L.out; omega) (by rw [gi_lt hj, hjv])
      have HM := Lib.hid hm
      clear hm
      go_wp2
      go_ret
      exact ⟨⟨-1, rfl, by simp [HM.out]⟩, rfl⟩
theorem contI_any (A : Option Addr) (n c : Nat) (zs : List Int) (v : Int) (w : World) (h : RI w w.heap.size A n zs) (hn : n ≤ 1099511627776) :
    Calls Tryz.prog 198 #[.slice A n c, .int .i64 v] w fun e w' => e = .returned (.bool (decide (v ∈ zs))) ∧ w = w' := by
  go_enter Tryz.func198, Tryz.ntmps198
  go_wp2_with fail
  refine (indexI_any A n c zs v _ h hn).mono ?_
  rintro e w' ⟨⟨z, rfl, hz⟩, rfl⟩
  have HZ := Lib.hid hz
  clear hz
  go_wp2
  go_ret
  exact ⟨ret_bool HZ.out, rfl⟩

set_option maxHeartbeats 4000000 in
theorem sIsModeTable_any (A : Option Addr) (n c : Nat) (ms : List Mk) (w : World) (h : RM w w.heap.size A n ms) (hn : n ≤ 1099511627776) (hx : ∀ i, i < n → (ge ms i).nx.length ≤ 1099511627776) :
    Calls Tryz.prog 160 #[.slice A n c] w (RetV w (.bool (isMT ms))) := by
  have L := Lib.hid h.len
  rcases bool_cases (inR (n : Int) 1 16) with hl | hl
  case inr =>
    have HL := Lib.hid hl
    go_enter Tryz.func160, Tryz.ntmps160
    go_wp2_with (go_at_call 39; refine (l01In_no hl _).mono ?_; rintro e w' ⟨rfl, rfl⟩)
    go_ret
    exact ⟨ret_bool (by have := inR_no.1 HL.out; unfold isMT; rw [L.out]; simp; omega), Below.refl _ _⟩
  have HL := Lib.hid hl
  go_enter Tryz.func160, Tryz.ntmps160
  go_wp2_with (go_at_call 39; refine (l01In_yes hl _).mono ?_; rintro e w' ⟨rfl, rfl⟩)
  clear hl
  go_loopw [3, 4] (fun i _ wr => ∃ k : Nat, k ≤ n ∧ i = .int .i64 k ∧ mtTo ms k = true ∧ Below w.heap.size w wr) (fun i _ _ => n - (intOf i).toNat)
  case atStart => exact ⟨0, Nat.zero_le _, rfl, rfl, Below.refl _ _⟩
  case round =>
    obtain ⟨k, hk, rfl, hall, hb⟩ := hrel
    have Hall := Lib.hid hall
    clear hall
    by_cases hlt : k < n
    · have HX := Lib.hid (hx k hlt)
      obtain ⟨b, o, A', n', c', rfl, hbl, h0, h1, h2, hm, hr⟩ := (h.below hb (Nat.le_refl _)).get hlt
      have hn' : n' ≤ 1099511627776 := by rw [← hr.len]; exact HX.out
      have hmt : mtAt ms k = (inR (ge ms k).rd 1 8 && (inR (ge ms k).sl 1 16 && (rises (ge ms k).nx n && !decide ((k : Int) ∈ (ge ms k).nx)))) := by unfold mtAt; rw [L.out]
      have HMT := Lib.hid hmt
      clear hmt
      have hr' : RI wr wr.heap.size A' n' (ge ms k).nx := hr.more hb.size
      have hb0 := hb
      rcases (show inR (ge ms k).rd 1 8 = false ∨ (inR (ge ms k).rd 1 8 = true ∧ inR (ge ms k).sl 1 16 = false) ∨ (inR (ge ms k).rd 1 8 = true ∧ inR (ge ms k).sl 1 16 = true ∧ rises (ge ms k).nx n = false)
          ∨ (inR (ge ms k).rd 1 8 = true ∧ inR (ge ms k).sl 1 16 = true ∧ rises (ge ms k).nx n = true ∧ decide ((k : Int) ∈ (ge ms k).nx) = true)
          ∨ (inR (ge ms k).rd 1 8 = true ∧ inR (ge ms k).sl 1 16 = true ∧ rises (ge ms k).nx n = true ∧ decide ((k : Int) ∈ (ge ms k).nx) = false) by
        cases inR (ge ms k).rd 1 8 <;> cases inR (ge ms k).sl 1 16 <;> cases rises (ge ms k).nx n <;> cases decide ((k : Int) ∈ (ge ms k).nx) <;> simp) with b1 | ⟨b1, b2⟩ | ⟨b1, b2, b3⟩ | ⟨b1, b2, b3, b4⟩ | ⟨b1, b2, b3, b4⟩
      all_goals
        go_wp2_with (first
          | (go_at_call 39; refine (l01In_any _ _ _ _).mono ?_; (first | rw [b1] | rw [b2]); rintro e w' ⟨rfl, rfl⟩)
          | (go_at_call 205; refine (l01Rises_any A' n' c' (ge ms k).nx n _ (hr'.up (by go_grown)) hn' (by omega) (by omega)).mono ?_; rw [b3]; rintro e w1 ⟨rfl, hb1⟩; obtain ⟨hc1, hf1⟩ := bcell hb1)
          | (go_at_call 206; refine (l01Has_any A' n' c' (ge ms k).nx k _ ((hr'.up (by go_grown)).up hb1) hn').mono ?_; rw [b4]; rintro e w' ⟨rfl, rfl⟩))
      · go_ret
        exact ⟨ret_bool (isMT_no (by rw [L.out]; exact hlt) (by rw [HMT.out, b1]; rfl)).symm, below_next (w1 := wr) (by go_grown) hb (Nat.le_refl _)⟩
      · go_ret
        exact ⟨ret_bool (isMT_no (by rw [L.out]; exact hlt) (by rw [HMT.out, b1, b2]; rfl)).symm, below_next (w1 := wr) (by go_grown) hb (Nat.le_refl _)⟩
      · go_ret
        exact ⟨ret_bool (isMT_no (by rw [L.out]; exact hlt) (by rw [HMT.out, b1, b2, b3]; rfl)).symm, below_next hb1 (below_next (w1 := wr) (by go_grown) hb (Nat.le_refl _)) (Nat.le_refl _)⟩
      · go_ret
        exact ⟨ret_bool (isMT_no (by rw [L.out]; exact hlt) (by rw [HMT.out, b1, b2, b3, b4]; rfl)).symm, below_next hb1 (below_next (w1 := wr) (by go_grown) hb (Nat.le_refl _)) (Nat.le_refl _)⟩
      · go_roundw
        case rel => exact ⟨k + 1, by omega, by go_num, by rw [mtTo_succ, Hall.out, HMT.out, b1, b2, b3, b4]; rfl, below_next hb1 (below_next (w1 := wr) (by go_grown) hb (Nat.le_refl _)) (Nat.le_refl _)⟩
        case measure => simp [intOf]; omega
    · have hkn : k = n := by omega
      have hz : mtTo ms ms.length = true := by rw [L.out, ← hkn]; exact Hall.out
      have Hz := Lib.hid hz
      clear hz hkn
      go_wp2
      go_ret
      exact ⟨ret_bool (by have := inR_iff.1 HL.out; unfold isMT; rw [Hz.out, L.out]; simp; omega), hb⟩

set_option maxHeartbeats 4000000 in
theorem iIsModeTable_any (A : Option Addr) (n c : Nat) (ms : List Mk) (w : World) (h : RM w w.heap.size A n ms) (hn : n ≤ 1099511627776) (hx : ∀ i, i < n → (ge ms i).nx.length ≤ 1099511627776) :
    Calls Tryz.prog 146 #[.slice A n c] w (RetV w (.bool (isMT ms))) := by
  have L := Lib.hid h.len
  go_enter Tryz.func146, Tryz.ntmps146
  go_wp2
  go_loopw [7, 3, 4] (fun i _ _ wr => ∃ k : Nat, k ≤ n ∧ i = .int .i64 k ∧ mtTo ms k = true ∧ Below w.heap.size w wr) (fun i _ _ _ => n - (intOf i).toNat)
  case atStart => exact ⟨0, Nat.zero_le _, rfl, rfl, Below.refl _ _⟩
  case round =>
    obtain ⟨k, hk, rfl, hall, hb⟩ := hrel
    have Hall := Lib.hid hall
    clear hall
    by_cases hlt : k < n
    · have HX := Lib.hid (hx k hlt)
      obtain ⟨b, o, A', n', c', rfl, hbl, h0, h1, h2, hm, hr⟩ := (h.below hb (Nat.le_refl _)).get hlt
      have hn' : n' ≤ 1099511627776 := by rw [← hr.len]; exact HX.out
      have hmt : mtAt ms k = (inR (ge ms k).rd 1 8 && (inR (ge ms k).sl 1 16 && (rises (ge ms k).nx n && !decide ((k : Int) ∈ (ge ms k).nx)))) := by unfold mtAt; rw [L.out]
      have HMT := Lib.hid hmt
      clear hmt
      have hr' : RI wr wr.heap.size A' n' (ge ms k).nx := hr.more hb.size
      have hb0 := hb
      rcases (show inR (ge ms k).rd 1 8 = false ∨ (inR (ge ms k).rd 1 8 = true ∧ inR (ge ms k).sl 1 16 = false) ∨ (inR (ge ms k).rd 1 8 = true ∧ inR (ge ms k).sl 1 16 = true ∧ rises (ge ms k).nx n = false)
          ∨ (inR (ge ms k).rd 1 8 = true ∧ inR (ge ms k).sl 1 16 = true ∧ rises (ge ms k).nx n = true ∧ decide ((k : Int) ∈ (ge ms k).nx) = true)
          ∨ (inR (ge ms k).rd 1 8 = true ∧ inR (ge ms k).sl 1 16 = true ∧ rises (ge ms k).nx n = true ∧ decide ((k : Int) ∈ (ge ms k).nx) = false) by
        cases inR (ge ms k).rd 1 8 <;> cases inR (ge ms k).sl 1 16 <;> cases rises (ge ms k).nx n <;> cases decide ((k : Int) ∈ (ge ms k).nx) <;> simp) with b1 | ⟨b1, b2⟩ | ⟨b1, b2, b3⟩ | ⟨b1, b2, b3, b4⟩ | ⟨b1, b2, b3, b4⟩
      all_goals
        go_wp2_with (first
          | (go_at_call 32; refine (within_any _ _ _ _).mono ?_; (first | rw [b1] | rw [b2]); rintro e w' ⟨rfl, rfl⟩)
          | (go_at_call 197; refine (isRising_any A' n' c' (ge ms k).nx n _ (hr'.up (by go_grown)) hn' (by omega) (by omega)).mono ?_; rw [b3]; rintro e w1 ⟨rfl, hb1⟩; obtain ⟨hc1, hf1⟩ := bcell hb1)
          | (go_at_call 198; refine (contI_any A' n' c' (ge ms k).nx k _ ((hr'.up (by go_grown)).up hb1) hn').mono ?_; rw [b4]; rintro e w' ⟨rfl, rfl⟩))
      · go_ret
        exact ⟨ret_bool (isMT_no (by rw [L.out]; exact hlt) (by rw [HMT.out, b1]; rfl)).symm, below_next (w1 := wr) (by go_grown) hb (Nat.le_refl _)⟩
      · go_ret
        exact ⟨ret_bool (isMT_no (by rw [L.out]; exact hlt) (by rw [HMT.out, b1, b2]; rfl)).symm, below_next (w1 := wr) (by go_grown) hb (Nat.le_refl _)⟩
      · go_ret
        exact ⟨ret_bool (isMT_no (by rw [L.out]; exact hlt) (by rw [HMT.out, b1, b2, b3]; rfl)).symm, below_next hb1 (below_next (w1 := wr) (by go_grown) hb (Nat.le_refl _)) (Nat.le_refl _)⟩
      · go_ret
        exact ⟨ret_bool (isMT_no (by rw [L.out]; exact hlt) (by rw [HMT.out, b1, b2, b3, b4]; rfl)).symm, below_next hb1 (below_next (w1 := wr) (by go_grown) hb (Nat.le_refl _)) (Nat.le_refl _)⟩
      · go_roundw
        case rel => exact ⟨k + 1, by omega, by go_num, by rw [mtTo_succ, Hall.out, HMT.out, b1, b2, b3, b4]; rfl, below_next hb1 (below_next (w1 := wr) (by go_grown) hb (Nat.le_refl _)) (Nat.le_refl _)⟩
        case measure => simp [intOf]; omega
    · have hkn : k = n := by omega
      have hz : mtTo ms ms.length = true := by rw [L.out, ← hkn]; exact Hall.out
      have Hz := Lib.hid hz
      clear hz hkn
      by_cases h1 : 1 ≤ n
      · by_cases h2 : n ≤ 16
        all_goals
          go_wp2
          go_ret
          exact ⟨ret_bool (by unfold isMT; rw [Hz.out, L.out, Bool.and_true, decide_eq_true h1, Bool.true_and, decide_eq_decide]; omega), hb⟩
      · go_wp2
        go_ret
        exact ⟨ret_bool (by unfold isMT; rw [Hz.out, L.out]; simp; omega), hb⟩
end Go.Proofs.YtbaojbheopcjhaaGreatDoor
