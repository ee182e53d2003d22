/- The walks of the program's number and numbersIn. Conditions: texts of at most 2^20 bytes; the library's variables hold what its text lays. -/
import Derived.Test.YtojmikalnalfbaaGreatDoorTxGC
import Derived.Test.YtojmikalnalfbaaGreatDoorTxRC
import Derived.Test.YtojmikalnalfbaaGreatDoorShC
import Derived.Lib.ParseIntBTie
import Derived.Lib.SmallJoins
namespace Go.Proofs.YtojmikalnalfbaaGreatDoor
open Go.Lib Go.RowKit

/-- the variable holds an interface value, not nil -/
def SomeErr (w : World) (nm : String) : Prop := ∃ tp p, w.var? Tryz.prog nm = some #[.iface tp p]
/-- what the library's variables hold, now and in every later world -/
structure LF (w : World) : Prop where
  tb : TB w
  er : ∀ w', Below w.heap.size w w' → SomeErr w' "strconv.ErrSyntax" ∧ SomeErr w' "strconv.ErrRange" ∧ ∃ m, w'.cell? ⟨0, 0, none⟩ = some (.int .i64 m)
theorem LF.up {w w' : World} (h : LF w) (hb : Below w.heap.size w w') : LF w' := ⟨h.tb.up hb, fun w'' h' => h.er w'' (below_next h' hb (Nat.le_refl _))⟩

set_option maxHeartbeats 1000000 in
theorem text_int (v : Int) (h0 : -9223372036854775808 ≤ v) (h1 : v ≤ 9223372036854775807) (w : World) (ht : TB w) :
    Calls Tryz.prog 37 #[.int .i64 v] w (RetV w (.string ⟨(itoa v).toArray⟩)) := by
  have hT := ht.here
  go_enter Tryz.func37, Tryz.ntmps37
  go_wp2_with (go_at_call 69; refine (Tryz.strconv_FormatInt_10 v h0 h1 _ hT).mono ?_; rintro e w1 ⟨rfl, k, os, rfl⟩)
  go_ret
  exact ⟨rfl, Lib.below_grow _ _ (Nat.le_refl _) _ _⟩
theorem iNum_ok {l : List UInt8} {v : Int} (h : parseIntB 64 l = .ok v) : iNum l = (v, decide (itoa v = l)) := by unfold iNum; rw [h]
theorem iNum_rng {l : List UInt8} (h : parseIntB 64 l = .range) : iNum l = (intSat 64 l, false) := by unfold iNum; rw [h]

set_option maxRecDepth 20000 in
set_option maxHeartbeats 8000000 in
theorem number_any (s : ByteArray) (hs : s.size ≤ 1048576) (w : World) (hl : LF w) :
    Calls Tryz.prog 71 #[.string s] w (RetV w (.tuple #[.int .i64 (iNum s.data.toList).1, .bool (iNum s.data.toList).2])) := by
  cases hp : parseIntB 64 s.data.toList with
  | ok v =>
    have E := Lib.hid (iNum_ok hp)
    have hc := Tryz.strconv_ParseInt_10_at64_ok s (by omega) v hp w
    obtain ⟨hv0, hv1⟩ := parseIntB_bounds hp
    have hv0' : -9223372036854775808 ≤ v := by simpa using hv0
    have hv1' : v ≤ 9223372036854775807 := by have : v < 9223372036854775808 := by simpa using hv1
                                              omega
    have HC := Lib.hid hc
    have HL := Lib.hid hl
    clear hc hp hl hv0 hv1
    go_enter Tryz.func71, Tryz.ntmps71
    go_wp2_with fail
    refine HC.out.mono ?_
    intro e w1 h1
    have hb1 : Below w.heap.size w w1 := by
      rcases h1.2 with rfl | ⟨t, rfl⟩
      · exact Below.refl _ _
      · exact Joins.below_bytesWorld _ _ _ _ (Nat.le_refl _)
    obtain ⟨rfl, _⟩ := h1
    have HT := Lib.hid (HL.out.tb.up hb1)
    go_wp2_with fail
    refine (text_int v hv0' hv1' _ HT.out).mono ?_
    rintro e w2 ⟨rfl, hb2⟩
    go_wp2_with fail
    go_ret2
    rw [E.out]
    refine ⟨?_, below_next hb2 hb1 (Nat.le_refl _)⟩
    have hbe : (itoa v == s.toList) = decide (itoa v = s.data.toList) := by
      rw [Lib.toList_data]
      rw [Bool.eq_iff_iff, beq_iff_eq, decide_eq_true_iff]
    rw [← hbe]
    rfl
  | range =>
    have E := Lib.hid (iNum_rng hp)
    obtain ⟨_, ⟨tp, p, hv⟩, _⟩ := hl.er w (Below.refl _ _)
    have HC := Lib.hid (Tryz.strconv_ParseInt_10_at64_range_var s (by omega) hp tp p w hv)
    obtain ⟨q, hq⟩ : ∃ q, intSat 64 s.data.toList = q := ⟨_, rfl⟩
    rw [hq] at E HC
    clear hp hl hv hq
    go_enter Tryz.func71, Tryz.ntmps71
    go_wp2_with fail
    refine HC.out.mono ?_
    rintro e w1 ⟨N, rfl, _, _, hb1⟩
    go_wp2_with fail
    go_ret2
    rw [E.out]
    exact ⟨rfl, hb1⟩
  | _ =>
    have E := Lib.hid (show iNum s.data.toList = (0, false) by unfold iNum; rw [hp])
    obtain ⟨⟨tp, p, hv⟩, _⟩ := hl.er w (Below.refl _ _)
    have HC := Lib.hid (Tryz.strconv_ParseInt_10_at64_syntax_var s (by omega) hp tp p w hv)
    clear hp hl hv
    go_enter Tryz.func71, Tryz.ntmps71
    go_wp2_with fail
    refine HC.out.mono ?_
    rintro e w1 ⟨N, rfl, _, _, hb1⟩
    go_wp2_with fail
    go_ret2
    rw [E.out]
    exact ⟨rfl, hb1⟩
end Go.Proofs.YtojmikalnalfbaaGreatDoor
