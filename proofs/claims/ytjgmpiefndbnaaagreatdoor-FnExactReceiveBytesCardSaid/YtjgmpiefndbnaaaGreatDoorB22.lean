/- Walks, laws and small notions for the claims of this seat, several texts as one (Mg). Conditions: as each theorem states them. -/
import Derived.Test.YtjgmpiefndbnaaaGreatDoorB21
import Derived.Test.YtjgmpiefndbnaaaGreatDoorB14
import Derived.Test.YtjgmpiefndbnaaaGreatDoorB2
import Derived.Test.YtjgmpiefndbnaaaGreatDoorB19
namespace Go.Proofs.YtjgmpiefndbnaaaGreatDoor
open Go.RowKit

set_option maxHeartbeats 2000000 in
theorem markFrO_any (k r t m d s b : Int) (A : Option Addr) (n c base : Nat) (zs : List Int) (q : Int) (w : World) (h : OwnI 2 w base A n c zs) (hn : n ≤ 1099511627776) (hq : 0 ≤ q) (hq2 : q ≤ 1099511627776) :
    Calls Tryz.prog 31 #[.agg #[.int .i64 k, .int .i64 r, .int .i64 t, .int .i64 m, .int .i64 d, .int .i64 s, .int .i64 b, .slice A n c], .int .i64 q] w fun e w' => e = .returned (.int .i64 (q + n)) ∧ OwnI 2 w' base A n c (marks q n) ∧ w.grownBy w' (Value.slice A n c).ownBlock := by
  obtain ⟨w0, hw0⟩ : ∃ v, v = w.alloc (.cells #[.int .i64 k, .int .i64 r, .int .i64 t, .int .i64 m, .int .i64 d, .int .i64 s, .int .i64 b, .slice A n c] 48) := ⟨_, rfl⟩
  have k0 : BlkL w0 w.heap.size 48 [.int .i64 k, .int .i64 r, .int .i64 t, .int .i64 m, .int .i64 d, .int .i64 s, .int .i64 b, .slice A n c] := by rw [hw0]; exact BlkL.new _ _ _ rfl
  have G0 := Lib.hid (show w.grownBy w0 (Value.slice A n c).ownBlock by rw [hw0]; exact World.grownBy_alloc w _ _)
  have H0 := Lib.hid (show OwnI 2 w0 base A n c zs by rw [hw0]; exact h.alloc _)
  have c7 := k0.c 7 rfl
  clear k0 h
  go_enter Tryz.func31, Tryz.ntmps31
  go_wp2_with fail
  rw [← hw0]
  clear hw0
  refine (markInt64S_any A n c base zs q _ H0.out hn hq hq2).mono ?_
  rintro e w1 ⟨rfl, ho, hg⟩
  have HO := Lib.hid ho
  have HG := Lib.hid (G0.out.trans hg)
  clear ho hg
  go_wp2
  go_ret
  exact ⟨rfl, HO.out, HG.out⟩

set_option maxHeartbeats 2000000 in
theorem heldFr_any (k r t m d s b : Int) (A : Option Addr) (n c : Nat) (q : Int) (w : World) (h : RI w w.heap.size A n (marks q n)) (hn : n ≤ 1099511627776) (hq : 0 ≤ q) (hq2 : q ≤ 1099511627776) :
    Calls Tryz.prog 86 #[.agg #[.int .i64 k, .int .i64 r, .int .i64 t, .int .i64 m, .int .i64 d, .int .i64 s, .int .i64 b, .slice A n c], .int .i64 q] w (RetV w (.int .i64 (q + n))) := by
  obtain ⟨w0, hw0⟩ : ∃ v, v = w.alloc (.cells #[.int .i64 k, .int .i64 r, .int .i64 t, .int .i64 m, .int .i64 d, .int .i64 s, .int .i64 b, .slice A n c] 48) := ⟨_, rfl⟩
  have k0 : BlkL w0 w.heap.size 48 [.int .i64 k, .int .i64 r, .int .i64 t, .int .i64 m, .int .i64 d, .int .i64 s, .int .i64 b, .slice A n c] := by rw [hw0]; exact BlkL.new _ _ _ rfl
  have gb : Below w.heap.size w w0 := by rw [hw0]; go_grown
  have H0 := Lib.hid (h.up gb)
  have c7 := k0.c 7 rfl
  clear k0 h
  have hpos : ¬ (q + (n : Int)) < 0 := by omega
  go_enter Tryz.func86, Tryz.ntmps86
  go_wp2_with fail
  rw [← hw0]
  clear hw0
  refine (heldInt64S_any A n c q _ H0.out hn hq hq2).mono ?_
  rintro e w1 ⟨rfl, rfl⟩
  go_wp2
  go_ret
  exact ⟨rfl, gb⟩

/-- boxes stay where a row of another type turns -/
theorem LW.kept {w v v' : World} {bs : List (Nat × TypeId × List Value)} {base n c : Nat} {T2 : TypeId} {A : Option Addr} {zs : List Int} (h : LW w bs v) (hT : ∀ (i : Nat) (b : Nat × TypeId × List Value), bs[i]? = some b → b.2.1 ≠ T2) (ho : OwnI T2 v base A n c zs) (hbase : w.heap.size ≤ base) (hg : v.grownBy v' (Value.slice A n c).ownBlock) : LW w bs v' :=
  ⟨fun i b e => (h.bx i b e).keptRow (hT i b e) ho hg, h.bel.grown hg h.bel.size (fun g e => Nat.le_trans hbase (own_row ho g e).1)⟩
theorem ffL_len (M : Mdl) (t md rn sl mb fl rq : Int) : (if codeFF M t md rn sl mb fl rq = 0 then frL M md rn sl fl else []).length ≤ 32 := by
  by_cases h : codeFF M t md rn sl mb fl rq = 0
  · rw [if_pos h]
    unfold codeFF at h
    rcases codeM_cases M t md rn sl mb with h1 | h1 | ⟨h1, hi1, hi2⟩
    · rw [h1, if_neg (by decide)] at h; omega
    · rw [h1, if_neg (by decide)] at h; omega
    · have hbd := isSl_bd (isST_sl (isMedl_nt hi1).2.2.1 (bel_find hi1 hi2))
      unfold frL
      rw [List.length_replicate]
      omega
  · rw [if_neg h]; simp
theorem sFF_any (m : Mdv) (M : Mdl) (t md rn sl mb fl rq : Int) (w : World) (h : RD w w.heap.size m M) (hx : RX m M) : Calls Tryz.prog 42 #[.agg #[.int .i64 m.id, .slice m.An m.nn m.cn, .slice m.Am m.nm m.cm, .slice m.As m.ns m.cs], .agg #[.int .i64 t, .int .i64 md, .int .i64 rn, .int .i64 sl, .int .i64 mb], .int .i64 fl, .int .i64 rq] w
    (RetFC w (ifz (codeFF M t md rn sl mb fl rq) (ge M.ss (findI M.ss md rn sl)).kd) (ifz (codeFF M t md rn sl mb fl rq) rq) (ifz (codeFF M t md rn sl mb fl rq) (stF (frB M md rn sl) t)) (ifz (codeFF M t md rn sl mb fl rq) (stF (frB M md rn sl) md)) (ifz (codeFF M t md rn sl mb fl rq) (stF (frB M md rn sl) rn)) (ifz (codeFF M t md rn sl mb fl rq) (stF (frB M md rn sl) sl)) (ifz (codeFF M t md rn sl mb fl rq) (stF (frB M md rn sl) mb)) (if codeFF M t md rn sl mb fl rq = 0 then frL M md rn sl fl else []) (codeFF M t md rn sl mb fl rq)) := sFrameFor_any m M t md rn sl mb fl rq w h hx
end Go.Proofs.YtjgmpiefndbnaaaGreatDoor
