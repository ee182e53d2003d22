/- The faults of the law FnFaults as one notion that is carried from world to world, and the contracts said of one fault. Conditions: lists of at most 2^40 numbers. -/
import Derived.Test.YtojmikalnalfbaaGreatDoorB7
import Derived.Test.YtojmikalnalfbaaGreatDoorB35
import Derived.Test.YtojmikalnalfbaaGreatDoorTxIC
import Derived.Test.YtojmikalnalfbaaGreatDoorTxFC
import Derived.Test.YtojmikalnalfbaaGreatDoorB1
namespace Go.Proofs.YtojmikalnalfbaaGreatDoor
open Go.RowKit
structure FSt (w0 : World) (m bf bu bd by_ bz bw : Nat) (f u y z : Flt) (A1 A2 A3 : Option Addr) (n1 c1 n2 c2 n3 c3 : Nat) (z1 z2 : List Int) (v : World) : Prop where
  bel : Below m w0 v
  kbf : BlkL v bf 26 [.int .i64 f.kd, .int .i64 f.pos, .int .i64 f.len, .int .i64 f.val]
  kbu : BlkL v bu 26 [.int .i64 u.kd, .int .i64 u.pos, .int .i64 u.len, .int .i64 u.val]
  kbd : BlkL v bd 26 [.int .i64 u.kd, .int .i64 u.pos, .int .i64 u.len, .int .i64 u.val]
  kby_ : BlkL v by_ 26 [.int .i64 y.kd, .int .i64 y.pos, .int .i64 y.len, .int .i64 y.val]
  kbz : BlkL v bz 26 [.int .i64 z.kd, .int .i64 z.pos, .int .i64 z.len, .int .i64 z.val]
  kbw : BlkL v bw 26 [.int .i64 z.kd, .int .i64 z.pos, .int .i64 z.len, .int .i64 z.val]
  r1 : RI v v.heap.size A1 n1 z1
  r2 : RI v v.heap.size A2 n2 z2
  r3 : RI v v.heap.size A3 n3 z2
  hm : m ≤ w0.heap.size
theorem FSt.next {w0 : World} {m bf bu bd by_ bz bw : Nat} {f u y z : Flt} {A1 A2 A3 : Option Addr} {n1 c1 n2 c2 n3 c3 : Nat} {z1 z2 : List Int} {v v2 : World} (h : FSt w0 m bf bu bd by_ bz bw f u y z A1 A2 A3 n1 c1 n2 c2 n3 c3 z1 z2 v) (hb : Below v.heap.size v v2) : FSt w0 m bf bu bd by_ bz bw f u y z A1 A2 A3 n1 c1 n2 c2 n3 c3 z1 z2 v2 :=
  ⟨below_next hb h.bel h.hm, h.kbf.next hb, h.kbu.next hb, h.kbd.next hb, h.kby_.next hb, h.kbz.next hb, h.kbw.next hb, h.r1.up hb, h.r2.up hb, h.r3.up hb, h.hm⟩
theorem FSt.drew {w0 : World} {m bf bu bd by_ bz bw : Nat} {f u y z : Flt} {A1 A2 A3 : Option Addr} {n1 c1 n2 c2 n3 c3 : Nat} {z1 z2 : List Int} {v : World} (h : FSt w0 m bf bu bd by_ bz bw f u y z A1 A2 A3 n1 c1 n2 c2 n3 c3 z1 z2 v) : FSt w0 m bf bu bd by_ bz bw f u y z A1 A2 A3 n1 c1 n2 c2 n3 c3 z1 z2 v.drew := ⟨h.bel.drew, h.kbf, h.kbu, h.kbd, h.kby_, h.kbz, h.kbw, h.r1, h.r2, h.r3, h.hm⟩
theorem FSt.cells {w0 : World} {m bf bu bd by_ bz bw : Nat} {f u y z : Flt} {A1 A2 A3 : Option Addr} {n1 c1 n2 c2 n3 c3 : Nat} {z1 z2 : List Int} {v : World} (h : FSt w0 m bf bu bd by_ bz bw f u y z A1 A2 A3 n1 c1 n2 c2 n3 c3 z1 z2 v) : FSt w0 m bf bu bd by_ bz bw f u y z A1 A2 A3 n1 c1 n2 c2 n3 c3 z1 z2 v ∧ v.cell? ⟨bf, 0, none⟩ = some (.int .i64 f.kd) ∧ v.cell? ⟨bf, 1, none⟩ = some (.int .i64 f.pos) ∧ v.cell? ⟨bf, 2, none⟩ = some (.int .i64 f.len) ∧ v.cell? ⟨bf, 3, none⟩ = some (.int .i64 f.val) ∧ v.cell? ⟨bu, 0, none⟩ = some (.int .i64 u.kd) ∧ v.cell? ⟨bu, 1, none⟩ = some (.int .i64 u.pos) ∧ v.cell? ⟨bu, 2, none⟩ = some (.int .i64 u.len) ∧ v.cell? ⟨bu, 3, none⟩ = some (.int .i64 u.val) ∧ v.cell? ⟨bd, 0, none⟩ = some (.int .i64 u.kd) ∧ v.cell? ⟨bd, 1, none⟩ = some (.int .i64 u.pos) ∧ v.cell? ⟨bd, 2, none⟩ = some (.int .i64 u.len) ∧ v.cell? ⟨bd, 3, none⟩ = some (.int .i64 u.val) ∧ v.cell? ⟨by_, 0, none⟩ = some (.int .i64 y.kd) ∧ v.cell? ⟨by_, 1, none⟩ = some (.int .i64 y.pos) ∧ v.cell? ⟨by_, 2, none⟩ = some (.int .i64 y.len) ∧ v.cell? ⟨by_, 3, none⟩ = some (.int .i64 y.val) ∧ v.cell? ⟨bz, 0, none⟩ = some (.int .i64 z.kd) ∧ v.cell? ⟨bz, 1, none⟩ = some (.int .i64 z.pos) ∧ v.cell? ⟨bz, 2, none⟩ = some (.int .i64 z.len) ∧ v.cell? ⟨bz, 3, none⟩ = some (.int .i64 z.val) ∧ v.cell? ⟨bw, 0, none⟩ = some (.int .i64 z.kd) ∧ v.cell? ⟨bw, 1, none⟩ = some (.int .i64 z.pos) ∧ v.cell? ⟨bw, 2, none⟩ = some (.int .i64 z.len) ∧ v.cell? ⟨bw, 3, none⟩ = some (.int .i64 z.val) :=
  ⟨h, h.kbf.c 0 rfl, h.kbf.c 1 rfl, h.kbf.c 2 rfl, h.kbf.c 3 rfl, h.kbu.c 0 rfl, h.kbu.c 1 rfl, h.kbu.c 2 rfl, h.kbu.c 3 rfl, h.kbd.c 0 rfl, h.kbd.c 1 rfl, h.kbd.c 2 rfl, h.kbd.c 3 rfl, h.kby_.c 0 rfl, h.kby_.c 1 rfl, h.kby_.c 2 rfl, h.kby_.c 3 rfl, h.kbz.c 0 rfl, h.kbz.c 1 rfl, h.kbz.c 2 rfl, h.kbz.c 3 rfl, h.kbw.c 0 rfl, h.kbw.c 1 rfl, h.kbw.c 2 rfl, h.kbw.c 3 rfl⟩
theorem apI (A : Option Addr) (n c : Nat) (zs : List Int) (f : Flt) (w : World) (h : RI w w.heap.size A n zs) (hn : n ≤ 1099511627776) (hA : A = none → c = 0) : Calls Tryz.prog 7 #[.slice A n c, .agg #[.int .i64 f.kd, .int .i64 f.pos, .int .i64 f.len, .int .i64 f.val]] w (RetIC 2 w (ApplyFault.res zs f) (ApplyFault.cod zs f)) := ApplyFault.impl_any A n c zs f.kd f.pos f.len f.val w h hn hA
theorem apS (A : Option Addr) (n c : Nat) (zs : List Int) (f : Flt) (w : World) (h : RI w w.heap.size A n zs) (hn : n ≤ 1099511627776) (hA : Pl A c) (hnc : n ≤ c) (hcm : c ≤ maxLen) : Calls Tryz.prog 8 #[.slice A n c, .agg #[.int .i64 f.kd, .int .i64 f.pos, .int .i64 f.len, .int .i64 f.val]] w (RetIC 2 w (ApplyFault.res zs f) (ApplyFault.cod zs f)) := ApplyFault.spec_any A n c zs f.kd f.pos f.len f.val w h hn hA hnc hcm
theorem unI (A : Option Addr) (n c : Nat) (zs : List Int) (f u : Flt) (ok : Bool) (w : World) (h : RI w w.heap.size A n zs) (hn : n ≤ 1099511627776) (hu : UndoFault.undo n (isBits zs) f = ⟨u, ok⟩) : Calls Tryz.prog 9 #[.slice A n c, .agg #[.int .i64 f.kd, .int .i64 f.pos, .int .i64 f.len, .int .i64 f.val]] w (RetV w (.tuple #[.agg #[.int .i64 u.kd, .int .i64 u.pos, .int .i64 u.len, .int .i64 u.val], .bool ok])) := by
  have k := UndoFault.impl_any A n c zs f.kd f.pos f.len f.val w h hn
  have e : UndoFault.undo n (isBits zs) ⟨f.kd, f.pos, f.len, f.val⟩ = ⟨u, ok⟩ := hu
  rw [e] at k
  exact k
theorem unS (A : Option Addr) (n c : Nat) (zs : List Int) (f u : Flt) (ok : Bool) (w : World) (h : RI w w.heap.size A n zs) (hn : n ≤ 1099511627776) (hu : UndoFault.undo n (isBits zs) f = ⟨u, ok⟩) : Calls Tryz.prog 10 #[.slice A n c, .agg #[.int .i64 f.kd, .int .i64 f.pos, .int .i64 f.len, .int .i64 f.val]] w (RetV w (.tuple #[.agg #[.int .i64 u.kd, .int .i64 u.pos, .int .i64 u.len, .int .i64 u.val], .bool ok])) := by
  have k := UndoFault.spec_any A n c zs f.kd f.pos f.len f.val w h hn
  have e : UndoFault.undo n (isBits zs) ⟨f.kd, f.pos, f.len, f.val⟩ = ⟨u, ok⟩ := hu
  rw [e] at k
  exact k
theorem rdI (s : ByteArray) (u : Flt) (ok : Bool) (w : World) (hs : s.size ≤ 1048576) (hl : LF w) (hu : rdF s.data.toList = (u, ok)) : Calls Tryz.prog 12 #[.string s] w (RetV w (.tuple #[.agg #[.int .i64 u.kd, .int .i64 u.pos, .int .i64 u.len, .int .i64 u.val], .bool ok])) := by
  have k := iReadFault_any s w hs hl
  rw [hu] at k
  exact k
theorem rdS' (s : ByteArray) (u : Flt) (ok : Bool) (w : World) (hs : s.size ≤ 1048576) (hu : rdF s.data.toList = (u, ok)) : Calls Tryz.prog 14 #[.string s] w (RetV w (.tuple #[.agg #[.int .i64 u.kd, .int .i64 u.pos, .int .i64 u.len, .int .i64 u.val], .bool ok])) := by
  have k := sReadFault_any s w hs
  rw [hu] at k
  exact k
theorem ftI (f : Flt) (T : ByteArray) (w : World) (ht : TB w) (hT : (⟨(ftxt f).toArray⟩ : ByteArray) = T) : Calls Tryz.prog 11 #[.agg #[.int .i64 f.kd, .int .i64 f.pos, .int .i64 f.len, .int .i64 f.val]] w (RetV w (.string T)) := by
  have k := iFaultText_any f.kd f.pos f.len f.val w ht
  rw [show (⟨(ftxt ⟨f.kd, f.pos, f.len, f.val⟩).toArray⟩ : ByteArray) = T from hT] at k
  exact k
theorem ftS (f : Flt) (T : ByteArray) (w : World) (hT : (⟨(ftxt f).toArray⟩ : ByteArray) = T) : Calls Tryz.prog 16 #[.agg #[.int .i64 f.kd, .int .i64 f.pos, .int .i64 f.len, .int .i64 f.val]] w (RetV w (.string T)) := by
  have k := sFaultText_any f.kd f.pos f.len f.val w
  rw [show (⟨(ftxt ⟨f.kd, f.pos, f.len, f.val⟩).toArray⟩ : ByteArray) = T from hT] at k
  exact k
theorem isI (f : Flt) (b : Bool) (w : World) (hb : isFault f = b) : Calls Tryz.prog 17 #[.agg #[.int .i64 f.kd, .int .i64 f.pos, .int .i64 f.len, .int .i64 f.val]] w (RetV w (.bool b)) := by
  have k := iIsFault_any f.kd f.pos f.len f.val w
  rw [show isFault ⟨f.kd, f.pos, f.len, f.val⟩ = b from hb] at k
  exact k
theorem isS (f : Flt) (b : Bool) (w : World) (hb : isFault f = b) : Calls Tryz.prog 18 #[.agg #[.int .i64 f.kd, .int .i64 f.pos, .int .i64 f.len, .int .i64 f.val]] w (RetV w (.bool b)) := by
  have k := sIsFault_any f.kd f.pos f.len f.val w
  rw [show isFault ⟨f.kd, f.pos, f.len, f.val⟩ = b from hb] at k
  exact k
/-- of a fault's text: read back, or empty -/
theorem ftxt_cases (f : Flt) : (∃ t0 : UInt8, ∃ l, (⟨(ftxt f).toArray⟩ : ByteArray) = ⟨(t0 :: l).toArray⟩ ∧ rdF (ftxt f) = (f, true)) ∨ ((⟨(ftxt f).toArray⟩ : ByteArray) = ⟨#[]⟩ ∧ ∃ y, rdF (ftxt f) = (y, false)) := by
  rcases bool_cases (isFault f) with h | h
  · have e := ftxt_yes h
    have ne : ftxt f ≠ [] := by rw [e]; exact ftxtL_ne f
    obtain ⟨t0, l, hl⟩ := List.exists_cons_of_ne_nil ne
    exact Or.inl ⟨t0, l, by rw [hl], rdF_yes h e.symm⟩
  · have e := ftxt_no h
    refine Or.inr ⟨by rw [e], ?_⟩
    rw [e]
    exact ⟨_, rdF_no (fun g _ => ftxtL_ne g)⟩
end Go.Proofs.YtojmikalnalfbaaGreatDoor
