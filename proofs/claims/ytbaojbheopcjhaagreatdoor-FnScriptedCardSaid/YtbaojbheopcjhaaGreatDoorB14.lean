/- Walks, laws and small notions for the claims of this seat, several texts as one (MkA, Mk, Lw, Mf). Conditions: as each theorem states them. -/
import Derived.Test.YtbaojbheopcjhaaGreatDoorB1
import Derived.Test.YtbaojbheopcjhaaGreatDoorB11
namespace Go.Proofs.YtbaojbheopcjhaaGreatDoor
open Go.RowKit

/-- the slice's block is of the call's own, between lo and hi, of type T, with at least N cells -/
def Rm (T : TypeId) (w : World) (lo hi : Nat) (A : Option Addr) (N : Nat) : Prop :=
  N = 0 ∨ ∃ g cur, A = some ⟨g, 0, none⟩ ∧ lo ≤ g ∧ g < hi ∧ w.heap[g]? = some (.cells cur T (0, 0)) ∧ N ≤ cur.size
/-- from w to w' only own blocks of the types S, between lo and hi, may have turned, and none has shrunk -/
structure MKB (S : TypeId → Prop) (lo hi : Nat) (w w' : World) : Prop where
  os : w'.os = w.os
  tape : w'.tape = w.tape
  output : w'.output = w.output
  size : w.heap.size ≤ w'.heap.size
  block : ∀ g, g < w.heap.size → w'.heap[g]? = w.heap[g]? ∨ (lo ≤ g ∧ g < hi ∧ ∃ cur t, w.heap[g]? = some (.cells cur t (0, 0)) ∧ S t)
  room : ∀ (g : Nat) (cur : Array Value) (t : TypeId), w.heap[g]? = some (Obj.cells cur t (0, 0)) → ∃ cur2 : Array Value, w'.heap[g]? = some (Obj.cells cur2 t (0, 0)) ∧ cur2.size = cur.size
section
variable {S S' : TypeId → Prop} {lo hi : Nat} {a w w' w'' : World} {T : TypeId}
theorem MKB.refl (S : TypeId → Prop) (lo hi : Nat) (w : World) : MKB S lo hi w w := ⟨rfl, rfl, rfl, Nat.le_refl _, fun _ _ => .inl rfl, fun _ cur _ h => ⟨cur, h, rfl⟩⟩
theorem MKB.trans (h : MKB S lo hi a w) (k : MKB S lo hi w w') : MKB S lo hi a w' := by
  refine ⟨k.os.trans h.os, k.tape.trans h.tape, k.output.trans h.output, Nat.le_trans h.size k.size, fun g hg => ?_, fun g cur t e => ?_⟩
  · rcases h.block g hg with e | e
    · rcases k.block g (Nat.lt_of_lt_of_le hg h.size) with e2 | ⟨h1, h2, cur, t, e3, e4⟩
      · exact .inl (e2.trans e)
      · exact .inr ⟨h1, h2, cur, t, e ▸ e3, e4⟩
    · exact .inr e
  · obtain ⟨c1, e1, s1⟩ := h.room g cur t e
    obtain ⟨c2, e2, s2⟩ := k.room g c1 t e1
    exact ⟨c2, e2, s2.trans s1⟩
theorem MKB.weak (h : MKB S lo hi w w') (hs : ∀ x, S x → S' x) : MKB S' lo hi w w' :=
  ⟨h.os, h.tape, h.output, h.size, fun g hg => (h.block g hg).imp id fun ⟨h1, h2, c, t, e, s⟩ => ⟨h1, h2, c, t, e, hs t s⟩, h.room⟩
theorem mkb_below (S : TypeId → Prop) (lo hi : Nat) (hb : Below w.heap.size w w') : MKB S lo hi w w' :=
  ⟨hb.os, hb.tape, hb.output, hb.size, fun g hg => .inl (hb.block g hg), fun g cur _ e => ⟨cur, (hb.block g (lt_of_block e)).trans e, rfl⟩⟩
theorem MKB.next (h : MKB S lo hi a w) (hb : Below w.heap.size w w') : MKB S lo hi a w' := h.trans (mkb_below S lo hi hb)
theorem mkb_set {p : Addr} {cur : Array Value} (h1 : lo ≤ p.block) (h2 : p.block < hi) (he : w.heap[p.block]? = some (.cells cur T (0, 0))) (hs : S T) (v : Value) : MKB S lo hi w (w.setCell p v) := by
  refine ⟨rfl, rfl, rfl, by simp [World.setCell], fun g hg => ?_, fun g c t e => ?_⟩
  · by_cases hp : p.block = g
    · subst hp; exact .inr ⟨h1, h2, cur, T, he, hs⟩
    · left
      show (w.heap.modify p.block _)[g]? = _
      rw [Array.getElem?_modify, if_neg hp]
  · by_cases hp : p.block = g
    · subst hp
      have hlt := lt_of_block e
      have h' : w.heap[p.block] = .cells c t (0, 0) := by simpa [Array.getElem?_eq_getElem hlt] using e
      show ∃ cur', (w.heap.modify p.block _)[p.block]? = _ ∧ _
      rw [Array.getElem?_eq_getElem (by simpa using hlt), Array.getElem_modify_self, h']
      exact ⟨_, rfl, by split <;> simp⟩
    · refine ⟨c, ?_, rfl⟩
      show (w.heap.modify p.block _)[g]? = _
      rw [Array.getElem?_modify, if_neg hp]; exact e
theorem MKB.below {B : Nat} (h : Below B a w) (k : MKB S lo hi w w') (hB : B ≤ w.heap.size) (hl : B ≤ lo) : Below B a w' :=
  h.trans ⟨k.os, k.tape, k.output, k.size, fun g hg => by
    rcases k.block g (by omega) with e | ⟨h1, _⟩
    · exact e
    · omega⟩
theorem Rm.get {A : Option Addr} {N : Nat} (h : Rm T w lo hi A N) (hN : 0 < N) : ∃ g cur, A = some ⟨g, 0, none⟩ ∧ lo ≤ g ∧ g < hi ∧ w.heap[g]? = some (.cells cur T (0, 0)) ∧ N ≤ cur.size := by
  rcases h with h | h
  · omega
  · exact h
theorem Rm.mkb {A : Option Addr} {N : Nat} (h : Rm T w lo hi A N) (k : MKB S lo hi w w') : Rm T w' lo hi A N := by
  rcases h with h | ⟨g, cur, e, h1, h2, h3, h4⟩
  · exact .inl h
  · obtain ⟨c', e', s'⟩ := k.room g cur T h3
    exact .inr ⟨g, c', e, h1, h2, e', by omega⟩
theorem Rm.next {A : Option Addr} {N : Nat} (h : Rm T w lo hi A N) (hb : Below w.heap.size w w') : Rm T w' lo hi A N := h.mkb (mkb_below (fun _ => True) lo hi hb)
theorem Rm.less {A : Option Addr} {N N' : Nat} (h : Rm T w lo hi A N) (hN : N' ≤ N) : Rm T w lo hi A N' := by
  rcases h with h | ⟨g, cur, e, h1, h2, h3, h4⟩
  · exact .inl (by omega)
  · exact .inr ⟨g, cur, e, h1, h2, h3, by omega⟩
theorem Rm.wide {A : Option Addr} {N lo' hi' : Nat} (h : Rm T w lo hi A N) (hl : lo' ≤ lo) (hh : hi ≤ hi') : Rm T w lo' hi' A N := by
  rcases h with h | ⟨g, cur, e, h1, h2, h3, h4⟩
  · exact .inl h
  · exact .inr ⟨g, cur, e, by omega, by omega, h3, h4⟩
theorem mks {g : Nat} (h1 : lo ≤ g) (h2 : g < hi) (hs : S T) (h : MKB S lo hi a w ∧ ∃ cur, w.heap[g]? = some (.cells cur T (0, 0))) (j : Nat) (v : Value) :
    MKB S lo hi a (w.setCell ⟨g, j, none⟩ v) ∧ ∃ cur, (w.setCell ⟨g, j, none⟩ v).heap[g]? = some (.cells cur T (0, 0)) := by
  obtain ⟨hk, cur, hc⟩ := h
  have k2 := mkb_set (S := S) (p := ⟨g, j, none⟩) h1 h2 hc hs v
  obtain ⟨c2, e2, _⟩ := k2.room g cur T hc
  exact ⟨hk.trans k2, c2, e2⟩
theorem heap_cell {g : Nat} {cur : Array Value} (he : w.heap[g]? = some (.cells cur T (0, 0))) {j : Nat} (hj : j < cur.size) : ∃ v, w.cell? ⟨g, j, none⟩ = some v := by
  refine ⟨cur[j], ?_⟩
  simp [World.cell?, he, hj]
theorem heap_free {g : Nat} {cur : Array Value} (he : w.heap[g]? = some (.cells cur T (0, 0))) (j : Nat) : w.frozen? ⟨g, j, none⟩ = false := by simp [World.frozen?, he]
theorem Rm.ofE {α : Type} {enc : α → List Value} {sz base n c : Nat} {A : Option Addr} {xs : List α} (h : OwnE enc sz T w base A n c xs) : Rm T w base w.heap.size A (n * sz) := by
  rcases h.2.2 with ⟨h1, h2⟩ | ⟨g, cap, cur, hv, hb, hh, hn, hm, hs, _⟩
  · exact .inl (by rw [h2, Nat.zero_mul])
  · injection hv with h1
    exact .inr ⟨g, cur, h1, hb, lt_of_block hh, hh, by rw [hs]; exact Nat.mul_le_mul_right _ hn⟩
theorem Rm.ofI {base n c : Nat} {A : Option Addr} {zs : List Int} (h : OwnI T w base A n c zs) : Rm T w base w.heap.size A n := by
  rcases h.2 with ⟨h1, h2⟩ | ⟨g, cap, cur, hv, hb, hh, hn, hm, hs, _⟩
  · exact .inl h2
  · injection hv with h1
    exact .inr ⟨g, cur, h1, hb, lt_of_block hh, hh, by rw [hs, Nat.mul_one]; exact hn⟩
theorem row_kept {base sz n : Nat} {v : Value} {xs : List Value} (h : w.ownsRow base T sz v n xs) (hk : ∀ g, v.ownBlock = some g → w'.heap[g]? = w.heap[g]?) : w'.ownsRow base T sz v n xs := by
  refine ⟨h.1, ?_⟩
  rcases h.2 with hn | ⟨g, cap, cur, rfl, hb, hgg, rest⟩
  · exact .inl hn
  · exact .inr ⟨g, cap, cur, rfl, hb, (hk g rfl).trans hgg, rest⟩
/-- a row of a type that is not marked stays -/
theorem OwnE.mkbT {α : Type} {enc : α → List Value} {sz base n c : Nat} {A : Option Addr} {xs : List α} (h : OwnE enc sz T w base A n c xs) (k : MKB S lo hi w w') (hT : ¬ S T) : OwnE enc sz T w' base A n c xs := by
  refine ⟨h.1, row_kept h.2 fun g hg => ?_⟩
  rcases h.2.2 with ⟨h1, h2⟩ | ⟨g', cap, cur, hv, hb, hh, _⟩
  · rw [h1] at hg; cases hg
  · rw [hv] at hg
    simp only [Value.ownBlock, Option.some.injEq] at hg
    subst hg
    rcases k.block g' (lt_of_block hh) with e | ⟨_, _, c2, t2, e2, s2⟩
    · exact e
    · rw [hh] at e2
      injection e2 with e2
      injection e2 with _ e3
      subst e3
      exact absurd s2 hT
/-- a row that lies outside stays -/
theorem OwnE.mkb {α : Type} {enc : α → List Value} {sz base n c : Nat} {A : Option Addr} {xs : List α} (h : OwnE enc sz T w base A n c xs) (k : MKB S lo hi w w') (hne : ∀ g, (Value.slice A n c).ownBlock = some g → g < lo ∨ hi ≤ g) : OwnE enc sz T w' base A n c xs := by
  refine ⟨h.1, row_kept h.2 fun g hg => ?_⟩
  rcases k.block g (h.row g hg).2 with e | ⟨h1, h2, _⟩
  · exact e
  · rcases hne g hg with h3 | h3 <;> omega
theorem OwnI.mkb {base n c : Nat} {A : Option Addr} {zs : List Int} (h : OwnI T w base A n c zs) (k : MKB S lo hi w w') (hne : ∀ g, (Value.slice A n c).ownBlock = some g → g < lo ∨ hi ≤ g) : OwnI T w' base A n c zs := by
  refine row_kept h fun g hg => ?_
  rcases k.block g (own_row h g hg).2 with e | ⟨h1, h2, _⟩
  · exact e
  · rcases hne g hg with h3 | h3 <;> omega
theorem BlkL.mkb {g : Nat} {L : List Value} (h : BlkL w g T L) (k : MKB S lo hi w w') (hne : g < lo ∨ hi ≤ g) : BlkL w' g T L := by
  rcases k.block g h.lt with e | ⟨h1, h2, _⟩
  · exact e.trans h
  · rcases hne with h3 | h3 <;> omega
theorem OwnE.heap {α : Type} {enc : α → List Value} {sz base n c g : Nat} {xs : List α} (h : OwnE enc sz T w base (some ⟨g, 0, none⟩) n c xs) : ∃ cur, w.heap[g]? = some (.cells cur T (0, 0)) := by
  rcases h.2.2 with ⟨h1, h2⟩ | ⟨g', cap, cur, hv, hb, hh, _⟩
  · cases h1
  · injection hv with h1
    injection h1 with h1
    injection h1 with h1
    subst h1
    exact ⟨cur, hh⟩
end
end Go.Proofs.YtbaojbheopcjhaaGreatDoor

namespace Go.Proofs.YtbaojbheopcjhaaGreatDoor
open Go.RowKit

theorem mtConv (w : World) (b : Nat) (x : Int) (h : w.cell? ⟨b, 0, none⟩ = some (.int .u8 x)) :
    Sem.run Tryz.prog (convert 22 9 (.slice (some ⟨b, 0, none⟩) 1 1)) w = .ok (.string ⟨#[UInt8.ofNat x.toNat]⟩) w := by
  have := run_convert_bytes_arg (P := Tryz.prog) w 22 5 Tryz.underlying22 Tryz.underlying5 b 0 1 1 [x] rfl (fun i hi => by
    have : i = 0 := by omega
    subst this; exact h) 9 Tryz.underlying9
  rw [this]; rfl
theorem size_cons1 (u : UInt8) (s : ByteArray) : ((⟨#[u]⟩ : ByteArray) ++ s).size = s.size + 1 := by
  rw [ByteArray.size_append]
  show 1 + s.size = _
  omega

/-- a table of modes of the call's own, of which the lists' memory is known to be there -/
def OMk (w : World) (lo hi : Nat) (A : Option Addr) (n c : Nat) : Prop :=
  ∃ hs : List Mh, OwnE encMh 3 110 w lo A n c hs ∧ (∀ g, (Value.slice A n c).ownBlock = some g → g < hi) ∧ ∀ i, i < n → Rm 2 w lo hi (ge hs i).A (ge hs i).n ∧ (ge hs i).n ≤ 1048576
theorem OMk.mkb {S : TypeId → Prop} {w w' : World} {lo hi n c : Nat} {A : Option Addr} (h : OMk w lo hi A n c) (k : MKB S lo hi w w') (hS : ¬ S 110) : OMk w' lo hi A n c :=
  let ⟨hs, ho, hb, hi'⟩ := h
  ⟨hs, ho.mkbT k hS, hb, fun i hi => ⟨(hi' i hi).1.mkb k, (hi' i hi).2⟩⟩
theorem OMk.next {w w' : World} {lo hi n c : Nat} {A : Option Addr} (h : OMk w lo hi A n c) (hb : Below w.heap.size w w') : OMk w' lo hi A n c :=
  h.mkb (mkb_below (fun _ => False) lo hi hb) (fun h => h)
theorem OMk.of {w : World} {lo n c : Nat} {A : Option Addr} {l : List Mk} (h : OM w lo A n c l) (hx : ∀ i, i < n → (ge l i).nx.length ≤ 1048576) : OMk w lo w.heap.size A n c := by
  obtain ⟨hl, hs, ho, hi⟩ := h
  refine ⟨hs, ho, fun g hg => (ho.row g hg).2, fun i hn => ?_⟩
  obtain ⟨q1, q2, q3⟩ := hi i hn
  exact ⟨Rm.ofI q2, by rw [← q2.len]; exact hx i hn⟩

/-- the memory of a schedule of the call's own, between lo and hi -/
structure MO (w : World) (lo hi : Nat) (m : Mdv) : Prop where
  tn : Rm 84 w lo hi m.An (m.nn * 4)
  tm : OMk w lo hi m.Am m.nm m.cm
  ts : Rm 102 w lo hi m.As (m.ns * 8)
theorem MO.next {w w' : World} {lo hi : Nat} {m : Mdv} (h : MO w lo hi m) (hb : Below w.heap.size w w') : MO w' lo hi m := ⟨h.tn.next hb, h.tm.next hb, h.ts.next hb⟩
theorem MO.of {w : World} {lo : Nat} {id : Int} {A1 A2 A3 : Option Addr} {n1 c1 n2 c2 n3 c3 : Nat} {M : Mdl} (h1 : OwnE encNd 4 84 w lo A1 n1 c1 M.ns) (h2 : OM w lo A2 n2 c2 M.ms) (h3 : OwnE encSl 8 102 w lo A3 n3 c3 M.ss) (hx : ∀ i, i < n2 → (ge M.ms i).nx.length ≤ 1048576) :
    MO w lo w.heap.size ⟨id, A1, n1, c1, A2, n2, c2, A3, n3, c3⟩ := ⟨Rm.ofE h1, OMk.of h2 hx, Rm.ofE h3⟩

end Go.Proofs.YtbaojbheopcjhaaGreatDoor

namespace Go.Proofs.YtbaojbheopcjhaaGreatDoor
open Go.RowKit

/-- the boxes bs lie in the world v, and nothing that was there in w has turned -/
structure LW (w : World) (bs : List (Nat × TypeId × List Value)) (v : World) : Prop where
  bx : ∀ (i : Nat) (b : Nat × TypeId × List Value), bs[i]? = some b → BlkL v b.1 b.2.1 b.2.2
  bel : Below w.heap.size w v
section
variable {w v v' : World} {bs : List (Nat × TypeId × List Value)} {S : TypeId → Prop} {lo hi lo' hi' n c : Nat} {T : TypeId} {A : Option Addr} {zs zs' : List Int}
theorem LW.next (h : LW w bs v) (hb : Below v.heap.size v v') : LW w bs v' := ⟨fun i b e => (h.bx i b e).next hb, below_next hb h.bel (Nat.le_refl _)⟩
theorem LW.one (h : Below w.heap.size w v) {g : Nat} {T : TypeId} {L : List Value} (hk : BlkL v g T L) : LW w [(g, T, L)] v := by
  refine ⟨fun i b e => ?_, h⟩
  match i, e with
  | 0, e => obtain rfl := Option.some.inj e; exact hk
  | i + 1, e => simp at e
theorem LW.snoc (h : LW w bs v) {g : Nat} {T : TypeId} {L : List Value} (hk : BlkL v g T L) : LW w (bs ++ [(g, T, L)]) v := by
  refine ⟨fun i b e => ?_, h.bel⟩
  rcases Nat.lt_or_ge i bs.length with hh | hh
  · rw [List.getElem?_append_left hh] at e; exact h.bx i b e
  · rw [List.getElem?_append_right hh] at e
    match i - bs.length, e with
    | 0, e => obtain rfl := Option.some.inj e; exact hk
    | j + 1, e => simp at e
theorem LW.mkb (h : LW w bs v) (k : MKB S lo hi v v') (hl : w.heap.size ≤ lo) (hn : ∀ (i : Nat) (b : Nat × TypeId × List Value), bs[i]? = some b → b.1 < lo ∨ hi ≤ b.1) : LW w bs v' :=
  ⟨fun i b e => (h.bx i b e).mkb k (hn i b e), k.below h.bel h.bel.size hl⟩
/-- a row of numbers of the law's own, its block between lo and hi -/
structure Rw (T : TypeId) (v : World) (lo hi : Nat) (A : Option Addr) (n c : Nat) (zs : List Int) : Prop where
  own : OwnI T v lo A n c zs
  top : ∀ g, (Value.slice A n c).ownBlock = some g → g < hi
theorem Rw.of (h : OwnI T v lo A n c zs) : Rw T v lo v.heap.size A n c zs := ⟨h, fun g hg => (own_row h g hg).2⟩
theorem Rw.next (h : Rw T v lo hi A n c zs) (hb : Below v.heap.size v v') : Rw T v' lo hi A n c zs := ⟨h.own.below hb, h.top⟩
theorem Rw.mkb (h : Rw T v lo hi A n c zs) (k : MKB S lo' hi' v v') (ha : hi ≤ lo' ∨ hi' ≤ lo) : Rw T v' lo hi A n c zs :=
  ⟨h.own.mkb k fun g hg => by
    have h1 := (own_row h.own g hg).1
    have h2 := h.top g hg
    omega, h.top⟩
theorem Rw.reads (h : Rw T v lo hi A n c zs) : RI v v.heap.size A n zs := h.own.reads
theorem Rw.len (h : Rw T v lo hi A n c zs) : zs.length = n := h.own.len
/-- what a marking of an own row turns -/
theorem Rw.marked (h : Rw T v lo hi A n c zs) (hg : v.grownBy v' (Value.slice A n c).ownBlock) (h' : OwnI T v' lo A n c zs') : MKB (fun _ => True) lo hi v v' ∧ Rw T v' lo hi A n c zs' := by
  refine ⟨⟨hg.os, hg.tape, hg.output, hg.size, fun g hlt => ?_, fun g cur t e => ?_⟩, h', h.top⟩
  · by_cases hgo : (Value.slice A n c).ownBlock = some g
    · right
      have h1 := own_row h.own g hgo
      refine ⟨h1.1, h.top g hgo, ?_⟩
      rcases h.own.2 with ⟨h2, _⟩ | ⟨g', cap, cur, hv, hb, hh, _⟩
      · rw [h2] at hgo; cases hgo
      · rw [hv] at hgo
        simp only [Value.ownBlock, Option.some.injEq] at hgo
        subst hgo
        exact ⟨cur, T, hh, trivial⟩
    · exact .inl (hg.block g hlt (fun e => hgo e.symm))
  · by_cases hgo : (Value.slice A n c).ownBlock = some g
    · rcases h.own.2 with ⟨h2, _⟩ | ⟨g', cap, cu, hv, hb, hh, _, _, hs, _⟩
      · rw [h2] at hgo; cases hgo
      · rw [hv] at hgo
        simp only [Value.ownBlock, Option.some.injEq] at hgo
        subst hgo
        rw [hh] at e
        injection e with e
        injection e with e1 e2
        subst e1; subst e2
        rcases h'.2 with ⟨h2, _⟩ | ⟨g2, cap2, cu2, hv2, hb2, hh2, _, _, hs2, _⟩
        · rw [hv] at h2; cases h2
        · rw [hv] at hv2
          injection hv2 with a1 a2 a3
          injection a1 with a1
          injection a1 with a1
          subst a1; subst a3
          exact ⟨cu2, hh2, by omega⟩
    · have hlt := lt_of_block e
      exact ⟨cur, (hg.block g hlt (fun e => hgo e.symm)).trans e, rfl⟩
end
end Go.Proofs.YtbaojbheopcjhaaGreatDoor

namespace Go.Proofs.YtbaojbheopcjhaaGreatDoor
open Go.RowKit

theorem Rw.rm {T : TypeId} {v : World} {lo hi n c : Nat} {A : Option Addr} {zs : List Int} (h : Rw T v lo hi A n c zs) : Rm T v lo hi A n := by
  rcases h.own.2 with ⟨h1, h2⟩ | ⟨g, cap, cur, hv, hb, hh, hn, hm, hs, _⟩
  · exact .inl h2
  · have ht := h.top g (by rw [hv]; rfl)
    injection hv with h1
    exact .inr ⟨g, cur, h1, hb, ht, hh, by rw [hs, Nat.mul_one]; exact hn⟩
end Go.Proofs.YtbaojbheopcjhaaGreatDoor
