/- Walks, laws and small notions for the claims of this seat, several texts as one (PlainDec, DecS, DecR, DecC, Pre, DecI, DecJ, PreI). Conditions: as each theorem states them. -/
import Derived.Test.YtbaojbheopcjhaaGreatDoorB1
import Derived.Test.YtbaojbheopcjhaaGreatDoorB2
import Derived.Deep.RegionHeld3
import Derived.Laws.AppendOwnNone
namespace Go.Proofs.YtbaojbheopcjhaaGreatDoor

/-- the least index from i on at which v stands -/
def nxt (zs : List Int) (v : Int) (i : Nat) : Option Nat :=
  if i < zs.length then (if gi zs i = v then some i else nxt zs v (i + 1)) else none
termination_by zs.length - i

theorem nxt_hit {zs : List Int} {v : Int} {i : Nat} (h : i < zs.length) (hv : gi zs i = v) : nxt zs v i = some i := by
  unfold nxt; rw [if_pos h, if_pos hv]
theorem nxt_go {zs : List Int} {v : Int} {i : Nat} (h : i < zs.length) (hv : gi zs i ≠ v) : nxt zs v i = nxt zs v (i + 1) := by
  rw [nxt, if_pos h, if_neg hv]
theorem nxt_end {zs : List Int} {v : Int} {i : Nat} (h : zs.length ≤ i) : nxt zs v i = none := by
  unfold nxt; rw [if_neg (by omega)]
theorem nxt_some {zs : List Int} {v : Int} : ∀ {m i j : Nat}, zs.length - i ≤ m → nxt zs v i = some j → i ≤ j ∧ j < zs.length ∧ gi zs j = v := by
  intro m
  induction m with
  | zero => intro i j hm hj; rw [nxt_end (by omega)] at hj; cases hj
  | succ m ih =>
    intro i j hm hj
    by_cases h : i < zs.length
    · by_cases hv : gi zs i = v
      · rw [nxt_hit h hv] at hj; cases hj; exact ⟨Nat.le_refl _, h, hv⟩
      · rw [nxt_go h hv] at hj
        have := ih (by omega) hj
        exact ⟨by omega, this.2⟩
    · rw [nxt_end (by omega)] at hj; cases hj
theorem nxt_le {zs : List Int} {v : Int} {i j : Nat} (h : nxt zs v i = some j) : i ≤ j ∧ j < zs.length ∧ gi zs j = v := nxt_some (Nat.le_refl _) h

/-- a sample; those behind the last one are 1 -/
def smp (zs : List Int) (i : Nat) : Int := if i < zs.length then gi zs i else 1

/-- the bytes' edges from f on, and where the frame end begins -/
def edg (zs : List Int) (f : Nat) : Option (List Int × Nat) :=
  if smp zs (f + 76) = 0 then some ([(f : Int)], f + 72)
  else match _hg : nxt zs 0 (f + 77) with
    | none => none
    | some g => if f + 84 < g then none else (edg zs g).map fun r => ((f : Int) :: r.1, r.2)
termination_by zs.length - f
decreasing_by have := nxt_le _hg; omega

theorem edg_end {zs : List Int} {f : Nat} (h : smp zs (f + 76) = 0) : edg zs f = some ([(f : Int)], f + 72) := by rw [edg, if_pos h]
theorem edg_none {zs : List Int} {f : Nat} (h : smp zs (f + 76) ≠ 0) (hg : nxt zs 0 (f + 77) = none) : edg zs f = none := by
  rw [edg, if_neg h]; split <;> simp_all
theorem edg_far {zs : List Int} {f g : Nat} (h : smp zs (f + 76) ≠ 0) (hg : nxt zs 0 (f + 77) = some g) (hf : f + 84 < g) : edg zs f = none := by
  rw [edg, if_neg h]; split <;> simp_all
theorem edg_go {zs : List Int} {f g : Nat} (h : smp zs (f + 76) ≠ 0) (hg : nxt zs 0 (f + 77) = some g) (hf : ¬ f + 84 < g) : edg zs f = (edg zs g).map fun r => ((f : Int) :: r.1, r.2) := by
  rw [edg, if_neg h]; split
  · simp_all
  · rename_i g' hg'
    rw [hg] at hg'; cases hg'
    rw [if_neg hf]

/-- what the decoder finds: the code, the preamble, the edges -/
structure Dec where
  code : Int
  pre : Int
  edges : List Int

/-- the code of the last step -/
def tailC (zs : List Int) (t : Nat) : Int := if (nxt zs 0 (t + 12)).isSome then 6 else 0

/-- the decoder behind the preamble's edges -/
def decF (zs : List Int) (p : Int) (h f : Nat) : Dec :=
  if f - h < 12 then ⟨tailC zs f, p, []⟩
  else match edg zs f with
    | none => ⟨6, p, []⟩
    | some r => ⟨tailC zs r.2, p, r.1⟩

def bad5 (h f : Nat) : Bool := decide (19 < f - h) || decide (f - h < 5) || decide (f - h = 12)

def decH (zs : List Int) (p : Int) (h : Nat) : Dec :=
  match nxt zs 0 (h + 1) with
  | none => ⟨6, 0, []⟩
  | some f => if bad5 h f then ⟨6, 0, []⟩ else decF zs p h f

/-- where the preamble ends -/
def endP (zs : List Int) (a : Nat) : Nat := (nxt zs 1 (a + 1)).getD zs.length
def decA (zs : List Int) (a : Nat) : Dec :=
  if inR ((((endP zs a - a : Nat) : Int) + 4) / 8) 3 15 then decH zs ((((endP zs a - a : Nat) : Int) + 4) / 8) (endP zs a) else ⟨6, 0, []⟩
def decP (zs : List Int) : Dec :=
  match nxt zs 0 0 with
  | none => ⟨4, 0, []⟩
  | some a => decA zs a
/-- the code of what the decoder finds in whatever list -/
def decC (zs : List Int) : Int := if isBits zs then (decP zs).code else 1
end Go.Proofs.YtbaojbheopcjhaaGreatDoor

namespace Go.Proofs.YtbaojbheopcjhaaGreatDoor
open Go.RowKit

/-- an index or -1 -/
def optI (o : Option Nat) : Int := match o with | none => -1 | some j => (j : Int)

/-- what the byte loop answers -/
def edgL (zs : List Int) (f : Nat) : List Int := match edg zs f with | none => [] | some r => r.1
def edgC (zs : List Int) (f : Nat) : Int := match edg zs f with | none => 6 | some r => tailC zs r.2

theorem nxt_bound {zs : List Int} {v : Int} {i j : Nat} (h : nxt zs v i = some j) : j < zs.length := (nxt_le h).2.1


theorem edg_ge {zs : List Int} {v : Int} {i j : Nat} (h : nxt zs v i = some j) : i ≤ j := (nxt_le h).1

end Go.Proofs.YtbaojbheopcjhaaGreatDoor

namespace Go.Proofs.YtbaojbheopcjhaaGreatDoor
open Go.RowKit

/-- what the decoder finds is handed back -/
def RetRun (T : TypeId) (w0 : World) (d : Dec) (e : Ending) (w' : World) : Prop :=
  ∃ A n c, e = .returned (.agg #[.int .i64 d.pre, .slice A n c, .int .i64 d.code]) ∧ OwnI T w' w0.heap.size A n c d.edges ∧ Below w0.heap.size w0 w'

end Go.Proofs.YtbaojbheopcjhaaGreatDoor

namespace Go.Proofs.YtbaojbheopcjhaaGreatDoor
open Go.RowKit

/-- what the decoder finds in whatever list -/
def decZ (zs : List Int) : Dec := if isBits zs then decP zs else ⟨1, 0, []⟩
/-- the same handed back with its code -/
def RetCode (T : TypeId) (w0 : World) (d : Dec) (e : Ending) (w' : World) : Prop :=
  ∃ A n c q, e = .returned (.tuple #[.agg #[.int .i64 d.pre, .slice A n c, .int .i64 q], .int .i64 d.code]) ∧ OwnI T w' w0.heap.size A n c d.edges ∧ Below w0.heap.size w0 w'

end Go.Proofs.YtbaojbheopcjhaaGreatDoor

namespace Go.Proofs.YtbaojbheopcjhaaGreatDoor
open Go.RowKit

theorem ne_cases (x : Int) : x = 0 ∨ (x ≠ 0 ∧ (x != 0) = true ∧ (x == 0) = false) := by
  by_cases h : x = 0
  · exact .inl h
  · exact .inr ⟨h, by simp [h], by simp [h]⟩
namespace PreambleOf
def prA (zs : List Int) : Int := if (decZ zs).code = 0 then (decZ zs).pre else 0
def cod (zs : List Int) : Int := (decZ zs).code

end PreambleOf
end Go.Proofs.YtbaojbheopcjhaaGreatDoor

namespace Go.Proofs.YtbaojbheopcjhaaGreatDoor
open Go.RowKit

/-- the least index or the end -/
def optN (o : Option Nat) (e : Nat) : Int := match o with | none => (e : Int) | some j => (j : Int)

set_option maxHeartbeats 400000 in
theorem sampleAt_any (A : Option Addr) (n c g : Nat) (zs : List Int) (i : Nat) (w : World) (h : RI w w.heap.size A n zs) (hn : n ≤ 1099511627776) (hi : i ≤ 1099511627776) (hx : w.cell? ⟨g, 0, none⟩ = some (.slice A n c)) :
    Calls Tryz.prog 178 #[.pointer (some ⟨g, 0, none⟩), .int .i64 i] w fun e w' => e = .returned (.int .i64 (smp zs i)) ∧ w = w' := by
  have L := Lib.hid h.len
  by_cases hlt : i < n
  · obtain ⟨b, o, rfl, _, hc⟩ := h.get (by omega)
    have hcell := hc i hlt
    clear hc
    go_enter Tryz.func178, Tryz.ntmps178
    go_wp2
    go_ret
    exact ⟨ret_int (by unfold smp; rw [L.out, if_pos hlt]), rfl⟩
  · go_enter Tryz.func178, Tryz.ntmps178
    go_wp2
    go_ret
    exact ⟨ret_int (by unfold smp; rw [L.out, if_neg hlt]), rfl⟩

/-- what nextAfter answers -/
def nxA (zs : List Int) (v : Int) (i : Nat) : Int := if v = 1 then optN (nxt zs v i) (max i zs.length) else optI (nxt zs v i)

set_option maxHeartbeats 400000 in
theorem nextAfter_any (A : Option Addr) (n c g : Nat) (zs : List Int) (i : Nat) (v : Int) (w : World) (h : RI w w.heap.size A n zs) (hn : n ≤ 1099511627776) (hi : i ≤ 1099511627776) (hx : w.cell? ⟨g, 0, none⟩ = some (.slice A n c)) :
    Calls Tryz.prog 226 #[.pointer (some ⟨g, 0, none⟩), .int .i64 ((i : Int) - 1), .int .i64 v] w fun e w' => e = .returned (.int .i64 (nxA zs v i)) ∧ w = w' := by
  have L := Lib.hid h.len
  go_enter Tryz.func226, Tryz.ntmps226
  go_wp2
  go_loop [1] (fun x => ∃ k : Nat, i ≤ k ∧ x = .int .i64 k ∧ nxt zs v i = nxt zs v k ∧ k ≤ max i n) (fun x => n - (intOf x).toNat)
  case atStart => exact ⟨i, Nat.le_refl _, by go_num, rfl, by omega⟩
  case round =>
    obtain ⟨k, hk, rfl, he, hkn⟩ := hrel
    have HE := Lib.hid he
    clear he
    by_cases hlt : k < n
    · obtain ⟨b, o, rfl, _, hc⟩ := h.get (by omega)
      have hcell := hc k hlt
      clear hc
      by_cases hv : gi zs k = v
      · have hb : (gi zs k == v) = true := by simp [hv]
        have HV := Lib.hid hv
        clear hv
        go_wp2
        go_ret
        exact ⟨ret_int (by unfold nxA; rw [HE.out, nxt_hit (by rw [L.out]; exact hlt) HV.out]; split <;> rfl), rfl⟩
      · have hb : (gi zs k == v) = false := by simp [hv]
        have HV := Lib.hid hv
        clear hv
        go_wp2
        go_round
        case rel => exact ⟨k + 1, by omega, by go_num, by rw [HE.out, nxt_go (by rw [L.out]; exact hlt) HV.out], by omega⟩
        case measure => simp [intOf]; omega
    · have hke : k = max i n := by omega
      have HK := Lib.hid hke
      clear hke
      by_cases hv : v = 1
      · have hb : (v == 1) = true := by simp [hv]
        have HV := Lib.hid hv
        clear hv
        go_wp2
        go_ret
        exact ⟨ret_int (by unfold nxA; rw [HE.out, nxt_end (by rw [L.out]; omega), if_pos HV.out, L.out, ← HK.out]; rfl), rfl⟩
      · have hb : (v == 1) = false := by simp [hv]
        have HV := Lib.hid hv
        clear hv
        go_wp2
        go_ret
        exact ⟨ret_int (by unfold nxA; rw [HE.out, nxt_end (by rw [L.out]; omega), if_neg HV.out]; rfl), rfl⟩

theorem nextW {A : Option Addr} {n c g : Nat} {zs : List Int} {w : World} (h : RI w w.heap.size A n zs) (hn : n ≤ 1048576) (hx : w.cell? ⟨g, 0, none⟩ = some (.slice A n c)) (v : Int) (i : Nat) (hi : i ≤ 2097152) (x : Int) (he : x = (i : Int) - 1) (o : Int) (ho : nxA zs v i = o) :
    Calls Tryz.prog 226 #[.pointer (some ⟨g, 0, none⟩), .int .i64 x, .int .i64 v] w fun e w' => e = .returned (.int .i64 o) ∧ w = w' := by
  subst he; subst ho
  exact nextAfter_any A n c g zs i v w h (by omega) (by omega) hx
theorem sampleW {A : Option Addr} {n c g : Nat} {zs : List Int} {w : World} (h : RI w w.heap.size A n zs) (hn : n ≤ 1048576) (hx : w.cell? ⟨g, 0, none⟩ = some (.slice A n c)) (i : Nat) (hi : i ≤ 2097152) (x : Int) (he : x = (i : Int)) :
    Calls Tryz.prog 178 #[.pointer (some ⟨g, 0, none⟩), .int .i64 x] w fun e w' => e = .returned (.int .i64 (smp zs i)) ∧ w = w' := by
  subst he
  exact sampleAt_any A n c g zs i w h (by omega) (by omega) hx
theorem nxA0 (zs : List Int) (i : Nat) : nxA zs 0 i = optI (nxt zs 0 i) := by unfold nxA; rw [if_neg (by decide)]

/-- what bytesFrom leaves -/
def Bf (w : World) (g : Nat) (A : Option Addr) (n c : Nat) (p : Int) (o : Option (List Int × Nat)) (e : Ending) (w' : World) : Prop :=
  ∃ (A' : Option Addr) (m c' : Nat) (es : List Int), Blk3 w' g 162 (.slice A n c) (.int .i64 p) (.slice A' m c') ∧ OwnI 2 w' (g + 1) A' m c' es ∧ Below g w w' ∧
    (match o with | none => e = .returned (.int .i64 (-1)) | some r => e = .returned (.int .i64 r.2) ∧ es = r.1)

set_option maxHeartbeats 2000000 in
theorem bytesFrom_any (A : Option Addr) (n c g : Nat) (zs : List Int) (f : Nat) (p : Int) (w : World) (hk : Blk3 w g 162 (.slice A n c) (.int .i64 p) (.slice none 0 0)) (h : RI w g A n zs) (hn : n ≤ 1048576) (hi : f < n) :
    Calls Tryz.prog 229 #[.pointer (some ⟨g, 0, none⟩), .int .i64 f] w (Bf w g A n c p (edg zs f)) := by
  have L := Lib.hid h.len
  have hgl := hk.lt
  go_enter Tryz.func229, Tryz.ntmps229
  go_wp2
  go_loopw [1, 5] (fun x _ wr => ∃ (q m : Nat) (done : List Int) (A' : Option Addr) (c' : Nat), q < n ∧ m ≤ q ∧ x = .int .i64 q ∧ Blk3 wr g 162 (.slice A n c) (.int .i64 p) (.slice A' m c') ∧ OwnI 2 wr (g + 1) A' m c' done ∧ Below g w wr ∧ edg zs f = (edg zs q).map fun r => (done ++ r.1, r.2)) (fun x _ _ => n - (intOf x).toNat)
  case atStart => exact ⟨f, 0, [], none, 0, hi, by omega, rfl, hk, OwnI.nil _ _ _, Below.refl _ _, by simp⟩
  case round =>
    obtain ⟨q, m, done, A', c', hq, hm, rfl, hblk, hown, hb, he⟩ := hrel
    have HE := Lib.hid he
    clear he
    have hsz : g + 1 ≤ wr.heap.size := hblk.lt
    have k0 := hblk.c0
    have k2 := hblk.c2
    have hfr0 := hblk.free 2
    go_wp2_with (at_builtin; refine wpl_appI _ _ Tryz.underlying31 infoInt rfl _ _ rfl (g + 1) _ m _ done rfl hown q rfl (by omega) hsz ?_; intro A2 c2 w2 hown2 hB2 hg2; have hk2 := hblk.below (hB2 (g + 1) (Nat.le_refl _)) (Nat.lt_succ_self _); have hk22 := hk2.c2; have hfr2 := hk2.free 2)
    have hk3 := hk2.set2 (.slice A2 (m + 1) c2)
    have hown3 := hown2.other (p := ⟨g, 2, none⟩) (Nat.lt_succ_self _) (.slice A2 (m + 1) c2)
    have hb3 : Below g w (w2.setCell ⟨g, 2, none⟩ (.slice A2 (m + 1) c2)) := (hb.trans (hB2 g (Nat.le_succ _))).setCell (Nat.le_refl _) _
    have hr3 := (h.below hb3 (Nat.le_refl _)).more (Nat.le_of_lt hk3.lt)
    refine (sampleW hr3 hn hk3.c0 (q + 76) (by omega) _ (by omega)).mono ?_
    by_cases hs0 : smp zs (q + 76) = 0
    · have HS := Lib.hid hs0
      rw [hs0]
      clear hs0
      rintro e w' ⟨rfl, rfl⟩
      go_wp2
      go_ret
      refine ⟨A2, m + 1, c2, done ++ [(q : Int)], hk3, hown3, hb3, ?_⟩
      rw [HE.out, edg_end HS.out]
      exact ⟨ret_int (by simp), rfl⟩
    · have HS := Lib.hid hs0
      have hsb : (smp zs (q + 76) == 0) = false := by simp [hs0]
      clear hs0
      rintro e w' ⟨rfl, rfl⟩
      go_wp2_with fail
      obtain ⟨o, ho⟩ : ∃ o, nxt zs 0 (q + 77) = o := ⟨_, rfl⟩
      refine (nextW hr3 hn hk3.c0 0 (q + 77) (by omega) _ (by omega) (optI o) (by rw [nxA0, ho])).mono ?_
      rcases o with _ | j
      · have HO := Lib.hid ho
        clear ho
        dsimp only [optI]
        rintro e w' ⟨rfl, rfl⟩
        go_wp2
        go_ret
        refine ⟨A2, m + 1, c2, _, hk3, hown3, hb3, ?_⟩
        rw [HE.out, edg_none HS.out HO.out]
        exact rfl
      · have hjn := nxt_le ho
        rw [L.out] at hjn
        obtain ⟨hj1, hj2, _⟩ := hjn
        have HO := Lib.hid ho
        clear ho
        dsimp only [optI]
        rintro e w' ⟨rfl, rfl⟩
        by_cases hfar : q + 84 < j
        · go_wp2
          go_ret
          refine ⟨A2, m + 1, c2, _, hk3, hown3, hb3, ?_⟩
          rw [HE.out, edg_far HS.out HO.out hfar]
          exact rfl
        · go_wp2
          go_roundw
          case rel =>
            refine ⟨j, m + 1, done ++ [(q : Int)], A2, c2, hj2, by omega, rfl, hk3, hown3, hb3, ?_⟩
            rw [HE.out, edg_go HS.out HO.out hfar]
            cases edg zs j <;> simp
          case measure => simp [intOf]; omega
end Go.Proofs.YtbaojbheopcjhaaGreatDoor

namespace Go.Proofs.YtbaojbheopcjhaaGreatDoor
open Go.RowKit

theorem roundCells_any (n : Int) (w : World) (h : 0 ≤ n) (h2 : n ≤ 1099511627776) :
    Calls Tryz.prog 227 #[.int .i64 n] w fun e w' => e = .returned (.int .i64 ((n + 4) / 8)) ∧ w = w' := by
  have e1 : (n + 4).tdiv 8 = (n + 4) / 8 := Int.tdiv_eq_ediv_of_nonneg (by omega)
  go_enter Tryz.func227, Tryz.ntmps227
  go_wp2
  go_ret
  exact ⟨ret_int (by first | rfl | exact e1 | omega), rfl⟩

theorem isPreamble_any (n : Int) (w : World) :
    Calls Tryz.prog 228 #[.int .i64 n] w fun e w' => e = .returned (.bool (inR n 3 15)) ∧ w = w' := by
  go_enter Tryz.func228, Tryz.ntmps228
  go_wp2_with (go_at_call 32; refine (within_any _ _ _ _).mono ?_; rintro e w' ⟨rfl, rfl⟩)
  go_ret
  exact ⟨rfl, rfl⟩

/-- what decode leaves -/
def Dj (w : World) (g : Nat) (A : Option Addr) (n c : Nat) (d : Dec) (e : Ending) (w' : World) : Prop :=
  ∃ (A' : Option Addr) (m c' : Nat) (q : Int) (es : List Int), e = .returned (.int .i64 d.code) ∧ Blk3 w' g 162 (.slice A n c) (.int .i64 q) (.slice A' m c') ∧ OwnI 2 w' (g + 1) A' m c' es ∧ Below g w w' ∧
    (d.code = 0 → q = d.pre ∧ es = d.edges)

theorem nxA1 {zs : List Int} {a q : Nat} (h : endP zs a = q) (h2 : a + 1 ≤ zs.length) : nxA zs 1 (a + 1) = (q : Int) := by
  unfold nxA; rw [if_pos rfl, ← h]; unfold endP optN
  cases nxt zs 1 (a + 1) with
  | none => simp only [Option.getD_none]; congr 1; omega
  | some j => rfl

theorem edg_le {zs : List Int} : ∀ (m f : Nat) (r : List Int × Nat), zs.length - f ≤ m → f < zs.length → edg zs f = some r → r.2 ≤ zs.length + 72 := by
  intro m
  induction m with
  | zero => intro f r hm hf; omega
  | succ m ih =>
    intro f r hm hf he
    by_cases h : smp zs (f + 76) = 0
    · rw [edg_end h] at he
      obtain rfl := Option.some.inj he
      show f + 72 ≤ _
      omega
    · cases hg : nxt zs 0 (f + 77) with
      | none => rw [edg_none h hg] at he; cases he
      | some g =>
        have hgn := nxt_le hg
        by_cases hf2 : f + 84 < g
        · rw [edg_far h hg hf2] at he; cases he
        · rw [edg_go h hg hf2] at he
          cases hx : edg zs g with
          | none => rw [hx] at he; cases he
          | some x =>
            rw [hx] at he
            obtain rfl := Option.some.inj he
            exact ih g x (by omega) hgn.2.1 hx

set_option maxHeartbeats 4000000 in
theorem decode_any (A : Option Addr) (n c g : Nat) (zs : List Int) (w : World) (hk : Blk3 w g 162 (.slice A n c) (.int .i64 0) (.slice none 0 0)) (h : RI w g A n zs) (hn : n ≤ 1048576) :
    Calls Tryz.prog 214 #[.pointer (some ⟨g, 0, none⟩)] w (Dj w g A n c (decP zs)) := by
  have L := Lib.hid h.len
  have hgl := hk.lt
  have k0 := hk.c0
  have k1 := hk.c1
  have f1 := hk.free 1
  have hr := h.more (Nat.le_of_lt hgl)
  obtain ⟨oa, hoa⟩ : ∃ o, nxt zs 0 0 = o := ⟨_, rfl⟩
  rcases oa with _ | a
  · have E := Lib.hid (show decP zs = ⟨4, 0, []⟩ from by unfold decP; rw [hoa])
    have HA := Lib.hid hoa
    clear hoa
    go_enter Tryz.func214, Tryz.ntmps214
    go_wp2_with fail
    refine (nextW hr hn k0 0 0 (by omega) (-1) (by omega) (-1) (by rw [nxA0, HA.out]; rfl)).mono ?_
    rintro e w' ⟨rfl, rfl⟩
    go_wp2
    go_ret
    rw [E.out]
    exact ⟨_, _, _, _, _, rfl, hk, OwnI.nil _ _ _, Below.refl _ _, fun e => by cases e⟩
  have ha := nxt_le hoa
  rw [L.out] at ha
  obtain ⟨_, ha2, _⟩ := ha
  have HA := Lib.hid hoa
  obtain ⟨q, hq⟩ : ∃ q, endP zs a = q := ⟨_, rfl⟩
  have hq1 : a < q ∧ q ≤ n := by
    rw [← hq]; unfold endP
    cases hoh : nxt zs 1 (a + 1) with
    | none => simp only [Option.getD_none]; rw [L.out]; omega
    | some j =>
      have := nxt_le hoh
      rw [L.out] at this
      simp only [Option.getD_some]; omega
  obtain ⟨hq1, hq2⟩ := hq1
  have HQ := Lib.hid hq
  clear hq hoa
  obtain ⟨og, hog⟩ : ∃ o, nxt zs 0 (q + 1) = o := ⟨_, rfl⟩
  have HG := Lib.hid hog
  have hgn : ∀ y, og = some y → q < y ∧ y < n := by
    intro y e
    rw [e] at hog
    have := nxt_le hog
    rw [L.out] at this
    omega
  clear hog
  obtain ⟨p, hp⟩ : ∃ p, (((q - a : Nat) : Int) + 4) / 8 = p := ⟨_, rfl⟩
  have HP := Lib.hid hp
  have hp0 : ((q : Int) - (a : Int) + 4) / 8 = p := by rw [← hp]; congr 2; omega
  have HP0 := Lib.hid hp0
  clear hp hp0
  have HD := Lib.hid (show decP zs = if inR p 3 15 then decH zs p q else ⟨6, 0, []⟩ from by unfold decP; rw [HA.out]; show decA zs a = _; unfold decA; rw [HQ.out, HP.out])
  have hk1 := hk.set1 (.int .i64 p)
  have hb1 : Below g w (w.setCell ⟨g, 1, none⟩ (.int .i64 p)) := Below.setCell (Below.refl g w) (by simp) _
  have hr1 := (h.below hb1 (Nat.le_refl _)).more (Nat.le_of_lt hk1.lt)
  have k10 := hk1.c0
  have N0 := Lib.hid (nextW hr hn k0 0 0 (by omega) (-1) (by omega) a (by rw [nxA0, HA.out]; rfl))
  have N1 := Lib.hid (nextW hr hn k0 1 (a + 1) (by omega) a (by omega) q (nxA1 HQ.out (by rw [L.out]; omega)))
  have N2 := Lib.hid (nextW hr1 hn k10 0 (q + 1) (by omega) q (by omega) (optI og) (by rw [nxA0, HG.out]))
  rcases bool_cases (inR p 3 15) with hpr | hpr
  case inr =>
    have E := Lib.hid (show decP zs = ⟨6, 0, []⟩ from by rw [HD.out, hpr]; rfl)
    go_enter Tryz.func214, Tryz.ntmps214
    go_wp2_with fail
    refine N0.out.mono ?_
    rintro e w' ⟨rfl, rfl⟩
    go_wp2_with fail
    refine N1.out.mono ?_
    rintro e w' ⟨rfl, rfl⟩
    go_wp2_with fail
    refine (roundCells_any _ _ (by omega) (by omega)).mono ?_
    rw [HP0.out]
    rintro e w' ⟨rfl, rfl⟩
    go_wp2_with fail
    refine (isPreamble_any _ _).mono ?_
    rw [hpr]
    rintro e w' ⟨rfl, rfl⟩
    go_wp2
    go_ret
    rw [E.out]
    exact ⟨_, _, _, _, _, rfl, hk1, OwnI.nil _ _ _, hb1, fun e => by cases e⟩
  case inl =>
    rcases og with _ | y
    · have E := Lib.hid (show decP zs = ⟨6, 0, []⟩ from by rw [HD.out, hpr]; show decH zs p q = _; unfold decH; rw [HG.out])
      go_enter Tryz.func214, Tryz.ntmps214
      go_wp2_with fail
      refine N0.out.mono ?_
      rintro e w' ⟨rfl, rfl⟩
      go_wp2_with fail
      refine N1.out.mono ?_
      rintro e w' ⟨rfl, rfl⟩
      go_wp2_with fail
      refine (roundCells_any _ _ (by omega) (by omega)).mono ?_
      rw [HP0.out]
      rintro e w' ⟨rfl, rfl⟩
      go_wp2_with fail
      refine (isPreamble_any _ _).mono ?_
      rw [hpr]
      rintro e w' ⟨rfl, rfl⟩
      go_wp2_with fail
      refine N2.out.mono ?_
      (try dsimp only [optI])
      rintro e w' ⟨rfl, rfl⟩
      go_wp2
      go_ret
      rw [E.out]
      exact ⟨_, _, _, _, _, rfl, hk1, OwnI.nil _ _ _, hb1, fun e => by cases e⟩
    obtain ⟨hg1, hg2⟩ := hgn y rfl
    clear hgn
    have HB := Lib.hid (show decP zs = if bad5 q y then ⟨6, 0, []⟩ else decF zs p q y from by rw [HD.out, hpr]; show decH zs p q = _; unfold decH; rw [HG.out])
    have three : (19 < y - q ∨ y - q < 5 ∨ y - q = 12) ∨ ((¬ 19 < y - q ∧ ¬ y - q < 5 ∧ ¬ y - q = 12) ∧ y - q < 12) ∨ ((¬ 19 < y - q ∧ ¬ y - q < 5 ∧ ¬ y - q = 12) ∧ ¬ y - q < 12) := by omega
    rcases three with h5 | ⟨⟨h6, h7, h8⟩, h9⟩ | ⟨⟨h6, h7, h8⟩, h9⟩
    · have E := Lib.hid (show decP zs = ⟨6, 0, []⟩ from by
        rw [HB.out, show bad5 q y = true from by unfold bad5; simp only [Bool.or_eq_true, decide_eq_true_eq]; omega]; rfl)
      rcases h5 with h5 | h5 | h5
      case' inl => have hb12 : ((y : Int) - (q : Int) == 12) = false := by simp; omega
      case' inr.inl => have hb12 : ((y : Int) - (q : Int) == 12) = false := by simp; omega
      case' inr.inr => have hb12 : ((y : Int) - (q : Int) == 12) = true := by simp; omega
      all_goals
        go_enter Tryz.func214, Tryz.ntmps214
        go_wp2_with fail
        refine N0.out.mono ?_
        rintro e w' ⟨rfl, rfl⟩
        go_wp2_with fail
        refine N1.out.mono ?_
        rintro e w' ⟨rfl, rfl⟩
        go_wp2_with fail
        refine (roundCells_any _ _ (by omega) (by omega)).mono ?_
        rw [HP0.out]
        rintro e w' ⟨rfl, rfl⟩
        go_wp2_with fail
        refine (isPreamble_any _ _).mono ?_
        rw [hpr]
        rintro e w' ⟨rfl, rfl⟩
        go_wp2_with fail
        refine N2.out.mono ?_
        (try dsimp only [optI])
        rintro e w' ⟨rfl, rfl⟩
        go_wp2
        go_ret
        rw [E.out]
        exact ⟨_, _, _, _, _, rfl, hk1, OwnI.nil _ _ _, hb1, fun e => by cases e⟩
    · have hb12 : ((y : Int) - (q : Int) == 12) = false := by simp; omega
      have E := Lib.hid (show decP zs = ⟨tailC zs y, p, []⟩ from by
        rw [HB.out, show bad5 q y = false from by unfold bad5; simp [h6, h7, h8]]; show decF zs p q y = _; unfold decF; rw [if_pos h9])
      obtain ⟨o, ho⟩ : ∃ o, nxt zs 0 (y + 12) = o := ⟨_, rfl⟩
      have N3 := Lib.hid (nextW hr1 hn k10 0 (y + 12) (by omega) (y + 11) (by omega) (optI o) (by rw [nxA0, ho]))
      have HT := Lib.hid (show tailC zs y = if o.isSome then 6 else 0 from by unfold tailC; rw [ho])
      clear ho
      rcases o with _ | j
      all_goals
        go_enter Tryz.func214, Tryz.ntmps214
        go_wp2_with fail
        refine N0.out.mono ?_
        rintro e w' ⟨rfl, rfl⟩
        go_wp2_with fail
        refine N1.out.mono ?_
        rintro e w' ⟨rfl, rfl⟩
        go_wp2_with fail
        refine (roundCells_any _ _ (by omega) (by omega)).mono ?_
        rw [HP0.out]
        rintro e w' ⟨rfl, rfl⟩
        go_wp2_with fail
        refine (isPreamble_any _ _).mono ?_
        rw [hpr]
        rintro e w' ⟨rfl, rfl⟩
        go_wp2_with fail
        refine N2.out.mono ?_
        (try dsimp only [optI])
        rintro e w' ⟨rfl, rfl⟩
        go_wp2_with fail
        refine N3.out.mono ?_
        dsimp only [optI]
        rintro e w' ⟨rfl, rfl⟩
        go_wp2
        go_ret
        rw [E.out]
        exact ⟨_, _, _, _, _, ret_int HT.out.symm, hk1, OwnI.nil _ _ _, hb1, fun e => ⟨rfl, rfl⟩⟩
    · have hb12 : ((y : Int) - (q : Int) == 12) = false := by simp; omega
      obtain ⟨o, ho⟩ : ∃ o, edg zs y = o := ⟨_, rfl⟩
      have hbf := bytesFrom_any A n c g zs y p _ hk1 (h.below hb1 (Nat.le_refl _)) hn hg2
      rw [ho] at hbf
      have HBF := Lib.hid hbf
      clear hbf
      have E0 := Lib.hid (show decP zs = decF zs p q y from by rw [HB.out, show bad5 q y = false from by unfold bad5; simp [h6, h7, h8]]; rfl)
      rcases o with _ | r
      · have E := Lib.hid (show decP zs = ⟨6, p, []⟩ from by rw [E0.out]; unfold decF; rw [if_neg h9, ho])
        clear ho
        go_enter Tryz.func214, Tryz.ntmps214
        go_wp2_with fail
        refine N0.out.mono ?_
        rintro e w' ⟨rfl, rfl⟩
        go_wp2_with fail
        refine N1.out.mono ?_
        rintro e w' ⟨rfl, rfl⟩
        go_wp2_with fail
        refine (roundCells_any _ _ (by omega) (by omega)).mono ?_
        rw [HP0.out]
        rintro e w' ⟨rfl, rfl⟩
        go_wp2_with fail
        refine (isPreamble_any _ _).mono ?_
        rw [hpr]
        rintro e w' ⟨rfl, rfl⟩
        go_wp2_with fail
        refine N2.out.mono ?_
        (try dsimp only [optI])
        rintro e w' ⟨rfl, rfl⟩
        go_wp2_with fail
        refine HBF.out.mono ?_
        rintro e w2 ⟨A2, m2, c2, es, hblk2, hown2, hb2, hres⟩
        obtain rfl := hres
        go_wp2
        go_ret
        rw [E.out]
        exact ⟨_, _, _, _, _, rfl, hblk2, hown2, hb1.trans hb2, fun e => by cases e⟩
      · have E := Lib.hid (show decP zs = ⟨tailC zs r.2, p, r.1⟩ from by rw [E0.out]; unfold decF; rw [if_neg h9, ho])
        have hr72 := edg_le _ y r (Nat.le_refl _) (by rw [L.out]; exact hg2) ho
        rw [L.out] at hr72
        clear ho
        obtain ⟨rl, rt⟩ := r
        simp only at hr72
        obtain ⟨o, ho⟩ : ∃ o, nxt zs 0 (rt + 12) = o := ⟨_, rfl⟩
        have HT := Lib.hid (show tailC zs rt = if o.isSome then 6 else 0 from by unfold tailC; rw [ho])
        have HO := Lib.hid ho
        clear ho
        rcases o with _ | j
        all_goals
          go_enter Tryz.func214, Tryz.ntmps214
          go_wp2_with fail
          refine N0.out.mono ?_
          rintro e w' ⟨rfl, rfl⟩
          go_wp2_with fail
          refine N1.out.mono ?_
          rintro e w' ⟨rfl, rfl⟩
          go_wp2_with fail
          refine (roundCells_any _ _ (by omega) (by omega)).mono ?_
          rw [HP0.out]
          rintro e w' ⟨rfl, rfl⟩
          go_wp2_with fail
          refine (isPreamble_any _ _).mono ?_
          rw [hpr]
          rintro e w' ⟨rfl, rfl⟩
          go_wp2_with fail
          refine N2.out.mono ?_
          (try dsimp only [optI])
          rintro e w' ⟨rfl, rfl⟩
          go_wp2_with fail
          refine HBF.out.mono ?_
          rintro e w2 ⟨A2, m2, c2, es, hblk2, hown2, hb2, hres⟩
          obtain ⟨rfl, rfl⟩ := hres
          have hr2 := (h.below (hb1.trans hb2) (Nat.le_refl _)).more (Nat.le_of_lt hblk2.lt)
          go_wp2_with fail
          refine (nextW hr2 hn hblk2.c0 0 (rt + 12) (by omega) _ (by omega) _ (by rw [nxA0, HO.out])).mono ?_
          dsimp only [optI]
          rintro e w' ⟨rfl, rfl⟩
          go_wp2
          go_ret
          rw [E.out]
          exact ⟨_, _, _, _, _, ret_int HT.out.symm, hblk2, hown2, hb1.trans hb2, fun e => ⟨rfl, rfl⟩⟩

/-- what decodeVoted hands back -/
def Dv (w : World) (A : Option Addr) (n c : Nat) (d : Dec) (e : Ending) (w' : World) : Prop :=
  ∃ pv, e = .returned (.tuple #[pv, .int .i64 d.code]) ∧ Below w.heap.size w w' ∧
    (d.code = 0 → ∃ (A' : Option Addr) (m c' : Nat), pv = .pointer (some ⟨w.heap.size, 0, none⟩) ∧ Blk3 w' w.heap.size 162 (.slice A n c) (.int .i64 d.pre) (.slice A' m c') ∧ OwnI 2 w' (w.heap.size + 1) A' m c' d.edges)

set_option maxHeartbeats 2000000 in
theorem decodeVoted_any (A : Option Addr) (n c : Nat) (zs : List Int) (w : World) (h : RI w w.heap.size A n zs) (hn : n ≤ 1048576) :
    Calls Tryz.prog 176 #[.slice A n c] w (Dv w A n c (decZ zs)) := by
  have hn' : n ≤ 1099511627776 := by omega
  rcases bool_cases (isBits zs) with hz | hz
  case inr =>
    have E := Lib.hid (show decZ zs = ⟨1, 0, []⟩ from by unfold decZ; rw [hz]; rfl)
    go_enter Tryz.func176, Tryz.ntmps176
    go_wp2_with (go_at_call 46; refine (iIsBits_any _ _ _ _ _ h hn').mono ?_; rintro e w' ⟨rfl, rfl⟩)
    go_ret2
    rw [E.out]
    exact ⟨_, rfl, Below.refl _ _, fun e => by cases e⟩
  case inl =>
    obtain ⟨d, hd⟩ : ∃ d, decP zs = d := ⟨_, rfl⟩
    have E := Lib.hid (show decZ zs = d from by unfold decZ; rw [hz]; exact hd)
    have hk := Blk3.new w 162 (.slice A n c) (.int .i64 0) (.slice none 0 0)
    have hb0 : Below w.heap.size w (w.alloc (.cells #[.slice A n c, .int .i64 0, .slice none 0 0] 162)) := (Below.refl _ _).alloc (Nat.le_refl _) _
    have hdc := decode_any A n c w.heap.size zs _ hk (h.below hb0 (Nat.le_refl _)) hn
    rw [hd] at hdc
    have HDC := Lib.hid hdc
    clear hdc hd
    obtain ⟨dc, dp, de⟩ := d
    rcases ne_cases dc with rfl | ⟨h1, h2, h3⟩
    all_goals
      go_enter Tryz.func176, Tryz.ntmps176
      go_wp2_with (go_at_call 46; refine (iIsBits_any _ _ _ _ _ h hn').mono ?_; rintro e w' ⟨rfl, rfl⟩)
      refine HDC.out.mono ?_
      rintro e w1 ⟨A', m, c', q, es, rfl, hblk, hown, hb, hres⟩
      dsimp only
      go_wp2
      go_ret2
      rw [E.out]
    · obtain ⟨rfl, rfl⟩ := hres trivial
      exact ⟨_, rfl, hb0.trans hb, fun _ => ⟨A', m, c', rfl, hblk, hown⟩⟩
    · exact ⟨_, rfl, hb0.trans hb, fun e => absurd e h1⟩
end Go.Proofs.YtbaojbheopcjhaaGreatDoor

namespace Go.Proofs.YtbaojbheopcjhaaGreatDoor
open Go.RowKit

set_option maxHeartbeats 1000000 in
theorem l01Own_any (A : Option Addr) (n c : Nat) (zs : List Int) (w : World) (h : RI w w.heap.size A n zs) (hn : n ≤ 1099511627776) (hA : A = none → c = 0) :
    Calls Tryz.prog 63 #[.slice A n c] w (RetI 2 w n zs) := by
  obtain ⟨i, hi, hz, hs1, hb1⟩ := info_split infoInt
  have hb0 : Below w.heap.size w (w.alloc (.cells #[] 2)) := (Below.refl _ _).alloc (Nat.le_refl _) _
  have hown0 : OwnI 2 (w.alloc (.cells #[] 2)) w.heap.size (some ⟨w.heap.size, 0, none⟩) 0 0 [] := OwnI.empty w (Nat.le_refl _)
  by_cases h0 : 0 < n
  · obtain ⟨b, o, rfl, hbl, hc⟩ := (h.below hb0 (Nat.le_refl _)).get h0
    have hL := h.len
    go_enter Tryz.func63, Tryz.ntmps63
    go_wp2_with (at_builtin; refine wpList_append_own _ rfl _ _ 31 rfl w.heap.size 2 i (.int .i64 0) 1 8 Tryz.underlying31 hi hz hs1 hb1 rfl (by omega) _ 0 _ rfl hown0 ⟨b, o, none⟩ n c (zs.map (Value.int .i64)) rfl (by rw [List.length_map, hL, Nat.mul_one]) (by intro j u hu; rw [Go.WideShapes.add_plain]; rw [List.getElem?_map] at hu; rcases Nat.lt_or_ge j n with hj | hj; (rw [gi_some (by rw [hL]; exact hj)] at hu; obtain rfl := Option.some.inj hu; exact hc j hj); (rw [List.getElem?_eq_none (by rw [hL]; exact hj)] at hu; cases hu)) (by intro u hu; obtain ⟨z, _, rfl⟩ := List.mem_map.1 hu; rfl) (by simp only [maxLen]; omega) (by omega) (by simp) ?_; intro v' w2 hown2 hg2 _)
    rw [Nat.zero_add, List.map_nil, List.nil_append] at hown2
    rcases hown2.2 with ⟨h1, h2⟩ | ⟨g, cap, cur, hv, hrest⟩
    · omega
    subst hv
    go_wp2
    go_ret
    exact ⟨_, _, rfl, hown2, hb0.grown hg2 (by simp) (fun g e => (own_row hown0 g e).1)⟩
  · obtain rfl : n = 0 := by omega
    obtain rfl : zs = [] := List.length_eq_zero_iff.1 h.len
    rcases A with _ | ad
    · obtain rfl := hA rfl
      go_enter Tryz.func63, Tryz.ntmps63
      go_wp2_with (at_builtin; refine wpList_append_own_none rfl _ _ 31 rfl w.heap.size 2 i 1 Tryz.underlying31 hi _ 0 _ rfl hown0 rfl ?_)
      go_wp2
      go_ret
      exact ⟨_, _, rfl, hown0, hb0⟩
    · go_enter Tryz.func63, Tryz.ntmps63
      go_wp2_with (at_builtin; refine wpList_append_own _ rfl _ _ 31 rfl w.heap.size 2 i (.int .i64 0) 1 8 Tryz.underlying31 hi hz hs1 hb1 rfl (by omega) _ 0 _ rfl hown0 ad 0 c [] rfl rfl (by intro j u hu; simp at hu) (by intro u hu; simp at hu) (by simp only [maxLen]; omega) (by omega) (by simp) ?_; intro v' w2 hown2 hg2 hiff)
      rw [Nat.zero_add, List.map_nil, List.append_nil] at hown2
      have hbw := hb0.grown hg2 (by simp) (fun g e => (own_row hown0 g e).1)
      rcases hown2.2 with ⟨h1, h2⟩ | ⟨g, cap, cur, hv, hrest⟩
      · subst h1
        go_wp2
        go_ret
        exact ⟨_, _, rfl, hown2, hbw⟩
      · subst hv
        go_wp2
        go_ret
        exact ⟨_, _, rfl, hown2, hbw⟩

theorem own_none {T : TypeId} {w : World} {base n c : Nat} {A : Option Addr} {zs : List Int} (h : OwnI T w base A n c zs) : A = none → c = 0 := by
  rintro rfl
  rcases h.2 with ⟨h1, h2⟩ | ⟨g, cap, cur, hv, _⟩
  · injection h1
  · injection hv with h1; cases h1

namespace EdgesOfBytes
def res (zs : List Int) : List Int := if (decZ zs).code = 0 then (decZ zs).edges else []
def cod (zs : List Int) : Int := (decZ zs).code

theorem edg_len {zs : List Int} : ∀ (m f : Nat) (r : List Int × Nat), zs.length - f ≤ m → f < zs.length → edg zs f = some r → r.1.length + f ≤ zs.length := by
  intro m
  induction m with
  | zero => intro f r hm hf; omega
  | succ m ih =>
    intro f r hm hf he
    by_cases h : smp zs (f + 76) = 0
    · rw [edg_end h] at he
      obtain rfl := Option.some.inj he
      show 1 + f ≤ _
      omega
    · cases hg : nxt zs 0 (f + 77) with
      | none => rw [edg_none h hg] at he; cases he
      | some g =>
        have hgn := nxt_le hg
        by_cases hf2 : f + 84 < g
        · rw [edg_far h hg hf2] at he; cases he
        · rw [edg_go h hg hf2] at he
          cases hx : edg zs g with
          | none => rw [hx] at he; cases he
          | some x =>
            rw [hx] at he
            obtain rfl := Option.some.inj he
            have := ih g x (by omega) hgn.2.1 hx
            show x.1.length + 1 + f ≤ _
            omega
theorem decP_len (zs : List Int) : (decP zs).edges.length ≤ zs.length := by
  unfold decP
  split
  · simp
  · unfold decA
    split
    · unfold decH
      split
      · simp
      · rename_i f hf
        split
        · simp
        · unfold decF
          split
          · simp
          · split
            · simp
            · rename_i r hr
              have := edg_len _ f r (Nat.le_refl _) (nxt_bound hf) hr
              show r.1.length ≤ _
              omega
    · simp
theorem decZ_len (zs : List Int) : (decZ zs).edges.length ≤ zs.length := by
  unfold decZ
  split
  · exact decP_len zs
  · simp
theorem res_len (zs : List Int) : (res zs).length ≤ zs.length := by
  unfold res
  split
  · exact decZ_len zs
  · simp

end EdgesOfBytes
end Go.Proofs.YtbaojbheopcjhaaGreatDoor
