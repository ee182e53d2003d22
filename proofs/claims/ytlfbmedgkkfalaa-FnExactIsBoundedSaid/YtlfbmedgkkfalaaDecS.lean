/- The walks of the reference's decoder. Conditions: lists of at most 2^40 numbers. -/
import Derived.Test.YtlfbmedgkkfalaaBase
import Derived.Test.YtlfbmedgkkfalaaKit4
import Derived.Test.YtlfbmedgkkfalaaPlainDec
namespace Go.Proofs.Ytlfbmedgkkfalaa
open Go.RowKit

/-- an index or -1 -/
def optI (o : Option Nat) : Int := match o with | none => -1 | some j => (j : Int)

set_option maxHeartbeats 400000 in
theorem l23At_any (A : Option Addr) (n c : Nat) (zs : List Int) (i : Nat) (w : World) (h : RI w w.heap.size A n zs) (hn : n ≤ 1099511627776) (hi : i ≤ 1099511627776) :
    Calls Try.prog 253 #[.slice A n c, .int .i64 i] w fun e w' => e = .returned (.int .i64 (smp zs i)) ∧ w = w' := by
  have L := Lib.hid h.len
  by_cases hlt : i < n
  · obtain ⟨b, o, rfl, _, hc⟩ := h.get (by omega)
    have hcell := hc i hlt
    clear hc
    go_enter Try.func253, Try.ntmps253
    go_wp2
    go_ret
    exact ⟨ret_int (by unfold smp; rw [L.out, if_pos hlt]), rfl⟩
  · go_enter Try.func253, Try.ntmps253
    go_wp2
    go_ret
    exact ⟨ret_int (by unfold smp; rw [L.out, if_neg hlt]), rfl⟩

set_option maxHeartbeats 400000 in
theorem l23First_any (A : Option Addr) (n c : Nat) (zs : List Int) (i : Nat) (v : Int) (w : World) (h : RI w w.heap.size A n zs) (hn : n ≤ 1099511627776) (hi : i ≤ 1099511627776) :
    Calls Try.prog 272 #[.slice A n c, .int .i64 ((i : Int) - 1), .int .i64 v] w fun e w' => e = .returned (.int .i64 (optI (nxt zs v i))) ∧ w = w' := by
  have L := Lib.hid h.len
  go_enter Try.func272, Try.ntmps272
  go_wp2
  go_loop [7] (fun x => ∃ k : Nat, i ≤ k ∧ x = .int .i64 k ∧ nxt zs v i = nxt zs v k ∧ k ≤ i + n) (fun x => n - (intOf x).toNat)
  case atStart => exact ⟨i, Nat.le_refl _, by go_num, rfl, by omega⟩
  case round =>
    obtain ⟨k, hk, rfl, he, hkn⟩ := hrel
    have HE := Lib.hid he
    clear he
    by_cases hlt : k < n
    · obtain ⟨b, o, rfl, _, hc⟩ := h.get (by omega)
      have hcell := hc k hlt
      clear hc
      by_cases hv : gi zs k = v
      · have hb : (gi zs k == v) = true := by simp [hv]
        have HV := Lib.hid hv
        clear hv
        go_wp2
        go_ret
        exact ⟨ret_int (by rw [HE.out, nxt_hit (by rw [L.out]; exact hlt) HV.out]; rfl), rfl⟩
      · have hb : (gi zs k == v) = false := by simp [hv]
        have HV := Lib.hid hv
        clear hv
        go_wp2
        go_round
        case rel => exact ⟨k + 1, by omega, by go_num, by rw [HE.out, nxt_go (by rw [L.out]; exact hlt) HV.out], by omega⟩
        case measure => simp [intOf]; omega
    · go_wp2
      go_ret
      exact ⟨ret_int (by rw [HE.out, nxt_end (by rw [L.out]; omega)]; rfl), rfl⟩

set_option maxHeartbeats 400000 in
theorem l23Tail_any (A : Option Addr) (n c : Nat) (zs : List Int) (t : Nat) (w : World) (h : RI w w.heap.size A n zs) (hn : n ≤ 1099511627776) (hi : t ≤ 1099511627000) :
    Calls Try.prog 273 #[.slice A n c, .int .i64 t] w fun e w' => e = .returned (.int .i64 (tailC zs t)) ∧ w = w' := by
  have K := Lib.hid (l23First_any A n c zs (t + 12) 0 w h hn (by omega))
  obtain ⟨o, ho⟩ : ∃ o, nxt zs 0 (t + 12) = o := ⟨_, rfl⟩
  have HO := Lib.hid ho
  clear ho
  have e1 : (((t + 12 : Nat) : Int) - 1) = (t : Int) + 11 := by omega
  rcases o with _ | j
  all_goals
    go_enter Try.func273, Try.ntmps273
    go_wp2_with fail
    have := K.out
    rw [e1, HO.out] at this
    refine this.mono ?_
    dsimp only [optI]
    rintro e w' ⟨rfl, rfl⟩
    go_wp2
    go_ret
    exact ⟨ret_int (by simp [tailC, HO.out]), rfl⟩

/-- what the byte loop answers -/
def edgL (zs : List Int) (f : Nat) : List Int := match edg zs f with | none => [] | some r => r.1
def edgC (zs : List Int) (f : Nat) : Int := match edg zs f with | none => 6 | some r => tailC zs r.2

theorem nxt_bound {zs : List Int} {v : Int} {i j : Nat} (h : nxt zs v i = some j) : j < zs.length := (nxt_le h).2.1


theorem edg_ge {zs : List Int} {v : Int} {i j : Nat} (h : nxt zs v i = some j) : i ≤ j := (nxt_le h).1

set_option maxHeartbeats 2000000 in
theorem l23Edges_any (A : Option Addr) (n c : Nat) (zs : List Int) (f : Nat) (w : World) (h : RI w w.heap.size A n zs) (hn : n ≤ 1048576) (hi : f < n) :
    Calls Try.prog 274 #[.slice A n c, .int .i64 f] w (RetIC 2 w (edgL zs f) (edgC zs f)) := by
  have L := Lib.hid h.len
  have hn' : n ≤ 1099511627776 := by omega
  go_enter Try.func274, Try.ntmps274
  go_wp2
  go_loopw [1, 6, 7] (fun x o _ wr => ∃ (g m : Nat) (done : List Int) (A' : Option Addr) (c' : Nat), g < n ∧ m ≤ g ∧ x = .int .i64 g ∧ o = .slice A' m c' ∧ OwnI 2 wr w.heap.size A' m c' done ∧ Below w.heap.size w wr ∧ edg zs f = (edg zs g).map fun r => (done ++ r.1, r.2)) (fun x _ _ _ => n - (intOf x).toNat)
  case atStart => exact ⟨f, 0, [], some ⟨w.heap.size, 0, none⟩, 0, hi, by omega, rfl, rfl, OwnI.empty _ (Nat.le_refl _), (Below.refl _ _).alloc (Nat.le_refl _) _, by simp⟩
  case round =>
    obtain ⟨g, m, done, A', c', hg, hm, rfl, rfl, hown, hb, he⟩ := hrel
    have HE := Lib.hid he
    clear he
    have hr := h.up hb
    have hcap := hown.cap
    go_wp2_with (at_builtin; refine wpl_appI _ _ Try.underlying24 infoInt rfl _ _ rfl w.heap.size _ m _ done rfl hown g rfl (by omega) hb.size ?_; intro A2 c2 w2 hown2 hB2 hg2)
    have hb2 : Below w.heap.size w w2 := hb.trans (hB2 _ (Nat.le_refl _))
    have hr2 := h.up hb2
    have hs := l23At_any A n c zs (g + 76) w2 hr2 hn' (by omega)
    have e76 : ((g + 76 : Nat) : Int) = (g : Int) + 76 := by omega
    rw [e76] at hs
    refine hs.mono ?_
    clear hs
    by_cases hs0 : smp zs (g + 76) = 0
    · have HS := Lib.hid hs0
      rw [hs0]
      clear hs0
      rintro e w' ⟨rfl, rfl⟩
      go_wp2_with fail
      have ht := l23Tail_any A n c zs (g + 72) w2 hr2 hn' (by omega)
      have e72 : ((g + 72 : Nat) : Int) = (g : Int) + 72 := by omega
      rw [e72] at ht
      refine ht.mono ?_
      clear ht
      rintro e w' ⟨rfl, rfl⟩
      go_wp2
      go_ret2
      refine ⟨A2, m + 1, c2, ?_, ?_, hb2⟩
      · rw [show edgC zs f = tailC zs (g + 72) from by unfold edgC; rw [HE.out, edg_end HS.out]; rfl]; rfl
      · rw [show edgL zs f = done ++ [(g : Int)] from by unfold edgL; rw [HE.out, edg_end HS.out]; rfl]; exact hown2
    · have HS := Lib.hid hs0
      have hsb : (smp zs (g + 76) == 0) = false := by simp [hs0]
      clear hs0
      rintro e w' ⟨rfl, rfl⟩
      go_wp2_with fail
      have hf := l23First_any A n c zs (g + 77) 0 w2 hr2 hn' (by omega)
      have e77 : ((g + 77 : Nat) : Int) - 1 = (g : Int) + 76 := by omega
      rw [e77] at hf
      refine hf.mono ?_
      clear hf
      obtain ⟨o, ho⟩ : ∃ o, nxt zs 0 (g + 77) = o := ⟨_, rfl⟩
      rw [ho]
      rcases o with _ | j
      · have HO := Lib.hid ho
        clear ho
        dsimp only [optI]
        rintro e w' ⟨rfl, rfl⟩
        go_wp2
        go_ret2
        refine ⟨none, 0, 0, ?_, ?_, hb2⟩
        · rw [show edgC zs f = 6 from by unfold edgC; rw [HE.out, edg_none HS.out HO.out]; rfl]; rfl
        · rw [show edgL zs f = [] from by unfold edgL; rw [HE.out, edg_none HS.out HO.out]; rfl]; exact OwnI.nil _ _ _
      · have hjn := nxt_le ho
        rw [L.out] at hjn
        obtain ⟨hj1, hj2, _⟩ := hjn
        have HO := Lib.hid ho
        clear ho
        dsimp only [optI]
        rintro e w' ⟨rfl, rfl⟩
        by_cases hfar : g + 84 < j
        · go_wp2
          go_ret2
          refine ⟨none, 0, 0, ?_, ?_, hb2⟩
          · rw [show edgC zs f = 6 from by unfold edgC; rw [HE.out, edg_far HS.out HO.out hfar]; rfl]; rfl
          · rw [show edgL zs f = [] from by unfold edgL; rw [HE.out, edg_far HS.out HO.out hfar]; rfl]; exact OwnI.nil _ _ _
        · go_wp2
          go_roundw
          case rel =>
            refine ⟨j, m + 1, done ++ [(g : Int)], A2, c2, hj2, by omega, rfl, rfl, hown2, hb2, ?_⟩
            rw [HE.out, edg_go HS.out HO.out hfar]
            cases edg zs j <;> simp
          case measure => simp [intOf]; omega
end Go.Proofs.Ytlfbmedgkkfalaa
