/- The walks of SlipsOfBytes, of the program and the reference. Conditions: lists of at most 2^20 numbers. -/
import Derived.Test.YtdbfnldjibjbkaaStrobe
import Derived.Deep.RegionLaw
namespace Go.Proofs.Ytdbfnldjibjbkaa
open Go.RowKit

/-- 'out = append(out, y)' as a step of a region that draws -/
theorem step_appI {P : Program} {ops : Array Oper} {o : Oper} {a : Act} {W : World} {K : Act → World → Prop} {Q : Exit → Act → World → Prop} {E : Prop} {TS T : TypeId}
    (ht : P.underlying TS = some (.slice T)) (hinfo : (P.info? T).map (fun i => (i.zero, i.size, i.bytes)) = some (some (.int .i64 0), 1, 8))
    (hgd : o.guard = none) (s x : Operand) (ho : o.op = .call { callee := .builtin .append, args := #[s, x], argTypes := #[TS, TS] })
    (base : Nat) (A : Option Addr) (n c : Nat) (zs : List Int) (hs : a.eval s = .slice A n c) (hown : OwnI T W base A n c zs)
    (ad : Addr) (c' : Nat) (y : Int) (hx : a.eval x = .slice (some ad) 1 c') (hcell : W.cell? ad = some (.int .i64 y))
    (hn : n + 1 ≤ 1099511627776) (hbase : base ≤ W.heap.size)
    (h : ∀ A' c' w', OwnI T w' base A' (n + 1) c' (zs ++ [y]) → W.grownBy w' (Value.slice A n c).ownBlock → K (a.put o.dst (.slice A' (n + 1) c')) w') :
    if Region.wanted o (yielded ops a.tmps) = true then Oper.wp P o a W K Q else E := by
  have hw : Region.wanted o (yielded ops a.tmps) = true := by simp [Region.wanted, hgd]
  rw [if_pos hw]
  obtain ⟨i, hi, hz, hs1, hb1⟩ := info_split hinfo
  refine wp_append_own W s x TS ho base T i (.int .i64 0) 1 8 ht hi hz hs1 hb1 rfl (by omega) (.slice A n c) n _ hs hown ad 1 c' [.int .i64 y] hx rfl ?_ ?_ (by simp only [maxLen]; omega) (by omega) hbase ?_
  · intro j u hu
    rcases j with _ | j
    · simp at hu
      subst hu
      have : ad.add 0 = ad := by simp [Addr.add]
      rw [this]; exact hcell
    · simp at hu
  · intro u hu
    simp at hu
    subst hu
    rfl
  · intro v' w' hown' hg _
    rcases hown'.2 with ⟨h1, h2⟩ | ⟨g, cap, cur, hv, hrest⟩
    · omega
    · subst hv
      exact h _ _ _ (by unfold OwnI; rw [List.map_append]; exact hown') hg
theorem new_cell (W : World) (y : Int) (t : TypeId) : (W.alloc (.cells #[.int .i64 y] t)).cell? ⟨W.heap.size, 0, none⟩ = some (.int .i64 y) := by
  have hx' := new_heap W (.cells #[.int .i64 y] t)
  unfold World.cell?
  rw [hx']
  rfl
namespace SlipsOfBytes
/-- the slips below the k-th edge -/
def slpTo (es : List Int) (k : Nat) : List Int := (List.range k).map fun (j : Nat) => gi es (j + 1) - gi es j - 80
def slp (es : List Int) : List Int := slpTo es (es.length - 1)
theorem slpTo_succ (es : List Int) (k : Nat) : slpTo es (k + 1) = slpTo es k ++ [gi es (k + 1) - gi es k - 80] := by simp [slpTo, List.range_succ]
def res (zs : List Int) : List Int := slp (EdgesOfBytes.res zs)
def cod (zs : List Int) : Int := (decZ zs).code
theorem res_len (zs : List Int) : (res zs).length ≤ zs.length := by
  unfold res slp slpTo
  have := EdgesOfBytes.res_len zs
  simp; omega

set_option maxRecDepth 20000 in
set_option maxHeartbeats 4000000 in
theorem impl_any (A : Option Addr) (n c : Nat) (zs : List Int) (w : World) (h : RI w w.heap.size A n zs) (hn' : n ≤ 1099511627776) (hn : n ≤ 1048576) :
    Calls Try.prog 64 #[.slice A n c] w (RetIC 2 w (res zs) (cod zs)) := by
  obtain ⟨es, hes⟩ : ∃ es, EdgesOfBytes.res zs = es := ⟨_, rfl⟩
  have hbd : ∀ x ∈ es, 0 ≤ x ∧ x ≤ (1048576 : Int) := by
    rw [← hes]
    intro x hx
    unfold EdgesOfBytes.res at hx
    split at hx
    · have := decZ_bd zs x hx
      rw [h.len] at this
      omega
    · cases hx
  have hle : es.length ≤ 1048576 := by
    have := EdgesOfBytes.res_len zs
    rw [hes, h.len] at this
    omega
  have E1 := Lib.hid (show res zs = slp es from by unfold res; rw [hes])
  have E2 := Lib.hid (show EdgesOfBytes.cod zs = cod zs from rfl)
  have BD := Lib.hid hbd
  clear hbd
  go_enter Try.func64, Try.ntmps64
  go_wp2_with fail
  refine (EdgesOfBytes.impl_any A n c zs _ h hn' hn).mono ?_
  rw [hes, E2.out]
  clear hes
  rintro e w1 ⟨A1, n1, c1, rfl, hown1, hb1⟩
  have L1 := Lib.hid hown1.len
  have hn1 : n1 ≤ 1048576 := by rw [← hown1.len]; exact hle
  go_wp2
  go_loopw [6, 7] (fun o i wr => ∃ (k m : Nat) (A' : Option Addr) (c' : Nat), 0 < k ∧ k ≤ max n1 1 ∧ m = k - 1 ∧ i = .int .i64 k ∧ o = .slice A' m c' ∧ OwnI 2 wr w1.heap.size A' m c' (slpTo es (k - 1)) ∧ Below w1.heap.size w1 wr) (fun _ i _ => n1 - (intOf i).toNat)
  case atStart => exact ⟨1, 0, none, 0, by omega, by omega, rfl, by go_num, rfl, OwnI.nil _ _ _, Below.refl _ _⟩
  case round =>
    obtain ⟨k, m, A', c', hk0, hk, hmk, rfl, rfl, hown, hb⟩ := hrel
    have HM := Lib.hid hmk
    have HK2 := Lib.hid hk
    have hm9 : m ≤ 9437184 := by omega
    clear hmk hk
    by_cases hlt : k < n1
    · obtain ⟨b, o, rfl, hbl, hc⟩ := (hown1.reads.below hb (Nat.le_refl _)).get (by omega)
      have hcell := hc k hlt
      have hcell2 := hc (k - 1) (by omega)
      clear hc
      obtain ⟨hbk1, hbk2⟩ := bd_gi BD.out (k := k) (by rw [L1.out]; omega)
      obtain ⟨hbk3, hbk4⟩ := bd_gi BD.out (k := k - 1) (by rw [L1.out]; omega)
      obtain ⟨x, hx⟩ : ∃ x, gi es k = x := ⟨_, rfl⟩
      obtain ⟨y, hy⟩ : ∃ y, gi es (k - 1) = y := ⟨_, rfl⟩
      rw [hx] at hcell hbk1 hbk2
      rw [hy] at hcell2 hbk3 hbk4
      have HX := Lib.hid hx
      have HY := Lib.hid hy
      clear hx hy
      have hwr : IntKind.i64.wrap ((k : Int) - 1) = (k : Int) - 1 := by simp [IntKind.wrap, IntKind.signed, IntKind.bits]; omega
      have hw2 : IntKind.i64.wrap (x - y) = x - y := by simp [IntKind.wrap, IntKind.signed, IntKind.bits]; omega
      have hw3 : IntKind.i64.wrap (x - y - 80) = x - y - 80 := by simp [IntKind.wrap, IntKind.signed, IntKind.bits]; omega
      have hk1 : (1 : Int) ≤ (k : Int) := by omega
      have hk2 : (k : Int) - 1 < (n1 : Int) := by omega
      have hk3 : ((k : Int) - 1).toNat = k - 1 := by omega
      go_wp2_with fail
      go_region_law (refine step_appI Try.underlying25 infoInt rfl (.tmp 19) (.tmp 31) rfl w1.heap.size A' m c' _ (by simp [Act.eval]) (OwnI.alloc (OwnI.drew hown) _) ⟨wr.heap.size, 0, none⟩ 1 (x - y - 80) (by simp [Act.eval]) (new_cell _ _ _) (by omega) (by have := hb.size; simp; omega) ?_; intro A2 c2 w2 hown2 hg2)
      all_goals
        go_wp2
        go_roundw
        case rel =>
          refine ⟨k + 1, m + 1, A2, c2, by omega, by have := HK2.out; omega, by rw [HM.out]; omega, by go_num, rfl, ?_, ?_⟩
          · rw [show k + 1 - 1 = (k - 1) + 1 from by omega, slpTo_succ, show k - 1 + 1 = k from by omega, HX.out, HY.out]; exact hown2
          · exact Below.grown (by repeat (first | exact hb | refine Below.drew ?_ | refine below_alloc ?_ (Nat.le_refl _) _)) hg2 (by have := hb.size; simp; omega) (fun g e => (own_row hown g e).1)
        case measure => simp [intOf]; omega
    · have hkn : k - 1 = n1 - 1 := by have := HK2.out; omega
      have HK := Lib.hid hkn
      clear hkn
      go_wp2
      go_ret2
      rw [E1.out]
      rw [HK.out] at hown
      exact ⟨_, _, _, rfl, by unfold slp; rw [L1.out]; exact hown.weaken hb1.size, below_next hb hb1 (Nat.le_refl _)⟩

set_option maxRecDepth 20000 in
set_option maxHeartbeats 8000000 in
theorem spec_any (A : Option Addr) (n c : Nat) (zs : List Int) (w : World) (h : RI w w.heap.size A n zs) (_ : n ≤ 1099511627776) (hn : n ≤ 1048576) :
    Calls Try.prog 63 #[.slice A n c] w (RetIC 2 w (res zs) (cod zs)) := by
  have hl := EdgesOfBytes.decZ_len zs
  have hbd0 := decZ_bd zs
  rw [h.len] at hl hbd0
  obtain ⟨d, hd⟩ : ∃ d, decZ zs = d := ⟨_, rfl⟩
  rw [hd] at hl hbd0
  obtain ⟨dc, dp, es⟩ := d
  dsimp only at hl hbd0
  have BD := Lib.hid hbd0
  clear hbd0
  have E0 := Lib.hid (show EdgesOfBytes.res zs = if dc = 0 then es else [] from by unfold EdgesOfBytes.res; rw [hd])
  have E2 := Lib.hid (show cod zs = dc from by unfold cod; rw [hd])
  rcases ne_cases dc with rfl | ⟨h1, h2, h3⟩
  case inr =>
    have E1 := Lib.hid (show res zs = [] from by unfold res; rw [E0.out, if_neg h1]; rfl)
    go_enter Try.func63, Try.ntmps63
    go_wp2_with fail
    refine (l23Code_any A n c zs _ h hn).mono ?_
    rw [hd]
    clear hd
    rintro e w1 ⟨A1, n1, c1, q, rfl, hown1, hb1⟩
    dsimp only at hown1 ⊢
    go_wp2
    go_ret2
    rw [E1.out, E2.out]
    exact ⟨none, 0, 0, rfl, OwnI.nil _ _ _, below_alloc hb1 (Nat.le_refl _) _⟩
  have E1 := Lib.hid (show res zs = slp es from by unfold res; rw [E0.out]; rfl)
  go_enter Try.func63, Try.ntmps63
  go_wp2_with fail
  refine (l23Code_any A n c zs _ h hn).mono ?_
  rw [hd]
  clear hd
  rintro e w1 ⟨A1, n1, c1, q, rfl, hown1, hb1⟩
  dsimp only at hown1 ⊢
  have L1 := Lib.hid hown1.len
  have hn1 : n1 ≤ 1048576 := by rw [← hown1.len]; omega
  have hownX := hown1.alloc (.cells #[.int .i64 dp, .slice A1 n1 c1, .int .i64 q] 105)
  have hbX := below_alloc hb1 (Nat.le_refl _) (.cells #[.int .i64 dp, .slice A1 n1 c1, .int .i64 q] 105)
  have hkX := Blk3.new w1 105 (.int .i64 dp) (.slice A1 n1 c1) (.int .i64 q)
  obtain ⟨wx, hwx⟩ : ∃ wx, w1.alloc (.cells #[.int .i64 dp, .slice A1 n1 c1, .int .i64 q] 105) = wx := ⟨_, rfl⟩
  rw [hwx] at hownX hbX hkX
  have hsx : w1.heap.size < wx.heap.size := hkX.lt
  go_wp2_with fail
  go_loopw [6, 7] (fun o i wr => ∃ (k m : Nat) (A' : Option Addr) (c' : Nat), 0 < k ∧ k ≤ max n1 1 ∧ m = k - 1 ∧ i = .int .i64 k ∧ o = .slice A' m c' ∧ OwnI 2 wr wx.heap.size A' m c' (slpTo es (k - 1)) ∧ Below wx.heap.size wx wr) (fun _ i _ => n1 - (intOf i).toNat)
  case atStart => exact ⟨1, 0, some ⟨wx.heap.size, 0, none⟩, 0, by omega, by omega, rfl, by go_num, rfl, OwnI.empty _ (Nat.le_refl _), (Below.refl _ _).alloc (Nat.le_refl _) _⟩
  case round =>
    obtain ⟨k, m, A', c', hk0, hk, hmk, rfl, rfl, hown, hb⟩ := hrel
    have HM := Lib.hid hmk
    have HK2 := Lib.hid hk
    have hm9 : m ≤ 9437184 := by omega
    clear hmk hk
    have kb := hkX.below hb hsx
    have kc := kb.c1
    by_cases hlt : k < n1
    · obtain ⟨b, o, hA1, hbl, hc⟩ := (hownX.reads.below hb (Nat.le_refl _)).get (by omega)
      subst hA1
      have hcell := hc k hlt
      have hcell2 := hc (k - 1) (by omega)
      clear hc
      obtain ⟨hbk1, hbk2⟩ := bd_gi BD.out (k := k) (by rw [L1.out]; omega)
      obtain ⟨hbk3, hbk4⟩ := bd_gi BD.out (k := k - 1) (by rw [L1.out]; omega)
      obtain ⟨x, hx⟩ : ∃ x, gi es k = x := ⟨_, rfl⟩
      obtain ⟨y, hy⟩ : ∃ y, gi es (k - 1) = y := ⟨_, rfl⟩
      rw [hx] at hcell hbk1 hbk2
      rw [hy] at hcell2 hbk3 hbk4
      have HX := Lib.hid hx
      have HY := Lib.hid hy
      clear hx hy
      have hwr : IntKind.i64.wrap ((k : Int) - 1) = (k : Int) - 1 := by simp [IntKind.wrap, IntKind.signed, IntKind.bits]; omega
      have hw2 : IntKind.i64.wrap (x - y) = x - y := by simp [IntKind.wrap, IntKind.signed, IntKind.bits]; omega
      have hw3 : IntKind.i64.wrap (x - y - 80) = x - y - 80 := by simp [IntKind.wrap, IntKind.signed, IntKind.bits]; omega
      have hk1 : (1 : Int) ≤ (k : Int) := by omega
      have hk2 : (k : Int) - 1 < (n1 : Int) := by omega
      have hk3 : ((k : Int) - 1).toNat = k - 1 := by omega
      go_wp2_with fail
      go_region_law (refine step_appI Try.underlying25 infoInt rfl (.tmp 24) (.tmp 38) rfl wx.heap.size A' m c' _ (by simp [Act.eval]) (OwnI.alloc (OwnI.drew hown) _) ⟨wr.heap.size, 0, none⟩ 1 (x - y - 80) (by simp [Act.eval]) (new_cell _ _ _) (by omega) (by have := hb.size; simp; omega) ?_; intro A2 c2 w2 hown2 hg2)
      all_goals
        go_wp2
        go_roundw
        case rel =>
          refine ⟨k + 1, m + 1, A2, c2, by omega, by have := HK2.out; omega, by rw [HM.out]; omega, by go_num, rfl, ?_, ?_⟩
          · rw [show k + 1 - 1 = (k - 1) + 1 from by omega, slpTo_succ, show k - 1 + 1 = k from by omega, HX.out, HY.out]; exact hown2
          · exact Below.grown (by repeat (first | exact hb | refine Below.drew ?_ | refine below_alloc ?_ (Nat.le_refl _) _)) hg2 (by have := hb.size; simp; omega) (fun g e => (own_row hown g e).1)
        case measure => simp [intOf]; omega
    · have hkn : k - 1 = n1 - 1 := by have := HK2.out; omega
      have HK := Lib.hid hkn
      clear hkn
      go_wp2
      go_ret2
      rw [E1.out, E2.out]
      rw [HK.out] at hown
      exact ⟨_, _, _, rfl, by unfold slp; rw [L1.out]; exact hown.weaken hbX.size, below_next hb hbX (Nat.le_refl _)⟩
end SlipsOfBytes
end Go.Proofs.Ytdbfnldjibjbkaa
