/- The walks of StrobesOf and SlipsOfBytes, of the program and the reference. Conditions: lists of at most 2^20 numbers. -/
import Derived.Test.YtdbfnldjibjbkaaPreI
import Derived.Test.YtdbfnldjibjbkaaKit7
import Derived.StillTailTactics
namespace Go.Proofs.Ytdbfnldjibjbkaa
open Go.RowKit

/-- each edge lies within the list -/
theorem edg_bd {zs : List Int} : ∀ (m f : Nat) (r : List Int × Nat), zs.length - f ≤ m → f < zs.length → edg zs f = some r → ∀ x ∈ r.1, 0 ≤ x ∧ x ≤ (zs.length : Int) := by
  intro m
  induction m with
  | zero => intro f r hm hf; omega
  | succ m ih =>
    intro f r hm hf he
    by_cases h : smp zs (f + 76) = 0
    · rw [edg_end h] at he
      obtain rfl := Option.some.inj he
      intro x hx
      obtain rfl := List.mem_singleton.1 hx
      omega
    · cases hg : nxt zs 0 (f + 77) with
      | none => rw [edg_none h hg] at he; cases he
      | some g =>
        have hgn := nxt_le hg
        by_cases hf2 : f + 84 < g
        · rw [edg_far h hg hf2] at he; cases he
        · rw [edg_go h hg hf2] at he
          cases hx : edg zs g with
          | none => rw [hx] at he; cases he
          | some x =>
            rw [hx] at he
            obtain rfl := Option.some.inj he
            intro y hy
            rcases List.mem_cons.1 hy with rfl | hy
            · omega
            · exact ih g x (by omega) hgn.2.1 hx y hy
theorem decZ_bd (zs : List Int) : ∀ x ∈ (decZ zs).edges, 0 ≤ x ∧ x ≤ (zs.length : Int) := by
  unfold decZ
  split
  · unfold decP
    split
    · simp
    · unfold decA
      split
      · unfold decH
        split
        · simp
        · rename_i f hf
          split
          · simp
          · unfold decF
            split
            · simp
            · split
              · simp
              · rename_i r hr
                exact edg_bd _ f r (Nat.le_refl _) (nxt_bound hf) hr
      · simp
  · simp
theorem bd_gi {es : List Int} {L : Int} (h : ∀ x ∈ es, 0 ≤ x ∧ x ≤ L) {k : Nat} (hk : k < es.length) : 0 ≤ gi es k ∧ gi es k ≤ L := h _ (mem_gi hk)

/-- the strobes of a byte -/
def strbTo (f : Int) (k : Nat) : List Int := (List.range k).map fun (j : Nat) => f + 8 * (j : Int) + 12
def strb (f : Int) : List Int := strbTo f 9
theorem strbTo_succ (f : Int) (k : Nat) : strbTo f (k + 1) = strbTo f k ++ [f + 8 * (k : Int) + 12] := by simp [strbTo, List.range_succ]
def strbs (es : List Int) : List Int := es.flatMap strb
theorem strbs_take {es : List Int} {k : Nat} (h : k < es.length) : strbs (es.take (k + 1)) = strbs (es.take k) ++ strb (gi es k) := by
  rw [take_gi h]; simp [strbs]
theorem strbs_len (es : List Int) : (strbs es).length = 9 * es.length := by
  unfold strbs
  induction es with
  | nil => rfl
  | cons e es ih => rw [List.flatMap_cons, List.length_append, ih]; simp [strb, strbTo]; omega

namespace StrobesOf
def res (zs : List Int) : List Int := strbs (EdgesOfBytes.res zs)
def cod (zs : List Int) : Int := (decZ zs).code
theorem res_len (zs : List Int) : (res zs).length ≤ 9 * zs.length := by
  unfold res; rw [strbs_len]
  have := EdgesOfBytes.res_len zs
  omega

set_option maxHeartbeats 1000000 in
theorem strobes_any (f : Int) (w : World) (h1 : 0 ≤ f) (h2 : f ≤ 2097152) :
    Calls Try.prog 121 #[.int .i64 f] w (RetI 2 w 9 (strb f)) := by
  go_enter Try.func121, Try.ntmps121
  go_wp2
  go_loopw [3, 4, 6] (fun o _ i wr => ∃ (k m : Nat) (A' : Option Addr) (c' : Nat), k ≤ 9 ∧ m = k ∧ i = .int .i64 k ∧ o = .slice A' m c' ∧ OwnI 2 wr w.heap.size A' m c' (strbTo f k) ∧ Below w.heap.size w wr) (fun _ _ i _ => 9 - (intOf i).toNat)
  case atStart => exact ⟨0, 0, some ⟨w.heap.size, 0, none⟩, 0, by omega, rfl, rfl, rfl, OwnI.empty _ (Nat.le_refl _), (Below.refl _ _).alloc (Nat.le_refl _) _⟩
  case round =>
    obtain ⟨k, m, A', c', hk, hmk, rfl, rfl, hown, hb⟩ := hrel
    have HM := Lib.hid hmk
    have hm9 : m ≤ 9 := by omega
    clear hmk
    by_cases hlt : k < 9
    · go_wp2_with (at_builtin; refine wpl_appI _ _ Try.underlying25 infoInt rfl _ _ rfl w.heap.size _ m _ _ rfl hown (f + 8 * (k : Int) + 12) rfl (by omega) hb.size ?_; intro A2 c2 w2 hown2 hB2 hg2)
      go_roundw
      case rel => exact ⟨k + 1, m + 1, A2, c2, by omega, by rw [HM.out], by go_num, rfl, by rw [strbTo_succ]; exact hown2, hb.trans (hB2 _ (Nat.le_refl _))⟩
      case measure => simp [intOf]; omega
    · obtain rfl : k = 9 := by omega
      obtain rfl := HM.out
      go_wp2
      go_ret
      exact ⟨A', c', rfl, hown, hb⟩

set_option maxHeartbeats 2000000 in
theorem impl_any (A : Option Addr) (n c : Nat) (zs : List Int) (w : World) (h : RI w w.heap.size A n zs) (hn' : n ≤ 1099511627776) (hn : n ≤ 1048576) :
    Calls Try.prog 66 #[.slice A n c] w (RetIC 2 w (res zs) (cod zs)) := by
  obtain ⟨es, hes⟩ : ∃ es, EdgesOfBytes.res zs = es := ⟨_, rfl⟩
  have hbd : ∀ x ∈ es, 0 ≤ x ∧ x ≤ (1048576 : Int) := by
    rw [← hes]
    intro x hx
    unfold EdgesOfBytes.res at hx
    split at hx
    · have := decZ_bd zs x hx
      rw [h.len] at this
      omega
    · cases hx
  have hle : es.length ≤ 1048576 := by
    have := EdgesOfBytes.res_len zs
    rw [hes, h.len] at this
    omega
  have E1 := Lib.hid (show res zs = strbs es from by unfold res; rw [hes])
  have E2 := Lib.hid (show EdgesOfBytes.cod zs = cod zs from rfl)
  have BD := Lib.hid hbd
  clear hbd
  go_enter Try.func66, Try.ntmps66
  go_wp2_with fail
  refine (EdgesOfBytes.impl_any A n c zs _ h hn' hn).mono ?_
  rw [hes, E2.out]
  clear hes
  rintro e w1 ⟨A1, n1, c1, rfl, hown1, hb1⟩
  have L1 := Lib.hid hown1.len
  have hn1 : n1 ≤ 1048576 := by rw [← hown1.len]; exact hle
  go_wp2
  go_loopw [6, 8, 16] (fun o _ i wr => ∃ (k m : Nat) (A' : Option Addr) (c' : Nat), k ≤ n1 ∧ m = 9 * k ∧ i = .int .i64 k ∧ o = .slice A' m c' ∧ OwnI 2 wr w1.heap.size A' m c' (strbs (es.take k)) ∧ Below w1.heap.size w1 wr) (fun _ _ i _ => n1 - (intOf i).toNat)
  case atStart => exact ⟨0, 0, none, 0, Nat.zero_le _, rfl, rfl, rfl, OwnI.nil _ _ _, Below.refl _ _⟩
  case round =>
    obtain ⟨k, m, A', c', hk, hmk, rfl, rfl, hown, hb⟩ := hrel
    have HM := Lib.hid hmk
    have hm9 : m ≤ 9437184 := by omega
    clear hmk
    by_cases hlt : k < n1
    · obtain ⟨b, o, rfl, hbl, hc⟩ := (hown1.reads.below hb (Nat.le_refl _)).get (by omega)
      have hcell := hc k hlt
      clear hc
      have hbk := bd_gi BD.out (k := k) (by rw [L1.out]; exact hlt)
      obtain ⟨hbk1, hbk2⟩ := hbk
      go_wp2_with fail
      refine (strobes_any _ _ hbk1 (by omega)).mono ?_
      rintro e w2 ⟨A2, c2, rfl, hown2, hb2⟩
      have hownB := hown.below hb2
      have hbB := below_next hb2 hb (Nat.le_refl _)
      go_wp2_with (at_builtin; refine wpl_appR _ Try.underlying25 infoInt rfl _ _ rfl w1.heap.size _ m _ _ rfl hownB A2 9 c2 _ _ rfl hown2.reads (own_none hown2) (by omega) hbB.size ?_; intro A3 c3 w3 hown3 hB3 hg3)
      go_roundw
      case rel => exact ⟨k + 1, m + 9, A3, c3, by omega, by rw [HM.out]; omega, by go_num, by first | rfl | go_num, by rw [strbs_take (by rw [L1.out]; exact hlt)]; exact hown3, hbB.trans (hB3 _ (Nat.le_refl _))⟩
      case measure => simp [intOf]; omega
    · have hkn : k = n1 := by omega
      have HK := Lib.hid hkn
      clear hkn
      go_wp2
      go_ret2
      rw [E1.out]
      rw [HK.out, List.take_of_length_le (by rw [L1.out]; exact Nat.le_refl _)] at hown
      exact ⟨_, _, _, rfl, hown.weaken hb1.size, below_next hb hb1 (Nat.le_refl _)⟩

set_option maxHeartbeats 4000000 in
theorem spec_any (A : Option Addr) (n c : Nat) (zs : List Int) (w : World) (h : RI w w.heap.size A n zs) (_ : n ≤ 1099511627776) (hn : n ≤ 1048576) :
    Calls Try.prog 65 #[.slice A n c] w (RetIC 2 w (res zs) (cod zs)) := by
  have hl := EdgesOfBytes.decZ_len zs
  have hbd0 := decZ_bd zs
  rw [h.len] at hl hbd0
  obtain ⟨d, hd⟩ : ∃ d, decZ zs = d := ⟨_, rfl⟩
  rw [hd] at hl hbd0
  obtain ⟨dc, dp, es⟩ := d
  dsimp only at hl hbd0
  have BD := Lib.hid hbd0
  clear hbd0
  have E0 := Lib.hid (show EdgesOfBytes.res zs = if dc = 0 then es else [] from by unfold EdgesOfBytes.res; rw [hd])
  have E2 := Lib.hid (show cod zs = dc from by unfold cod; rw [hd])
  rcases ne_cases dc with rfl | ⟨h1, h2, h3⟩
  case inr =>
    have E1 := Lib.hid (show res zs = [] from by unfold res; rw [E0.out, if_neg h1]; rfl)
    go_enter Try.func65, Try.ntmps65
    go_wp2_with fail
    refine (l23Code_any A n c zs _ h hn).mono ?_
    rw [hd]
    clear hd
    rintro e w1 ⟨A1, n1, c1, q, rfl, hown1, hb1⟩
    dsimp only at hown1 ⊢
    go_wp2
    go_ret2
    rw [E1.out, E2.out]
    exact ⟨none, 0, 0, rfl, OwnI.nil _ _ _, below_alloc hb1 (Nat.le_refl _) _⟩
  have E1 := Lib.hid (show res zs = strbs es from by unfold res; rw [E0.out]; rfl)
  go_enter Try.func65, Try.ntmps65
  go_wp2_with fail
  refine (l23Code_any A n c zs _ h hn).mono ?_
  rw [hd]
  clear hd
  rintro e w1 ⟨A1, n1, c1, q, rfl, hown1, hb1⟩
  dsimp only at hown1 ⊢
  have L1 := Lib.hid hown1.len
  have hn1 : n1 ≤ 1048576 := by rw [← hown1.len]; omega
  have hownX := hown1.alloc (.cells #[.int .i64 dp, .slice A1 n1 c1, .int .i64 q] 105)
  have hbX := below_alloc hb1 (Nat.le_refl _) (.cells #[.int .i64 dp, .slice A1 n1 c1, .int .i64 q] 105)
  have hkX := Blk3.new w1 105 (.int .i64 dp) (.slice A1 n1 c1) (.int .i64 q)
  obtain ⟨wx, hwx⟩ : ∃ wx, w1.alloc (.cells #[.int .i64 dp, .slice A1 n1 c1, .int .i64 q] 105) = wx := ⟨_, rfl⟩
  rw [hwx] at hownX hbX hkX
  have hsx : w1.heap.size < wx.heap.size := hkX.lt
  go_wp2_with fail
  go_loopw [6, 7, 8] (fun o i _ wr => ∃ (k m : Nat) (A' : Option Addr) (c' : Nat), k ≤ n1 ∧ m = 9 * k ∧ i = .int .i64 k ∧ o = .slice A' m c' ∧ OwnI 2 wr wx.heap.size A' m c' (strbs (es.take k)) ∧ Below wx.heap.size wx wr) (fun _ i _ _ => n1 - (intOf i).toNat)
  case atStart => exact ⟨0, 0, some ⟨wx.heap.size, 0, none⟩, 0, Nat.zero_le _, rfl, rfl, rfl, OwnI.empty _ (Nat.le_refl _), (Below.refl _ _).alloc (Nat.le_refl _) _⟩
  case round =>
    obtain ⟨k, m, A', c', hk, hmk, rfl, rfl, hown, hb⟩ := hrel
    have HM := Lib.hid hmk
    have hm9 : m ≤ 9437184 := by omega
    clear hmk
    have kb := hkX.below hb hsx
    have kc := kb.c1
    by_cases hlt : k < n1
    · have hbk := bd_gi BD.out (k := k) (by rw [L1.out]; exact hlt)
      obtain ⟨hbk1, hbk2⟩ := hbk
      go_wp2_with fail
      go_loopw [6, 8] (fun o j wr => ∃ (x m : Nat) (A' : Option Addr) (c' : Nat), x ≤ 9 ∧ m = 9 * k + x ∧ j = .int .i64 x ∧ o = .slice A' m c' ∧ OwnI 2 wr wx.heap.size A' m c' (strbs (es.take k) ++ strbTo (gi es k) x) ∧ Below wx.heap.size wx wr) (fun _ j _ => 9 - (intOf j).toNat)
      case atStart => exact ⟨0, m, A', c', by omega, by rw [HM.out]; omega, rfl, rfl, by simpa [strbTo] using hown, hb⟩
      case round =>
        clear hown hb kb kc
        obtain ⟨x, m, A', c', hx, hmk, rfl, rfl, hown, hb⟩ := hrel
        have HM2 := Lib.hid hmk
        have hm9 : m ≤ 9437184 := by omega
        clear hmk
        have kb := hkX.below hb hsx
        have kc := kb.c1
        obtain ⟨b, o, hA1, hbl, hc⟩ := (hownX.reads.below hb (Nat.le_refl _)).get (by omega)
        subst hA1
        have hcell := hc k hlt
        clear hc
        by_cases hx9 : x < 9
        · go_wp2_with (at_builtin; refine wpl_appI _ _ Try.underlying25 infoInt rfl _ _ rfl wx.heap.size _ m _ _ rfl hown (gi es k + 8 * (x : Int) + 12) rfl (by omega) hb.size ?_; intro A2 c2 w2 hown2 hB2 hg2)
          go_roundw
          case rel => exact ⟨x + 1, m + 1, A2, c2, by omega, by rw [HM2.out]; omega, by go_num, rfl, by rw [strbTo_succ, ← List.append_assoc]; exact hown2, hb.trans (hB2 _ (Nat.le_refl _))⟩
          case measure => simp [intOf]; omega
        · obtain rfl : x = 9 := by omega
          go_wp2
          go_roundw
          case rel => exact ⟨k + 1, m, A', c', by omega, by rw [HM2.out]; omega, by go_num, rfl, by rw [strbs_take (by rw [L1.out]; exact hlt)]; exact hown, hb⟩
          case measure => simp [intOf]; omega
    · have hkn : k = n1 := by omega
      have HK := Lib.hid hkn
      clear hkn
      go_wp2
      go_ret2
      rw [E1.out, E2.out]
      rw [HK.out, List.take_of_length_le (by rw [L1.out]; exact Nat.le_refl _)] at hown
      exact ⟨_, _, _, rfl, hown.weaken hbX.size, below_next hb hbX (Nat.le_refl _)⟩
end StrobesOf
end Go.Proofs.Ytdbfnldjibjbkaa
