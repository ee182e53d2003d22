/- The walks of the program's decoder. Conditions: lists of at most 2^20 numbers. -/
import Derived.Test.YtlfbmedgkkfalaaDecC
namespace Go.Proofs.Ytlfbmedgkkfalaa
open Go.RowKit

/-- the least index or the end -/
def optN (o : Option Nat) (e : Nat) : Int := match o with | none => (e : Int) | some j => (j : Int)

set_option maxHeartbeats 400000 in
theorem sampleAt_any (A : Option Addr) (n c g : Nat) (zs : List Int) (i : Nat) (w : World) (h : RI w w.heap.size A n zs) (hn : n ≤ 1099511627776) (hi : i ≤ 1099511627776) (hx : w.cell? ⟨g, 0, none⟩ = some (.slice A n c)) :
    Calls Try.prog 159 #[.pointer (some ⟨g, 0, none⟩), .int .i64 i] w fun e w' => e = .returned (.int .i64 (smp zs i)) ∧ w = w' := by
  have L := Lib.hid h.len
  by_cases hlt : i < n
  · obtain ⟨b, o, rfl, _, hc⟩ := h.get (by omega)
    have hcell := hc i hlt
    clear hc
    go_enter Try.func159, Try.ntmps159
    go_wp2
    go_ret
    exact ⟨ret_int (by unfold smp; rw [L.out, if_pos hlt]), rfl⟩
  · go_enter Try.func159, Try.ntmps159
    go_wp2
    go_ret
    exact ⟨ret_int (by unfold smp; rw [L.out, if_neg hlt]), rfl⟩

/-- what nextAfter answers -/
def nxA (zs : List Int) (v : Int) (i : Nat) : Int := if v = 1 then optN (nxt zs v i) (max i zs.length) else optI (nxt zs v i)

set_option maxHeartbeats 400000 in
theorem nextAfter_any (A : Option Addr) (n c g : Nat) (zs : List Int) (i : Nat) (v : Int) (w : World) (h : RI w w.heap.size A n zs) (hn : n ≤ 1099511627776) (hi : i ≤ 1099511627776) (hx : w.cell? ⟨g, 0, none⟩ = some (.slice A n c)) :
    Calls Try.prog 262 #[.pointer (some ⟨g, 0, none⟩), .int .i64 ((i : Int) - 1), .int .i64 v] w fun e w' => e = .returned (.int .i64 (nxA zs v i)) ∧ w = w' := by
  have L := Lib.hid h.len
  go_enter Try.func262, Try.ntmps262
  go_wp2
  go_loop [1] (fun x => ∃ k : Nat, i ≤ k ∧ x = .int .i64 k ∧ nxt zs v i = nxt zs v k ∧ k ≤ max i n) (fun x => n - (intOf x).toNat)
  case atStart => exact ⟨i, Nat.le_refl _, by go_num, rfl, by omega⟩
  case round =>
    obtain ⟨k, hk, rfl, he, hkn⟩ := hrel
    have HE := Lib.hid he
    clear he
    by_cases hlt : k < n
    · obtain ⟨b, o, rfl, _, hc⟩ := h.get (by omega)
      have hcell := hc k hlt
      clear hc
      by_cases hv : gi zs k = v
      · have hb : (gi zs k == v) = true := by simp [hv]
        have HV := Lib.hid hv
        clear hv
        go_wp2
        go_ret
        exact ⟨ret_int (by unfold nxA; rw [HE.out, nxt_hit (by rw [L.out]; exact hlt) HV.out]; split <;> rfl), rfl⟩
      · have hb : (gi zs k == v) = false := by simp [hv]
        have HV := Lib.hid hv
        clear hv
        go_wp2
        go_round
        case rel => exact ⟨k + 1, by omega, by go_num, by rw [HE.out, nxt_go (by rw [L.out]; exact hlt) HV.out], by omega⟩
        case measure => simp [intOf]; omega
    · have hke : k = max i n := by omega
      have HK := Lib.hid hke
      clear hke
      by_cases hv : v = 1
      · have hb : (v == 1) = true := by simp [hv]
        have HV := Lib.hid hv
        clear hv
        go_wp2
        go_ret
        exact ⟨ret_int (by unfold nxA; rw [HE.out, nxt_end (by rw [L.out]; omega), if_pos HV.out, L.out, ← HK.out]; rfl), rfl⟩
      · have hb : (v == 1) = false := by simp [hv]
        have HV := Lib.hid hv
        clear hv
        go_wp2
        go_ret
        exact ⟨ret_int (by unfold nxA; rw [HE.out, nxt_end (by rw [L.out]; omega), if_neg HV.out]; rfl), rfl⟩

theorem nextW {A : Option Addr} {n c g : Nat} {zs : List Int} {w : World} (h : RI w w.heap.size A n zs) (hn : n ≤ 1048576) (hx : w.cell? ⟨g, 0, none⟩ = some (.slice A n c)) (v : Int) (i : Nat) (hi : i ≤ 2097152) (x : Int) (he : x = (i : Int) - 1) (o : Int) (ho : nxA zs v i = o) :
    Calls Try.prog 262 #[.pointer (some ⟨g, 0, none⟩), .int .i64 x, .int .i64 v] w fun e w' => e = .returned (.int .i64 o) ∧ w = w' := by
  subst he; subst ho
  exact nextAfter_any A n c g zs i v w h (by omega) (by omega) hx
theorem sampleW {A : Option Addr} {n c g : Nat} {zs : List Int} {w : World} (h : RI w w.heap.size A n zs) (hn : n ≤ 1048576) (hx : w.cell? ⟨g, 0, none⟩ = some (.slice A n c)) (i : Nat) (hi : i ≤ 2097152) (x : Int) (he : x = (i : Int)) :
    Calls Try.prog 159 #[.pointer (some ⟨g, 0, none⟩), .int .i64 x] w fun e w' => e = .returned (.int .i64 (smp zs i)) ∧ w = w' := by
  subst he
  exact sampleAt_any A n c g zs i w h (by omega) (by omega) hx
theorem nxA0 (zs : List Int) (i : Nat) : nxA zs 0 i = optI (nxt zs 0 i) := by unfold nxA; rw [if_neg (by decide)]

/-- what bytesFrom leaves -/
def Bf (w : World) (g : Nat) (A : Option Addr) (n c : Nat) (p : Int) (o : Option (List Int × Nat)) (e : Ending) (w' : World) : Prop :=
  ∃ (A' : Option Addr) (m c' : Nat) (es : List Int), Blk3 w' g 134 (.slice A n c) (.int .i64 p) (.slice A' m c') ∧ OwnI 2 w' (g + 1) A' m c' es ∧ Below g w w' ∧
    (match o with | none => e = .returned (.int .i64 (-1)) | some r => e = .returned (.int .i64 r.2) ∧ es = r.1)

set_option maxHeartbeats 2000000 in
theorem bytesFrom_any (A : Option Addr) (n c g : Nat) (zs : List Int) (f : Nat) (p : Int) (w : World) (hk : Blk3 w g 134 (.slice A n c) (.int .i64 p) (.slice none 0 0)) (h : RI w g A n zs) (hn : n ≤ 1048576) (hi : f < n) :
    Calls Try.prog 264 #[.pointer (some ⟨g, 0, none⟩), .int .i64 f] w (Bf w g A n c p (edg zs f)) := by
  have L := Lib.hid h.len
  have hgl := hk.lt
  go_enter Try.func264, Try.ntmps264
  go_wp2
  go_loopw [1, 5] (fun x _ wr => ∃ (q m : Nat) (done : List Int) (A' : Option Addr) (c' : Nat), q < n ∧ m ≤ q ∧ x = .int .i64 q ∧ Blk3 wr g 134 (.slice A n c) (.int .i64 p) (.slice A' m c') ∧ OwnI 2 wr (g + 1) A' m c' done ∧ Below g w wr ∧ edg zs f = (edg zs q).map fun r => (done ++ r.1, r.2)) (fun x _ _ => n - (intOf x).toNat)
  case atStart => exact ⟨f, 0, [], none, 0, hi, by omega, rfl, hk, OwnI.nil _ _ _, Below.refl _ _, by simp⟩
  case round =>
    obtain ⟨q, m, done, A', c', hq, hm, rfl, hblk, hown, hb, he⟩ := hrel
    have HE := Lib.hid he
    clear he
    have hsz : g + 1 ≤ wr.heap.size := hblk.lt
    have k0 := hblk.c0
    have k2 := hblk.c2
    have hfr0 := hblk.free 2
    go_wp2_with (at_builtin; refine wpl_appI _ _ Try.underlying24 infoInt rfl _ _ rfl (g + 1) _ m _ done rfl hown q rfl (by omega) hsz ?_; intro A2 c2 w2 hown2 hB2 hg2; have hk2 := hblk.below (hB2 (g + 1) (Nat.le_refl _)) (Nat.lt_succ_self _); have hk22 := hk2.c2; have hfr2 := hk2.free 2)
    have hk3 := hk2.set2 (.slice A2 (m + 1) c2)
    have hown3 := hown2.other (p := ⟨g, 2, none⟩) (Nat.lt_succ_self _) (.slice A2 (m + 1) c2)
    have hb3 : Below g w (w2.setCell ⟨g, 2, none⟩ (.slice A2 (m + 1) c2)) := (hb.trans (hB2 g (Nat.le_succ _))).setCell (Nat.le_refl _) _
    have hr3 := (h.below hb3 (Nat.le_refl _)).more (Nat.le_of_lt hk3.lt)
    refine (sampleW hr3 hn hk3.c0 (q + 76) (by omega) _ (by omega)).mono ?_
    by_cases hs0 : smp zs (q + 76) = 0
    · have HS := Lib.hid hs0
      rw [hs0]
      clear hs0
      rintro e w' ⟨rfl, rfl⟩
      go_wp2
      go_ret
      refine ⟨A2, m + 1, c2, done ++ [(q : Int)], hk3, hown3, hb3, ?_⟩
      rw [HE.out, edg_end HS.out]
      exact ⟨ret_int (by simp), rfl⟩
    · have HS := Lib.hid hs0
      have hsb : (smp zs (q + 76) == 0) = false := by simp [hs0]
      clear hs0
      rintro e w' ⟨rfl, rfl⟩
      go_wp2_with fail
      obtain ⟨o, ho⟩ : ∃ o, nxt zs 0 (q + 77) = o := ⟨_, rfl⟩
      refine (nextW hr3 hn hk3.c0 0 (q + 77) (by omega) _ (by omega) (optI o) (by rw [nxA0, ho])).mono ?_
      rcases o with _ | j
      · have HO := Lib.hid ho
        clear ho
        dsimp only [optI]
        rintro e w' ⟨rfl, rfl⟩
        go_wp2
        go_ret
        refine ⟨A2, m + 1, c2, _, hk3, hown3, hb3, ?_⟩
        rw [HE.out, edg_none HS.out HO.out]
        exact rfl
      · have hjn := nxt_le ho
        rw [L.out] at hjn
        obtain ⟨hj1, hj2, _⟩ := hjn
        have HO := Lib.hid ho
        clear ho
        dsimp only [optI]
        rintro e w' ⟨rfl, rfl⟩
        by_cases hfar : q + 84 < j
        · go_wp2
          go_ret
          refine ⟨A2, m + 1, c2, _, hk3, hown3, hb3, ?_⟩
          rw [HE.out, edg_far HS.out HO.out hfar]
          exact rfl
        · go_wp2
          go_roundw
          case rel =>
            refine ⟨j, m + 1, done ++ [(q : Int)], A2, c2, hj2, by omega, rfl, hk3, hown3, hb3, ?_⟩
            rw [HE.out, edg_go HS.out HO.out hfar]
            cases edg zs j <;> simp
          case measure => simp [intOf]; omega
end Go.Proofs.Ytlfbmedgkkfalaa
