/- Walks, laws and small notions for the claims of this seat, several texts as one (Cc, Cd, Ci). Conditions: as each theorem states them. -/
import Derived.Test.YtbaojbheopcjhaaGreatDoorB16
import Derived.Lib.AppendZeros
import Derived.Lib.AppendZerosOnto
import Derived.Test.YtbaojbheopcjhaaGreatDoorB19
import Derived.Test.YtbaojbheopcjhaaGreatDoorB10
import Derived.Deep.RegionHeldLaw
import Derived.Deep.DeepCutAuto
namespace Go.Proofs.YtbaojbheopcjhaaGreatDoor
open Go.RowKit

set_option maxHeartbeats 2000000 in
theorem growI_any (n : Nat) (w : World) (hn : n ≤ 1099511627776) :
    Calls Tryz.prog 103 #[.slice none 0 0, .int .i64 n] w fun e w' => ∃ A c, e = .returned (.slice A 0 c) ∧ OwnI 2 w' w.heap.size A 0 c [] ∧ Below w.heap.size w w' := by
  by_cases h0 : n = 0
  · subst h0
    go_enter Tryz.func103, Tryz.ntmps103
    go_wp2
    go_ret
    exact ⟨none, 0, rfl, OwnI.nil _ _ _, Below.refl _ _⟩
  · obtain ⟨i, hi, hz, hs1, hb1⟩ := info_split infoInt
    have hpos : (n : Int) > 0 := by omega
    have hrun := fun ty => Lib.run_append_nil_zeros (P := Tryz.prog) w 31 3 ty 2 i _ .i64 .i64 Tryz.underlying31 Tryz.underlying3 hi hz n (by omega) (by omega) (by omega) (by rw [hb1]; omega)
    obtain ⟨G, hG⟩ : ∃ G, grownCap w n 0 2 = G := ⟨_, rfl⟩
    have hGn : n ≤ G := by rw [← hG]; exact grownCap_ge w _ _ _
    have hGm : G ≤ maxLen := by rw [← hG]; exact grownCap_le_maxLen w _ _ _ (by unfold maxLen; omega)
    rw [hG] at hrun
    obtain ⟨ROW, hROW⟩ : ∃ R : Array Value, Builtin.zeroCells (Value.int .i64 0).cells n ++ Builtin.zeroCells (Value.int .i64 0).cells (G - n) = R := ⟨_, rfl⟩
    have hRs : ROW.size = G * 1 := by
      rw [← hROW, Array.size_append, size_zeroCells, size_zeroCells]
      show n * 1 + (G - n) * 1 = G * 1
      omega
    rw [hROW] at hrun
    have HRUN := Lib.hid hrun
    have HRS := Lib.hid hRs
    have hGc : (0 : Nat) ≤ G := Nat.zero_le _
    clear hrun hG hROW hRs hi hz hs1 hb1
    go_enter Tryz.func103, Tryz.ntmps103
    go_wp2_with (at_builtin; refine Lib.wpList_append_run _ rfl _ _ _ _ rfl _ _ rfl rfl _ _ (HRUN.out _) ?_)
    go_ret
    refine ⟨some ⟨w.heap.size, 0, none⟩, G, rfl, ?_, ?_⟩
    · refine OwnI.shut (cur := ROW.toList) ?_ (Nat.le_refl _) (Nat.zero_le _) hGm (by have := HRS.out; simpa using this) rfl
      exact BlkL.new w.drew 2 ROW rfl
    · exact ((Below.refl w.heap.size w).drew).alloc (Nat.le_refl _) _

set_option maxRecDepth 20000 in
set_option maxHeartbeats 4000000 in
theorem concatI_any (g : Nat) (A1 A2 : Option Addr) (n1 c1 n2 c2 : Nat) (xs ys : List Int) (w : World) (e0 : w.cell? ⟨g, 0, none⟩ = some (.slice A1 n1 c1)) (e1 : w.cell? ⟨g, 1, none⟩ = some (.slice A2 n2 c2)) (hg : g < w.heap.size)
    (hx : RI w w.heap.size A1 n1 xs) (hy : RI w w.heap.size A2 n2 ys) (hA1 : A1 = none → c1 = 0) (hA2 : A2 = none → c2 = 0) (hn1 : n1 ≤ 1000000) (hn2 : n2 ≤ 1000000) :
    Calls Tryz.prog 66 #[.slice (some ⟨g, 0, none⟩) 2 2] w fun e w' => ∃ A n c, e = .returned (.slice A n c) ∧ OwnI 2 w' w.heap.size A n c (xs ++ ys) ∧ Below w.heap.size w w' := by
  go_enter Tryz.func66, Tryz.ntmps66
  go_wp2
  go_loop [3, 11] (fun s i => (i = .int .i64 0 ∧ s = .int .i64 0) ∨ (i = .int .i64 1 ∧ s = .int .i64 n1) ∨ (i = .int .i64 2 ∧ s = .int .i64 ((n1 + n2 : Nat) : Int))) (fun _ i => 2 - (intOf i).toNat)
  case atStart => exact .inl ⟨rfl, rfl⟩
  case round =>
    rcases hrel with ⟨rfl, rfl⟩ | ⟨rfl, rfl⟩ | ⟨rfl, rfl⟩
    · go_wp2
      go_round
      case rel => exact .inr (.inl ⟨rfl, by simp⟩)
      case measure => simp [intOf]
    · go_wp2
      go_round
      case rel => exact .inr (.inr ⟨rfl, by rw [Int.natCast_add]⟩)
      case measure => simp [intOf]
    · go_wp2_with fail
      refine (growI_any (n1 + n2) w (by omega)).mono ?_
      rintro e w1 ⟨A, c, rfl, hown, hb⟩
      go_wp2_with fail
      go_loopw [6, 27] (fun o i wr => ((i = .int .i64 0 ∧ ∃ A c, o = .slice A 0 c ∧ OwnI 2 wr w.heap.size A 0 c []) ∨ (i = .int .i64 1 ∧ ∃ A n c, n = n1 ∧ o = .slice A n c ∧ OwnI 2 wr w.heap.size A n c xs) ∨ (i = .int .i64 2 ∧ ∃ A n c, o = .slice A n c ∧ OwnI 2 wr w.heap.size A n c (xs ++ ys))) ∧ Below w.heap.size w wr) (fun _ i _ => 2 - (intOf i).toNat)
      case atStart => exact ⟨.inl ⟨rfl, A, c, rfl, hown⟩, hb⟩
      case round =>
        obtain ⟨hcase, hbr⟩ := hrel
        obtain ⟨hcr, hfr⟩ := bcell hbr
        have hx2 := hx.below hbr (Nat.le_refl _)
        have hy2 := hy.below hbr (Nat.le_refl _)
        rcases hcase with ⟨rfl, A', c', rfl, hown'⟩ | ⟨rfl, A', n', c', hn', rfl, hown'⟩ | ⟨rfl, A', n', c', rfl, hown'⟩
        · go_wp2_with (at_builtin; refine wpl_appR _ Tryz.underlying31 infoInt rfl _ _ rfl w.heap.size _ _ _ _ rfl hown' A1 n1 c1 _ xs rfl hx2 hA1 (by omega) hbr.size ?_; intro A3 c3 w3 hown3 hB3 hg3)
          go_roundw
          case rel => exact ⟨.inr (.inl ⟨rfl, A3, n1, c3, rfl, rfl, by rw [Nat.zero_add, List.nil_append] at hown3; exact hown3⟩), hbr.trans (hB3 _ (Nat.le_refl _))⟩
          case measure => simp [intOf]
        · have hn9 : n' ≤ 1000000 := by omega
          clear hn'
          go_wp2_with (at_builtin; refine wpl_appR _ Tryz.underlying31 infoInt rfl _ _ rfl w.heap.size _ _ _ _ rfl hown' A2 n2 c2 _ ys rfl hy2 hA2 (by omega) hbr.size ?_; intro A3 c3 w3 hown3 hB3 hg3)
          go_roundw
          case rel => exact ⟨.inr (.inr ⟨rfl, A3, _, c3, rfl, hown3⟩), hbr.trans (hB3 _ (Nat.le_refl _))⟩
          case measure => simp [intOf]
        · go_wp2
          go_ret
          exact ⟨A', n', c', rfl, hown', hbr⟩


set_option maxRecDepth 20000 in
set_option maxHeartbeats 4000000 in
theorem iCellsOf_any (A : Option Addr) (n c p : Nat) (zs : List Int) (w : World) (h : RI w w.heap.size A n zs) (hn : n ≤ 1048576) (hp : p ≤ 15) (hz : allR zs 0 255 = true) :
    Calls Tryz.prog 67 #[.slice A n c, .int .i64 p] w (RetI 2 w (p + 3 + 10 * n) (cellsP zs p)) := by
  have L := Lib.hid h.len
  have HZ := Lib.hid hz
  clear hz
  go_enter Tryz.func67, Tryz.ntmps67
  go_wp2_with (first
    | (at_make; refine wpl_make _ Tryz.underlying31 infoInt rfl _ _ rfl p rfl rfl (by omega) ?_; intro w1 hown1 hg1; have d1 : Below w.heap.size w w1 := (Below.refl _ _).grown hg1 (Nat.le_refl _) (fun j e => by cases e))
    | (at_builtin; refine wpl_appI _ _ Tryz.underlying31 infoInt rfl _ _ rfl w.heap.size _ p _ _ rfl hown1 1 rfl (by omega) d1.size ?_; intro w2A w2c w2 hown2 hB2 hg2; have d2 := d1.trans (hB2 _ (Nat.le_refl _))))
  clear hown1 d1 hB2 hg2 hg1
  go_loopw [5, 14] (fun o i wr => ∃ (k m : Nat) (A' : Option Addr) (c' : Nat), k ≤ n ∧ m = p + 1 + 10 * k ∧ i = .int .i64 k ∧ o = .slice A' m c' ∧ OwnI 2 wr w.heap.size A' m c' (List.replicate p 0 ++ [1] ++ (zs.take k).flatMap cell10) ∧ Below w.heap.size w wr) (fun _ i _ => n - (intOf i).toNat)
  case atStart => exact ⟨0, p + 1, _, _, Nat.zero_le _, by omega, rfl, by first | rfl | simp, by simpa using hown2, d2⟩
  case round =>
    obtain ⟨k, m, A', c', hk, hmk, rfl, rfl, hown, hb⟩ := hrel
    have HM := Lib.hid hmk
    have hm9 : m ≤ 10485776 := by omega
    clear hmk
    by_cases hlt : k < n
    · have hbk := allR_gi HZ.out (k := k) (by rw [L.out]; exact hlt)
      obtain ⟨B, hq⟩ : ∃ B : Nat, gi zs k = (B : Int) := ⟨(gi zs k).toNat, by omega⟩
      have hB : B ≤ 255 := by omega
      have HQ := Lib.hid hq
      obtain ⟨b, o, rfl, hbl, hc⟩ := (h.below hb (Nat.le_refl _)).get (by omega)
      have hcell := hc k hlt
      rw [HQ.out] at hcell
      have hs0 := hb.size
      clear hq hbk hc
      go_wp2_with (at_builtin; refine wpl_appR _ Tryz.underlying31 infoInt rfl _ _ rfl w.heap.size _ m _ _ rfl (hown.alloc _) (some ⟨wr.heap.size, 0, none⟩) 2 2 (wr.heap.size + 1) [1, 0] rfl (RI.lit wr [1, 0] _) (fun e => by cases e) (by omega) (by rw [isz_alloc]; omega) ?_; intro A3 c3 w3 hown3 hB3 hg3; have d3w : Below w.heap.size wr w3 := (below_alloc (Below.refl _ _) hs0 _).trans (hB3 _ (Nat.le_refl _)))
      have d3 := hb.trans d3w
      refine (appNum_any A3 (m + 2) c3 w.heap.size B 8 _ _ hown3 d3.size (by omega) (by omega) (by omega)).mono ?_
      rintro e w4 ⟨A4, c4, rfl, hown4, hb4⟩
      have d4 := d3.trans hb4
      clear hb4 hown3 hg3 d3w hB3 hcell
      go_wp2
      go_roundw
      case rel => exact ⟨k + 1, m + 2 + 8, A4, c4, by omega, by rw [HM.out]; omega, by go_num, rfl, by rw [flat10_take (by rw [L.out]; exact hlt), HQ.out, bits8_W]; simpa using hown4, d4⟩
      case measure => simp [intOf]; omega
    · have hkn : k = n := by omega
      have HK := Lib.hid hkn
      clear hkn
      go_wp2_with (at_builtin; refine wpl_appR _ Tryz.underlying31 infoInt rfl _ _ rfl w.heap.size _ m _ _ rfl (hown.alloc _) (some ⟨wr.heap.size, 0, none⟩) 2 2 (wr.heap.size + 1) [0, 1] rfl (RI.lit wr [0, 1] _) (fun e => by cases e) (by omega) (by rw [isz_alloc]; have := hb.size; omega) ?_; intro A3 c3 w3 hown3 hB3 hg3; have d3w : Below w.heap.size wr w3 := (below_alloc (Below.refl _ _) hb.size _).trans (hB3 _ (Nat.le_refl _)))
      go_ret
      have e1 := HM.out
      have e2 := HK.out
      subst e2
      subst e1
      rw [List.take_of_length_le (by rw [L.out]; exact Nat.le_refl _)] at hown3
      rw [show p + 1 + 10 * k + 2 = p + 3 + 10 * k by omega] at hown3
      exact ⟨A3, c3, by rw [show p + 3 + 10 * k = p + 1 + 10 * k + 2 by omega]; rfl, hown3, hb.trans d3w⟩
end Go.Proofs.YtbaojbheopcjhaaGreatDoor

namespace Go.Proofs.YtbaojbheopcjhaaGreatDoor
open Go.RowKit

/-- the cells of a slot's transmission -/
def cellsS (d : Nat) (sb : List Int) : List Int := List.replicate 8 1 ++ cellsP sb 8 ++ List.replicate (d - (19 + 10 * sb.length)) 1
theorem cellsS_len {d : Nat} {sb : List Int} (h : 19 + 10 * sb.length ≤ d) : (cellsS d sb).length = d := by
  unfold cellsS
  rw [List.length_append, List.length_append, List.length_replicate, List.length_replicate, cellsP_len]
  omega
theorem sealP_size (k r ft fm fd fs fb : Nat) (zs : List Int) (id t md rn sl mb : Nat) : (sealP k r ft fm fd fs fb zs id t md rn sl mb).length = (if k = 0 then 1 else 9) + (if k = 0 ∨ k = 2 then 1 + zs.length else 0) + 3 := by
  unfold sealP bodyP
  simp only [List.length_append, List.length_cons, List.length_nil]
  split <;> split <;> simp [bytesB_len] <;> omega
theorem send_du {x : Sl} {t md rn sl mb r ft fm fd fs fb : Int} {k : Nat} {zs : List Int} (h : sendB x t md rn sl mb k r ft fm fd fs fb zs = true) (r' ft' fm' fd' fs' fb' id t' md' rn' sl' mb' : Nat) :
    (19 + 10 * (sealP k r' ft' fm' fd' fs' fb' zs id t' md' rn' sl' mb').length : Int) ≤ x.du ∧ x.du ≤ 1000 := by
  rw [sealP_size]
  unfold sendB fitD fitF isDs at h
  simp only [Bool.and_eq_true] at h
  have h1 := of_decide_eq_true h.1.2.2.1
  have h2 := of_decide_eq_true h.1.2.2.2.1
  have h3 := inR_iff.1 h.1.1.2.2.2.2
  unfold cellsN bodyN at h3
  rw [← h1, ← h2] at h3
  by_cases k0 : k = 0
  · subst k0; simp at h3 ⊢; omega
  · by_cases k2 : k = 2
    · subst k2; simp at h3 ⊢; omega
    · rw [if_neg k0, if_neg (by omega)]
      rw [if_neg (by omega), if_neg (by omega)] at h3
      omega
/-- the cells of a slot, where the code lets them be -/
def slcL (M : Mdl) (t md rn sl mb k r ft fm fd fs fb : Int) (zs : List Int) : List Int := if codeS M t md rn sl mb k r ft fm fd fs fb zs = 0 then cellsS (ge M.ss (findI M.ss md rn sl)).du.toNat (slL M t md rn sl mb k r ft fm fd fs fb zs) else []
theorem RetS.toI {T : TypeId} {w : World} {zs : List Int} {N : Nat} (hN : zs.length = N) (e : Ending) (w' : World) (h : RetS T w zs e w') : RetI T w N zs e w' := by
  obtain ⟨A, n, c, he, ho, hb⟩ := h
  have := ho.len
  obtain rfl : n = N := by omega
  exact ⟨A, c, he, ho, hb⟩
section
variable {P : Program} {ops : Array Oper} {o : Oper} {a : Act} {K : Act → World → Prop} {Q : Exit → Act → World → Prop} {E : Prop}
/-- an append in a region, its slot given as a number -/
theorem step_appD (dst : Option Nat) (hd : o.dst = dst) (W : World) {TS T : TypeId} (ht : P.underlying TS = some (.slice T)) (hinfo : (P.info? T).map (fun i => (i.zero, i.size, i.bytes)) = some (some (.int .i64 0), 1, 8))
    (hgd : o.guard = none) (s x : Operand) (ho : o.op = .call { callee := .builtin .append, args := #[s, x], argTypes := #[TS, TS] })
    (base : Nat) (A : Option Addr) (n c : Nat) (zs : List Int) (hs : a.eval s = .slice A n c) (hown : OwnI T W base A n c zs)
    (A2 : Option Addr) (n2 c2 B : Nat) (ys : List Int) (hx : a.eval x = .slice A2 n2 c2) (hr : RI W B A2 n2 ys) (hA2 : A2 = none → c2 = 0)
    (N : Nat) (hN : n + n2 = N) (hn : N ≤ 1099511627776) (hbase : base ≤ W.heap.size)
    (h : ∀ A' c' w', OwnI T w' base A' N c' (zs ++ ys) → (∀ B, B ≤ base → Below B W w') → W.grownBy w' (Value.slice A n c).ownBlock → K (a.put dst (.slice A' N c')) w') :
    if Region.wanted o (yielded ops a.tmps) = true then Oper.wp P o a W K Q else E := by
  subst hd
  exact step_appRN W ht hinfo hgd s x ho base A n c zs hs hown A2 n2 c2 B ys hx hr hA2 N hN hn hbase h
end
theorem l20Eq_at (n : Nat) (v N : Int) (hN : (n : Int) = N) (w : World) (hn : n ≤ 1048576) :
    Calls Tryz.prog 43 #[.int .i64 N, .int .i64 v] w (RetI 2 w n (List.replicate n v)) := by
  subst hN
  exact l20Equal_any n v w hn
theorem highs_at (n : Nat) (N : Int) (hN : (n : Int) = N) (w : World) (hn : n ≤ 1048576) :
    Calls Tryz.prog 42 #[.int .i64 N] w (RetI 2 w n (List.replicate n 1)) := by
  subst hN
  exact highs_any n w hn
theorem l18_at (A : Option Addr) (n c N : Nat) (zs : List Int) (hN : 11 + 10 * n = N) (w : World) (h : RI w w.heap.size A n zs) (hn : n ≤ 1048576) (hnc : n ≤ c ∧ c ≤ maxLen) (hz : allR zs 0 255 = true) :
    Calls Tryz.prog 101 #[.slice A n c, .int .i64 8] w (RetI 2 w N (cellsP zs 8)) := by
  subst hN
  exact l18Cells_any A n c 8 zs w h hn hnc.1 hnc.2 (by omega) hz
theorem iCells_at (A : Option Addr) (n c N : Nat) (zs : List Int) (hN : 11 + 10 * n = N) (w : World) (h : RI w w.heap.size A n zs) (hn : n ≤ 1048576) (hz : allR zs 0 255 = true) :
    Calls Tryz.prog 67 #[.slice A n c, .int .i64 8] w (RetI 2 w N (cellsP zs 8)) := by
  subst hN
  exact iCellsOf_any A n c 8 zs w h hn (by omega) hz


set_option maxRecDepth 200000 in
set_option maxHeartbeats 16000000 in
theorem l27Cells_any (m : Mdv) (M : Mdl) (t md rn sl mb k r ft fm fd fs fb : Int) (A : Option Addr) (n c : Nat) (zs : List Int) (w : World) (h : RD w w.heap.size m M) (hz : RI w w.heap.size A n zs) (hA : A = none → c = 0) (hc : codeS M t md rn sl mb k r ft fm fd fs fb zs = 0) :
    Calls Tryz.prog 62 #[.agg #[.int .i64 m.id, .slice m.An m.nn m.cn, .slice m.Am m.nm m.cm, .slice m.As m.ns m.cs], .agg #[.int .i64 t, .int .i64 md, .int .i64 rn, .int .i64 sl, .int .i64 mb], .agg #[.int .i64 k, .int .i64 r, .int .i64 ft, .int .i64 fm, .int .i64 fd, .int .i64 fs, .int .i64 fb, .slice A n c]] w (RetI 2 w (ge M.ss (findI M.ss md rn sl)).du.toNat (cellsS (ge M.ss (findI M.ss md rn sl)).du.toNat (slL M t md rn sl mb k r ft fm fd fs fb zs))) := by
  obtain ⟨hm, hbe, hsd⟩ := codeS_ok hc
  have hid := isMedl_id hm
  rw [h.id] at hid
  obtain ⟨I, hI⟩ : ∃ I : Nat, m.id = (I : Int) := ⟨m.id.toNat, by omega⟩
  have hI2 : I < 16777216 := by omega
  obtain ⟨b1, b2, b3, b4, b5, b6⟩ := send_bd hbe hsd
  have hfl := bel_find hm hbe
  have hfi := find_idx hfl
  obtain ⟨k, rfl⟩ : ∃ z : Nat, k = (z : Int) := ⟨k.toNat, by omega⟩
  obtain ⟨r, rfl⟩ : ∃ z : Nat, r = (z : Int) := ⟨r.toNat, by omega⟩
  obtain ⟨ft, rfl⟩ : ∃ z : Nat, ft = (z : Int) := ⟨ft.toNat, by omega⟩
  obtain ⟨fm, rfl⟩ : ∃ z : Nat, fm = (z : Int) := ⟨fm.toNat, by omega⟩
  obtain ⟨fd, rfl⟩ : ∃ z : Nat, fd = (z : Int) := ⟨fd.toNat, by omega⟩
  obtain ⟨fs, rfl⟩ : ∃ z : Nat, fs = (z : Int) := ⟨fs.toNat, by omega⟩
  obtain ⟨fb, rfl⟩ : ∃ z : Nat, fb = (z : Int) := ⟨fb.toNat, by omega⟩
  obtain ⟨t, rfl⟩ : ∃ z : Nat, t = (z : Int) := ⟨t.toNat, by omega⟩
  obtain ⟨md, rfl⟩ : ∃ z : Nat, md = (z : Int) := ⟨md.toNat, by omega⟩
  obtain ⟨rn, rfl⟩ : ∃ z : Nat, rn = (z : Int) := ⟨rn.toNat, by omega⟩
  obtain ⟨sl, rfl⟩ : ∃ z : Nat, sl = (z : Int) := ⟨sl.toNat, by omega⟩
  obtain ⟨mb, rfl⟩ : ∃ z : Nat, mb = (z : Int) := ⟨mb.toNat, by omega⟩
  have hdu := send_du hsd r ft fm fd fs fb I t md rn sl mb
  have E := Lib.hid (show slL M (t : Int) md rn sl mb k r ft fm fd fs fb zs = sealP k r ft fm fd fs fb zs I t md rn sl mb by
    unfold slL
    rw [if_pos hc, show M.id.toNat = I from by rw [h.id, hI]; rfl]
    rfl)
  have LS := h.rs.len
  have L := hz.len
  have hn2 : n ≤ 255 := by rw [← L]; omega
  have hsl := sealP_255 (k := k) (r := r) (ft := ft) (fm := fm) (fd := fd) (fs := fs) (fb := fb) (zs := zs) (id := I) (t := t) (md := md) (rn := rn) (sl := sl) (mb := mb) (by omega) (by omega) (by omega) b6 hI2
  have HSL0 := fun (u : World) (hu : RI u u.heap.size A n zs) => sSeal_any k r ft fm fd fs fb I t md rn sl mb A n c zs u hu hA hn2 b6 hI2 (by omega) (by omega) (by omega) (by omega) (by omega) (by omega) (by omega) (by omega) (by omega) (by omega) (by omega) (by omega)
  obtain ⟨f, hfe⟩ : ∃ f, findI M.ss (md : Int) rn sl = f := ⟨_, rfl⟩
  rw [hfe] at hdu hfl hfi ⊢
  obtain ⟨d, hd⟩ : ∃ d : Nat, (ge M.ss f).du = (d : Int) := ⟨(ge M.ss f).du.toNat, by omega⟩
  obtain ⟨sb, hsb⟩ : ∃ sb, sealP k r ft fm fd fs fb zs I t md rn sl mb = sb := ⟨_, rfl⟩
  rw [E.out, hd]
  rw [hsb] at hsl hdu HSL0 ⊢
  obtain ⟨q, hq⟩ : ∃ q, sb.length = q := ⟨_, rfl⟩
  have hqd : 19 + 10 * q ≤ d ∧ d ≤ 1000 := by rw [hd] at hdu; rw [← hq]; omega
  have HSL := Lib.hid (fun (u : World) (hu : RI u u.heap.size A n zs) => (HSL0 u hu).mono (RetS.toI hq))
  have HSB := Lib.hid hsl
  have hsz : cellsS d sb = List.replicate 8 1 ++ cellsP sb 8 ++ List.replicate (d - (19 + 10 * q)) 1 := by unfold cellsS; rw [hq]
  have HE := Lib.hid hsz
  have HI0 := Lib.hid hI
  have HDS := fun (u : World) (hu : RD u u.heap.size m M) => sDesc_any m M (t : Int) md rn sl mb f u hu hfi (by rw [← LS]; exact hfl)
  rw [hd] at HDS
  have HD := Lib.hid HDS
  show Calls _ _ _ _ (RetI _ _ (d : Int).toNat (cellsS (d : Int).toNat sb))
  rw [Int.toNat_natCast]
  clear hm hbe hsd hid b1 b2 b3 b4 b5 b6 hI hdu E hfe hd hsb hsl HSL0 hq HDS hc hsz
  obtain ⟨w0, hw0⟩ : ∃ v, v = ((w.alloc (.cells #[.int .i64 m.id, .slice m.An m.nn m.cn, .slice m.Am m.nm m.cm, .slice m.As m.ns m.cs] 28)).alloc (.cells #[.int .i64 t, .int .i64 md, .int .i64 rn, .int .i64 sl, .int .i64 mb] 30)).alloc (.cells #[.int .i64 k, .int .i64 r, .int .i64 ft, .int .i64 fm, .int .i64 fd, .int .i64 fs, .int .i64 fb, .slice A n c] 33) := ⟨_, rfl⟩
  have hB : BM w w.heap.size m M w0 := by rw [hw0]; exact (BM.box h).next (by go_grown)
  have hS : BlkL w0 (w.heap.size + 1) 30 [.int .i64 t, .int .i64 md, .int .i64 rn, .int .i64 sl, .int .i64 mb] := by rw [hw0]; exact (BlkL.new _ _ _ (by simp)).alloc _
  have hF : BlkL w0 (w.heap.size + 1 + 1) 33 [.int .i64 k, .int .i64 r, .int .i64 ft, .int .i64 fm, .int .i64 fd, .int .i64 fs, .int .i64 fb, .slice A n c] := by rw [hw0]; exact BlkL.new _ _ _ (by simp)
  have hz0 := hz.up hB.bel
  have gb := hB.bel
  have hcells : ∀ u, Below w0.heap.size w0 u → (Below w0.heap.size w0 u ∧ u.cell? ⟨w.heap.size, 0, none⟩ = some (.int .i64 (I : Int)) ∧ u.cell? ⟨w.heap.size + 1, 0, none⟩ = some (.int .i64 t) ∧ u.cell? ⟨w.heap.size + 1, 1, none⟩ = some (.int .i64 md) ∧ u.cell? ⟨w.heap.size + 1, 2, none⟩ = some (.int .i64 rn) ∧ u.cell? ⟨w.heap.size + 1, 3, none⟩ = some (.int .i64 sl) ∧ u.cell? ⟨w.heap.size + 1, 4, none⟩ = some (.int .i64 mb) ∧ u.cell? ⟨w.heap.size + 1 + 1, 0, none⟩ = some (.int .i64 k) ∧ u.cell? ⟨w.heap.size + 1 + 1, 1, none⟩ = some (.int .i64 r) ∧ u.cell? ⟨w.heap.size + 1 + 1, 2, none⟩ = some (.int .i64 ft) ∧ u.cell? ⟨w.heap.size + 1 + 1, 3, none⟩ = some (.int .i64 fm) ∧ u.cell? ⟨w.heap.size + 1 + 1, 4, none⟩ = some (.int .i64 fd) ∧ u.cell? ⟨w.heap.size + 1 + 1, 5, none⟩ = some (.int .i64 fs) ∧ u.cell? ⟨w.heap.size + 1 + 1, 6, none⟩ = some (.int .i64 fb) ∧ u.cell? ⟨w.heap.size + 1 + 1, 7, none⟩ = some (.slice A n c)) := fun u hu => ⟨hu, (by rw [← HI0.out]; exact (hB.next hu).k.c 0 rfl), (hS.next hu).c 0 rfl, (hS.next hu).c 1 rfl, (hS.next hu).c 2 rfl, (hS.next hu).c 3 rfl, (hS.next hu).c 4 rfl, (hF.next hu).c 0 rfl, (hF.next hu).c 1 rfl, (hF.next hu).c 2 rfl, (hF.next hu).c 3 rfl, (hF.next hu).c 4 rfl, (hF.next hu).c 5 rfl, (hF.next hu).c 6 rfl, (hF.next hu).c 7 rfl⟩
  have HC := Lib.hid hcells
  have HZ := Lib.hid hz0
  clear hcells hz hz0
  go_enter Tryz.func62, Tryz.ntmps62
  go_upto_region 1 with fail
  rw [← hw0]
  clear hw0
  have hV : Below w0.heap.size w0 w0.drew := (Below.refl _ _).drew
  go_cut [7] (fun v wc => ∃ A c, v = .slice A (8 + (11 + 10 * q)) c ∧ OwnI 2 wc w0.heap.size A (8 + (11 + 10 * q)) c (List.replicate 8 1 ++ cellsP sb 8) ∧ Below w0.heap.size w0 wc)
  case first =>
    go_region_held_law (fun u => Below w0.heap.size w0 u ∧ u.cell? ⟨w.heap.size, 0, none⟩ = some (.int .i64 (I : Int)) ∧ u.cell? ⟨w.heap.size + 1, 0, none⟩ = some (.int .i64 t) ∧ u.cell? ⟨w.heap.size + 1, 1, none⟩ = some (.int .i64 md) ∧ u.cell? ⟨w.heap.size + 1, 2, none⟩ = some (.int .i64 rn) ∧ u.cell? ⟨w.heap.size + 1, 3, none⟩ = some (.int .i64 sl) ∧ u.cell? ⟨w.heap.size + 1, 4, none⟩ = some (.int .i64 mb) ∧ u.cell? ⟨w.heap.size + 1 + 1, 0, none⟩ = some (.int .i64 k) ∧ u.cell? ⟨w.heap.size + 1 + 1, 1, none⟩ = some (.int .i64 r) ∧ u.cell? ⟨w.heap.size + 1 + 1, 2, none⟩ = some (.int .i64 ft) ∧ u.cell? ⟨w.heap.size + 1 + 1, 3, none⟩ = some (.int .i64 fm) ∧ u.cell? ⟨w.heap.size + 1 + 1, 4, none⟩ = some (.int .i64 fd) ∧ u.cell? ⟨w.heap.size + 1 + 1, 5, none⟩ = some (.int .i64 fs) ∧ u.cell? ⟨w.heap.size + 1 + 1, 6, none⟩ = some (.int .i64 fb) ∧ u.cell? ⟨w.heap.size + 1 + 1, 7, none⟩ = some (.slice A n c)) (first | (with_reducible exact HC.out _ hV) | (with_reducible refine HC.out _ ?_; with_reducible assumption) | (with_reducible refine HC.out _ ?_; go_grown)) (first
      | (go_at_call 43; (have hgv : Below w0.heap.size w0 _ := And.left (‹Below w0.heap.size w0 _ ∧ _›)); (with_reducible refine (l20Eq_at 8 1 8 rfl _ (by omega)).mono ?_); rintro e cc ⟨A8, c8, rfl, hown, hb⟩; (have hv := below_next hb hgv (Nat.le_refl _)); (try (replace O8 := Lib.hid (O8.out.below hb))); (try (replace O13 := Lib.hid (O13.out.below hb))); (try (replace O14 := Lib.hid (O14.out.below hb))); have O8 := Lib.hid (hown.weaken hgv.size); clear hown hgv hb)
      | (go_at_call 102; (have hgv : Below w0.heap.size w0 _ := And.left (‹Below w0.heap.size w0 _ ∧ _›)); (with_reducible refine (HSL.out _ (HZ.out.up hgv)).mono ?_); rintro e cc ⟨A13, c13, rfl, hown, hb⟩; (have hv := below_next hb hgv (Nat.le_refl _)); (try (replace O8 := Lib.hid (O8.out.below hb))); (try (replace O13 := Lib.hid (O13.out.below hb))); (try (replace O14 := Lib.hid (O14.out.below hb))); have O13 := Lib.hid (hown.weaken hgv.size); clear hown hgv hb)
      | (go_at_call 101; (have hgv : Below w0.heap.size w0 _ := And.left (‹Below w0.heap.size w0 _ ∧ _›)); (with_reducible refine (l18_at A13 q c13 _ sb rfl _ O13.out.reads (by omega) O13.out.cap HSB.out).mono ?_); rintro e cc ⟨A14, c14, rfl, hown, hb⟩; (have hv := below_next hb hgv (Nat.le_refl _)); (try (replace O8 := Lib.hid (O8.out.below hb))); (try (replace O13 := Lib.hid (O13.out.below hb))); (try (replace O14 := Lib.hid (O14.out.below hb))); have O14 := Lib.hid (hown.weaken hgv.size); clear hown hgv hb)
      | ((have hgv : Below w0.heap.size w0 _ := And.left (‹Below w0.heap.size w0 _ ∧ _›)); (refine step_appD (some 15) rfl _ Tryz.underlying31 infoInt rfl (.tmp 8) (.tmp 14) rfl w0.heap.size A8 8 c8 _ (by simp [Act.eval]) O8.out A14 (11 + 10 * q) c14 _ _ (by simp [Act.eval]) O14.out.reads (ownI_zero O14.out) (8 + (11 + 10 * q)) rfl (by omega) hgv.size ?_); intro A15 c15 w15 own15 hB15 hg15; (have hv := hgv.trans (hB15 _ (Nat.le_refl _))); have O15 := Lib.hid own15; have HV9 := Lib.hid hv; clear own15 hg15 hgv hB15 O8 O13 O14))
    all_goals
      go_wp2_with fail
      go_meet
      exact ⟨_, _, rfl, O15.out, HV9.out⟩
  case rest =>
    obtain ⟨A15, c15, rfl, hown, hbc⟩ := hcut
    obtain ⟨w1, hw1⟩ : ∃ v, v = wc := ⟨_, rfl⟩
    rw [← hw1] at hown hbc ⊢
    clear hw1 HC hV
    have hB1 := hB.next hbc
    have hS1 := hS.next hbc
    have O15 := Lib.hid (hown.weaken gb.size)
    clear hown hB hS hF gb hbc
    have c0 := hB1.k.c 0 rfl
    have c1 := hB1.k.c 1 rfl
    have c2 := hB1.k.c 2 rfl
    have c3 := hB1.k.c 3 rfl
    have s0 := hS1.c 0 rfl
    have s1 := hS1.c 1 rfl
    have s2 := hS1.c 2 rfl
    have s3 := hS1.c 3 rfl
    have s4 := hS1.c 4 rfl
    go_wp2_with fail
    refine (HD.out _ hB1.rd).mono ?_
    rintro e w2 ⟨rfl, hb2⟩
    have hB2 := hB1.next hb2
    have O16 := Lib.hid (O15.out.below hb2)
    clear hB1 hS1 hb2 c0 c1 c2 c3 s0 s1 s2 s3 s4 O15
    have hfd := ds_f3
    obtain ⟨e8, h8, h8n⟩ : ∃ e : Nat, (d : Int) - ((8 + (11 + 10 * q) : Nat) : Int) = (e : Int) ∧ d - (19 + 10 * q) = e := ⟨d - (19 + 10 * q), by omega, rfl⟩
    have h8b : 8 + (11 + 10 * q) + e8 = d := by omega
    rw [h8n] at HE
    have H8 := Lib.hid h8
    obtain ⟨p, hp⟩ : ∃ p, 8 + (11 + 10 * q) = p := ⟨_, rfl⟩
    rw [hp] at h8 h8b O16 ⊢
    have hpb : p + e8 ≤ 1000 := by omega
    clear h8n H8 hp hqd
    go_wp2_with fail
    refine (l20Eq_at e8 1 _ (by omega) _ (by omega)).mono ?_
    rintro e w3 ⟨A3, c3, rfl, hown, hb3⟩
    have hB3 := hB2.next hb3
    have O17 := Lib.hid (O16.out.below hb3)
    have O3 := Lib.hid hown
    have gb3 := hB3.bel
    have sz3 := gb3.size
    clear hB2 hB3 O16 hown hb3
    go_wp2_with (at_builtin; refine wpl_appR _ Tryz.underlying31 infoInt rfl _ _ rfl w.heap.size _ p _ _ rfl O17.out A3 e8 c3 _ _ rfl O3.out.reads (ownI_zero O3.out) (by omega) sz3 ?_; intro A5 c5 w5 own5 hB5 hg5)
    go_ret
    rw [HE.out, ← h8b]
    exact ⟨A5, c5, rfl, own5, gb3.trans (hB5 _ (Nat.le_refl _))⟩

theorem flat10_01 {zs : List Int} (h : allR zs 0 255 = true) : allR (zs.flatMap cell10) 0 1 = true := by
  refine List.all_eq_true.2 fun z hz => ?_
  obtain ⟨b, hb, hz⟩ := List.mem_flatMap.1 hz
  have h1 := inR_iff.1 (List.all_eq_true.1 h b hb)
  obtain ⟨B, rfl⟩ : ∃ B : Nat, b = (B : Int) := ⟨b.toNat, by omega⟩
  unfold cell10 at hz
  rw [bits8_W] at hz
  rcases List.mem_append.1 hz with hz | hz
  · simp at hz; rcases hz with rfl | rfl <;> rfl
  · exact List.all_eq_true.1 (bitsW_01 B 8) z hz
theorem rep_01 (n : Nat) {v : Int} (h : inR v 0 1 = true) : allR (List.replicate n v) 0 1 = true :=
  List.all_eq_true.2 fun z hz => by rw [List.eq_of_mem_replicate hz]; exact h
theorem cellsS_01 (d : Nat) {sb : List Int} (h : allR sb 0 255 = true) : allR (cellsS d sb) 0 1 = true := by
  unfold cellsS cellsP
  exact allR_app (allR_app (rep_01 _ rfl) (allR_app (allR_app (allR_app (rep_01 _ rfl) rfl) (flat10_01 h)) rfl)) (rep_01 _ rfl)
theorem slc_facts {M : Mdl} {t md rn sl mb k r ft fm fd fs fb : Int} {zs : List Int} (hc : codeS M t md rn sl mb k r ft fm fd fs fb zs = 0) :
    (slcL M t md rn sl mb k r ft fm fd fs fb zs).length = (ge M.ss (findI M.ss md rn sl)).du.toNat ∧ (ge M.ss (findI M.ss md rn sl)).du ≤ 1000 ∧ allR (slcL M t md rn sl mb k r ft fm fd fs fb zs) 0 1 = true := by
  obtain ⟨hm, hbe, hsd⟩ := codeS_ok hc
  have hid := isMedl_id hm
  obtain ⟨b1, b2, b3, b4, b5, b6⟩ := send_bd hbe hsd
  obtain ⟨k, rfl⟩ : ∃ z : Nat, k = (z : Int) := ⟨k.toNat, by omega⟩
  have hdu := send_du hsd r.toNat ft.toNat fm.toNat fd.toNat fs.toNat fb.toNat M.id.toNat t.toNat md.toNat rn.toNat sl.toNat mb.toNat
  have hE : slL M t md rn sl mb k r ft fm fd fs fb zs = sealP k r.toNat ft.toNat fm.toNat fd.toNat fs.toNat fb.toNat zs M.id.toNat t.toNat md.toNat rn.toNat sl.toNat mb.toNat := by
    unfold slL
    rw [if_pos hc]
    rfl
  have hC : slcL M t md rn sl mb k r ft fm fd fs fb zs = cellsS (ge M.ss (findI M.ss md rn sl)).du.toNat (slL M t md rn sl mb k r ft fm fd fs fb zs) := by unfold slcL; rw [if_pos hc]
  rw [hC, hE]
  exact ⟨cellsS_len (by omega), hdu.2, cellsS_01 _ (sealP_255 (by omega) (by omega) (by omega) b6 (by omega))⟩
theorem slcL_len (M : Mdl) (t md rn sl mb k r ft fm fd fs fb : Int) (zs : List Int) : (slcL M t md rn sl mb k r ft fm fd fs fb zs).length ≤ 1000 := by
  by_cases hc : codeS M t md rn sl mb k r ft fm fd fs fb zs = 0
  · have := slc_facts hc
    omega
  · unfold slcL
    rw [if_neg hc]
    simp
/-- the samples of a slot -/
def smpL (M : Mdl) (t md rn sl mb k r ft fm fd fs fb : Int) (zs : List Int) : List Int := if codeS M t md rn sl mb k r ft fm fd fs fb zs = 0 then nom (slcL M t md rn sl mb k r ft fm fd fs fb zs) else []
theorem smpL_len (M : Mdl) (t md rn sl mb k r ft fm fd fs fb : Int) (zs : List Int) : (smpL M t md rn sl mb k r ft fm fd fs fb zs).length ≤ 8000 := by
  unfold smpL
  split
  · have := slcL_len M t md rn sl mb k r ft fm fd fs fb zs
    unfold nom
    rw [len_blocks (m := 8) (fun _ => by simp)]
    omega
  · simp
theorem l27L_any (m : Mdv) (M : Mdl) (t md rn sl mb k r ft fm fd fs fb : Int) (A : Option Addr) (n c : Nat) (zs : List Int) (w : World) (h : RD w w.heap.size m M) (hz : RI w w.heap.size A n zs) (hA : A = none → c = 0) (hc : codeS M t md rn sl mb k r ft fm fd fs fb zs = 0) :
    Calls Tryz.prog 62 #[.agg #[.int .i64 m.id, .slice m.An m.nn m.cn, .slice m.Am m.nm m.cm, .slice m.As m.ns m.cs], .agg #[.int .i64 t, .int .i64 md, .int .i64 rn, .int .i64 sl, .int .i64 mb], .agg #[.int .i64 k, .int .i64 r, .int .i64 ft, .int .i64 fm, .int .i64 fd, .int .i64 fs, .int .i64 fb, .slice A n c]] w (RetS 2 w (slcL M t md rn sl mb k r ft fm fd fs fb zs)) := by
  refine (l27Cells_any m M t md rn sl mb k r ft fm fd fs fb A n c zs w h hz hA hc).mono ?_
  rintro e w1 ⟨A1, c1, he, ho, hb⟩
  rw [show cellsS (ge M.ss (findI M.ss md rn sl)).du.toNat (slL M t md rn sl mb k r ft fm fd fs fb zs) = slcL M t md rn sl mb k r ft fm fd fs fb zs by unfold slcL; rw [if_pos hc]] at ho
  exact ⟨A1, _, c1, he, ho, hb⟩

set_option maxRecDepth 200000 in
set_option maxHeartbeats 16000000 in
theorem sSamples_ok (m : Mdv) (M : Mdl) (t md rn sl mb k r ft fm fd fs fb : Int) (A : Option Addr) (n c : Nat) (zs : List Int) (w : World) (h : RD w w.heap.size m M) (hx : RX m M) (hz : RI w w.heap.size A n zs) (hA : A = none → c = 0) (hn : n ≤ 1099511627776) :
    Calls Tryz.prog 26 #[.agg #[.int .i64 m.id, .slice m.An m.nn m.cn, .slice m.Am m.nm m.cm, .slice m.As m.ns m.cs], .agg #[.int .i64 t, .int .i64 md, .int .i64 rn, .int .i64 sl, .int .i64 mb], .agg #[.int .i64 k, .int .i64 r, .int .i64 ft, .int .i64 fm, .int .i64 fd, .int .i64 fs, .int .i64 fb, .slice A n c]] w (RetIC 2 w (smpL M t md rn sl mb k r ft fm fd fs fb zs) (codeS M t md rn sl mb k r ft fm fd fs fb zs)) := by
  have hcd := sCodeS_any m M t md rn sl mb k r ft fm fd fs fb A n c zs
  by_cases hc : codeS M t md rn sl mb k r ft fm fd fs fb zs = 0
  case neg =>
    have E := Lib.hid (show smpL M t md rn sl mb k r ft fm fd fs fb zs = [] by unfold smpL; rw [if_neg hc])
    obtain ⟨cd, h1⟩ : ∃ b, codeS M t md rn sl mb k r ft fm fd fs fb zs = b := ⟨_, rfl⟩
    rw [h1] at hc hcd
    have HC := Lib.hid hcd
    have H1 := Lib.hid h1
    have hne : (cd != 0) = true := by simpa using hc
    clear hcd h1
    obtain ⟨w0, hw0⟩ : ∃ v, v = ((w.alloc (.cells #[.int .i64 m.id, .slice m.An m.nn m.cn, .slice m.Am m.nm m.cm, .slice m.As m.ns m.cs] 28)).alloc (.cells #[.int .i64 t, .int .i64 md, .int .i64 rn, .int .i64 sl, .int .i64 mb] 30)).alloc (.cells #[.int .i64 k, .int .i64 r, .int .i64 ft, .int .i64 fm, .int .i64 fd, .int .i64 fs, .int .i64 fb, .slice A n c] 33) := ⟨_, rfl⟩
    have hB : BM w w.heap.size m M w0 := by rw [hw0]; exact (BM.box h).next (by go_grown)
    have hS : BlkL w0 (w.heap.size + 1) 30 [.int .i64 t, .int .i64 md, .int .i64 rn, .int .i64 sl, .int .i64 mb] := by rw [hw0]; exact (BlkL.new _ _ _ (by simp)).alloc _
    have hF : BlkL w0 (w.heap.size + 1 + 1) 33 [.int .i64 k, .int .i64 r, .int .i64 ft, .int .i64 fm, .int .i64 fd, .int .i64 fs, .int .i64 fb, .slice A n c] := by rw [hw0]; exact BlkL.new _ _ _ (by simp)
    have hz0 := hz.up hB.bel
    go_enter Tryz.func26, Tryz.ntmps26
    go_wp2_with fail
    rw [← hw0]
    clear hw0
    refine (HC.out _ hB.rd hx hz0 hn).mono ?_
    rintro e w1 ⟨rfl, hb1⟩
    have H9 := (hB.next hb1).bel
    go_wp2
    go_ret2
    exact ⟨none, 0, 0, by rw [H1.out]; rfl, by rw [E.out]; exact OwnI.nil _ _ _, H9⟩
  have E0 : smpL M t md rn sl mb k r ft fm fd fs fb zs = nom (slcL M t md rn sl mb k r ft fm fd fs fb zs) := by unfold smpL; rw [if_pos hc]
  have hlen : (slcL M t md rn sl mb k r ft fm fd fs fb zs).length ≤ 1000 := slcL_len M t md rn sl mb k r ft fm fd fs fb zs
  have HL := l27L_any m M t md rn sl mb k r ft fm fd fs fb A n c zs
  obtain ⟨cs, hcs⟩ : ∃ x, slcL M t md rn sl mb k r ft fm fd fs fb zs = x := ⟨_, rfl⟩
  rw [E0, hc, hcs]
  rw [hcs] at hlen
  have HL3 := fun (u : World) h1 h2 => HL u h1 h2 hA hc
  rw [hcs] at HL3
  have HL2 := Lib.hid HL3
  rw [hc] at hcd
  have HK := Lib.hid hcd
  clear hcd hc hcs E0 HL HL3
  obtain ⟨w0, hw0⟩ : ∃ v, v = ((w.alloc (.cells #[.int .i64 m.id, .slice m.An m.nn m.cn, .slice m.Am m.nm m.cm, .slice m.As m.ns m.cs] 28)).alloc (.cells #[.int .i64 t, .int .i64 md, .int .i64 rn, .int .i64 sl, .int .i64 mb] 30)).alloc (.cells #[.int .i64 k, .int .i64 r, .int .i64 ft, .int .i64 fm, .int .i64 fd, .int .i64 fs, .int .i64 fb, .slice A n c] 33) := ⟨_, rfl⟩
  have hB : BM w w.heap.size m M w0 := by rw [hw0]; exact (BM.box h).next (by go_grown)
  have hS : BlkL w0 (w.heap.size + 1) 30 [.int .i64 t, .int .i64 md, .int .i64 rn, .int .i64 sl, .int .i64 mb] := by rw [hw0]; exact (BlkL.new _ _ _ (by simp)).alloc _
  have hF : BlkL w0 (w.heap.size + 1 + 1) 33 [.int .i64 k, .int .i64 r, .int .i64 ft, .int .i64 fm, .int .i64 fd, .int .i64 fs, .int .i64 fb, .slice A n c] := by rw [hw0]; exact BlkL.new _ _ _ (by simp)
  have hz0 := hz.up hB.bel
  go_enter Tryz.func26, Tryz.ntmps26
  go_wp2_with fail
  rw [← hw0]
  clear hw0
  refine (HK.out _ hB.rd hx hz0 hn).mono ?_
  rintro e w1 ⟨rfl, hb1⟩
  have hB1 := hB.next hb1
  have hS1 := hS.next hb1
  have hF1 := hF.next hb1
  have hz1 := hz0.up hb1
  clear hB hS hF hb1 hz0 HK
  have c0 := hB1.k.c 0 rfl
  have c1 := hB1.k.c 1 rfl
  have c2 := hB1.k.c 2 rfl
  have c3 := hB1.k.c 3 rfl
  have s0 := hS1.c 0 rfl
  have s1 := hS1.c 1 rfl
  have s2 := hS1.c 2 rfl
  have s3 := hS1.c 3 rfl
  have s4 := hS1.c 4 rfl
  have f0 := hF1.c 0 rfl
  have f1 := hF1.c 1 rfl
  have f2 := hF1.c 2 rfl
  have f3 := hF1.c 3 rfl
  have f4 := hF1.c 4 rfl
  have f5 := hF1.c 5 rfl
  have f6 := hF1.c 6 rfl
  have f7 := hF1.c 7 rfl
  have sz := hB1.bel.size
  go_wp2_with fail
  refine (HL2.out _ hB1.rd hz1).mono ?_
  rintro e w2 ⟨A2, n2, d2, rfl, own2, hb2⟩
  have hn9 : n2 ≤ 1000 := by rw [← own2.len]; exact hlen
  have O1 := Lib.hid own2
  have hB2 := hB1.next hb2
  have sz2 := hB2.bel.size
  go_wp2_with fail
  refine (l20Nominal_any A2 n2 d2 cs _ O1.out.reads (by omega)).mono ?_
  rintro e w3 ⟨A3, n3, d3, rfl, own3, hb3⟩
  have H9 := (hB2.next hb3).bel
  have O2 := Lib.hid (own3.weaken sz2)
  go_wp2
  go_ret2
  exact ⟨A3, n3, d3, rfl, O2.out, H9⟩

end Go.Proofs.YtbaojbheopcjhaaGreatDoor

namespace Go.Proofs.YtbaojbheopcjhaaGreatDoor
open Go.RowKit

set_option maxRecDepth 200000 in
set_option maxHeartbeats 16000000 in
theorem iCells_ok (m : Mdv) (M : Mdl) (t md rn sl mb k r ft fm fd fs fb : Int) (A : Option Addr) (n c : Nat) (zs : List Int) (w : World) (h : RD w w.heap.size m M) (hx : RX m M) (hz : RI w w.heap.size A n zs) (hA : A = none → c = 0) (hn : n ≤ 1099511627776) :
    Calls Tryz.prog 29 #[.agg #[.int .i64 m.id, .slice m.An m.nn m.cn, .slice m.Am m.nm m.cm, .slice m.As m.ns m.cs], .agg #[.int .i64 t, .int .i64 md, .int .i64 rn, .int .i64 sl, .int .i64 mb], .agg #[.int .i64 k, .int .i64 r, .int .i64 ft, .int .i64 fm, .int .i64 fd, .int .i64 fs, .int .i64 fb, .slice A n c]] w (RetIC 2 w (slcL M t md rn sl mb k r ft fm fd fs fb zs) (codeS M t md rn sl mb k r ft fm fd fs fb zs)) := by
  have hcd := iCodeS_any m M t md rn sl mb k r ft fm fd fs fb A n c zs
  by_cases hc : codeS M t md rn sl mb k r ft fm fd fs fb zs = 0
  case neg =>
    have E := Lib.hid (show slcL M t md rn sl mb k r ft fm fd fs fb zs = [] by unfold slcL; rw [if_neg hc])
    obtain ⟨cd, h1⟩ : ∃ b, codeS M t md rn sl mb k r ft fm fd fs fb zs = b := ⟨_, rfl⟩
    rw [h1] at hc hcd
    have HC := Lib.hid hcd
    have H1 := Lib.hid h1
    have hne : (cd != 0) = true := by simpa using hc
    clear hcd h1
    obtain ⟨w0, hw0⟩ : ∃ v, v = ((w.alloc (.cells #[.int .i64 m.id, .slice m.An m.nn m.cn, .slice m.Am m.nm m.cm, .slice m.As m.ns m.cs] 28)).alloc (.cells #[.int .i64 t, .int .i64 md, .int .i64 rn, .int .i64 sl, .int .i64 mb] 30)).alloc (.cells #[.int .i64 k, .int .i64 r, .int .i64 ft, .int .i64 fm, .int .i64 fd, .int .i64 fs, .int .i64 fb, .slice A n c] 33) := ⟨_, rfl⟩
    have hB : BM w w.heap.size m M w0 := by rw [hw0]; exact (BM.box h).next (by go_grown)
    have hS : BlkL w0 (w.heap.size + 1) 30 [.int .i64 t, .int .i64 md, .int .i64 rn, .int .i64 sl, .int .i64 mb] := by rw [hw0]; exact (BlkL.new _ _ _ (by simp)).alloc _
    have hF : BlkL w0 (w.heap.size + 1 + 1) 33 [.int .i64 k, .int .i64 r, .int .i64 ft, .int .i64 fm, .int .i64 fd, .int .i64 fs, .int .i64 fb, .slice A n c] := by rw [hw0]; exact BlkL.new _ _ _ (by simp)
    have hz0 := hz.up hB.bel
    go_enter Tryz.func29, Tryz.ntmps29
    go_wp2_with fail
    rw [← hw0]
    clear hw0
    refine (HC.out _ hB.rd hx hz0 hn).mono ?_
    rintro e w1 ⟨rfl, hb1⟩
    have H9 := (hB.next hb1).bel
    go_wp2
    go_ret2
    exact ⟨none, 0, 0, by rw [H1.out]; rfl, by rw [E.out]; exact OwnI.nil _ _ _, H9⟩
  rw [hc] at hcd
  have HK0 := Lib.hid hcd
  clear hcd
  rw [show slcL M t md rn sl mb k r ft fm fd fs fb zs = cellsS (ge M.ss (findI M.ss md rn sl)).du.toNat (slL M t md rn sl mb k r ft fm fd fs fb zs) by unfold slcL; rw [if_pos hc], hc]
  obtain ⟨hm, hbe, hsd⟩ := codeS_ok hc
  have hid := isMedl_id hm
  rw [h.id] at hid
  obtain ⟨I, hI⟩ : ∃ I : Nat, m.id = (I : Int) := ⟨m.id.toNat, by omega⟩
  have hI2 : I < 16777216 := by omega
  obtain ⟨b1, b2, b3, b4, b5, b6⟩ := send_bd hbe hsd
  have hfl := bel_find hm hbe
  have hfi := find_idx hfl
  obtain ⟨k, rfl⟩ : ∃ z : Nat, k = (z : Int) := ⟨k.toNat, by omega⟩
  obtain ⟨r, rfl⟩ : ∃ z : Nat, r = (z : Int) := ⟨r.toNat, by omega⟩
  obtain ⟨ft, rfl⟩ : ∃ z : Nat, ft = (z : Int) := ⟨ft.toNat, by omega⟩
  obtain ⟨fm, rfl⟩ : ∃ z : Nat, fm = (z : Int) := ⟨fm.toNat, by omega⟩
  obtain ⟨fd, rfl⟩ : ∃ z : Nat, fd = (z : Int) := ⟨fd.toNat, by omega⟩
  obtain ⟨fs, rfl⟩ : ∃ z : Nat, fs = (z : Int) := ⟨fs.toNat, by omega⟩
  obtain ⟨fb, rfl⟩ : ∃ z : Nat, fb = (z : Int) := ⟨fb.toNat, by omega⟩
  obtain ⟨t, rfl⟩ : ∃ z : Nat, t = (z : Int) := ⟨t.toNat, by omega⟩
  obtain ⟨md, rfl⟩ : ∃ z : Nat, md = (z : Int) := ⟨md.toNat, by omega⟩
  obtain ⟨rn, rfl⟩ : ∃ z : Nat, rn = (z : Int) := ⟨rn.toNat, by omega⟩
  obtain ⟨sl, rfl⟩ : ∃ z : Nat, sl = (z : Int) := ⟨sl.toNat, by omega⟩
  obtain ⟨mb, rfl⟩ : ∃ z : Nat, mb = (z : Int) := ⟨mb.toNat, by omega⟩
  have hdu := send_du hsd r ft fm fd fs fb I t md rn sl mb
  have E := Lib.hid (show slL M (t : Int) md rn sl mb k r ft fm fd fs fb zs = sealP k r ft fm fd fs fb zs I t md rn sl mb by
    unfold slL
    rw [if_pos hc, show M.id.toNat = I from by rw [h.id, hI]; rfl]
    rfl)
  have LS := h.rs.len
  have L := hz.len
  have hn2 : n ≤ 255 := by rw [← L]; omega
  have hsl := sealP_255 (k := k) (r := r) (ft := ft) (fm := fm) (fd := fd) (fs := fs) (fb := fb) (zs := zs) (id := I) (t := t) (md := md) (rn := rn) (sl := sl) (mb := mb) (by omega) (by omega) (by omega) b6 hI2
  have HSL0 := fun (u : World) (hu : RI u u.heap.size A n zs) => iSeal_any k r ft fm fd fs fb I t md rn sl mb A n c zs u hu hA hn2 b6 hI2 (by omega) (by omega) (by omega) (by omega) (by omega) (by omega) (by omega) (by omega) (by omega) (by omega) (by omega) (by omega)
  obtain ⟨f, hfe⟩ : ∃ f, findI M.ss (md : Int) rn sl = f := ⟨_, rfl⟩
  rw [hfe] at hdu hfl hfi ⊢
  obtain ⟨d, hd⟩ : ∃ d : Nat, (ge M.ss f).du = (d : Int) := ⟨(ge M.ss f).du.toNat, by omega⟩
  obtain ⟨sb, hsb⟩ : ∃ sb, sealP k r ft fm fd fs fb zs I t md rn sl mb = sb := ⟨_, rfl⟩
  rw [E.out, hd]
  rw [hsb] at hsl hdu HSL0 ⊢
  obtain ⟨q, hq⟩ : ∃ q, sb.length = q := ⟨_, rfl⟩
  have hqq := hq
  have hqd : 19 + 10 * q ≤ d ∧ d ≤ 1000 := by rw [hd] at hdu; rw [← hq]; omega
  have HSL := Lib.hid (fun (u : World) (hu : RI u u.heap.size A n zs) => (HSL0 u hu).mono (RetS.toI hq))
  have HSB := Lib.hid hsl
  have hsz : cellsS d sb = List.replicate 8 1 ++ cellsP sb 8 ++ List.replicate (d - (19 + 10 * q)) 1 := by unfold cellsS; rw [hq]
  have HE := Lib.hid hsz
  have HI0 := Lib.hid hI
  have HDS := fun (u : World) (hu : RD u u.heap.size m M) => iDesc_any m M (t : Int) md rn sl mb f u hu hfi (by rw [← LS]; exact hfl)
  rw [hd] at HDS
  have HD := Lib.hid HDS
  rw [Int.toNat_natCast]
  clear hm hbe hsd hid b1 b2 b3 b4 b5 b6 hI hdu E hfe hd hsb hsl HSL0 hq HDS hc hsz
  have HQ := Lib.hid hqq
  clear hqq
  obtain ⟨w0, hw0⟩ : ∃ v, v = ((w.alloc (.cells #[.int .i64 m.id, .slice m.An m.nn m.cn, .slice m.Am m.nm m.cm, .slice m.As m.ns m.cs] 28)).alloc (.cells #[.int .i64 t, .int .i64 md, .int .i64 rn, .int .i64 sl, .int .i64 mb] 30)).alloc (.cells #[.int .i64 k, .int .i64 r, .int .i64 ft, .int .i64 fm, .int .i64 fd, .int .i64 fs, .int .i64 fb, .slice A n c] 33) := ⟨_, rfl⟩
  have hB : BM w w.heap.size m M w0 := by rw [hw0]; exact (BM.box h).next (by go_grown)
  have hS : BlkL w0 (w.heap.size + 1) 30 [.int .i64 t, .int .i64 md, .int .i64 rn, .int .i64 sl, .int .i64 mb] := by rw [hw0]; exact (BlkL.new _ _ _ (by simp)).alloc _
  have hF : BlkL w0 (w.heap.size + 1 + 1) 33 [.int .i64 k, .int .i64 r, .int .i64 ft, .int .i64 fm, .int .i64 fd, .int .i64 fs, .int .i64 fb, .slice A n c] := by rw [hw0]; exact BlkL.new _ _ _ (by simp)
  have hz0 := hz.up hB.bel
  have HK := HK0
  clear HK0
  go_enter Tryz.func29, Tryz.ntmps29
  go_wp2_with fail
  rw [← hw0]
  clear hw0
  refine (HK.out _ hB.rd hx hz0 hn).mono ?_
  rintro e w1 ⟨rfl, hb1⟩
  have hB1 := hB.next hb1
  have hS1 := hS.next hb1
  have hF1 := hF.next hb1
  have hz1 := hz0.up hb1
  clear hB hS hF hb1 hz0 HK

  have gb := hB1.bel
  have HZ := Lib.hid hz1
  have hcells : ∀ u, Below w1.heap.size w1 u → (Below w1.heap.size w1 u ∧ u.cell? ⟨w.heap.size, 0, none⟩ = some (.int .i64 (I : Int)) ∧ u.cell? ⟨w.heap.size + 1, 0, none⟩ = some (.int .i64 t) ∧ u.cell? ⟨w.heap.size + 1, 1, none⟩ = some (.int .i64 md) ∧ u.cell? ⟨w.heap.size + 1, 2, none⟩ = some (.int .i64 rn) ∧ u.cell? ⟨w.heap.size + 1, 3, none⟩ = some (.int .i64 sl) ∧ u.cell? ⟨w.heap.size + 1, 4, none⟩ = some (.int .i64 mb) ∧ u.cell? ⟨w.heap.size + 1 + 1, 0, none⟩ = some (.int .i64 k) ∧ u.cell? ⟨w.heap.size + 1 + 1, 1, none⟩ = some (.int .i64 r) ∧ u.cell? ⟨w.heap.size + 1 + 1, 2, none⟩ = some (.int .i64 ft) ∧ u.cell? ⟨w.heap.size + 1 + 1, 3, none⟩ = some (.int .i64 fm) ∧ u.cell? ⟨w.heap.size + 1 + 1, 4, none⟩ = some (.int .i64 fd) ∧ u.cell? ⟨w.heap.size + 1 + 1, 5, none⟩ = some (.int .i64 fs) ∧ u.cell? ⟨w.heap.size + 1 + 1, 6, none⟩ = some (.int .i64 fb) ∧ u.cell? ⟨w.heap.size + 1 + 1, 7, none⟩ = some (.slice A n c)) := fun u hu => ⟨hu, (by rw [← HI0.out]; exact (hB1.next hu).k.c 0 rfl), (hS1.next hu).c 0 rfl, (hS1.next hu).c 1 rfl, (hS1.next hu).c 2 rfl, (hS1.next hu).c 3 rfl, (hS1.next hu).c 4 rfl, (hF1.next hu).c 0 rfl, (hF1.next hu).c 1 rfl, (hF1.next hu).c 2 rfl, (hF1.next hu).c 3 rfl, (hF1.next hu).c 4 rfl, (hF1.next hu).c 5 rfl, (hF1.next hu).c 6 rfl, (hF1.next hu).c 7 rfl⟩
  have HC := Lib.hid hcells
  clear hcells hz1
  go_upto_region 4 with fail
  have hV : Below w1.heap.size w1 w1.drew := (Below.refl _ _).drew
  go_cut [9] (fun v wc => ∃ A c, v = .slice A (8 + (11 + 10 * q)) c ∧ OwnI 2 wc w1.heap.size A (8 + (11 + 10 * q)) c (List.replicate 8 1 ++ cellsP sb 8) ∧ Below w1.heap.size w1 wc)
  case first =>
    go_region_held_law (fun u => Below w1.heap.size w1 u ∧ u.cell? ⟨w.heap.size, 0, none⟩ = some (.int .i64 (I : Int)) ∧ u.cell? ⟨w.heap.size + 1, 0, none⟩ = some (.int .i64 t) ∧ u.cell? ⟨w.heap.size + 1, 1, none⟩ = some (.int .i64 md) ∧ u.cell? ⟨w.heap.size + 1, 2, none⟩ = some (.int .i64 rn) ∧ u.cell? ⟨w.heap.size + 1, 3, none⟩ = some (.int .i64 sl) ∧ u.cell? ⟨w.heap.size + 1, 4, none⟩ = some (.int .i64 mb) ∧ u.cell? ⟨w.heap.size + 1 + 1, 0, none⟩ = some (.int .i64 k) ∧ u.cell? ⟨w.heap.size + 1 + 1, 1, none⟩ = some (.int .i64 r) ∧ u.cell? ⟨w.heap.size + 1 + 1, 2, none⟩ = some (.int .i64 ft) ∧ u.cell? ⟨w.heap.size + 1 + 1, 3, none⟩ = some (.int .i64 fm) ∧ u.cell? ⟨w.heap.size + 1 + 1, 4, none⟩ = some (.int .i64 fd) ∧ u.cell? ⟨w.heap.size + 1 + 1, 5, none⟩ = some (.int .i64 fs) ∧ u.cell? ⟨w.heap.size + 1 + 1, 6, none⟩ = some (.int .i64 fb) ∧ u.cell? ⟨w.heap.size + 1 + 1, 7, none⟩ = some (.slice A n c)) (first | (with_reducible exact HC.out _ hV) | (with_reducible refine HC.out _ ?_; with_reducible assumption) | (refine HC.out _ (below_alloc hv (Nat.le_refl _) _)) | (refine HC.out _ (below_alloc ?_ (Nat.le_refl _) _); assumption)) (first
      | (go_at_call 42; (have hgv : Below w1.heap.size w1 _ := And.left (‹Below w1.heap.size w1 _ ∧ _›)); (with_reducible refine (highs_at 8 8 rfl _ (by omega)).mono ?_); rintro e cc ⟨A17, c17, rfl, hown, hb⟩; (have hv := below_next hb hgv (Nat.le_refl _)); (try (replace O17 := Lib.hid (O17.out.below hb))); (try (replace O22 := Lib.hid (O22.out.below hb))); (try (replace O23 := Lib.hid (O23.out.below hb))); have O17 := Lib.hid (hown.weaken hgv.size); clear hown hgv hb)
      | (go_at_call 68; (have hgv : Below w1.heap.size w1 _ := And.left (‹Below w1.heap.size w1 _ ∧ _›)); (with_reducible refine (HSL.out _ (HZ.out.up hgv)).mono ?_); rintro e cc ⟨A22, c22, rfl, hown, hb⟩; (have hv := below_next hb hgv (Nat.le_refl _)); (try (replace O17 := Lib.hid (O17.out.below hb))); (try (replace O22 := Lib.hid (O22.out.below hb))); (try (replace O23 := Lib.hid (O23.out.below hb))); have O22 := Lib.hid (hown.weaken hgv.size); clear hown hgv hb)
      | (go_at_call 67; (have hgv : Below w1.heap.size w1 _ := And.left (‹Below w1.heap.size w1 _ ∧ _›)); (with_reducible refine (iCells_at A22 q c22 _ sb rfl _ O22.out.reads (by omega) HSB.out).mono ?_); rintro e cc ⟨A23, c23, rfl, hown, hb⟩; (have hv := below_next hb hgv (Nat.le_refl _)); (try (replace O17 := Lib.hid (O17.out.below hb))); (try (replace O22 := Lib.hid (O22.out.below hb))); (try (replace O23 := Lib.hid (O23.out.below hb))); have O23 := Lib.hid (hown.weaken hgv.size); clear hown hgv hb)
      | (go_at_call 66; (have hgv : Below w1.heap.size w1 _ := And.left (‹Below w1.heap.size w1 _ ∧ _›)); (refine (concatI_any _ A17 A23 8 c17 (11 + 10 * q) c23 _ _ _ (by simp [go_sem]) (by simp [go_sem]) (by simp) (O17.out.reads.up ((Below.refl _ _).alloc (Nat.le_refl _) _)) (O23.out.reads.up ((Below.refl _ _).alloc (Nat.le_refl _) _)) (ownI_zero O17.out) (ownI_zero O23.out) (by omega) (by omega)).mono ?_); rintro e cc ⟨A25, n25, c25, rfl, hown, hb⟩; (obtain rfl : n25 = 8 + (11 + 10 * q) := by have h1 := hown.len; rw [List.length_append, List.length_replicate, cellsP_len, HQ.out] at h1; omega); (have hv := below_next hb hgv (Nat.le_refl _)); have O25 := Lib.hid (hown.weaken hgv.size); have HV9 := Lib.hid hv; clear hown hgv hb O17 O22 O23))
    all_goals
      go_wp2_with fail
      go_meet
      exact ⟨_, _, rfl, O25.out, HV9.out⟩
  case rest =>
    obtain ⟨A15, c15, rfl, hown, hbc⟩ := hcut
    obtain ⟨w2, hw2⟩ : ∃ v, v = wc := ⟨_, rfl⟩
    rw [← hw2] at hown hbc ⊢
    clear hw2 HC hV
    have hB2 := hB1.next hbc
    have hS2 := hS1.next hbc
    have O15 := Lib.hid (hown.weaken gb.size)
    clear hown hB1 hS1 hF1 gb hbc
    have c0 := hB2.k.c 0 rfl
    have c1 := hB2.k.c 1 rfl
    have c2 := hB2.k.c 2 rfl
    have c3 := hB2.k.c 3 rfl
    have s0 := hS2.c 0 rfl
    have s1 := hS2.c 1 rfl
    have s2 := hS2.c 2 rfl
    have s3 := hS2.c 3 rfl
    have s4 := hS2.c 4 rfl
    go_wp2_with fail
    refine (HD.out _ hB2.rd).mono ?_
    rintro e w3 ⟨rfl, hb3⟩
    have hB3 := hB2.next hb3
    have O16 := Lib.hid (O15.out.below hb3)
    clear hB2 hS2 hb3 c0 c1 c2 c3 s0 s1 s2 s3 s4 O15
    have hfd := ds_f3
    obtain ⟨e8, h8, h8n⟩ : ∃ e : Nat, (d : Int) - ((8 + (11 + 10 * q) : Nat) : Int) = (e : Int) ∧ d - (19 + 10 * q) = e := ⟨d - (19 + 10 * q), by omega, rfl⟩
    have h8b : 8 + (11 + 10 * q) + e8 = d := by omega
    rw [h8n] at HE
    obtain ⟨p, hp⟩ : ∃ p, 8 + (11 + 10 * q) = p := ⟨_, rfl⟩
    rw [hp] at h8 h8b O16 ⊢
    have hpb : p + e8 ≤ 1000 := by omega
    clear h8n hp hqd
    go_wp2_with fail
    refine (highs_at e8 _ (by omega) _ (by omega)).mono ?_
    rintro e w4 ⟨A3, c3, rfl, hown, hb4⟩
    have hB4 := hB3.next hb4
    have O17 := Lib.hid (O16.out.below hb4)
    have O3 := Lib.hid hown
    have gb3 := hB4.bel
    have sz3 := gb3.size
    clear hB3 hB4 O16 hown hb4
    go_wp2_with (at_builtin; refine wpl_appR _ Tryz.underlying31 infoInt rfl _ _ rfl w.heap.size _ p _ _ rfl O17.out A3 e8 c3 _ _ rfl O3.out.reads (ownI_zero O3.out) (by omega) sz3 ?_; intro A5 c5 w5 own5 hB5 hg5)
    go_ret2
    rw [HE.out]
    rw [h8b] at own5
    exact ⟨A5, _, c5, rfl, own5, gb3.trans (hB5 _ (Nat.le_refl _))⟩

set_option maxRecDepth 200000 in
set_option maxHeartbeats 16000000 in
theorem iSamples_ok (m : Mdv) (M : Mdl) (t md rn sl mb k r ft fm fd fs fb : Int) (A : Option Addr) (n c : Nat) (zs : List Int) (w : World) (h : RD w w.heap.size m M) (hx : RX m M) (hz : RI w w.heap.size A n zs) (hA : A = none → c = 0) (hn : n ≤ 1099511627776) :
    Calls Tryz.prog 10 #[.agg #[.int .i64 m.id, .slice m.An m.nn m.cn, .slice m.Am m.nm m.cm, .slice m.As m.ns m.cs], .agg #[.int .i64 t, .int .i64 md, .int .i64 rn, .int .i64 sl, .int .i64 mb], .agg #[.int .i64 k, .int .i64 r, .int .i64 ft, .int .i64 fm, .int .i64 fd, .int .i64 fs, .int .i64 fb, .slice A n c]] w (RetIC 2 w (smpL M t md rn sl mb k r ft fm fd fs fb zs) (codeS M t md rn sl mb k r ft fm fd fs fb zs)) := by
  have HK := Lib.hid (fun (u : World) h1 h2 => iCells_ok m M t md rn sl mb k r ft fm fd fs fb A n c zs u h1 hx h2 hA hn)
  have hlen := slcL_len M t md rn sl mb k r ft fm fd fs fb zs
  have hE : smpL M t md rn sl mb k r ft fm fd fs fb zs = if codeS M t md rn sl mb k r ft fm fd fs fb zs = 0 then nom (slcL M t md rn sl mb k r ft fm fd fs fb zs) else [] := rfl
  have hF : codeS M t md rn sl mb k r ft fm fd fs fb zs = 0 → NominalSamples.cod (slcL M t md rn sl mb k r ft fm fd fs fb zs) = 0 := by
    intro hc
    obtain ⟨_, _, h3⟩ := slc_facts hc
    unfold NominalSamples.cod isBits
    rw [h3, if_pos (by simp; omega), if_pos (by omega)]
  obtain ⟨cs, hcs⟩ : ∃ x, slcL M t md rn sl mb k r ft fm fd fs fb zs = x := ⟨_, rfl⟩
  obtain ⟨cd, hcd⟩ : ∃ x, codeS M t md rn sl mb k r ft fm fd fs fb zs = x := ⟨_, rfl⟩
  obtain ⟨sm, hsm⟩ : ∃ x, smpL M t md rn sl mb k r ft fm fd fs fb zs = x := ⟨_, rfl⟩
  have HK1 := HK.out
  rw [hcs, hcd] at HK1
  rw [hcs, hcd, hsm] at hE
  rw [hcs] at hlen
  rw [hcs, hcd] at hF
  rw [hcd, hsm]
  have HK := Lib.hid HK1
  have HE := Lib.hid hE
  have HF := Lib.hid hF
  clear HK1 hE hF hcs hcd hsm
  obtain ⟨w0, hw0⟩ : ∃ v, v = ((w.alloc (.cells #[.int .i64 m.id, .slice m.An m.nn m.cn, .slice m.Am m.nm m.cm, .slice m.As m.ns m.cs] 28)).alloc (.cells #[.int .i64 t, .int .i64 md, .int .i64 rn, .int .i64 sl, .int .i64 mb] 30)).alloc (.cells #[.int .i64 k, .int .i64 r, .int .i64 ft, .int .i64 fm, .int .i64 fd, .int .i64 fs, .int .i64 fb, .slice A n c] 33) := ⟨_, rfl⟩
  have hB : BM w w.heap.size m M w0 := by rw [hw0]; exact (BM.box h).next (by go_grown)
  have hS : BlkL w0 (w.heap.size + 1) 30 [.int .i64 t, .int .i64 md, .int .i64 rn, .int .i64 sl, .int .i64 mb] := by rw [hw0]; exact (BlkL.new _ _ _ (by simp)).alloc _
  have hF : BlkL w0 (w.heap.size + 1 + 1) 33 [.int .i64 k, .int .i64 r, .int .i64 ft, .int .i64 fm, .int .i64 fd, .int .i64 fs, .int .i64 fb, .slice A n c] := by rw [hw0]; exact BlkL.new _ _ _ (by simp)
  have hz0 := hz.up hB.bel
  go_enter Tryz.func10, Tryz.ntmps10
  go_wp2_with fail
  rw [← hw0]
  clear hw0
  refine (HK.out _ hB.rd hz0).mono ?_
  rintro e w1 ⟨A1, n1, d1, rfl, own1, hb1⟩
  have hB1 := hB.next hb1
  have sz := hB.bel.size
  have hn9 : n1 ≤ 1000 := by rw [← own1.len]; exact hlen
  have O1 := Lib.hid own1
  clear hB hS hF hb1 HK own1 hlen
  by_cases hc : cd = 0
  · rw [if_pos hc] at HE
    have H0 := Lib.hid hc
    have hne : (cd != 0) = false := by simp [hc]
    have HR := Lib.hid (show NominalSamples.res cs = sm by unfold NominalSamples.res; rw [if_pos (HF.out hc), HE.out])
    have HO := Lib.hid (HF.out hc)
    clear hc HF HE
    go_wp2_with fail
    refine (NominalSamples.impl_any A1 n1 d1 cs _ O1.out.reads (by omega)).mono ?_
    rintro e w2 ⟨A2, n2, d2, rfl, own2, hb2⟩
    have H9 := (hB1.next hb2).bel
    have O2 := Lib.hid (own2.weaken hB1.bel.size)
    rw [HR.out] at O2
    go_wp2
    go_ret2
    exact ⟨A2, n2, d2, by rw [HO.out, H0.out]; rfl, O2.out, H9⟩
  · rw [if_neg hc] at HE
    have hne : (cd != 0) = true := by simp [hc]
    have H9 := hB1.bel
    clear hc HF O1
    go_wp2
    go_ret2
    exact ⟨none, 0, 0, rfl, by rw [HE.out]; exact OwnI.nil _ _ _, H9⟩
end Go.Proofs.YtbaojbheopcjhaaGreatDoor
