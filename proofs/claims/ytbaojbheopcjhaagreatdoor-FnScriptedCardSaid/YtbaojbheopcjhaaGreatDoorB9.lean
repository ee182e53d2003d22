/- Walks, laws and small notions for the claims of this seat, several texts as one (Ia, Ib, Ic, Id, Ie, If, Im). Conditions: as each theorem states them. -/
import Derived.Test.YtbaojbheopcjhaaGreatDoorB8
import Derived.Test.YtbaojbheopcjhaaGreatDoorB7
import Derived.Test.YtbaojbheopcjhaaGreatDoorB6
import Derived.WideShapes
import Derived.Test.YtbaojbheopcjhaaGreatDoorB1
import Derived.Deep.DeepCutAuto
import Derived.Deep.RegionHeldLaw
namespace Go.Proofs.YtbaojbheopcjhaaGreatDoor
open Go.RowKit

/-- the first places are those told -/
def pre (M : Mdl) (n : Nat) : Prop := (M.ss.map keyS).take n = (enumM M.ms).take n ∧ n ≤ M.ss.length
theorem pre_zero (M : Mdl) : pre M 0 := ⟨by simp, Nat.zero_le _⟩
theorem pre_succ {M : Mdl} {n : Nat} {e : Int × Int × Int} (h : pre M n) (hn : n < M.ss.length) (he : (enumM M.ms)[n]? = some e) (hk : keyS (ge M.ss n) = e) : pre M (n + 1) := by
  refine ⟨?_, hn⟩
  rw [List.take_add_one, List.take_add_one, h.1, he, List.getElem?_map, List.getElem?_eq_getElem hn]
  rw [ge_lt hn] at hk
  simp [hk]
theorem compl_not {M : Mdl} {n : Nat} {e : Int × Int × Int} (he : (enumM M.ms)[n]? = some e) (hk : n = M.ss.length ∨ (n < M.ss.length ∧ keyS (ge M.ss n) ≠ e)) : compl M = false := by
  refine decide_eq_false fun h => ?_
  rw [← h, List.getElem?_map] at he
  rcases hk with rfl | ⟨hn, hk⟩
  · rw [List.getElem?_eq_none (by omega)] at he; cases he
  · rw [List.getElem?_eq_getElem hn] at he
    rw [ge_lt hn] at hk
    exact hk (by simpa using he)
theorem compl_end {M : Mdl} (h : pre M (enumM M.ms).length) : compl M = decide ((enumM M.ms).length = M.ss.length) := by
  unfold compl
  rw [decide_eq_decide]
  constructor
  · intro e; rw [← e, List.length_map]
  · intro e
    have := h.1
    rwa [List.take_length, e, List.take_of_length_le (by rw [List.length_map]; exact Nat.le_refl _)] at this
theorem fit_div {i : Nat} {S : Int} : Int.tdiv (i : Int) S = (i : Int) / S := Int.tdiv_eq_ediv_of_nonneg (by omega)
theorem fit_mod {i : Nat} {S : Int} : Int.tmod (i : Int) S = (i : Int) % S := Int.tmod_eq_emod_of_nonneg (by omega)

set_option maxHeartbeats 8000000 in
theorem iComplete_any (m : Mdv) (M : Mdl) (w : World) (h : RD w w.heap.size m M) (hm : isMT M.ms = true) (hs : isST M.ss = true) :
    Calls Tryz.prog 148 #[.agg #[.int .i64 m.id, .slice m.An m.nn m.cn, .slice m.Am m.nm m.cm, .slice m.As m.ns m.cs]] w (RetV w (.bool (compl M))) := by
  have LM := Lib.hid h.rm.len
  have LS := Lib.hid h.rs.len
  have hBM := BM.box h
  have hml := isMT_len hm
  have hsl := isST_len hs
  rw [LM.out] at hml
  rw [LS.out] at hsl
  have HM := Lib.hid hm
  clear hm hs
  obtain ⟨b, o, hAm⟩ : ∃ b o, m.Am = some ⟨b, o, none⟩ := let ⟨b, o, _, _, _, e, _⟩ := h.rm.get (i := 0) (by omega); ⟨b, o, e⟩
  go_enter Tryz.func148, Tryz.ntmps148
  go_wp2
  go_loopw [10, 3, 4, 5, 6, 20] (fun i v _ _ _ _ wr => ∃ k : Nat, k ≤ m.nm ∧ i = .int .i64 k ∧ v = .int .i64 ((enumTo M.ms k).length : Nat) ∧ pre M (enumTo M.ms k).length ∧ BM w w.heap.size m M wr) (fun i _ _ _ _ _ _ => m.nm - (intOf i).toNat)
  case atStart => exact ⟨0, Nat.zero_le _, rfl, rfl, pre_zero M, by rw [← hAm]; exact hBM⟩
  case round =>
    obtain ⟨k, hk, rfl, rfl, hpre, hB⟩ := hrel
    have HP := Lib.hid hpre
    clear hpre hBM
    have c3 := hB.k.c 3 rfl
    have hlen : (enumTo M.ms k).length ≤ 2048 := by have := enumTo_bd HM.out k (by rw [LM.out]; exact hk); omega
    by_cases hlt : k < m.nm
    · obtain ⟨b', o', A', n', c', eA, hbl, h0, h1, h2, hm', hr⟩ := hB.rd.rm.get hlt
      rw [hAm] at eA
      obtain ⟨rfl, rfl⟩ : b = b' ∧ o = o' := by simpa using eA
      clear eA hm' hr
      have hbd := isMT_at HM.out (i := k) (by rw [LM.out]; exact hlt)
      have hpr := mode_prod HM.out (k := k) (by rw [LM.out]; exact hlt)
      have HEL := Lib.hid (enumTo_len M.ms k)
      have HEG := Lib.hid (fun i hi => enum_get (ms := M.ms) (k := k) (i := i) (by rw [LM.out]; exact hlt) hi)
      obtain ⟨R, hR⟩ : ∃ R, (ge M.ms k).rd = R := ⟨_, rfl⟩
      obtain ⟨S, hS⟩ : ∃ S, (ge M.ms k).sl = S := ⟨_, rfl⟩
      rw [hR] at h0 hbd hpr HEL HEG
      rw [hS] at h1 hbd hpr HEL HEG
      clear hR hS
      obtain ⟨E, hE⟩ : ∃ E, (enumTo M.ms k).length = E := ⟨_, rfl⟩
      rw [hE] at hlen HEL HP HEG ⊢
      clear hE
      obtain ⟨gx, hgx⟩ : ∃ g, wr.heap.size = g := ⟨_, rfl⟩
      have hX : BlkL (wr.alloc (.cells #[.int .i64 R, .int .i64 S, .slice A' n' c'] 110)) gx 110 [.int .i64 R, .int .i64 S, .slice A' n' c'] := BlkL.new _ _ _ hgx.symm
      have hB1 := hB.next (v := wr.alloc (.cells #[.int .i64 R, .int .i64 S, .slice A' n' c'] 110)) (by go_grown)
      go_wp2_with fail
      go_loopw [20, 3, 6] (fun i v _ wi => ∃ q n : Nat, (q : Int) ≤ R * S ∧ E + q = n ∧ i = .int .i64 q ∧ v = .int .i64 n ∧ pre M n ∧ BM w w.heap.size m M wi ∧ BlkL wi gx 110 [.int .i64 R, .int .i64 S, .slice A' n' c']) (fun i _ _ _ => (R * S).toNat - (intOf i).toNat)
      case atStart => exact ⟨0, E, by omega, by omega, rfl, rfl, HP.out, hB1, hX⟩
      case round =>
        clear h0 h1 h2 c3 hX hB1
        obtain ⟨q, n, hq, hn, rfl, rfl, hpre2, hB2, hX2⟩ := hrel
        have HP2 := Lib.hid hpre2
        clear hpre2
        have d3 := hB2.k.c 3 rfl
        have x1 := hX2.c 1 rfl
        by_cases hlq : (q : Int) < R * S
        · have hg := HEG.out q hlq
          rw [hn] at hg
          have HG := Lib.hid hg
          clear hg
          have hnb := HP2.out.2
          rw [LS.out] at hnb
          have hV0 : GB wr wr.drew := (Below.refl _ _).drew
          haveI hne : Nonempty (Cls (GB wr)) := ⟨⟨_, hV0⟩⟩
          have f1 : ∀ x : Cls (GB wr), x.w.cell? ⟨gx, 1, none⟩ = some (.int .i64 S) := fun x => GB.c x x1
          by_cases hln : n < m.ns
          · obtain ⟨bs, os, eS, hbs, hc⟩ := hB2.rd.rs.get (by omega)
            rw [eS] at d3
            clear eS
            have hc0 := hc n hln 0 _ rfl
            have hc1 := hc n hln 1 _ rfl
            have hc2 := hc n hln 2 _ rfl
            have hc3 := hc n hln 3 _ rfl
            have hc4 := hc n hln 4 _ rfl
            have hc5 := hc n hln 5 _ rfl
            have hc6 := hc n hln 6 _ rfl
            have hc7 := hc n hln 7 _ rfl
            clear hc
            rw [Nat.add_zero] at hc0
            have f3 : ∀ x : Cls (GB wr), x.w.cell? ⟨w.heap.size, 3, none⟩ = some (.slice (some ⟨bs, os, none⟩) m.ns m.cs) := fun x => GB.c x d3
            have e0 : ∀ x : Cls (GB wr), x.w.cell? ⟨bs, os + n * 8, none⟩ = some (.int .i64 (ge M.ss n).md) := fun x => GB.c x hc0
            have e1 : ∀ x : Cls (GB wr), x.w.cell? ⟨bs, os + n * 8 + 1, none⟩ = some (.int .i64 (ge M.ss n).rn) := fun x => GB.c x hc1
            have e2 : ∀ x : Cls (GB wr), x.w.cell? ⟨bs, os + n * 8 + 2, none⟩ = some (.int .i64 (ge M.ss n).st) := fun x => GB.c x hc2
            have e3 : ∀ x : Cls (GB wr), x.w.cell? ⟨bs, os + n * 8 + 3, none⟩ = some (.int .i64 (ge M.ss n).nd) := fun x => GB.c x hc3
            have e4 : ∀ x : Cls (GB wr), x.w.cell? ⟨bs, os + n * 8 + 4, none⟩ = some (.int .i64 (ge M.ss n).kd) := fun x => GB.c x hc4
            have e5 : ∀ x : Cls (GB wr), x.w.cell? ⟨bs, os + n * 8 + 5, none⟩ = some (.int .i64 (ge M.ss n).sz) := fun x => GB.c x hc5
            have e6 : ∀ x : Cls (GB wr), x.w.cell? ⟨bs, os + n * 8 + 6, none⟩ = some (.int .i64 (ge M.ss n).du) := fun x => GB.c x hc6
            have e7 : ∀ x : Cls (GB wr), x.w.cell? ⟨bs, os + n * 8 + 7, none⟩ = some (.bool (ge M.ss n).ch) := fun x => GB.c x hc7
            have hwq : wrap64 ((q : Int) / S) = (q : Int) / S := IntWalk.wrap64_in _ (by have := Int.ediv_nonneg (a := (q : Int)) (b := S) (by omega) (by omega); have := Int.ediv_le_self (a := (q : Int)) S (by omega); omega)
            have hnn : ((n : Int) == (m.ns : Int)) = false := by simp; omega
            obtain ⟨C, hcm⟩ : ∃ C, cmpS (ge M.ss n) ⟨k, (q : Int) / S, (q : Int) % S, 0, 0, 0, 0, false⟩ = C := ⟨_, rfl⟩
            have HC := Lib.hid hcm
            by_cases hc0' : C = 0
            · have hcn : (C != 0) = false := by simp [hc0']
              have HC0 := Lib.hid hc0'
              clear hc0'
              go_wp2_with fail
              refine wp_region_cls (GB wr) (by kernel_rfl) (by kernel_rfl) hV0 ?_
              repeat (go_big_quiet_step (first | (go_at_call 200; rename_i x; exact cls_call (fun h1 h2 => GB.next h1 h2) (iCmp_is hcm _))))
              refine wpQuiet_nil ?_
              rintro _ ⟨x, rfl⟩
              have hB3 := hB2.next x.h
              have hX3 := hX2.next x.h
              go_wp2
              go_roundw
              case rel => exact ⟨q + 1, n + 1, by omega, by omega, by go_num, by go_num, pre_succ HP2.out (by rw [LS.out]; exact hln) HG.out (cmpS_eq.1 (by rw [HC.out, HC0.out])), hB3, hX3⟩
              case measure => simp [intOf]; omega
            · have hcn : (C != 0) = true := by simp [hc0']
              have HC0 := Lib.hid hc0'
              clear hc0'
              go_wp2_with fail
              refine wp_region_cls (GB wr) (by kernel_rfl) (by kernel_rfl) hV0 ?_
              repeat (go_big_quiet_step (first | (go_at_call 200; rename_i x; exact cls_call (fun h1 h2 => GB.next h1 h2) (iCmp_is hcm _))))
              refine wpQuiet_nil ?_
              rintro _ ⟨x, rfl⟩
              have hB3 := hB2.next x.h
              have hX3 := hX2.next x.h
              go_wp2
              go_ret
              exact ⟨ret_bool (by rw [compl_not HG.out (Or.inr ⟨by rw [LS.out]; exact hln, fun hh => HC0.out (by rw [← HC.out]; exact cmpS_eq.2 hh)⟩)]), hB3.bel⟩
          · have hnn : ((n : Int) == (m.ns : Int)) = true := by simp; omega
            have hne2 : n = m.ns := by omega
            have HNE := Lib.hid hne2
            clear hne2
            have f3 : ∀ x : Cls (GB wr), x.w.cell? ⟨w.heap.size, 3, none⟩ = some (.slice m.As m.ns m.cs) := fun x => GB.c x d3
            have hcm : cmpS (ge M.ss n) (ge M.ss n) = cmpS (ge M.ss n) (ge M.ss n) := rfl
            go_wp2_with fail
            refine wp_region_cls (GB wr) (by kernel_rfl) (by kernel_rfl) hV0 ?_
            repeat (go_big_quiet_step (first | (go_at_call 200; rename_i x; exact cls_call (fun h1 h2 => GB.next h1 h2) (iCmp_is hcm _))))
            refine wpQuiet_nil ?_
            rintro _ ⟨x, rfl⟩
            have hB3 := hB2.next x.h
            have hX3 := hX2.next x.h
            go_wp2
            go_ret
            exact ⟨ret_bool (by rw [compl_not HG.out (Or.inl (by rw [LS.out]; exact HNE.out))]), hB3.bel⟩
        · have HQ := Lib.hid (show (q : Int) = R * S by omega)
          go_wp2
          go_roundw
          case rel => exact ⟨k + 1, by omega, by go_num, by rw [HEL.out]; have := HQ.out; congr 2; omega, by rw [HEL.out, show E + (R * S).toNat = n by have := HQ.out; omega]; exact HP2.out, hB2⟩
          case measure => simp [intOf]; omega
    · have hkn : k = M.ms.length := by have := LM.out; omega
      have HE := Lib.hid (show compl M = decide ((enumTo M.ms k).length = m.ns) by
        rw [hkn, enumTo_full, ← LS.out]; exact compl_end (by rw [← enumTo_full, ← hkn]; exact HP.out))
      clear hkn
      go_wp2
      go_ret
      exact ⟨ret_bool (by rw [HE.out, Bool.eq_iff_iff]; simp; omega), hB.bel⟩
end Go.Proofs.YtbaojbheopcjhaaGreatDoor

namespace Go.Proofs.YtbaojbheopcjhaaGreatDoor
open Go.RowKit

def strAt (M : Mdl) (x : Sl) : Bool := !decide (actV M.ns / 2 ^ x.nd.toNat % 2 = 1)
theorem str_any (M : Mdl) : M.ss.any (strAt M) = !senders M := by
  unfold senders strAt
  rw [List.all_eq_not_any_not]; simp

set_option maxHeartbeats 4000000 in
theorem stranger_any (m : Mdv) (M : Mdl) (g : Nat) (y : Sl) (w w0 : World) (hB : BM w0 g m M w) (hnt : isNT M.ns = true) (hy : isSl y = true) :
    Calls Tryz.prog 142 #[.agg #[.int .i64 y.md, .int .i64 y.rn, .int .i64 y.st, .int .i64 y.nd, .int .i64 y.kd, .int .i64 y.sz, .int .i64 y.du, .bool y.ch], .pointer (some ⟨g, 0, none⟩)] w (RetV w (.bool (strAt M y))) := by
  have hnd := isSl_bd hy
  obtain ⟨nd, hn⟩ : ∃ nd : Nat, y.nd = nd := ⟨y.nd.toNat, by omega⟩
  have hn32 : nd < 32 := by omega
  have hact := actV_full hnt
  have E := Lib.hid (show strAt M y = !decide (actV M.ns / 2 ^ nd % 2 = 1) by unfold strAt; rw [hn, Int.toNat_natCast])
  have hq := fun v (hv : RE encNd 4 v v.heap.size m.An m.nn M.ns) => activeVector_any m.An m.nn m.cn M.ns v hv hB.rd.bn (fun i hi => isNT_nd hnt hi)
  generalize actV M.ns = V at E hact hq
  obtain ⟨v, hv⟩ : ∃ v, decide (V / 2 ^ nd % 2 = 1) = v := ⟨_, rfl⟩
  have hh := fun u => has_any V nd hn32 hact u
  rw [hv] at E hh
  rw [hn]
  clear hnd hv hn hnt hy
  obtain ⟨w1, hw1⟩ : ∃ u, u = w.alloc (.cells #[.int .i64 y.md, .int .i64 y.rn, .int .i64 y.st, .int .i64 nd, .int .i64 y.kd, .int .i64 y.sz, .int .i64 y.du, .bool y.ch] 102) := ⟨_, rfl⟩
  have hK : BlkL w1 w.heap.size 102 [.int .i64 y.md, .int .i64 y.rn, .int .i64 y.st, .int .i64 nd, .int .i64 y.kd, .int .i64 y.sz, .int .i64 y.du, .bool y.ch] := by rw [hw1]; exact BlkL.new _ _ _ rfl
  have gb : Below w.heap.size w w1 := by rw [hw1]; go_grown
  have hB1 := hB.next gb
  have f1 : ∀ x : Cls (GB w1), x.w.cell? ⟨g, 1, none⟩ = some (.slice m.An m.nn m.cn) := fun x => GB.c x (hB1.k.c 1 rfl)
  have f3 : ∀ x : Cls (GB w1), x.w.cell? ⟨w.heap.size, 3, none⟩ = some (.int .i64 nd) := fun x => GB.c x (hK.c 3 rfl)
  have hV0 : GB w1 w1.drew := (Below.refl _ _).drew
  haveI hne : Nonempty (Cls (GB w1)) := ⟨⟨_, hV0⟩⟩
  go_enter Tryz.func142, Tryz.ntmps142
  go_wp2_with fail
  rw [← hw1]
  clear hw1
  refine wp_region_cls (GB w1) (by kernel_rfl) (by kernel_rfl) hV0 ?_
  repeat (go_big_quiet_step (first | (go_at_call 110; rename_i x; exact cls_call (fun h1 h2 => GB.next h1 h2) (hq _ (hB1.rd.rn.up x.h))) | (go_at_call 143; exact cls_same (hh _))))
  refine wpQuiet_nil ?_
  rintro _ ⟨x, rfl⟩
  have hv2 : Below w.heap.size w x.w := below_next (w1 := w1) x.h gb (Nat.le_refl _)
  go_wp2
  go_ret
  exact ⟨ret_bool E.out.symm, hv2⟩

set_option maxHeartbeats 4000000 in
theorem coldC_any (y : Sl) (w : World) :
    Calls Tryz.prog 144 #[.agg #[.int .i64 y.md, .int .i64 y.rn, .int .i64 y.st, .int .i64 y.nd, .int .i64 y.kd, .int .i64 y.sz, .int .i64 y.du, .bool y.ch]] w (RetV w (.bool (coldAt y))) := by
  rcases cold_cases y with ⟨q1, qs⟩ | ⟨q1, q2, qs⟩ | ⟨q1, q2, qs⟩
  all_goals
    have HQ := Lib.hid qs
    clear qs
    go_enter Tryz.func144, Tryz.ntmps144
    go_wp2
    go_ret
    exact ⟨ret_bool HQ.out.symm, by go_grown⟩

/-- the durations of a list, added up -/
def durS (l : List Sl) : Int := l.foldl (fun v x => v + x.du) 0
theorem durS_app (l : List Sl) (x : Sl) : durS (l ++ [x]) = durS l + x.du := by unfold durS; rw [List.foldl_append]; rfl
theorem durS_bd {l : List Sl} (h : ∀ i, i < l.length → 0 ≤ (ge l i).du ∧ (ge l i).du ≤ 1000) : ∀ k, k ≤ l.length → 0 ≤ durS (l.take k) ∧ durS (l.take k) ≤ k * 1000
  | 0, _ => by simp [durS]
  | k + 1, hk => by
    have ih := durS_bd h k (by omega)
    have := h k (by omega)
    rw [take_ge (by omega), durS_app]; omega

set_option maxHeartbeats 4000000 in
theorem sumDur_any (A : Option Addr) (n c : Nat) (l : List Sl) (w : World) (h : RE encSl 8 w w.heap.size A n l) (hn : n ≤ 1048576) (hd : ∀ i, i < l.length → 0 ≤ (ge l i).du ∧ (ge l i).du ≤ 1000) :
    Calls Tryz.prog 201 #[.slice A n c] w (RetV w (.int .i64 (durS l))) := by
  have L := Lib.hid h.len
  go_enter Tryz.func201, Tryz.ntmps201
  go_wp2
  go_loopw [8, 3, 5] (fun i v _ wr => ∃ k : Nat, k ≤ n ∧ i = .int .i64 k ∧ v = .int .i64 (durS (l.take k)) ∧ Below w.heap.size w wr) (fun i _ _ _ => n - (intOf i).toNat)
  case atStart => exact ⟨0, Nat.zero_le _, rfl, rfl, Below.refl _ _⟩
  case round =>
    obtain ⟨k, hk, rfl, rfl, hb⟩ := hrel
    have hbd := durS_bd hd k (by rw [L.out]; exact hk)
    by_cases hlt : k < n
    · obtain ⟨b, o, rfl, hbl, hc⟩ := (h.below hb (Nat.le_refl _)).get (by omega)
      have hc0 := hc k hlt 0 _ rfl
      have hc1 := hc k hlt 1 _ rfl
      have hc2 := hc k hlt 2 _ rfl
      have hc3 := hc k hlt 3 _ rfl
      have hc4 := hc k hlt 4 _ rfl
      have hc5 := hc k hlt 5 _ rfl
      have hc6 := hc k hlt 6 _ rfl
      have hc7 := hc k hlt 7 _ rfl
      clear hc
      rw [Nat.add_zero] at hc0
      have HS := Lib.hid (show durS (l.take (k + 1)) = durS (l.take k) + (ge l k).du by rw [take_ge (by rw [L.out]; exact hlt), durS_app])
      have hdk := hd k (by rw [L.out]; exact hlt)
      generalize durS (l.take k) = V at HS hbd ⊢
      go_wp2
      go_roundw
      case rel => exact ⟨k + 1, by omega, by go_num, by rw [HS.out], below_next (w1 := wr) (by go_grown) hb (Nat.le_refl _)⟩
      case measure => simp [intOf]; omega
    · have HZ := Lib.hid (show durS (l.take k) = durS l by rw [List.take_of_length_le (by rw [L.out]; omega)])
      go_wp2
      go_ret
      exact ⟨by rw [HZ.out]; rfl, hb⟩
end Go.Proofs.YtbaojbheopcjhaaGreatDoor

namespace Go.Proofs.YtbaojbheopcjhaaGreatDoor
open Go.RowKit

section
variable {P : Program} {ops : Array Oper} {rest : List Oper} {o : Oper} {a : Act} {Q : Exit → Act → World → Prop}
theorem encSl_one (x : Sl) : ∀ u ∈ encSl x, u.oneCell' = true := by
  intro u hu
  simp only [encSl, List.mem_cons, List.not_mem_nil, or_false] at hu
  rcases hu with rfl | rfl | rfl | rfl | rfl | rfl | rfl | rfl <;> rfl
/-- 'out = append(out, y)' on a row of slots of the call's own, y in a block that has just been made -/
theorem wpl_appS (W : World) (t1 : TypeId) {TS T : TypeId} (ht : P.underlying TS = some (.slice T)) (hinfo : (P.info? T).map (fun i => (i.zero, i.size, i.bytes)) = some (some (.agg #[.int .i64 0, .int .i64 0, .int .i64 0, .int .i64 0, .int .i64 0, .int .i64 0, .int .i64 0, .bool false]), 8, 64))
    (hgd : o.guard = none) (s x : Operand) (ho : o.op = .call { callee := .builtin .append, args := #[s, x], argTypes := #[TS, TS] })
    (base : Nat) (A : Option Addr) (n c : Nat) (zs : List Sl) (hs : a.eval s = .slice A n c) (hown : OwnE encSl 8 T W base A n c zs)
    (y : Sl) (g : Nat) (hx : a.eval x = .slice (some ⟨g, 0, none⟩) 1 1) (hgw : g = W.heap.size)
    (hn : n + 1 ≤ 1099511627776) (hbase : base ≤ W.heap.size)
    (h : ∀ A' c' w', OwnE encSl 8 T w' base A' (n + 1) c' (zs ++ [y]) → (∀ B, B ≤ base → Below B W w') → W.grownBy w' (Value.slice A n c).ownBlock → wpList P ops Q rest (a.put o.dst (.slice A' (n + 1) c')) w') :
    wpList P ops Q (o :: rest) a (W.alloc (.cells #[.int .i64 y.md, .int .i64 y.rn, .int .i64 y.st, .int .i64 y.nd, .int .i64 y.kd, .int .i64 y.sz, .int .i64 y.du, .bool y.ch] t1)) := by
  subst hgw
  refine wpl_app1E encSl 8 encSl_len encSl_one _ ht hinfo rfl (by omega) (by omega) hgd s x ho base A n c zs hs (hown.alloc _) ⟨W.heap.size, 0, none⟩ 1 y hx ?_ hn (by rw [isz_alloc]; omega) ?_
  · intro j u hu
    have hx' := new_heap W (.cells #[.int .i64 y.md, .int .i64 y.rn, .int .i64 y.st, .int .i64 y.nd, .int .i64 y.kd, .int .i64 y.sz, .int .i64 y.du, .bool y.ch] t1)
    rw [Go.WideShapes.add_plain, Nat.zero_add]
    unfold World.cell?
    rw [hx']
    have hu' : #[Value.int .i64 y.md, .int .i64 y.rn, .int .i64 y.st, .int .i64 y.nd, .int .i64 y.kd, .int .i64 y.sz, .int .i64 y.du, .bool y.ch][j]? = some u := by rw [← hu]; simp [encSl]
    simpa using hu'
  · intro A' c' w' hown' hg
    refine h A' c' w' hown' (fun B hB => ?_) (grown_tr (World.grownBy_alloc W _ _) hg)
    exact ((Below.refl B W).alloc (Nat.le_trans hB hbase) _).grown hg (by rw [isz_alloc]; omega) (fun g e => Nat.le_trans hB (hown.row g e).1)
end
theorem infoSlot : (Tryz.prog.info? 102).map (fun i => (i.zero, i.size, i.bytes)) = some (some (.agg #[.int .i64 0, .int .i64 0, .int .i64 0, .int .i64 0, .int .i64 0, .int .i64 0, .int .i64 0, .bool false]), 8, 64) := by kernel_rfl

def ofMode (md : Int) (l : List Sl) : List Sl := l.filter fun x => x.md == md
theorem ofMode_succ {md : Int} {l : List Sl} {k : Nat} (h : k < l.length) : ofMode md (l.take (k + 1)) = ofMode md (l.take k) ++ (if (ge l k).md == md then [ge l k] else []) := by
  unfold ofMode
  rw [take_ge h, List.filter_append, List.filter_cons]
  split <;> rfl
theorem ofMode_len (md : Int) (l : List Sl) (k : Nat) : (ofMode md (l.take k)).length ≤ k := by
  unfold ofMode
  have := List.length_filter_le (fun x : Sl => x.md == md) (l.take k)
  rw [List.length_take] at this; omega
theorem ofMode_sum (md : Int) (l : List Sl) : durS (ofMode md l) = sumD l md := by
  unfold ofMode durS sumD
  rw [List.foldl_filter]
  congr 1
  funext v x
  by_cases h : x.md = md
  · rw [if_pos h]; simp [h]
  · rw [if_neg h]; simp [h]

set_option maxHeartbeats 4000000 in
theorem modeSlots_any (m : Mdv) (M : Mdl) (md : Int) (w : World) (h : RD w w.heap.size m M) :
    Calls Tryz.prog 202 #[.agg #[.int .i64 m.id, .slice m.An m.nn m.cn, .slice m.Am m.nm m.cm, .slice m.As m.ns m.cs], .int .i64 md] w fun e w' => ∃ n, RetE encSl 8 102 w n (ofMode md M.ss) e w' := by
  have LS := Lib.hid h.rs.len
  have hsl := h.bs
  have hBM := BM.box h
  have hk0 : BlkL (w.alloc (.cells #[.int .i64 m.id, .slice m.An m.nn m.cn, .slice m.Am m.nm m.cm, .slice m.As m.ns m.cs] 28)) w.heap.size 28 [.int .i64 m.id, .slice m.An m.nn m.cn, .slice m.Am m.nm m.cm, .slice m.As m.ns m.cs] := hBM.k
  have hAs : m.ns = 0 ∨ ∃ b o, m.As = some ⟨b, o, none⟩ := by
    rcases Nat.eq_zero_or_pos m.ns with hz | hz
    · exact Or.inl hz
    · obtain ⟨b, o, e, _⟩ := h.rs.get hz
      exact Or.inr ⟨b, o, e⟩
  rcases hAs with hz | ⟨b, o, hAs⟩
  case inl =>
    have HZ0 := Lib.hid hz
    clear hz
    go_enter Tryz.func202, Tryz.ntmps202
    go_wp2
    go_loopw [12, 5, 7] (fun i v _ wr => ∃ (k n2 : Nat) (A2 : Option Addr) (c2 : Nat), k ≤ m.ns ∧ i = .int .i64 k ∧ v = .slice A2 n2 c2 ∧ OwnE encSl 8 102 wr (w.heap.size + 1) A2 n2 c2 (ofMode md (M.ss.take k)) ∧ BlkL wr w.heap.size 28 [.int .i64 m.id, .slice m.An m.nn m.cn, .slice m.Am m.nm m.cm, .slice m.As m.ns m.cs] ∧ Below w.heap.size w wr) (fun i _ _ _ => m.ns - (intOf i).toNat)
    case atStart => exact ⟨0, 0, some ⟨w.heap.size + 1, 0, none⟩, 0, Nat.zero_le _, rfl, rfl, by have := OwnE.empty (enc := encSl) (sz := 8) (T := 102) (w.alloc (.cells #[.int .i64 m.id, .slice m.An m.nn m.cn, .slice m.Am m.nm m.cm, .slice m.As m.ns m.cs] 28)) (base := w.heap.size + 1) (by simp); simpa [ofMode] using this, hk0.alloc _, by go_grown⟩
    case round =>
      obtain ⟨k, n2, A2, c2, hk, rfl, rfl, hown, hK, hb⟩ := hrel
      have hlt : ¬ k < m.ns := by have := HZ0.out; omega
      have HZ := Lib.hid (show ofMode md (M.ss.take k) = ofMode md M.ss by rw [List.take_of_length_le (by rw [LS.out]; omega)])
      go_wp2
      go_ret
      exact ⟨n2, A2, c2, rfl, by rw [← HZ.out]; exact hown.weaken (by omega), hb⟩
  go_enter Tryz.func202, Tryz.ntmps202
  go_wp2
  rw [hAs]
  go_loopw [12, 5, 7] (fun i v _ wr => ∃ (k n2 : Nat) (A2 : Option Addr) (c2 : Nat), k ≤ m.ns ∧ i = .int .i64 k ∧ v = .slice A2 n2 c2 ∧ OwnE encSl 8 102 wr (w.heap.size + 1) A2 n2 c2 (ofMode md (M.ss.take k)) ∧ BlkL wr w.heap.size 28 [.int .i64 m.id, .slice m.An m.nn m.cn, .slice m.Am m.nm m.cm, .slice m.As m.ns m.cs] ∧ Below w.heap.size w wr) (fun i _ _ _ => m.ns - (intOf i).toNat)
  case atStart => rw [← hAs]; exact ⟨0, 0, some ⟨w.heap.size + 1, 0, none⟩, 0, Nat.zero_le _, rfl, rfl, by have := OwnE.empty (enc := encSl) (sz := 8) (T := 102) (w.alloc (.cells #[.int .i64 m.id, .slice m.An m.nn m.cn, .slice m.Am m.nm m.cm, .slice m.As m.ns m.cs] 28)) (base := w.heap.size + 1) (by simp); simpa [ofMode] using this, hk0.alloc _, by go_grown⟩
  case round =>
    obtain ⟨k, n2, A2, c2, hk, rfl, rfl, hown, hK, hb⟩ := hrel
    have hl2 : n2 ≤ k := by rw [← hown.len]; exact ofMode_len _ _ _
    by_cases hlt : k < m.ns
    · obtain ⟨b', o', eA, hbl, hc⟩ := (h.rs.below hb (Nat.le_refl _)).get (by omega)
      rw [hAs] at eA
      obtain ⟨rfl, rfl⟩ : b = b' ∧ o = o' := by simpa using eA
      clear eA
      have hc0 := hc k hlt 0 _ rfl
      have hc1 := hc k hlt 1 _ rfl
      have hc2 := hc k hlt 2 _ rfl
      have hc3 := hc k hlt 3 _ rfl
      have hc4 := hc k hlt 4 _ rfl
      have hc5 := hc k hlt 5 _ rfl
      have hc6 := hc k hlt 6 _ rfl
      have hc7 := hc k hlt 7 _ rfl
      clear hc
      rw [Nat.add_zero] at hc0
      have HS := Lib.hid (ofMode_succ (md := md) (l := M.ss) (k := k) (by rw [LS.out]; exact hlt))
      obtain ⟨w1, hw1⟩ : ∃ v, v = wr.alloc (.cells #[.int .i64 (ge M.ss k).md, .int .i64 (ge M.ss k).rn, .int .i64 (ge M.ss k).st, .int .i64 (ge M.ss k).nd, .int .i64 (ge M.ss k).kd, .int .i64 (ge M.ss k).sz, .int .i64 (ge M.ss k).du, .bool (ge M.ss k).ch] 102) := ⟨_, rfl⟩
      have hown1 : OwnE encSl 8 102 w1 (w.heap.size + 1) A2 n2 c2 (ofMode md (M.ss.take k)) := by rw [hw1]; exact hown.alloc _
      have hK1 : BlkL w1 w.heap.size 28 [.int .i64 m.id, .slice m.An m.nn m.cn, .slice m.Am m.nm m.cm, .slice m.As m.ns m.cs] := by rw [hw1]; exact hK.alloc _
      have hb1 : Below w.heap.size w w1 := by rw [hw1]; exact below_next (w1 := wr) (by go_grown) hb (Nat.le_refl _)
      have hsz1 : wr.heap.size + 1 = w1.heap.size := by rw [hw1]; simp
      have HW1 := Lib.hid hw1
      clear hw1
      rcases num_cases (ge M.ss k).md md with ⟨q, q'⟩ | ⟨q, q'⟩
      · have HQ := Lib.hid q
        clear q'
        have hw1' : w.heap.size + 1 ≤ w1.heap.size := by have := hK.lt; omega
        go_wp2_with (at_builtin; rw [← HW1.out]; refine wpl_appS _ _ Tryz.underlying26 infoSlot rfl _ _ rfl (w.heap.size + 1) A2 n2 c2 _ rfl hown1 (ge M.ss k) w1.heap.size rfl rfl (by omega) hw1' ?_; intro A6 c6 w6 hown6 hB6 hg6)
        go_roundw
        case rel => exact ⟨k + 1, n2 + 1, A6, c6, by omega, by go_num, rfl, by rw [HS.out, if_pos HQ.out]; exact hown6, (hB6 _ (Nat.le_refl _)).block _ (by omega) |>.trans hK1, hb1.trans (hB6 _ (by omega))⟩
        case measure => simp [intOf]; omega
      · have HQ := Lib.hid q
        clear q'
        go_wp2
        go_roundw
        case rel => exact ⟨k + 1, n2, A2, c2, by omega, by go_num, rfl, by rw [HS.out, HQ.out]; simpa using hown.alloc _, hK.alloc _, below_next (w1 := wr) (by go_grown) hb (Nat.le_refl _)⟩
        case measure => simp [intOf]; omega
    · have HZ := Lib.hid (show ofMode md (M.ss.take k) = ofMode md M.ss by rw [List.take_of_length_le (by rw [LS.out]; omega)])
      go_wp2
      go_ret
      exact ⟨n2, A2, c2, rfl, by rw [← HZ.out]; exact hown.weaken (by omega), hb⟩
end Go.Proofs.YtbaojbheopcjhaaGreatDoor

namespace Go.Proofs.YtbaojbheopcjhaaGreatDoor
open Go.RowKit

theorem ofMode_bd {l : List Sl} (h : isST l = true) (md : Int) : ∀ i, i < (ofMode md l).length → 0 ≤ (ge (ofMode md l) i).du ∧ (ge (ofMode md l) i).du ≤ 1000 := by
  intro i hi
  have hm : ge (ofMode md l) i ∈ l := (List.mem_filter.1 (mem_ge hi)).1
  obtain ⟨j, hj, e⟩ := List.mem_iff_getElem.1 hm
  have := isSl_bd (isST_sl h hj)
  rw [ge_lt hj, e] at this
  omega

set_option maxHeartbeats 4000000 in
theorem iShort_any (m : Mdv) (M : Mdl) (w : World) (h : RD w w.heap.size m M) (hmt : isMT M.ms = true) (hst : isST M.ss = true) :
    Calls Tryz.prog 151 #[.agg #[.int .i64 m.id, .slice m.An m.nn m.cn, .slice m.Am m.nm m.cm, .slice m.As m.ns m.cs]] w (RetV w (.bool (shortM M))) := by
  have LM := Lib.hid h.rm.len
  have LS := Lib.hid h.rs.len
  have hBM := BM.box h
  have hml := isMT_len hmt
  rw [LM.out] at hml
  have HST := Lib.hid hst
  clear hmt hst
  go_enter Tryz.func151, Tryz.ntmps151
  go_wp2
  go_loopw [7, 3] (fun i _ wr => ∃ k : Nat, k ≤ m.nm ∧ i = .int .i64 k ∧ (∀ md : Nat, md < k → decide (sumD M.ss md ≤ 32000) = true) ∧ BM w w.heap.size m M wr) (fun i _ _ => m.nm - (intOf i).toNat)
  case atStart => exact ⟨0, Nat.zero_le _, rfl, fun md hmd => absurd hmd (by omega), hBM⟩
  case round =>
    obtain ⟨k, hk, rfl, hall, hB⟩ := hrel
    have Hall := Lib.hid hall
    clear hall hBM
    have c0 := hB.k.c 0 rfl
    have c1 := hB.k.c 1 rfl
    have c2 := hB.k.c 2 rfl
    have c3 := hB.k.c 3 rfl
    by_cases hlt : k < m.nm
    · go_wp2_with fail
      refine (modeSlots_any m M k _ hB.rd).mono ?_
      rintro e w1 ⟨n2, A2, c2', rfl, hown, hb1⟩
      have hB1 := hB.next hb1
      clear c0 c1 c2 c3 hb1
      have hln : n2 ≤ 120 := by
        have h1 := ofMode_len k M.ss M.ss.length
        rw [List.take_length] at h1
        have h2 := isST_len HST.out
        rw [← hown.len]; omega
      have hsu := fun v hv => sumDur_any A2 n2 c2' (ofMode k M.ss) v hv (by omega) (ofMode_bd HST.out k)
      rw [ofMode_sum] at hsu
      have hsb := sumD_bd (fun i hi => isST_sl HST.out hi) k M.ss.length (Nat.le_refl _)
      rw [List.take_length] at hsb
      obtain ⟨z, hz⟩ : ∃ z, sumD M.ss k = z := ⟨_, rfl⟩
      rw [hz] at hsb hsu
      have HZ := Lib.hid hz
      clear hz
      have hrd := hown.reads encSl_len
      clear hown
      go_wp2_with fail
      refine (hsu _ hrd).mono ?_
      rintro e w2 ⟨rfl, hb2⟩
      have hB2 := hB1.next hb2
      clear hsu hrd hb2
      by_cases hz : z ≤ 32000
      · have HQ := Lib.hid hz
        go_wp2
        go_roundw
        case rel => exact ⟨k + 1, by omega, by go_num, fun md hmd => by
          by_cases hme : md = k
          · subst hme; rw [HZ.out]; exact decide_eq_true HQ.out
          · exact Hall.out md (by omega), hB2⟩
        case measure => simp [intOf]; omega
      · have HQ := Lib.hid (show decide (sumD M.ss k ≤ 32000) = false by rw [HZ.out]; exact decide_eq_false hz)
        go_wp2
        go_ret
        exact ⟨ret_bool (by rw [show shortM M = false from range_all_no (by rw [LM.out]; exact hlt) HQ.out]), hB2.bel⟩
    · have HZ := Lib.hid (show shortM M = true from List.all_eq_true.2 fun i hi => Hall.out i (by have := List.mem_range.1 hi; have := LM.out; omega))
      go_wp2
      go_ret
      exact ⟨ret_bool (by rw [HZ.out]), hB.bel⟩
end Go.Proofs.YtbaojbheopcjhaaGreatDoor

namespace Go.Proofs.YtbaojbheopcjhaaGreatDoor
open Go.RowKit

theorem compl_pos {M : Mdl} (hm : isMT M.ms = true) (hc : compl M = true) : 0 < M.ss.length := by
  have e : M.ss.map keyS = enumM M.ms := of_decide_eq_true hc
  have h1 := isMT_len hm
  have h2 := mode_prod hm (k := 0) (by omega)
  have h3 := enumTo_le M.ms (k := 1) (n := M.ms.length) (by omega)
  rw [enumTo_full, ← e, List.length_map, show (1 : Nat) = 0 + 1 from rfl, enumTo_len] at h3
  omega

set_option maxHeartbeats 8000000 in
theorem iAllSend_any (m : Mdv) (M : Mdl) (w : World) (h : RD w w.heap.size m M) (hnt : isNT M.ns = true) (hmt : isMT M.ms = true) (hst : isST M.ss = true) (hc : compl M = true) (hse : senders M = true) :
    Calls Tryz.prog 152 #[.agg #[.int .i64 m.id, .slice m.An m.nn m.cn, .slice m.Am m.nm m.cm, .slice m.As m.ns m.cs]] w (RetV w (.bool (served M))) := by
  have LM := Lib.hid h.rm.len
  have LS := Lib.hid h.rs.len
  have hBM := BM.box h
  have hsl := isST_len hst
  rw [LS.out] at hsl
  have hml := isMT_len hmt
  rw [LM.out] at hml
  have hact := actV_full hnt
  have hpos := compl_pos hmt hc
  rw [LS.out] at hpos
  have HST := Lib.hid hst
  have HMT := Lib.hid hmt
  have hq := fun v (hv : RE encNd 4 v v.heap.size m.An m.nn M.ns) => activeVector_any m.An m.nn m.cn M.ns v hv h.bn (fun i hi => isNT_nd hnt hi)
  have HSE := Lib.hid (show ∀ md, servedAt M md = (List.range (ge M.ms md).rd.toNat).all fun (rn : Nat) => decide (actV M.ns &&& sendV M.ss md rn = actV M.ns) from fun md => by
    unfold servedAt; congr 1; funext rn; exact send_act hse md rn)
  generalize actV M.ns = V at hq HSE hact
  obtain ⟨b, o, hAm⟩ : ∃ b o, m.Am = some ⟨b, o, none⟩ := let ⟨b, o, _, _, _, e, _⟩ := h.rm.get (i := 0) (by omega); ⟨b, o, e⟩
  obtain ⟨b2, o2, hAs⟩ : ∃ b o, m.As = some ⟨b, o, none⟩ := let ⟨b, o, e, _⟩ := h.rs.get (by omega); ⟨b, o, e⟩
  clear hnt hst hmt hc hse
  go_enter Tryz.func152, Tryz.ntmps152
  go_wp2
  rw [hAm, hAs]
  go_loopw [12, 3, 4, 5, 6, 8, 19, 25] (fun i _ _ _ _ _ _ _ wr => ∃ k : Nat, k ≤ m.nm ∧ i = .int .i64 k ∧ (∀ i, i < k → servedAt M i = true) ∧ BM w w.heap.size m M wr) (fun i _ _ _ _ _ _ _ _ => m.nm - (intOf i).toNat)
  case atStart => rw [← hAm, ← hAs]; exact ⟨0, Nat.zero_le _, rfl, fun i hi => absurd hi (by omega), hBM⟩
  case round =>
    obtain ⟨k, hk, rfl, hall, hB⟩ := hrel
    have Hall := Lib.hid hall
    clear hall hBM
    by_cases hlt : k < m.nm
    · obtain ⟨b', o', A', n', c', eA, hbl, h0, h1, h2, hm', hr⟩ := hB.rd.rm.get hlt
      rw [hAm] at eA
      obtain ⟨rfl, rfl⟩ : b = b' ∧ o = o' := by simpa using eA
      clear eA hm' hr
      have hbd := isMT_at HMT.out (i := k) (by rw [LM.out]; exact hlt)
      have hSA := HSE.out k
      obtain ⟨R, hR⟩ : ∃ R : Nat, (ge M.ms k).rd = R := ⟨(ge M.ms k).rd.toNat, by omega⟩
      obtain ⟨S, hS⟩ : ∃ S, (ge M.ms k).sl = S := ⟨_, rfl⟩
      rw [hR] at hbd hSA h0
      rw [hS] at h1
      rw [Int.toNat_natCast] at hSA
      have HSA := Lib.hid hSA
      clear hR hSA hS
      obtain ⟨gx, hgx⟩ : ∃ g, wr.heap.size = g := ⟨_, rfl⟩
      have hB1 := hB.next (v := wr.alloc (.cells #[.int .i64 R, .int .i64 S, .slice A' n' c'] 110)) (by go_grown)
      go_wp2_with fail
      go_loopw [19, 5, 6, 8, 25] (fun i _ _ _ _ wr => ∃ r : Nat, r ≤ R ∧ i = .int .i64 r ∧ (∀ a : Nat, a < r → decide (V &&& sendV M.ss k a = V) = true) ∧ BM w w.heap.size m M wr) (fun i _ _ _ _ _ => R - (intOf i).toNat)
      case atStart => exact ⟨0, by omega, rfl, fun a ha => absurd ha (by omega), hB1⟩
      case round =>
        clear h0 h1 h2 hB1
        obtain ⟨r, hr1, rfl, hall2, hB2⟩ := hrel
        have Hall2 := Lib.hid hall2
        clear hall2
        have d1 := hB2.k.c 1 rfl
        have d3 := hB2.k.c 3 rfl
        by_cases hlr : r < R
        · go_wp2_with fail
          go_loopw [25, 6, 8] (fun i v _ wr => ∃ j : Nat, j ≤ m.ns ∧ i = .int .i64 j ∧ v = .int .i64 (sendV (M.ss.take j) k r : Nat) ∧ BM w w.heap.size m M wr) (fun i _ _ _ => m.ns - (intOf i).toNat)
          case atStart => exact ⟨0, by omega, rfl, rfl, hB2⟩
          case round =>
            clear d1 d3
            obtain ⟨j, hj1, rfl, rfl, hB3⟩ := hrel
            have hsv := sendV_lt (fun i hi => isST_sl HST.out hi) k r j (by rw [LS.out]; exact hj1)
            by_cases hlj : j < m.ns
            · obtain ⟨b3, o3, eA3, hbl3, hc⟩ := hB3.rd.rs.get (by omega)
              rw [hAs] at eA3
              obtain ⟨rfl, rfl⟩ : b2 = b3 ∧ o2 = o3 := by simpa using eA3
              clear eA3
              have hc0 := hc j hlj 0 _ rfl
              have hc1 := hc j hlj 1 _ rfl
              have hc2 := hc j hlj 2 _ rfl
              have hc3 := hc j hlj 3 _ rfl
              have hc4 := hc j hlj 4 _ rfl
              have hc5 := hc j hlj 5 _ rfl
              have hc6 := hc j hlj 6 _ rfl
              have hc7 := hc j hlj 7 _ rfl
              clear hc
              rw [Nat.add_zero] at hc0
              have hsb := isSl_bd (isST_sl HST.out (i := j) (by rw [LS.out]; exact hlj))
              obtain ⟨nd, hnd⟩ : ∃ nd : Nat, (ge M.ss j).nd = nd := ⟨(ge M.ss j).nd.toNat, by omega⟩
              have hn32 : nd < 32 := by omega
              have hS : sendV (M.ss.take (j + 1)) k r = if (ge M.ss j).md = k ∧ (ge M.ss j).rn = r then sendV (M.ss.take j) k r ||| 2 ^ nd else sendV (M.ss.take j) k r := by
                rw [take_ge (by rw [LS.out]; exact hlj), sendV_app, hnd, Int.toNat_natCast]
              have HS := Lib.hid hS
              clear hS
              rw [hnd] at hc3
              clear hnd hsb
              have hp : (2 : Nat) ^ nd < 4294967296 := show (2 : Nat) ^ nd < 2 ^ 32 from Nat.pow_lt_pow_right (by omega) hn32
              generalize sendV (M.ss.take j) k r = B at HS hsv ⊢
              have EW := Lib.hid (wrap_pow hn32)
              have EO := Lib.hid (bits_or_i64_nat B (2 ^ nd) (by omega) (by omega))
              have hBx := hB3.next (v := wr.alloc (.cells #[.int .i64 (ge M.ss j).md, .int .i64 (ge M.ss j).rn, .int .i64 (ge M.ss j).st, .int .i64 nd, .int .i64 (ge M.ss j).kd, .int .i64 (ge M.ss j).sz, .int .i64 (ge M.ss j).du, .bool (ge M.ss j).ch] 102)) (by go_grown)
              rcases num_cases (ge M.ss j).md k with ⟨q1, q1'⟩ | ⟨q1, q1'⟩
              · rcases num_cases (ge M.ss j).rn r with ⟨q2, q2'⟩ | ⟨q2, q2'⟩
                · have HQ := Lib.hid (And.intro q1' q2')
                  clear q1' q2'
                  go_wp2
                  go_roundw
                  case rel => exact ⟨j + 1, by omega, by go_num, by rw [HS.out, if_pos HQ.out, ← EO.out, ← EW.out], hBx⟩
                  case measure => simp [intOf]; omega
                · have HQ := Lib.hid q2'
                  clear q1' q2'
                  go_wp2
                  go_roundw
                  case rel => exact ⟨j + 1, by omega, by go_num, by rw [HS.out, if_neg (fun hh => HQ.out hh.2)], hBx⟩
                  case measure => simp [intOf]; omega
              · have HQ := Lib.hid q1'
                clear q1'
                go_wp2
                go_roundw
                case rel => exact ⟨j + 1, by omega, by go_num, by rw [HS.out, if_neg (fun hh => HQ.out hh.1)], hBx⟩
                case measure => simp [intOf]; omega
            · have HJ := Lib.hid (show M.ss.take j = M.ss by rw [List.take_of_length_le (by rw [LS.out]; omega)])
              rw [HJ.out] at hsv ⊢
              clear HJ
              obtain ⟨B, hBv⟩ : ∃ B, sendV M.ss k r = B := ⟨_, rfl⟩
              rw [hBv] at hsv ⊢
              have HBV := Lib.hid hBv
              clear hBv
              have c1 := hB3.k.c 1 rfl
              have hz := bits_andNot_zero V B (by omega) (by omega)
              obtain ⟨Z, hZ⟩ : ∃ Z, bits .andNot .i64 (V : Int) (B : Int) = Z := ⟨_, rfl⟩
              rw [hZ] at hz
              by_cases hv : V &&& B = V
              · have hv0 : (Z != 0) = false := by rw [bne, hz, decide_eq_true hv]; rfl
                have HQ := Lib.hid hv
                clear hv hz
                go_wp2_with fail
                refine (hq _ hB3.rd.rn).mono ?_
                rintro e w1 ⟨rfl, hb1⟩
                have hB4 := hB3.next hb1
                go_wp2
                go_roundw
                case rel => exact ⟨r + 1, by omega, by go_num, fun a ha => by
                  by_cases hae : a = r
                  · subst hae; rw [HBV.out]; exact decide_eq_true HQ.out
                  · exact Hall2.out a (by omega), hB4⟩
                case measure => simp [intOf]; omega
              · have hv0 : (Z != 0) = true := by rw [bne, hz, decide_eq_false hv]; rfl
                have HQ := Lib.hid hv
                clear hv hz
                go_wp2_with fail
                refine (hq _ hB3.rd.rn).mono ?_
                rintro e w1 ⟨rfl, hb1⟩
                have hB4 := hB3.next hb1
                go_wp2
                go_ret
                exact ⟨ret_bool (by
                  have h1 : servedAt M k = false := by rw [HSA.out]; exact range_all_no hlr (by rw [HBV.out]; exact decide_eq_false HQ.out)
                  unfold served; rw [range_all_no (by rw [LM.out]; exact hlt) h1]), hB4.bel⟩
        · have hre : r = R := by omega
          have HRE := Lib.hid hre
          clear hre
          go_wp2
          go_roundw
          case rel => exact ⟨k + 1, by omega, by go_num, fun i hi => by
            by_cases hae : i = k
            · subst hae; rw [HSA.out]; exact List.all_eq_true.2 fun a ha => Hall2.out a (by have := List.mem_range.1 ha; have := HRE.out; omega)
            · exact Hall.out i (by omega), hB2⟩
          case measure => simp [intOf]; omega
    · have HZ := Lib.hid (show served M = true from List.all_eq_true.2 fun i hi => Hall.out i (by have := List.mem_range.1 hi; have := LM.out; omega))
      go_wp2
      go_ret
      exact ⟨ret_bool (by rw [HZ.out]), hB.bel⟩
end Go.Proofs.YtbaojbheopcjhaaGreatDoor

namespace Go.Proofs.YtbaojbheopcjhaaGreatDoor
open Go.RowKit

theorem fs_fn : (Tryz.f73.name == "runtime.NumGoroutine") = false ∧ Tryz.f73.body.isSome = true := ⟨by kernel_rfl, by kernel_rfl⟩
theorem cells8 {w : World} {B n b o : Nat} {l : List Sl} (h : RE encSl 8 w B (some ⟨b, o, none⟩) n l) {k : Nat} (hk : k < n) :
    w.cell? ⟨b, o + k * 8, none⟩ = some (.int .i64 (ge l k).md) ∧ w.cell? ⟨b, o + k * 8 + 1, none⟩ = some (.int .i64 (ge l k).rn) ∧ w.cell? ⟨b, o + k * 8 + 2, none⟩ = some (.int .i64 (ge l k).st)
    ∧ w.cell? ⟨b, o + k * 8 + 3, none⟩ = some (.int .i64 (ge l k).nd) ∧ w.cell? ⟨b, o + k * 8 + 4, none⟩ = some (.int .i64 (ge l k).kd) ∧ w.cell? ⟨b, o + k * 8 + 5, none⟩ = some (.int .i64 (ge l k).sz)
    ∧ w.cell? ⟨b, o + k * 8 + 6, none⟩ = some (.int .i64 (ge l k).du) ∧ w.cell? ⟨b, o + k * 8 + 7, none⟩ = some (.bool (ge l k).ch) := by
  obtain ⟨b', o', e, _, hc⟩ := h.get (by omega)
  obtain ⟨rfl, rfl⟩ : b = b' ∧ o = o' := by simpa using e
  exact ⟨hc k hk 0 _ rfl, hc k hk 1 _ rfl, hc k hk 2 _ rfl, hc k hk 3 _ rfl, hc k hk 4 _ rfl, hc k hk 5 _ rfl, hc k hk 6 _ rfl, hc k hk 7 _ rfl⟩

set_option maxRecDepth 200000 in
set_option maxHeartbeats 40000000 in
theorem iSteady_any (m : Mdv) (M : Mdl) (w : World) (h : RD w w.heap.size m M) (hmt : isMT M.ms = true) (hcm : compl M = true) :
    Calls Tryz.prog 150 #[.agg #[.int .i64 m.id, .slice m.An m.nn m.cn, .slice m.Am m.nm m.cm, .slice m.As m.ns m.cs]] w (RetV w (.bool (steady M))) := by
  have LS := Lib.hid h.rs.len
  have hBM := BM.box h
  have hns : m.ns ≤ 1099511627776 := h.bs
  have hpos := compl_pos hmt hcm
  rw [LS.out] at hpos
  have HF := Lib.hid (fun i hi => first_there hmt hcm (i := i) hi)
  have HSF := Lib.hid (steady_first hmt hcm)
  obtain ⟨b, o, hAs⟩ : ∃ b o, m.As = some ⟨b, o, none⟩ := let ⟨b, o, e, _⟩ := h.rs.get (by omega); ⟨b, o, e⟩
  clear hmt hcm
  go_enter Tryz.func150, Tryz.ntmps150
  go_wp2
  rw [hAs]
  go_loopw [9, 4, 5] (fun i _ _ wr => ∃ k : Nat, k ≤ m.ns ∧ i = .int .i64 k ∧ (∀ a, a < k → decide ((ge M.ss a).du = (ge M.ss (findI M.ss (ge M.ss a).md 0 (ge M.ss a).st)).du) = true) ∧ BM w w.heap.size m M wr) (fun i _ _ _ => m.ns - (intOf i).toNat)
  case atStart => rw [← hAs]; exact ⟨0, Nat.zero_le _, rfl, fun a ha => absurd ha (by omega), hBM⟩
  case round =>
    obtain ⟨k, hk, rfl, hall, hB⟩ := hrel
    have Hall := Lib.hid hall
    clear hall hBM
    by_cases hlt : k < m.ns
    · have hrs := hB.rd.rs
      rw [hAs] at hrs
      obtain ⟨x0, x1, x2, x3, x4, x5, x6, x7⟩ := cells8 hrs hlt
      clear hrs
      obtain ⟨w1, hw1⟩ : ∃ v, v = wr.alloc (.cells #[.int .i64 (ge M.ss k).md, .int .i64 (ge M.ss k).rn, .int .i64 (ge M.ss k).st, .int .i64 (ge M.ss k).nd, .int .i64 (ge M.ss k).kd, .int .i64 (ge M.ss k).sz, .int .i64 (ge M.ss k).du, .bool (ge M.ss k).ch] 102) := ⟨_, rfl⟩
      obtain ⟨g, hg⟩ : ∃ g, wr.heap.size = g := ⟨_, rfl⟩
      have hX : BlkL w1 g 102 (encSl (ge M.ss k)) := by rw [hw1]; exact BlkL.new _ _ _ hg.symm
      have hB1 : BM w w.heap.size m M w1 := by rw [hw1]; exact hB.next (by go_grown)
      have HFK := Lib.hid (HF.out k (by rw [LS.out]; exact hlt))
      have hq := fun u (hu : RE encSl 8 u u.heap.size m.As m.ns M.ss) => findSlot_any m.As m.ns m.cs M.ss (ge M.ss k).md 0 (ge M.ss k).st u hu hns
      obtain ⟨f, hf⟩ : ∃ f, findI M.ss (ge M.ss k).md 0 (ge M.ss k).st = f := ⟨_, rfl⟩
      have hfl : f < m.ns := by have := HFK.out; rw [hf, LS.out] at this; exact this
      rw [show idxZ (atKey (ge M.ss k).md 0 (ge M.ss k).st) M.ss = (f : Int) by
        unfold idxZ
        have hf2 : M.ss.findIdx (atKey (ge M.ss k).md 0 (ge M.ss k).st) = f := hf
        rw [hf2, if_pos (by rw [LS.out]; exact hfl)]] at hq
      have HFI := Lib.hid hf
      clear hf
      go_upto_region 4 with fail
      rw [← hw1]
      clear hw1
      go_cut [5] (fun va wc => ∃ g2, va = .pointer (some ⟨g2, 0, none⟩) ∧ BlkL wc g2 102 (encSl (ge M.ss f)) ∧ BlkL wc g 102 (encSl (ge M.ss k)) ∧ BM w w.heap.size m M wc)
      case first =>
        have hgl := hB1.k.lt
        have hgl2 := hX.lt
        have d3 := hB1.k.c 3 rfl
        rw [hAs] at d3 hq
        have y0 := hX.c 0 rfl
        have y2 := hX.c 2 rfl
        have hrs := hB1.rd.rs
        rw [hAs] at hrs
        have hV : Below w1.heap.size w1 w1.drew := (Below.refl _ _).drew
        have HQ := Lib.hid (fun u (hu : Below w1.heap.size w1 u) => hq u (hrs.up hu))
        have HX := Lib.hid hX
        have HB := Lib.hid hB1
        have hcells : ∀ u, Below w1.heap.size w1 u → (Below w1.heap.size w1 u ∧ u.cell? ⟨w.heap.size, 3, none⟩ = some (.slice (some ⟨b, o, none⟩) m.ns m.cs) ∧ u.cell? ⟨g, 0, none⟩ = some (.int .i64 (ge M.ss k).md) ∧ u.cell? ⟨g, 2, none⟩ = some (.int .i64 (ge M.ss k).st) ∧ u.cell? ⟨b, o + f * 8, none⟩ = some (.int .i64 (ge M.ss f).md) ∧ u.cell? ⟨b, o + f * 8 + 1, none⟩ = some (.int .i64 (ge M.ss f).rn) ∧ u.cell? ⟨b, o + f * 8 + 2, none⟩ = some (.int .i64 (ge M.ss f).st) ∧ u.cell? ⟨b, o + f * 8 + 3, none⟩ = some (.int .i64 (ge M.ss f).nd) ∧ u.cell? ⟨b, o + f * 8 + 4, none⟩ = some (.int .i64 (ge M.ss f).kd) ∧ u.cell? ⟨b, o + f * 8 + 5, none⟩ = some (.int .i64 (ge M.ss f).sz) ∧ u.cell? ⟨b, o + f * 8 + 6, none⟩ = some (.int .i64 (ge M.ss f).du) ∧ u.cell? ⟨b, o + f * 8 + 7, none⟩ = some (.bool (ge M.ss f).ch)) := fun u hu => by
          obtain ⟨p0, p1, p2, p3, p4, p5, p6, p7⟩ := cells8 (hrs.up hu) hfl
          exact ⟨hu, (Below.cell hu (p := ⟨w.heap.size, 3, none⟩) hgl).trans d3, (hX.next hu).c 0 rfl, (hX.next hu).c 2 rfl, p0, p1, p2, p3, p4, p5, p6, p7⟩
        have HC := Lib.hid hcells
        clear hq hg x0 x1 x2 x3 x4 x5 x6 x7 hrs hX hB1 hcells y0 y2 d3 hgl2
        first
        | go_region_held_law (fun u => Below w1.heap.size w1 u ∧ u.cell? ⟨w.heap.size, 3, none⟩ = some (.slice (some ⟨b, o, none⟩) m.ns m.cs) ∧ u.cell? ⟨g, 0, none⟩ = some (.int .i64 (ge M.ss k).md) ∧ u.cell? ⟨g, 2, none⟩ = some (.int .i64 (ge M.ss k).st) ∧ u.cell? ⟨b, o + f * 8, none⟩ = some (.int .i64 (ge M.ss f).md) ∧ u.cell? ⟨b, o + f * 8 + 1, none⟩ = some (.int .i64 (ge M.ss f).rn) ∧ u.cell? ⟨b, o + f * 8 + 2, none⟩ = some (.int .i64 (ge M.ss f).st) ∧ u.cell? ⟨b, o + f * 8 + 3, none⟩ = some (.int .i64 (ge M.ss f).nd) ∧ u.cell? ⟨b, o + f * 8 + 4, none⟩ = some (.int .i64 (ge M.ss f).kd) ∧ u.cell? ⟨b, o + f * 8 + 5, none⟩ = some (.int .i64 (ge M.ss f).sz) ∧ u.cell? ⟨b, o + f * 8 + 6, none⟩ = some (.int .i64 (ge M.ss f).du) ∧ u.cell? ⟨b, o + f * 8 + 7, none⟩ = some (.bool (ge M.ss f).ch)) (first | (with_reducible exact HC.out _ hV) | (with_reducible refine HC.out _ ?_; with_reducible assumption) | (with_reducible refine HC.out _ ?_; go_grown)) (first
          | (go_at_call 73; (have hgv : Below w1.heap.size w1 _ := And.left (‹Below w1.heap.size w1 _ ∧ _›)); (with_reducible refine (HQ.out _ hgv).mono ?_); rintro e cc ⟨rfl, hb⟩; (have hv := below_next hb hgv (Nat.le_refl _)); have hs5 := hv.size; (try (have hz5 : BlkL cc w1.heap.size 102 [.int .i64 0, .int .i64 0, .int .i64 0, .int .i64 0, .int .i64 0, .int .i64 0, .int .i64 0, .bool false] := (by first | exact ((BlkL.new w1 _ _ rfl).drew).next hb | exact (BlkL.new w1.drew _ _ rfl).next hb); have HZ5 := Lib.hid hz5; have s0 := hz5.c 0 rfl; have s1 := hz5.c 1 rfl; have s2 := hz5.c 2 rfl; have s3 := hz5.c 3 rfl; have s4 := hz5.c 4 rfl; have s5 := hz5.c 5 rfl; have s6 := hz5.c 6 rfl; have s7 := hz5.c 7 rfl; have r0 := hz5.free 0; have r1 := hz5.free 1; have r2 := hz5.free 2; have r3 := hz5.free 3; have r4 := hz5.free 4; have r5 := hz5.free 5; have r6 := hz5.free 6; have r7 := hz5.free 7; clear hz5)); clear hgv hb))
        | fail
        all_goals
          go_wp2_with fail
          go_meet
          exact ⟨_, rfl, (by first | exact (((((((HZ5.out.set 0 _).set 1 _).set 2 _).set 3 _).set 4 _).set 5 _).set 6 _).set 7 _ | exact BlkL.new _ _ _ rfl), HX.out.next (by go_grown), HB.out.next (by go_grown)⟩
      case rest =>
        obtain ⟨g2, rfl, hY, hX2, hB2⟩ := hcut
        have y6 := hY.c 6 rfl
        have z6 := hX2.c 6 rfl
        clear hX hY hX2 hB1
        by_cases hdu : (ge M.ss k).du = (ge M.ss f).du
        · have hd0 : ((ge M.ss k).du != (ge M.ss f).du) = false := by simp [hdu]
          have HD := Lib.hid hdu
          clear hdu
          go_wp2
          go_roundw
          case rel => exact ⟨k + 1, by omega, by go_num, fun a ha => by
            by_cases hae : a = k
            · subst hae; rw [HFI.out]; exact decide_eq_true HD.out
            · exact Hall.out a (by omega), hB2⟩
          case measure => simp [intOf]; omega
        · have hd0 : ((ge M.ss k).du != (ge M.ss f).du) = true := by simp [hdu]
          have HD := Lib.hid hdu
          clear hdu
          go_wp2
          go_ret
          exact ⟨ret_bool (by rw [HSF.out, range_all_no (by rw [LS.out]; exact hlt) (by rw [HFI.out]; exact decide_eq_false HD.out)]), hB2.bel⟩
    · have HZ := Lib.hid (show steady M = true by rw [HSF.out]; exact List.all_eq_true.2 fun i hi => Hall.out i (by have := List.mem_range.1 hi; have := LS.out; omega))
      go_wp2
      go_ret
      exact ⟨ret_bool (by rw [HZ.out]), hB.bel⟩
end Go.Proofs.YtbaojbheopcjhaaGreatDoor

namespace Go.Proofs.YtbaojbheopcjhaaGreatDoor
open Go.RowKit

set_option maxHeartbeats 8000000 in
theorem iFirstFault_any (m : Mdv) (M : Mdl) (w : World) (h : RD w w.heap.size m M) (hx : RX m M) :
    Calls Tryz.prog 108 #[.agg #[.int .i64 m.id, .slice m.An m.nn m.cn, .slice m.Am m.nm m.cm, .slice m.As m.ns m.cs]] w fun e w' => ∃ v : Int, e = .returned (.int .i64 v) ∧ (v == 0) = isMedl M ∧ Below w.heap.size w w' := by
  have LS := Lib.hid h.rs.len
  have HX := Lib.hid hx
  have hBM := BM.box h
  have hid := h.id
  have E := Lib.hid (show isMedl M = (inR M.id 1 16777215 && (isNT M.ns && (isMT M.ms && (isST M.ss && (compl M && (senders M && (steady M && (shortM M && (served M && !cold M))))))))) from rfl)
  rw [hid] at E
  clear hx hid
  go_enter Tryz.func108, Tryz.ntmps108
  have hB := hBM
  clear hBM
  have c0 := hB.k.c 0 rfl
  have c1 := hB.k.c 1 rfl
  have c2 := hB.k.c 2 rfl
  have c3 := hB.k.c 3 rfl
  go_wp2_with fail
  rcases bool_cases (inR m.id 1 16777215) with hT | hT
  case inr =>
    refine (in_yes_i hT _).mono ?_
    have FT := Lib.hid hT
    rintro e w' ⟨rfl, rfl⟩
    go_wp2
    go_ret
    exact ⟨_, rfl, by rw [E.out, FT.out]; rfl, hB.bel⟩
  have F0 := Lib.hid hT
  refine (in_yes_i hT _).mono ?_
  rintro e w' ⟨rfl, rfl⟩
  clear hT c0 c1 c2 c3
  have c0 := hB.k.c 0 rfl
  have c1 := hB.k.c 1 rfl
  have c2 := hB.k.c 2 rfl
  have c3 := hB.k.c 3 rfl
  go_wp2_with fail
  rcases bool_cases (isNT M.ns) with hT | hT
  case inr =>
    refine (iIsNodeTable_any m.An m.nn m.cn M.ns _ hB.rd.rn hB.rd.bn HX.out.nmb HX.out.cap).mono ?_
    rw [hT]
    have FT := Lib.hid hT
    clear hT
    rintro e w1 ⟨rfl, hb1⟩
    have hB' := hB.next hb1
    go_wp2
    go_ret
    exact ⟨_, rfl, by rw [E.out, F0.out, FT.out]; rfl, hB'.bel⟩
  have F1 := Lib.hid hT
  refine (iIsNodeTable_any m.An m.nn m.cn M.ns _ hB.rd.rn hB.rd.bn HX.out.nmb HX.out.cap).mono ?_
  rw [hT]
  clear hT c0 c1 c2 c3
  rintro e w21 ⟨rfl, hb1⟩
  have hB' := hB.next hb1
  clear hB hb1
  have hB := hB'
  clear hB'
  have c0 := hB.k.c 0 rfl
  have c1 := hB.k.c 1 rfl
  have c2 := hB.k.c 2 rfl
  have c3 := hB.k.c 3 rfl
  go_wp2_with fail
  rcases bool_cases (isMT M.ms) with hT | hT
  case inr =>
    refine (iIsModeTable_any m.Am m.nm m.cm M.ms _ hB.rd.rm hB.rd.bm HX.out.nxb).mono ?_
    rw [hT]
    have FT := Lib.hid hT
    clear hT
    rintro e w1 ⟨rfl, hb1⟩
    have hB' := hB.next hb1
    go_wp2
    go_ret
    exact ⟨_, rfl, by rw [E.out, F0.out, F1.out, FT.out]; rfl, hB'.bel⟩
  have F2 := Lib.hid hT
  refine (iIsModeTable_any m.Am m.nm m.cm M.ms _ hB.rd.rm hB.rd.bm HX.out.nxb).mono ?_
  rw [hT]
  clear hT c0 c1 c2 c3
  rintro e w22 ⟨rfl, hb1⟩
  have hB' := hB.next hb1
  clear hB hb1
  have hB := hB'
  clear hB'
  have c0 := hB.k.c 0 rfl
  have c1 := hB.k.c 1 rfl
  have c2 := hB.k.c 2 rfl
  have c3 := hB.k.c 3 rfl
  go_wp2_with fail
  rcases bool_cases (isST M.ss) with hT | hT
  case inr =>
    refine (iIsSlotTable_any m.As m.ns m.cs M.ss _ hB.rd.rs hB.rd.bs).mono ?_
    rw [hT]
    have FT := Lib.hid hT
    clear hT
    rintro e w1 ⟨rfl, hb1⟩
    have hB' := hB.next hb1
    go_wp2
    go_ret
    exact ⟨_, rfl, by rw [E.out, F0.out, F1.out, F2.out, FT.out]; rfl, hB'.bel⟩
  have F3 := Lib.hid hT
  refine (iIsSlotTable_any m.As m.ns m.cs M.ss _ hB.rd.rs hB.rd.bs).mono ?_
  rw [hT]
  clear hT c0 c1 c2 c3
  rintro e w23 ⟨rfl, hb1⟩
  have hB' := hB.next hb1
  clear hB hb1
  have hB := hB'
  clear hB'
  have c0 := hB.k.c 0 rfl
  have c1 := hB.k.c 1 rfl
  have c2 := hB.k.c 2 rfl
  have c3 := hB.k.c 3 rfl
  go_wp2_with fail
  rcases bool_cases (compl M) with hT | hT
  case inr =>
    refine (iComplete_any m M _ hB.rd F2.out F3.out).mono ?_
    rw [hT]
    have FT := Lib.hid hT
    clear hT
    rintro e w1 ⟨rfl, hb1⟩
    have hB' := hB.next hb1
    go_wp2
    go_ret
    exact ⟨_, rfl, by rw [E.out, F0.out, F1.out, F2.out, F3.out, FT.out]; rfl, hB'.bel⟩
  have F4 := Lib.hid hT
  refine (iComplete_any m M _ hB.rd F2.out F3.out).mono ?_
  rw [hT]
  clear hT c0 c1 c2 c3
  rintro e w24 ⟨rfl, hb1⟩
  have hB' := hB.next hb1
  clear hB hb1
  have hB := hB'
  clear hB'
  have c0 := hB.k.c 0 rfl
  have c1 := hB.k.c 1 rfl
  have c2 := hB.k.c 2 rfl
  have c3 := hB.k.c 3 rfl
  go_wp2_with fail
  rcases bool_cases (senders M) with hT | hT
  case inr =>
    refine (conS_any #[.pointer (some ⟨w.heap.size, 0, none⟩)] (strAt M) m.As m.ns m.cs M.ss _ hB.rd.rs hB.rd.bs (fun i hi w' hw' => stranger_any m M _ _ w' w (hB.next hw') F1.out (isST_sl F3.out (by rw [LS.out]; exact hi)))).mono ?_
    rw [str_any, hT]
    have FT := Lib.hid hT
    clear hT
    rintro e w1 ⟨rfl, hb1⟩
    have hB' := hB.next hb1
    go_wp2
    go_ret
    exact ⟨_, rfl, by rw [E.out, F0.out, F1.out, F2.out, F3.out, F4.out, FT.out]; rfl, hB'.bel⟩
  have F5 := Lib.hid hT
  refine (conS_any #[.pointer (some ⟨w.heap.size, 0, none⟩)] (strAt M) m.As m.ns m.cs M.ss _ hB.rd.rs hB.rd.bs (fun i hi w' hw' => stranger_any m M _ _ w' w (hB.next hw') F1.out (isST_sl F3.out (by rw [LS.out]; exact hi)))).mono ?_
  rw [str_any, hT]
  clear hT c0 c1 c2 c3
  rintro e w25 ⟨rfl, hb1⟩
  have hB' := hB.next hb1
  clear hB hb1
  have hB := hB'
  clear hB'
  have c0 := hB.k.c 0 rfl
  have c1 := hB.k.c 1 rfl
  have c2 := hB.k.c 2 rfl
  have c3 := hB.k.c 3 rfl
  go_wp2_with fail
  rcases bool_cases (steady M) with hT | hT
  case inr =>
    refine (iSteady_any m M _ hB.rd F2.out F4.out).mono ?_
    rw [hT]
    have FT := Lib.hid hT
    clear hT
    rintro e w1 ⟨rfl, hb1⟩
    have hB' := hB.next hb1
    go_wp2
    go_ret
    exact ⟨_, rfl, by rw [E.out, F0.out, F1.out, F2.out, F3.out, F4.out, F5.out, FT.out]; rfl, hB'.bel⟩
  have F6 := Lib.hid hT
  refine (iSteady_any m M _ hB.rd F2.out F4.out).mono ?_
  rw [hT]
  clear hT c0 c1 c2 c3
  rintro e w26 ⟨rfl, hb1⟩
  have hB' := hB.next hb1
  clear hB hb1
  have hB := hB'
  clear hB'
  have c0 := hB.k.c 0 rfl
  have c1 := hB.k.c 1 rfl
  have c2 := hB.k.c 2 rfl
  have c3 := hB.k.c 3 rfl
  go_wp2_with fail
  rcases bool_cases (shortM M) with hT | hT
  case inr =>
    refine (iShort_any m M _ hB.rd F2.out F3.out).mono ?_
    rw [hT]
    have FT := Lib.hid hT
    clear hT
    rintro e w1 ⟨rfl, hb1⟩
    have hB' := hB.next hb1
    go_wp2
    go_ret
    exact ⟨_, rfl, by rw [E.out, F0.out, F1.out, F2.out, F3.out, F4.out, F5.out, F6.out, FT.out]; rfl, hB'.bel⟩
  have F7 := Lib.hid hT
  refine (iShort_any m M _ hB.rd F2.out F3.out).mono ?_
  rw [hT]
  clear hT c0 c1 c2 c3
  rintro e w27 ⟨rfl, hb1⟩
  have hB' := hB.next hb1
  clear hB hb1
  have hB := hB'
  clear hB'
  have c0 := hB.k.c 0 rfl
  have c1 := hB.k.c 1 rfl
  have c2 := hB.k.c 2 rfl
  have c3 := hB.k.c 3 rfl
  go_wp2_with fail
  rcases bool_cases (served M) with hT | hT
  case inr =>
    refine (iAllSend_any m M _ hB.rd F1.out F2.out F3.out F4.out F5.out).mono ?_
    rw [hT]
    have FT := Lib.hid hT
    clear hT
    rintro e w1 ⟨rfl, hb1⟩
    have hB' := hB.next hb1
    go_wp2
    go_ret
    exact ⟨_, rfl, by rw [E.out, F0.out, F1.out, F2.out, F3.out, F4.out, F5.out, F6.out, F7.out, FT.out]; rfl, hB'.bel⟩
  have F8 := Lib.hid hT
  refine (iAllSend_any m M _ hB.rd F1.out F2.out F3.out F4.out F5.out).mono ?_
  rw [hT]
  clear hT c0 c1 c2 c3
  rintro e w28 ⟨rfl, hb1⟩
  have hB' := hB.next hb1
  clear hB hb1
  have hB := hB'
  clear hB'
  have c0 := hB.k.c 0 rfl
  have c1 := hB.k.c 1 rfl
  have c2 := hB.k.c 2 rfl
  have c3 := hB.k.c 3 rfl
  go_wp2_with fail
  rcases bool_cases (cold M) with hT | hT
  all_goals
    have FT := Lib.hid hT
    refine (conC_any #[] coldAt m.As m.ns m.cs M.ss _ hB.rd.rs hB.rd.bs (fun i hi w' hw' => coldC_any _ w')).mono ?_
    rw [← cold_def, hT]
    clear hT
    rintro e w1 ⟨rfl, hb1⟩
    have hB' := hB.next hb1
    go_wp2
    go_ret
    exact ⟨_, rfl, by rw [E.out, F0.out, F1.out, F2.out, F3.out, F4.out, F5.out, F6.out, F7.out, F8.out, FT.out]; rfl, hB'.bel⟩

set_option maxHeartbeats 2000000 in
theorem iIsMedl_any (m : Mdv) (M : Mdl) (w : World) (h : RD w w.heap.size m M) (hx : RX m M) :
    Calls Tryz.prog 70 #[.agg #[.int .i64 m.id, .slice m.An m.nn m.cn, .slice m.Am m.nm m.cm, .slice m.As m.ns m.cs]] w (RetV w (.bool (isMedl M))) := by
  have hB := BM.box h
  have c0 := hB.k.c 0 rfl
  have c1 := hB.k.c 1 rfl
  have c2 := hB.k.c 2 rfl
  have c3 := hB.k.c 3 rfl
  go_enter Tryz.func70, Tryz.ntmps70
  go_wp2_with fail
  refine (iFirstFault_any m M _ hB.rd hx).mono ?_
  rintro e w1 ⟨v, rfl, hv, hb1⟩
  have HV := Lib.hid hv
  clear hv
  go_wp2
  go_ret
  exact ⟨ret_bool HV.out, (hB.next hb1).bel⟩
end Go.Proofs.YtbaojbheopcjhaaGreatDoor
