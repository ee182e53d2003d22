/- The walk of the program's applyFault at the kind that inserts samples. Conditions: lists of at most 8192 bits. -/
import Derived.Test.YtlfbmedgkkfalaaApD
import Derived.Deep.DeepCutAuto
namespace Go.Proofs.Ytlfbmedgkkfalaa
open Go.RowKit
theorem OwnI.lies {T : TypeId} {w : World} {base n c : Nat} {A : Option Addr} {zs : List Int} (h : OwnI T w base A n c zs) (hn : 0 < n) : ∃ g, A = some ⟨g, 0, none⟩ ∧ base ≤ g ∧ Lies w g 0 n zs := by
  obtain ⟨g, rfl, hb, _⟩ := h.form hn
  obtain ⟨cur, hh, _⟩ := h.open
  exact ⟨g, rfl, hb, h.len, ⟨_, _, hh⟩, fun j hj => by rw [Nat.zero_add]; exact h.cell hj⟩
namespace ApplyFault
theorem repeat_fn : (Try.f156.name == "runtime.NumGoroutine") = false ∧ Try.f156.body.isSome = true := ⟨by kernel_rfl, by kernel_rfl⟩
theorem insert_fn : (Try.f169.name == "runtime.NumGoroutine") = false ∧ Try.f169.body.isSome = true := ⟨by kernel_rfl, by kernel_rfl⟩

set_option maxRecDepth 200000 in
set_option maxHeartbeats 8000000 in
theorem applyFault_ins (A : Option Addr) (n c : Nat) (zs : List Int) (q l : Nat) (v : Int) (w : World) (hri : RI w w.heap.size A n zs) (hn : n ≤ 8192) (hq : q ≤ 8192) (hl : l ≤ 8192) (hl1 : 1 ≤ l) (hA : A = none → c = 0) (hqn : q ≤ n) :
    Calls Try.prog 166 #[.slice A n c, .agg #[.int .i64 4, .int .i64 q, .int .i64 l, .int .i64 v]] w (RetI 2 w (min 8192 (n + l)) ((zs.take q ++ List.replicate l v ++ zs.drop q).take 8192)) := by
  have L := Lib.hid hri.len
  obtain ⟨N0, hN0⟩ : ∃ x, min 8192 (n + l) = x := ⟨_, rfl⟩
  obtain ⟨R0, hR0⟩ : ∃ x, zs.take q ++ List.replicate l v ++ zs.drop q = x := ⟨_, rfl⟩
  rw [hN0, hR0]
  have HN0 := Lib.hid hN0
  have HR0 := Lib.hid hR0
  clear hN0 hR0
  have hb0 : Below w.heap.size w (w.alloc (.cells #[.int .i64 4, .int .i64 q, .int .i64 l, .int .i64 v] 76)) := (Below.refl _ _).alloc (Nat.le_refl _) _
  have hr0 := hri.up hb0
  have hbx := Blk4.new w 76 (.int .i64 4) (.int .i64 q) (.int .i64 l) (.int .i64 v)
  obtain ⟨w0, hw0⟩ : ∃ x, w.alloc (.cells #[.int .i64 4, .int .i64 q, .int .i64 l, .int .i64 v] 76) = x := ⟨_, rfl⟩
  rw [hw0] at hb0 hr0 hbx
  have HB := Lib.hid hb0
  clear hb0
  have hle : (q : Int) ≤ (n : Int) := by omega
  go_enter Try.func166, Try.ntmps166
  go_wp2_with fail
  refine (SilenceFrom.clone_any A n c zs w0 hr0 (by omega) hA).mono ?_
  rintro e w1 ⟨A1, c1, rfl, hown1, hb1⟩
  have hbk := hbx.next hb1
  have e0 := hbk.c0
  have e1 := hbk.c1
  have e2 := hbk.c2
  have e3 := hbk.c3
  have HO1 := Lib.hid hown1
  have HB1 := Lib.hid hb1
  clear hown1 hb1
  go_upto_region 12 with fail
  go_cut [5] (fun v5 wc => ∃ A2 c2, v5 = .slice A2 (n + l) c2 ∧ OwnI 2 wc w0.heap.size A2 (n + l) c2 R0 ∧ Below w0.heap.size w0 wc)
  case first =>
    go_region_law (first
      | ((refine step_call 156 Try.func156 repeat_fn.1 repeat_fn.2 rfl rfl #[.slice none 0 0, .int .i64 v, .int .i64 l] ?_ ?_); (simp [Act.eval]); (refine (repeat_any l v _ (by omega)).mono ?_); rintro e w5 ⟨A5, c5, rfl, hown5, hb5⟩; (refine ⟨_, rfl, ?_⟩); (have hbx5 : Blk4 w5 w.heap.size 76 (.int .i64 4) (.int .i64 q) (.int .i64 l) (.int .i64 v) := Blk4.next_drew hb5 hbk); have hx51 := hbx5.c1; (obtain ⟨g5, rfl, hg5, hl5⟩ := hown5.lies (by omega)); have HL5 := Lib.hid hl5; have HB5 := Lib.hid (below_next_drew hb5 (Below.refl w1.heap.size w1) (Nat.le_refl _)); clear hown5 hb5 hl5)
      | ((refine step_call 169 Try.func169 insert_fn.1 insert_fn.2 rfl rfl #[.slice A1 n c1, .int .i64 q, .slice (some ⟨g5, 0, none⟩) l c5] ?_ ?_); (simp [Act.eval]); (refine (insert_any A1 n c1 q g5 0 l c5 w0.heap.size zs (List.replicate l v) _ (by exact HO1.out.below HB5.out) (by exact HL5.out) (by intro g6 h6; have := (own_row HO1.out g6 h6).2; simp at hg5; omega) hqn (by omega) (by exact Nat.le_trans HB1.out.size HB5.out.size)).mono ?_); rintro e w6 ⟨A6, c6, rfl, hown6, hg6⟩; (refine ⟨_, rfl, ?_⟩); have HO6 := Lib.hid hown6; have HG6 := Lib.hid hg6; clear hown6 hg6))
    all_goals
      go_wp2_with fail
      go_meet
      refine ⟨A6, c6, rfl, ?_, ?_⟩
      · have := HO6.out
        rwa [HR0.out] at this
      · exact (below_next HB5.out HB1.out (Nat.le_refl _)).grown HG6.out (Nat.le_trans HB1.out.size HB5.out.size) (fun g e => (own_row HO1.out g e).1)
  case rest =>
    obtain ⟨A2, c2, rfl, hown2, hbb⟩ := hcut
    have HO2 := Lib.hid hown2
    have HBB := Lib.hid hbb
    have hcap := hown2.cap.1
    clear hown2 hbb
    by_cases hbig : n + l < 8192
    case pos =>
      have hbj : ¬ (8192 ≤ (n : Int) + (l : Int)) := by omega
      have hcap2 : (n : Int) + (l : Int) ≤ (c2 : Int) := by omega
      go_wp2
      go_ret
      have e1 := HO2.out
      have e2 : N0 = n + l := by have := HN0.out; omega
      rw [e2, List.take_of_length_le (by rw [e1.len]; omega)]
      exact ⟨A2, c2, rfl, e1.weaken HB.out.size, HB.out.trans (HBB.out.mono HB.out.size)⟩
    case neg =>
      have hbj : (8192 : Int) ≤ (n : Int) + (l : Int) := by omega
      have hcap2 : 8192 ≤ c2 := by omega
      go_wp2
      go_ret
      have e1 := HO2.out.cut (k := 8192) (by omega)
      have e2 : N0 = 8192 := by have := HN0.out; omega
      rw [e2]
      exact ⟨A2, c2, rfl, e1.weaken HB.out.size, HB.out.trans (HBB.out.mono HB.out.size)⟩
end ApplyFault
end Go.Proofs.Ytlfbmedgkkfalaa
