-- Written by a program of this session (after the kit's print) out of the translation. Nothing here is trusted: Lean checks it.
import Derived.Test.YtnkgclcmjojeiaaVPFnDeviceReadsx0
import Derived.Test.YtnkgclcmjojeiaaVPFnDeviceReadsx2
namespace Go.Proofs.Ytnkgclcmjojeiaa.PFnDeviceReads
open Go.RowKit Go.Proofs.YtnkgclcmjojeiaaW.PrintWords Go.Proofs.YtnkgclcmjojeiaaW.PrintLast Go.Proofs.YtnkgclcmjojeiaaW.PrintMore
attribute [local go_sem] max2_int min2_int max_two min_two max_three min_three max_four min_four   -- for this text's walks alone
set_option linter.unusedVariables false
set_option linter.unusedSimpArgs false

/-! ### spec_l1Valid: function 17 -/
mutual
def spec_l1Valid.j0 : Nat → Bool → Int → List Int → List (S32) → Option (Bool)
  | 0, _, _, _, _ => none
  | k + 1, x23, x291000, x291001, x291002 => if x23 = true then (some false) else (spec_l1Valid.l0 k 0 x291000 x291001 x291002)
def spec_l1Valid.l0 : Nat → Int → Int → List Int → List (S32) → Option (Bool)
  | 0, _, _, _, _ => none
  | k + 1, x3, x291000, x291001, x291002 => if x3 < (x291002.length : Int) then (if 0 ≤ x3 then (if ((rd_T32 x291002 x3).f0) < 0 then (some false) else (if ((rd_T32 x291002 x3).f0) ≥ x291000 then (some false) else (if (((rd_T32 x291002 x3).f1).length : Int) = 128 then (spec_l1Valid.l0 k (wrap64 (x3 + 1)) x291000 x291001 x291002) else (some false)))) else (none)) else (some true)
end
def spec_l1Valid.f (k : Nat) (a0_0 : Int) (l0_1 : List Int) (l0_2 : List (S32)) : Option (Bool) := (spec_l1BlocksOK.f a0_0).bind fun t291 => (if t291 = true then (if (l0_1.length : Int) = (wrap64 (a0_0 * 128)) then (spec_l1Valid.j0 k (decide ((l0_2.length : Int) > 2048)) a0_0 l0_1 l0_2) else (spec_l1Valid.j0 k true a0_0 l0_1 l0_2)) else (spec_l1Valid.j0 k true a0_0 l0_1 l0_2))
theorem spec_l1Valid.mono_l : ∀ k, (∀ y0 y1 y2 y3, LeO (spec_l1Valid.j0 k y0 y1 y2 y3) (spec_l1Valid.j0 (k + 1) y0 y1 y2 y3)) ∧ (∀ y0 y1 y2 y3, LeO (spec_l1Valid.l0 k y0 y1 y2 y3) (spec_l1Valid.l0 (k + 1) y0 y1 y2 y3))
  | 0 => ⟨fun _ _ _ _ r h => by simp [spec_l1Valid.j0] at h, fun _ _ _ _ r h => by simp [spec_l1Valid.l0] at h⟩
  | k + 1 => by
    obtain ⟨ih0, ih1⟩ := spec_l1Valid.mono_l k
    refine ⟨?_, ?_⟩
    · intro y0 y1 y2 y3
      unfold spec_l1Valid.j0
      repeat' first
      | (with_reducible exact ih0 _ _ _ _)
      | (with_reducible exact ih1 _ _ _ _)
      | (with_reducible exact LeO.refl _)
      | (with_reducible exact LeO.none _)
      | (with_reducible refine LeO.ite ?_ ?_)
      | (with_reducible refine LeO.bind ?_ (fun _ => ?_))
      | exact ih0 _ _ _ _
      | exact ih1 _ _ _ _
      | exact LeO.none _
      | refine LeO.ite ?_ ?_
      | refine LeO.bind ?_ (fun _ => ?_)
    · intro y0 y1 y2 y3
      unfold spec_l1Valid.l0
      repeat' first
      | (with_reducible exact ih0 _ _ _ _)
      | (with_reducible exact ih1 _ _ _ _)
      | (with_reducible exact LeO.refl _)
      | (with_reducible exact LeO.none _)
      | (with_reducible refine LeO.ite ?_ ?_)
      | (with_reducible refine LeO.bind ?_ (fun _ => ?_))
      | exact ih0 _ _ _ _
      | exact ih1 _ _ _ _
      | exact LeO.none _
      | refine LeO.ite ?_ ?_
      | refine LeO.bind ?_ (fun _ => ?_)
theorem spec_l1Valid.mono : ∀ a0 a1 a2 k, LeO (spec_l1Valid.f k a0 a1 a2) (spec_l1Valid.f (k + 1) a0 a1 a2) := by
  intro a0 a1 a2 k
  obtain ⟨ih0, ih1⟩ := spec_l1Valid.mono_l k
  unfold spec_l1Valid.f
  repeat' first
      | (with_reducible exact ih0 _ _ _ _)
      | (with_reducible exact ih1 _ _ _ _)
      | (with_reducible exact LeO.refl _)
      | (with_reducible exact LeO.none _)
      | (with_reducible refine LeO.ite ?_ ?_)
      | (with_reducible refine LeO.bind ?_ (fun _ => ?_))
      | exact ih0 _ _ _ _
      | exact ih1 _ _ _ _
      | exact LeO.none _
      | refine LeO.ite ?_ ?_
      | refine LeO.bind ?_ (fun _ => ?_)
set_option maxHeartbeats 8000000 in
set_option maxRecDepth 100000 in
theorem spec_l1Valid.calls (k : Nat) (a0_0 : Int) (A0_1 : Option Addr) (c0_1 : Nat) (l0_1 : List Int) (A0_2 : Option Addr) (c0_2 : Nat) (l0_2 : List (S32)) (r : Bool) (w : World) (hr0_1 : Kd.C (Kd.int .u8) w A0_1 l0_1.length l0_1) (hc0_1 : l0_1.length ≤ c0_1) (hr0_2 : Kd.C k32 w A0_2 l0_2.length l0_2) (hc0_2 : l0_2.length ≤ c0_2) (h : spec_l1Valid.f k a0_0 l0_1 l0_2 = some r) :
    Calls Try.prog 17 #[.agg #[.int .i64 a0_0, .slice A0_1 l0_1.length c0_1, .slice A0_2 l0_2.length c0_2]] w fun e w' => e = .returned (.bool r) ∧ Below w.heap.size w w' := by
  have hu25 := Try.underlying25
  have hu32 := Try.underlying32
  have HR0_1 := Aside0.mk hr0_1
  have HC0_1 := Aside0.mk hc0_1
  clear hr0_1 hc0_1
  have HR0_2 := Aside0.mk hr0_2
  have HC0_2 := Aside0.mk hc0_2
  clear hr0_2 hc0_2
  have HB := Aside0.mk (Below.refl w.heap.size w)
  have H : ((spec_l1BlocksOK.f a0_0).bind fun t291 => (if t291 = true then (if (l0_1.length : Int) = (wrap64 (a0_0 * 128)) then (spec_l1Valid.j0 k (decide ((l0_2.length : Int) > 2048)) a0_0 l0_1 l0_2) else (spec_l1Valid.j0 k true a0_0 l0_1 l0_2)) else (spec_l1Valid.j0 k true a0_0 l0_1 l0_2))) = some r := h
  clear h
  have HC2 := Aside0.mk H
  clear H
  go_enter Try.func17, Try.ntmps17
  go_upto_region 1 with (first | ((with_reducible refine gate_dst (N := 1) rfl ?_); (try (refine gate_guard (by rfl) ?_; dsimp only)); refine box_event ?hg (N := 1) ?hd (cs := #[.int .i64 a0_0, .slice A0_1 l0_1.length c0_1, .slice A0_2 l0_2.length c0_2]) (t := 25) ?hr ?_; (case hd => rfl); (case hg => rfl); (case hr => first | (go_simp; done) | (go_simp; rfl)); intro gb290 hg w3 hbox hb; have n0_ := Aside0.mk (below_step (by repeat (first | (with_reducible first | exact HB.out | apply below_alloc | apply pw_below_drewN | apply below_drew1) | exact HB.out)) hb); have n1_ := Aside0.mk (hbox); have n2_ := Aside0.mk ((by rw [hg]; exact (below_size (by repeat (first | (with_reducible first | exact HB.out | apply below_alloc | apply pw_below_drewN | apply below_drew1) | exact HB.out))) : w.heap.size ≤ gb290)); have n3_ := Aside0.mk ((by rw [hg]; exact (below_size (by repeat (first | (with_reducible first | exact HB.out | apply below_alloc | apply pw_below_drewN | apply below_drew1) | exact HB.out))) : w.heap.size ≤ gb290)); clear HB; have HB := n0_; have BK290 := n1_; have GW290 := n2_; have GE290 := n3_; clear n0_ n1_ n2_ n3_; clear hb hbox hg))
  (try simp only [Act.put, List.setIfInBounds_toArray, List.set_cons_zero, List.set_cons_succ])
  go_cut [23] (fun v23 wc => ∃ (kq : Nat) (x23_1 : Bool), v23 = .bool x23_1 ∧ Aside0 (spec_l1Valid.j0 kq x23_1 a0_0 l0_1 l0_2 = some r) ∧ Aside0 (kq ≤ k) ∧ Aside0 (wc.heap[gb290]? = some (.cells #[.int .i64 a0_0, (.slice A0_1 l0_1.length c0_1), (.slice A0_2 l0_2.length c0_2)] 25 (0, 0))) ∧ Aside0 (Below w.heap.size w wc))
  case first =>
    have H := HC2.out
    clear HC2
    replace H := Option.bind_eq_some_iff.mp H
    obtain ⟨t291, A40, H⟩ := H
    replace H : (if t291 = true then (if (l0_1.length : Int) = (wrap64 (a0_0 * 128)) then (spec_l1Valid.j0 k (decide ((l0_2.length : Int) > 2048)) a0_0 l0_1 l0_2) else (spec_l1Valid.j0 k true a0_0 l0_1 l0_2)) else (spec_l1Valid.j0 k true a0_0 l0_1 l0_2)) = some r := H
    have A4 := Aside0.mk A40
    clear A40
    by_cases c5 : t291 = true
    · subst c5
      have H1 : (if (l0_1.length : Int) = (wrap64 (a0_0 * 128)) then (spec_l1Valid.j0 k (decide ((l0_2.length : Int) > 2048)) a0_0 l0_1 l0_2) else (spec_l1Valid.j0 k true a0_0 l0_1 l0_2)) = some r := by rw [if_pos rfl] at H; exact H
      clear H
      have H := H1
      clear H1
      by_cases c6 : (l0_1.length : Int) = (wrap64 (a0_0 * 128))
      · rw [if_pos c6] at H
        have c6b0 : ((l0_1.length : Int) == (wrap64 (a0_0 * 128))) = true := beq_iff_eq.mpr c6
        have c6b1 : ((l0_1.length : Int) != (wrap64 (a0_0 * 128))) = false := bne_eq_false_iff_eq.mpr c6
        clear c6
        (first | rw [c6b0] | (simp only [i64_w, i32_w]; rw [c6b0]) | skip)
        have H' := Aside0.mk H
        clear H
        have hcz7_0 : w3.cell? ⟨gb290, 0, none⟩ = some (.int .i64 a0_0) := (blk_cell BK290.out 0).trans rfl
        have hcz7_1 : w3.cell? ⟨gb290, 1, none⟩ = some (.slice A0_1 l0_1.length c0_1) := (blk_cell BK290.out 1).trans rfl
        have hcz7_2 : w3.cell? ⟨gb290, 2, none⟩ = some (.slice A0_2 l0_2.length c0_2) := (blk_cell BK290.out 2).trans rfl
        have hfz7_0 := blk_frozen BK290.out 0
        have hfz7_1 := blk_frozen BK290.out 1
        have hfz7_2 := blk_frozen BK290.out 2
        go_wp2_with (first | ((with_reducible refine gate_callee (f := 30) rfl ?_); refine goesL_ (some 7) rfl rfl Try.func30 (by kernel_rfl) rfl #[.int .i64 a0_0] rfl (by (try simp only [List.map_toArray, List.map_cons, List.map_nil]); first | done | rfl | (simp only [List.length_drop, List.length_take]; rfl)) ?_; (with_reducible refine (spec_l1BlocksOK.calls a0_0 true _ A4.out).mono ?_); rintro e w' ⟨rfl, ⟨nd, rfl⟩⟩; refine ⟨_, rfl, ?_⟩))
        go_meet
        case rel => exact ⟨_, (decide ((l0_2.length : Int) > 2048)), (by first | rfl | (simp; done) | (simp [*]; done)), H', ⟨by first | omega | exact Nat.le_refl _⟩, ⟨by (with_reducible repeat (first | refine blk_drewN ?_ _ | refine blk_drew ?_ | refine blk_alloc ?_ _)); exact BK290.out⟩, ⟨by repeat (first | (with_reducible first | exact HB.out | apply below_alloc | apply pw_below_drewN | apply below_drew1 | refine below_set ?_ GE290.out) | exact HB.out)⟩⟩
      · rw [if_neg c6] at H
        have c6b0 : ((l0_1.length : Int) == (wrap64 (a0_0 * 128))) = false := beq_eq_false_iff_ne.mpr c6
        have c6b1 : ((l0_1.length : Int) != (wrap64 (a0_0 * 128))) = true := bne_iff_ne.mpr c6
        (first | rw [c6b0] | (simp only [i64_w, i32_w]; rw [c6b0]) | skip)
        have H' := Aside0.mk H
        clear H
        have hcz8_0 : w3.cell? ⟨gb290, 0, none⟩ = some (.int .i64 a0_0) := (blk_cell BK290.out 0).trans rfl
        have hcz8_1 : w3.cell? ⟨gb290, 1, none⟩ = some (.slice A0_1 l0_1.length c0_1) := (blk_cell BK290.out 1).trans rfl
        have hcz8_2 : w3.cell? ⟨gb290, 2, none⟩ = some (.slice A0_2 l0_2.length c0_2) := (blk_cell BK290.out 2).trans rfl
        have hfz8_0 := blk_frozen BK290.out 0
        have hfz8_1 := blk_frozen BK290.out 1
        have hfz8_2 := blk_frozen BK290.out 2
        go_wp2_with (first | ((with_reducible refine gate_callee (f := 30) rfl ?_); refine goesL_ (some 7) rfl rfl Try.func30 (by kernel_rfl) rfl #[.int .i64 a0_0] rfl (by (try simp only [List.map_toArray, List.map_cons, List.map_nil]); first | done | rfl | (simp only [List.length_drop, List.length_take]; rfl)) ?_; (with_reducible refine (spec_l1BlocksOK.calls a0_0 true _ A4.out).mono ?_); rintro e w' ⟨rfl, ⟨nd, rfl⟩⟩; refine ⟨_, rfl, ?_⟩))
        go_meet
        case rel => exact ⟨_, (true), (by first | rfl | (simp; done) | (simp [*]; done)), H', ⟨by first | omega | exact Nat.le_refl _⟩, ⟨by (with_reducible repeat (first | refine blk_drewN ?_ _ | refine blk_drew ?_ | refine blk_alloc ?_ _)); exact BK290.out⟩, ⟨by repeat (first | (with_reducible first | exact HB.out | apply below_alloc | apply pw_below_drewN | apply below_drew1 | refine below_set ?_ GE290.out) | exact HB.out)⟩⟩
    · replace c5 := Bool.eq_false_iff.mpr c5
      subst c5
      have H1 : (spec_l1Valid.j0 k true a0_0 l0_1 l0_2) = some r := by rw [if_neg (show ¬ (false = true) by decide)] at H; exact H
      clear H
      have H := H1
      clear H1
      have H' := Aside0.mk H
      clear H
      have hcz9_0 : w3.cell? ⟨gb290, 0, none⟩ = some (.int .i64 a0_0) := (blk_cell BK290.out 0).trans rfl
      have hcz9_1 : w3.cell? ⟨gb290, 1, none⟩ = some (.slice A0_1 l0_1.length c0_1) := (blk_cell BK290.out 1).trans rfl
      have hcz9_2 : w3.cell? ⟨gb290, 2, none⟩ = some (.slice A0_2 l0_2.length c0_2) := (blk_cell BK290.out 2).trans rfl
      have hfz9_0 := blk_frozen BK290.out 0
      have hfz9_1 := blk_frozen BK290.out 1
      have hfz9_2 := blk_frozen BK290.out 2
      go_wp2_with (first | ((with_reducible refine gate_callee (f := 30) rfl ?_); refine goesL_ (some 7) rfl rfl Try.func30 (by kernel_rfl) rfl #[.int .i64 a0_0] rfl (by (try simp only [List.map_toArray, List.map_cons, List.map_nil]); first | done | rfl | (simp only [List.length_drop, List.length_take]; rfl)) ?_; (with_reducible refine (spec_l1BlocksOK.calls a0_0 false _ A4.out).mono ?_); rintro e w' ⟨rfl, ⟨nd, rfl⟩⟩; refine ⟨_, rfl, ?_⟩))
      go_meet
      case rel => exact ⟨_, (true), (by first | rfl | (simp; done) | (simp [*]; done)), H', ⟨by first | omega | exact Nat.le_refl _⟩, ⟨by (with_reducible repeat (first | refine blk_drewN ?_ _ | refine blk_drew ?_ | refine blk_alloc ?_ _)); exact BK290.out⟩, ⟨by repeat (first | (with_reducible first | exact HB.out | apply below_alloc | apply pw_below_drewN | apply below_drew1 | refine below_set ?_ GE290.out) | exact HB.out)⟩⟩
  case rest =>
    clear HC2
    try clear c1
    try clear p2
    try clear c3
    try clear c5
    try clear c6
    try clear c6b0
    try clear c6b1
    try clear p6
    try clear hcz7_0
    try clear hcz7_1
    try clear hcz7_2
    try clear hcz8_0
    try clear hcz8_1
    try clear hcz8_2
    try clear hcz9_0
    try clear hcz9_1
    try clear hcz9_2
    try clear hfz7_0
    try clear hfz7_1
    try clear hfz7_2
    try clear hfz8_0
    try clear hfz8_1
    try clear hfz8_2
    try clear hfz9_0
    try clear hfz9_1
    try clear hfz9_2
    obtain ⟨kq, x23_1, rfl, HA, HJ1, BK290, HB⟩ := hcut
    cases kq with
    | zero => exact absurd HA.out (by simp [spec_l1Valid.j0])
    | succ kj1 =>
      have H := HA.out
      clear HA
      simp only [spec_l1Valid.j0] at H
      by_cases c10 : x23_1 = true
      · subst c10
        have H1 : (some false) = some r := by rw [if_pos rfl] at H; exact H
        clear H
        have H := H1
        clear H1
        obtain rfl := Option.some.inj H
        go_wp2
        go_ret
        exact ⟨by first | rfl | (simp [errW_none, errW_some] <;> rfl) | (simp [*, errW_none, errW_some] <;> rfl), by repeat (first | (with_reducible first | exact HB.out | apply below_alloc | apply pw_below_drewN | apply below_drew1 | refine below_set ?_ GE290.out) | exact HB.out)⟩
      · replace c10 := Bool.eq_false_iff.mpr c10
        subst c10
        have H1 : (spec_l1Valid.l0 kj1 0 a0_0 l0_1 l0_2) = some r := by rw [if_neg (show ¬ (false = true) by decide)] at H; exact H
        clear H
        have H := H1
        clear H1
        have H' := Aside0.mk H
        clear H
        go_wp2
        go_loopg [3] kj1 (fun kq v3 w' => ∃ (x3_2 : Int), v3 = .int .i64 x3_2 ∧ Aside0 (spec_l1Valid.l0 kq x3_2 a0_0 l0_1 l0_2 = some r) ∧ Aside0 (kq ≤ kj1) ∧ Aside0 (w'.heap[gb290]? = some (.cells #[.int .i64 a0_0, (.slice A0_1 l0_1.length c0_1), (.slice A0_2 l0_2.length c0_2)] 25 (0, 0))) ∧ Aside0 (Below w.heap.size w w'))
        case atStart => exact ⟨(0), (by first | rfl | (simp; done) | (simp [*]; done)), H', ⟨Nat.le_refl _⟩, ⟨by (with_reducible repeat (first | refine blk_drewN ?_ _ | refine blk_drew ?_ | refine blk_alloc ?_ _)); exact BK290.out⟩, ⟨by repeat (first | (with_reducible first | exact HB.out | apply below_alloc | apply pw_below_drewN | apply below_drew1 | refine below_set ?_ GE290.out) | exact HB.out)⟩⟩
        case round =>
          clear H'
          try clear c1
          try clear p2
          try clear c3
          try clear c5
          try clear c6
          try clear c6b0
          try clear c6b1
          try clear p6
          try clear c10
          try clear hcz7_0
          try clear hcz7_1
          try clear hcz7_2
          try clear hcz8_0
          try clear hcz8_1
          try clear hcz8_2
          try clear hcz9_0
          try clear hcz9_1
          try clear hcz9_2
          try clear hfz7_0
          try clear hfz7_1
          try clear hfz7_2
          try clear hfz8_0
          try clear hfz8_1
          try clear hfz8_2
          try clear hfz9_0
          try clear hfz9_1
          try clear hfz9_2
          try clear p2
          try clear p6
          obtain ⟨x3_2, rfl, HA, HK2, BK290, HB⟩ := hrel
          cases gk with
          | zero => exact absurd HA.out (by simp [spec_l1Valid.l0])
          | succ k2 =>
            have H := HA.out
            clear HA
            simp only [spec_l1Valid.l0] at H
            by_cases c11 : x3_2 < (l0_2.length : Int)
            · rw [if_pos c11] at H
              have c11b0 : decide (x3_2 < (l0_2.length : Int)) = true := decide_eq_true c11
              clear c11
              by_cases c12 : 0 ≤ x3_2
              · rw [if_pos c12] at H
                have c12b0 : decide (0 ≤ x3_2) = true := decide_eq_true c12
                clear c12
                by_cases c13 : ((rd_T32 l0_2 x3_2).f0) < 0
                · rw [if_pos c13] at H
                  have c13b0 : decide (((rd_T32 l0_2 x3_2).f0) < 0) = true := decide_eq_true c13
                  clear c13
                  obtain rfl := Option.some.inj H
                  have hcz14_0 : wr.cell? ⟨gb290, 0, none⟩ = some (.int .i64 a0_0) := (blk_cell BK290.out 0).trans rfl
                  have hcz14_1 : wr.cell? ⟨gb290, 1, none⟩ = some (.slice A0_1 l0_1.length c0_1) := (blk_cell BK290.out 1).trans rfl
                  have hcz14_2 : wr.cell? ⟨gb290, 2, none⟩ = some (.slice A0_2 l0_2.length c0_2) := (blk_cell BK290.out 2).trans rfl
                  have hfz14_0 := blk_frozen BK290.out 0
                  have hfz14_1 := blk_frozen BK290.out 1
                  have hfz14_2 := blk_frozen BK290.out 2
                  have p292 : 0 ≤ (x3_2 : Int) := of_decide_eq_true (by first | (with_reducible assumption) | assumption)
                  have q292 : x3_2 < (l0_2.length : Int) := of_decide_eq_true (by first | (with_reducible assumption) | assumption)
                  obtain ⟨ad292, A292_1, c292_1, e292, hx292_0, hx292_1, hl292_1, hi292_1⟩ := at_T32 HR0_2.out x3_2 p292 q292
                  cases e292
                  replace hx292_0 := (HB.out.cell (World.block_lt_of_cell? w _ hx292_0)).trans hx292_0
                  replace hx292_1 := (HB.out.cell (World.block_lt_of_cell? w _ hx292_1)).trans hx292_1
                  have HR292_1 := Aside0.mk hi292_1
                  have HC292_1 := Aside0.mk hl292_1
                  clear hi292_1 hl292_1
                  replace p292 := eq_true p292
                  replace q292 := eq_true q292
                  go_wp2_with (first | ((with_reducible refine gate_dst (N := 4) rfl ?_); (try (refine gate_guard (by rfl) ?_; dsimp only)); refine box_event ?hg (N := 4) ?hd (cs := #[.int .i64 0, .slice none 0 0]) (t := 32) ?hr ?_; (case hd => rfl); (case hg => rfl); (case hr => first | (go_simp; done) | (go_simp; rfl)); intro gb293 hg w15 hbox hb; have n0_ := Aside0.mk (blk_below (g := gb290) (o := .cells #[.int .i64 a0_0, .slice A0_1 l0_1.length c0_1, .slice (some ad292) l0_2.length c0_2] 25 (0, 0)) (by (with_reducible repeat (first | refine blk_drewN ?_ _ | refine blk_drew ?_ | refine blk_alloc ?_ _)); exact BK290.out) hb); have n1_ := Aside0.mk (below_step (by repeat (first | (with_reducible first | exact HB.out | apply below_alloc | apply pw_below_drewN | apply below_drew1 | refine below_set ?_ GE290.out) | exact HB.out)) hb); have n2_ := Aside0.mk (hbox); have n3_ := Aside0.mk ((by rw [hg]; exact (below_size (by repeat (first | (with_reducible first | exact HB.out | apply below_alloc | apply pw_below_drewN | apply below_drew1 | refine below_set ?_ GE290.out) | exact HB.out))) : w.heap.size ≤ gb293)); have n4_ := Aside0.mk ((by rw [hg]; exact (below_size (by repeat (first | (with_reducible first | exact HB.out | apply below_alloc | apply pw_below_drewN | apply below_drew1 | refine below_set ?_ GE290.out) | exact HB.out))) : w.heap.size ≤ gb293)); have n5_ := Aside0.mk ((by rw [hg]; exact Nat.ne_of_lt (blk_lt (g := gb290) (o := .cells #[.int .i64 a0_0, .slice A0_1 l0_1.length c0_1, .slice (some ad292) l0_2.length c0_2] 25 (0, 0)) (by (with_reducible repeat (first | refine blk_drewN ?_ _ | refine blk_drew ?_ | refine blk_alloc ?_ _)); exact BK290.out)) : gb290 ≠ gb293)); have n6_ := Aside0.mk ((by rw [hg]; exact Nat.ne_of_gt (blk_lt (g := gb290) (o := .cells #[.int .i64 a0_0, .slice A0_1 l0_1.length c0_1, .slice (some ad292) l0_2.length c0_2] 25 (0, 0)) (by (with_reducible repeat (first | refine blk_drewN ?_ _ | refine blk_drew ?_ | refine blk_alloc ?_ _)); exact BK290.out)) : gb293 ≠ gb290)); clear BK290; clear HB; have BK290 := n0_; have HB := n1_; have BK293 := n2_; have GW293 := n3_; have GE293 := n4_; have NB290_293 := n5_; have NB293_290 := n6_; clear n0_ n1_ n2_ n3_ n4_ n5_ n6_; clear hb hbox hg; have hnb16 := NB293_290.out; have hnc16 := NB290_293.out; have hcz17_0 : w15.cell? ⟨gb293, 0, none⟩ = some (.int .i64 0) := (blk_cell BK293.out 0).trans rfl; have hcz17_1 : w15.cell? ⟨gb293, 1, none⟩ = some (.slice none 0 0) := (blk_cell BK293.out 1).trans rfl; have hfz17_0 := blk_frozen BK293.out 0; have hfz17_1 := blk_frozen BK293.out 1))
                  go_ret
                  exact ⟨by first | rfl | (simp [errW_none, errW_some] <;> rfl) | (simp [*, errW_none, errW_some] <;> rfl), by repeat (first | (with_reducible first | exact HB.out | apply below_alloc | apply pw_below_drewN | apply below_drew1 | refine below_set ?_ GE290.out | refine below_set ?_ GE293.out) | exact HB.out)⟩
                · rw [if_neg c13] at H
                  have c13b0 : decide (((rd_T32 l0_2 x3_2).f0) < 0) = false := decide_eq_false c13
                  clear c13
                  by_cases c18 : ((rd_T32 l0_2 x3_2).f0) ≥ a0_0
                  · rw [if_pos c18] at H
                    have c18b0 : decide (a0_0 ≤ ((rd_T32 l0_2 x3_2).f0)) = true := decide_eq_true c18
                    clear c18
                    obtain rfl := Option.some.inj H
                    have hcz19_0 : wr.cell? ⟨gb290, 0, none⟩ = some (.int .i64 a0_0) := (blk_cell BK290.out 0).trans rfl
                    have hcz19_1 : wr.cell? ⟨gb290, 1, none⟩ = some (.slice A0_1 l0_1.length c0_1) := (blk_cell BK290.out 1).trans rfl
                    have hcz19_2 : wr.cell? ⟨gb290, 2, none⟩ = some (.slice A0_2 l0_2.length c0_2) := (blk_cell BK290.out 2).trans rfl
                    have hfz19_0 := blk_frozen BK290.out 0
                    have hfz19_1 := blk_frozen BK290.out 1
                    have hfz19_2 := blk_frozen BK290.out 2
                    have p292 : 0 ≤ (x3_2 : Int) := of_decide_eq_true (by first | (with_reducible assumption) | assumption)
                    have q292 : x3_2 < (l0_2.length : Int) := of_decide_eq_true (by first | (with_reducible assumption) | assumption)
                    obtain ⟨ad292, A292_1, c292_1, e292, hx292_0, hx292_1, hl292_1, hi292_1⟩ := at_T32 HR0_2.out x3_2 p292 q292
                    cases e292
                    replace hx292_0 := (HB.out.cell (World.block_lt_of_cell? w _ hx292_0)).trans hx292_0
                    replace hx292_1 := (HB.out.cell (World.block_lt_of_cell? w _ hx292_1)).trans hx292_1
                    have HR292_1 := Aside0.mk hi292_1
                    have HC292_1 := Aside0.mk hl292_1
                    clear hi292_1 hl292_1
                    replace p292 := eq_true p292
                    replace q292 := eq_true q292
                    go_wp2_with (first | ((with_reducible refine gate_dst (N := 4) rfl ?_); (try (refine gate_guard (by rfl) ?_; dsimp only)); refine box_event ?hg (N := 4) ?hd (cs := #[.int .i64 0, .slice none 0 0]) (t := 32) ?hr ?_; (case hd => rfl); (case hg => rfl); (case hr => first | (go_simp; done) | (go_simp; rfl)); intro gb293 hg w20 hbox hb; have n0_ := Aside0.mk (blk_below (g := gb290) (o := .cells #[.int .i64 a0_0, .slice A0_1 l0_1.length c0_1, .slice (some ad292) l0_2.length c0_2] 25 (0, 0)) (by (with_reducible repeat (first | refine blk_drewN ?_ _ | refine blk_drew ?_ | refine blk_alloc ?_ _)); exact BK290.out) hb); have n1_ := Aside0.mk (below_step (by repeat (first | (with_reducible first | exact HB.out | apply below_alloc | apply pw_below_drewN | apply below_drew1 | refine below_set ?_ GE290.out) | exact HB.out)) hb); have n2_ := Aside0.mk (hbox); have n3_ := Aside0.mk ((by rw [hg]; exact (below_size (by repeat (first | (with_reducible first | exact HB.out | apply below_alloc | apply pw_below_drewN | apply below_drew1 | refine below_set ?_ GE290.out) | exact HB.out))) : w.heap.size ≤ gb293)); have n4_ := Aside0.mk ((by rw [hg]; exact (below_size (by repeat (first | (with_reducible first | exact HB.out | apply below_alloc | apply pw_below_drewN | apply below_drew1 | refine below_set ?_ GE290.out) | exact HB.out))) : w.heap.size ≤ gb293)); have n5_ := Aside0.mk ((by rw [hg]; exact Nat.ne_of_lt (blk_lt (g := gb290) (o := .cells #[.int .i64 a0_0, .slice A0_1 l0_1.length c0_1, .slice (some ad292) l0_2.length c0_2] 25 (0, 0)) (by (with_reducible repeat (first | refine blk_drewN ?_ _ | refine blk_drew ?_ | refine blk_alloc ?_ _)); exact BK290.out)) : gb290 ≠ gb293)); have n6_ := Aside0.mk ((by rw [hg]; exact Nat.ne_of_gt (blk_lt (g := gb290) (o := .cells #[.int .i64 a0_0, .slice A0_1 l0_1.length c0_1, .slice (some ad292) l0_2.length c0_2] 25 (0, 0)) (by (with_reducible repeat (first | refine blk_drewN ?_ _ | refine blk_drew ?_ | refine blk_alloc ?_ _)); exact BK290.out)) : gb293 ≠ gb290)); clear BK290; clear HB; have BK290 := n0_; have HB := n1_; have BK293 := n2_; have GW293 := n3_; have GE293 := n4_; have NB290_293 := n5_; have NB293_290 := n6_; clear n0_ n1_ n2_ n3_ n4_ n5_ n6_; clear hb hbox hg; have hnb21 := NB293_290.out; have hnc21 := NB290_293.out; have hcz22_0 : w20.cell? ⟨gb293, 0, none⟩ = some (.int .i64 0) := (blk_cell BK293.out 0).trans rfl; have hcz22_1 : w20.cell? ⟨gb293, 1, none⟩ = some (.slice none 0 0) := (blk_cell BK293.out 1).trans rfl; have hfz22_0 := blk_frozen BK293.out 0; have hfz22_1 := blk_frozen BK293.out 1; have hcz23_0 : w20.cell? ⟨gb290, 0, none⟩ = some (.int .i64 a0_0) := (blk_cell BK290.out 0).trans rfl; have hcz23_1 : w20.cell? ⟨gb290, 1, none⟩ = some (.slice A0_1 l0_1.length c0_1) := (blk_cell BK290.out 1).trans rfl; have hcz23_2 : w20.cell? ⟨gb290, 2, none⟩ = some (.slice (some ad292) l0_2.length c0_2) := (blk_cell BK290.out 2).trans rfl; have hfz23_0 := blk_frozen BK290.out 0; have hfz23_1 := blk_frozen BK290.out 1; have hfz23_2 := blk_frozen BK290.out 2))
                    go_ret
                    exact ⟨by first | rfl | (simp [errW_none, errW_some] <;> rfl) | (simp [*, errW_none, errW_some] <;> rfl), by repeat (first | (with_reducible first | exact HB.out | apply below_alloc | apply pw_below_drewN | apply below_drew1 | refine below_set ?_ GE290.out | refine below_set ?_ GE293.out) | exact HB.out)⟩
                  · rw [if_neg c18] at H
                    have c18b0 : decide (a0_0 ≤ ((rd_T32 l0_2 x3_2).f0)) = false := decide_eq_false c18
                    clear c18
                    by_cases c24 : (((rd_T32 l0_2 x3_2).f1).length : Int) = 128
                    · rw [if_pos c24] at H
                      have c24b0 : ((((rd_T32 l0_2 x3_2).f1).length : Int) == 128) = true := beq_iff_eq.mpr c24
                      have c24b1 : ((((rd_T32 l0_2 x3_2).f1).length : Int) != 128) = false := bne_eq_false_iff_eq.mpr c24
                      clear c24
                      have H' := Aside0.mk H
                      clear H
                      have hcz25_0 : wr.cell? ⟨gb290, 0, none⟩ = some (.int .i64 a0_0) := (blk_cell BK290.out 0).trans rfl
                      have hcz25_1 : wr.cell? ⟨gb290, 1, none⟩ = some (.slice A0_1 l0_1.length c0_1) := (blk_cell BK290.out 1).trans rfl
                      have hcz25_2 : wr.cell? ⟨gb290, 2, none⟩ = some (.slice A0_2 l0_2.length c0_2) := (blk_cell BK290.out 2).trans rfl
                      have hfz25_0 := blk_frozen BK290.out 0
                      have hfz25_1 := blk_frozen BK290.out 1
                      have hfz25_2 := blk_frozen BK290.out 2
                      have p292 : 0 ≤ (x3_2 : Int) := of_decide_eq_true (by first | (with_reducible assumption) | assumption)
                      have q292 : x3_2 < (l0_2.length : Int) := of_decide_eq_true (by first | (with_reducible assumption) | assumption)
                      obtain ⟨ad292, A292_1, c292_1, e292, hx292_0, hx292_1, hl292_1, hi292_1⟩ := at_T32 HR0_2.out x3_2 p292 q292
                      cases e292
                      replace hx292_0 := (HB.out.cell (World.block_lt_of_cell? w _ hx292_0)).trans hx292_0
                      replace hx292_1 := (HB.out.cell (World.block_lt_of_cell? w _ hx292_1)).trans hx292_1
                      have HR292_1 := Aside0.mk hi292_1
                      have HC292_1 := Aside0.mk hl292_1
                      clear hi292_1 hl292_1
                      replace p292 := eq_true p292
                      replace q292 := eq_true q292
                      go_wp2_with (first | ((with_reducible refine gate_dst (N := 4) rfl ?_); (try (refine gate_guard (by rfl) ?_; dsimp only)); refine box_event ?hg (N := 4) ?hd (cs := #[.int .i64 0, .slice none 0 0]) (t := 32) ?hr ?_; (case hd => rfl); (case hg => rfl); (case hr => first | (go_simp; done) | (go_simp; rfl)); intro gb293 hg w26 hbox hb; have n0_ := Aside0.mk (blk_below (g := gb290) (o := .cells #[.int .i64 a0_0, .slice A0_1 l0_1.length c0_1, .slice (some ad292) l0_2.length c0_2] 25 (0, 0)) (by (with_reducible repeat (first | refine blk_drewN ?_ _ | refine blk_drew ?_ | refine blk_alloc ?_ _)); exact BK290.out) hb); have n1_ := Aside0.mk (below_step (by repeat (first | (with_reducible first | exact HB.out | apply below_alloc | apply pw_below_drewN | apply below_drew1 | refine below_set ?_ GE290.out) | exact HB.out)) hb); have n2_ := Aside0.mk (hbox); have n3_ := Aside0.mk ((by rw [hg]; exact (below_size (by repeat (first | (with_reducible first | exact HB.out | apply below_alloc | apply pw_below_drewN | apply below_drew1 | refine below_set ?_ GE290.out) | exact HB.out))) : w.heap.size ≤ gb293)); have n4_ := Aside0.mk ((by rw [hg]; exact (below_size (by repeat (first | (with_reducible first | exact HB.out | apply below_alloc | apply pw_below_drewN | apply below_drew1 | refine below_set ?_ GE290.out) | exact HB.out))) : w.heap.size ≤ gb293)); have n5_ := Aside0.mk ((by rw [hg]; exact Nat.ne_of_lt (blk_lt (g := gb290) (o := .cells #[.int .i64 a0_0, .slice A0_1 l0_1.length c0_1, .slice (some ad292) l0_2.length c0_2] 25 (0, 0)) (by (with_reducible repeat (first | refine blk_drewN ?_ _ | refine blk_drew ?_ | refine blk_alloc ?_ _)); exact BK290.out)) : gb290 ≠ gb293)); have n6_ := Aside0.mk ((by rw [hg]; exact Nat.ne_of_gt (blk_lt (g := gb290) (o := .cells #[.int .i64 a0_0, .slice A0_1 l0_1.length c0_1, .slice (some ad292) l0_2.length c0_2] 25 (0, 0)) (by (with_reducible repeat (first | refine blk_drewN ?_ _ | refine blk_drew ?_ | refine blk_alloc ?_ _)); exact BK290.out)) : gb293 ≠ gb290)); clear BK290; clear HB; have BK290 := n0_; have HB := n1_; have BK293 := n2_; have GW293 := n3_; have GE293 := n4_; have NB290_293 := n5_; have NB293_290 := n6_; clear n0_ n1_ n2_ n3_ n4_ n5_ n6_; clear hb hbox hg; have hnb27 := NB293_290.out; have hnc27 := NB290_293.out; have hcz28_0 : w26.cell? ⟨gb293, 0, none⟩ = some (.int .i64 0) := (blk_cell BK293.out 0).trans rfl; have hcz28_1 : w26.cell? ⟨gb293, 1, none⟩ = some (.slice none 0 0) := (blk_cell BK293.out 1).trans rfl; have hfz28_0 := blk_frozen BK293.out 0; have hfz28_1 := blk_frozen BK293.out 1; have hcz29_0 : w26.cell? ⟨gb290, 0, none⟩ = some (.int .i64 a0_0) := (blk_cell BK290.out 0).trans rfl; have hcz29_1 : w26.cell? ⟨gb290, 1, none⟩ = some (.slice A0_1 l0_1.length c0_1) := (blk_cell BK290.out 1).trans rfl; have hcz29_2 : w26.cell? ⟨gb290, 2, none⟩ = some (.slice (some ad292) l0_2.length c0_2) := (blk_cell BK290.out 2).trans rfl; have hfz29_0 := blk_frozen BK290.out 0; have hfz29_1 := blk_frozen BK290.out 1; have hfz29_2 := blk_frozen BK290.out 2))
                      go_roundg k2
                      case measure => have := HJ1.out; have := HK2.out; omega
                      case rel => exact ⟨(wrap64 (x3_2 + 1)), (by first | rfl | (simp; done) | (simp [*]; done)), H', ⟨by have := HJ1.out; have := HK2.out; omega⟩, ⟨by (with_reducible repeat (first | refine blk_drewN ?_ _ | refine blk_drew ?_ | refine blk_alloc ?_ _)); refine blk_far ?_ NB290_293.out _; (with_reducible repeat (first | refine blk_drewN ?_ _ | refine blk_drew ?_ | refine blk_alloc ?_ _)); refine blk_far ?_ NB290_293.out _; (with_reducible repeat (first | refine blk_drewN ?_ _ | refine blk_drew ?_ | refine blk_alloc ?_ _)); exact BK290.out⟩, ⟨by repeat (first | (with_reducible first | exact HB.out | apply below_alloc | apply pw_below_drewN | apply below_drew1 | refine below_set ?_ GE290.out | refine below_set ?_ GE293.out) | exact HB.out)⟩⟩
                    · rw [if_neg c24] at H
                      have c24b0 : ((((rd_T32 l0_2 x3_2).f1).length : Int) == 128) = false := beq_eq_false_iff_ne.mpr c24
                      have c24b1 : ((((rd_T32 l0_2 x3_2).f1).length : Int) != 128) = true := bne_iff_ne.mpr c24
                      obtain rfl := Option.some.inj H
                      have hcz30_0 : wr.cell? ⟨gb290, 0, none⟩ = some (.int .i64 a0_0) := (blk_cell BK290.out 0).trans rfl
                      have hcz30_1 : wr.cell? ⟨gb290, 1, none⟩ = some (.slice A0_1 l0_1.length c0_1) := (blk_cell BK290.out 1).trans rfl
                      have hcz30_2 : wr.cell? ⟨gb290, 2, none⟩ = some (.slice A0_2 l0_2.length c0_2) := (blk_cell BK290.out 2).trans rfl
                      have hfz30_0 := blk_frozen BK290.out 0
                      have hfz30_1 := blk_frozen BK290.out 1
                      have hfz30_2 := blk_frozen BK290.out 2
                      have p292 : 0 ≤ (x3_2 : Int) := of_decide_eq_true (by first | (with_reducible assumption) | assumption)
                      have q292 : x3_2 < (l0_2.length : Int) := of_decide_eq_true (by first | (with_reducible assumption) | assumption)
                      obtain ⟨ad292, A292_1, c292_1, e292, hx292_0, hx292_1, hl292_1, hi292_1⟩ := at_T32 HR0_2.out x3_2 p292 q292
                      cases e292
                      replace hx292_0 := (HB.out.cell (World.block_lt_of_cell? w _ hx292_0)).trans hx292_0
                      replace hx292_1 := (HB.out.cell (World.block_lt_of_cell? w _ hx292_1)).trans hx292_1
                      have HR292_1 := Aside0.mk hi292_1
                      have HC292_1 := Aside0.mk hl292_1
                      clear hi292_1 hl292_1
                      replace p292 := eq_true p292
                      replace q292 := eq_true q292
                      go_wp2_with (first | ((with_reducible refine gate_dst (N := 4) rfl ?_); (try (refine gate_guard (by rfl) ?_; dsimp only)); refine box_event ?hg (N := 4) ?hd (cs := #[.int .i64 0, .slice none 0 0]) (t := 32) ?hr ?_; (case hd => rfl); (case hg => rfl); (case hr => first | (go_simp; done) | (go_simp; rfl)); intro gb293 hg w31 hbox hb; have n0_ := Aside0.mk (blk_below (g := gb290) (o := .cells #[.int .i64 a0_0, .slice A0_1 l0_1.length c0_1, .slice (some ad292) l0_2.length c0_2] 25 (0, 0)) (by (with_reducible repeat (first | refine blk_drewN ?_ _ | refine blk_drew ?_ | refine blk_alloc ?_ _)); exact BK290.out) hb); have n1_ := Aside0.mk (below_step (by repeat (first | (with_reducible first | exact HB.out | apply below_alloc | apply pw_below_drewN | apply below_drew1 | refine below_set ?_ GE290.out) | exact HB.out)) hb); have n2_ := Aside0.mk (hbox); have n3_ := Aside0.mk ((by rw [hg]; exact (below_size (by repeat (first | (with_reducible first | exact HB.out | apply below_alloc | apply pw_below_drewN | apply below_drew1 | refine below_set ?_ GE290.out) | exact HB.out))) : w.heap.size ≤ gb293)); have n4_ := Aside0.mk ((by rw [hg]; exact (below_size (by repeat (first | (with_reducible first | exact HB.out | apply below_alloc | apply pw_below_drewN | apply below_drew1 | refine below_set ?_ GE290.out) | exact HB.out))) : w.heap.size ≤ gb293)); have n5_ := Aside0.mk ((by rw [hg]; exact Nat.ne_of_lt (blk_lt (g := gb290) (o := .cells #[.int .i64 a0_0, .slice A0_1 l0_1.length c0_1, .slice (some ad292) l0_2.length c0_2] 25 (0, 0)) (by (with_reducible repeat (first | refine blk_drewN ?_ _ | refine blk_drew ?_ | refine blk_alloc ?_ _)); exact BK290.out)) : gb290 ≠ gb293)); have n6_ := Aside0.mk ((by rw [hg]; exact Nat.ne_of_gt (blk_lt (g := gb290) (o := .cells #[.int .i64 a0_0, .slice A0_1 l0_1.length c0_1, .slice (some ad292) l0_2.length c0_2] 25 (0, 0)) (by (with_reducible repeat (first | refine blk_drewN ?_ _ | refine blk_drew ?_ | refine blk_alloc ?_ _)); exact BK290.out)) : gb293 ≠ gb290)); clear BK290; clear HB; have BK290 := n0_; have HB := n1_; have BK293 := n2_; have GW293 := n3_; have GE293 := n4_; have NB290_293 := n5_; have NB293_290 := n6_; clear n0_ n1_ n2_ n3_ n4_ n5_ n6_; clear hb hbox hg; have hnb32 := NB293_290.out; have hnc32 := NB290_293.out; have hcz33_0 : w31.cell? ⟨gb293, 0, none⟩ = some (.int .i64 0) := (blk_cell BK293.out 0).trans rfl; have hcz33_1 : w31.cell? ⟨gb293, 1, none⟩ = some (.slice none 0 0) := (blk_cell BK293.out 1).trans rfl; have hfz33_0 := blk_frozen BK293.out 0; have hfz33_1 := blk_frozen BK293.out 1; have hcz34_0 : w31.cell? ⟨gb290, 0, none⟩ = some (.int .i64 a0_0) := (blk_cell BK290.out 0).trans rfl; have hcz34_1 : w31.cell? ⟨gb290, 1, none⟩ = some (.slice A0_1 l0_1.length c0_1) := (blk_cell BK290.out 1).trans rfl; have hcz34_2 : w31.cell? ⟨gb290, 2, none⟩ = some (.slice (some ad292) l0_2.length c0_2) := (blk_cell BK290.out 2).trans rfl; have hfz34_0 := blk_frozen BK290.out 0; have hfz34_1 := blk_frozen BK290.out 1; have hfz34_2 := blk_frozen BK290.out 2))
                      go_ret
                      exact ⟨by first | rfl | (simp [errW_none, errW_some] <;> rfl) | (simp [*, errW_none, errW_some] <;> rfl), by repeat (first | (with_reducible first | exact HB.out | apply below_alloc | apply pw_below_drewN | apply below_drew1 | refine below_set ?_ GE290.out | refine below_set ?_ GE293.out) | exact HB.out)⟩
              · rw [if_neg c12] at H
                exact absurd H (by simp)
            · rw [if_neg c11] at H
              have c11b0 : decide (x3_2 < (l0_2.length : Int)) = false := decide_eq_false c11
              clear c11
              obtain rfl := Option.some.inj H
              have hcz35_0 : wr.cell? ⟨gb290, 0, none⟩ = some (.int .i64 a0_0) := (blk_cell BK290.out 0).trans rfl
              have hcz35_1 : wr.cell? ⟨gb290, 1, none⟩ = some (.slice A0_1 l0_1.length c0_1) := (blk_cell BK290.out 1).trans rfl
              have hcz35_2 : wr.cell? ⟨gb290, 2, none⟩ = some (.slice A0_2 l0_2.length c0_2) := (blk_cell BK290.out 2).trans rfl
              have hfz35_0 := blk_frozen BK290.out 0
              have hfz35_1 := blk_frozen BK290.out 1
              have hfz35_2 := blk_frozen BK290.out 2
              go_wp2
              go_ret
              exact ⟨by first | rfl | (simp [errW_none, errW_some] <;> rfl) | (simp [*, errW_none, errW_some] <;> rfl), by repeat (first | (with_reducible first | exact HB.out | apply below_alloc | apply pw_below_drewN | apply below_drew1 | refine below_set ?_ GE290.out) | exact HB.out)⟩

end Go.Proofs.Ytnkgclcmjojeiaa.PFnDeviceReads
