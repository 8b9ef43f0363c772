-- Written by a program of this session (after the kit's print) out of the translation. Nothing here is trusted: Lean checks it.
import Derived.Test.YtnkgclcmjojeiaaVPFnDeviceReadsx0
import Derived.Test.YtnkgclcmjojeiaaVPFnDeviceReadsx7
namespace Go.Proofs.Ytnkgclcmjojeiaa.PFnDeviceReads
open Go.RowKit Go.Proofs.YtnkgclcmjojeiaaW.PrintWords Go.Proofs.YtnkgclcmjojeiaaW.PrintLast Go.Proofs.YtnkgclcmjojeiaaW.PrintMore
attribute [local go_sem] max2_int min2_int max_two min_two max_three min_three max_four min_four   -- for this text's walks alone
set_option linter.unusedVariables false
set_option linter.unusedSimpArgs false

/-! ### impl_DevRead: function 10 -/
mutual
def impl_DevRead.j0 : Nat → Int → Bool → Int → List Int → List (S32) → Option (List Int × Int)
  | 0, _, _, _, _, _ => none
  | k + 1, x1, x17, x350000, x350001, x350002 => if x17 = true then (some (([] : List Int), 2)) else (impl_DevRead.l0 k x1 (wrap64 ((x350002.length : Int) - 1)) x350000 x350001 x350002)
def impl_DevRead.l0 : Nat → Int → Int → Int → List Int → List (S32) → Option (List Int × Int)
  | 0, _, _, _, _, _ => none
  | k + 1, x1, x6, x350000, x350001, x350002 => if x6 ≥ 0 then (if 0 ≤ x6 then (if x6 < (x350002.length : Int) then (if ((rd_T32 x350002 x6).f0) = x1 then (if ([] : List Int).length + ((rd_T32 x350002 x6).f1).length < 140737488355328 then (some ((([] : List Int) ++ ((rd_T32 x350002 x6).f1)), 0)) else (none)) else (impl_DevRead.l0 k x1 (wrap64 (x6 - 1)) x350000 x350001 x350002)) else (none)) else (none)) else (if 0 ≤ (wrap64 (x1 * 128)) then (if (wrap64 (x1 * 128)) ≤ (wrap64 ((wrap64 (x1 + 1)) * 128)) then (if (wrap64 ((wrap64 (x1 + 1)) * 128)) ≤ (x350001.length : Int) then (if ([] : List Int).length + ((x350001.take ((wrap64 ((wrap64 (x1 + 1)) * 128)) : Int).toNat).drop ((wrap64 (x1 * 128)) : Int).toNat).length < 140737488355328 then (some ((([] : List Int) ++ ((x350001.take ((wrap64 ((wrap64 (x1 + 1)) * 128)) : Int).toNat).drop ((wrap64 (x1 * 128)) : Int).toNat)), 0)) else (none)) else (none)) else (none)) else (none))
end
def impl_DevRead.f (k : Nat) (a0_0 : Int) (l0_1 : List Int) (l0_2 : List (S32)) (a1 : Int) : Option (List Int × Int) := (impl_validDevice.f k a0_0 l0_1 l0_2).bind fun t350 => (if t350 = true then (if a1 < 0 then (impl_DevRead.j0 k a1 true a0_0 l0_1 l0_2) else (impl_DevRead.j0 k a1 (decide (a1 ≥ a0_0)) a0_0 l0_1 l0_2)) else (some (([] : List Int), 1)))
theorem impl_DevRead.mono_l : ∀ k, (∀ y0 y1 y2 y3 y4, LeO (impl_DevRead.j0 k y0 y1 y2 y3 y4) (impl_DevRead.j0 (k + 1) y0 y1 y2 y3 y4)) ∧ (∀ y0 y1 y2 y3 y4, LeO (impl_DevRead.l0 k y0 y1 y2 y3 y4) (impl_DevRead.l0 (k + 1) y0 y1 y2 y3 y4))
  | 0 => ⟨fun _ _ _ _ _ r h => by simp [impl_DevRead.j0] at h, fun _ _ _ _ _ r h => by simp [impl_DevRead.l0] at h⟩
  | k + 1 => by
    obtain ⟨ih0, ih1⟩ := impl_DevRead.mono_l k
    refine ⟨?_, ?_⟩
    · intro y0 y1 y2 y3 y4
      unfold impl_DevRead.j0
      repeat' first
      | (with_reducible exact ih0 _ _ _ _ _)
      | (with_reducible exact ih1 _ _ _ _ _)
      | (with_reducible exact impl_validDevice.mono _ _ _ _)
      | (with_reducible exact LeO.refl _)
      | (with_reducible exact LeO.none _)
      | (with_reducible refine LeO.ite ?_ ?_)
      | (with_reducible refine LeO.bind ?_ (fun _ => ?_))
      | exact ih0 _ _ _ _ _
      | exact ih1 _ _ _ _ _
      | exact impl_validDevice.mono _ _ _ _
      | exact LeO.none _
      | refine LeO.ite ?_ ?_
      | refine LeO.bind ?_ (fun _ => ?_)
    · intro y0 y1 y2 y3 y4
      unfold impl_DevRead.l0
      repeat' first
      | (with_reducible exact ih0 _ _ _ _ _)
      | (with_reducible exact ih1 _ _ _ _ _)
      | (with_reducible exact impl_validDevice.mono _ _ _ _)
      | (with_reducible exact LeO.refl _)
      | (with_reducible exact LeO.none _)
      | (with_reducible refine LeO.ite ?_ ?_)
      | (with_reducible refine LeO.bind ?_ (fun _ => ?_))
      | exact ih0 _ _ _ _ _
      | exact ih1 _ _ _ _ _
      | exact impl_validDevice.mono _ _ _ _
      | exact LeO.none _
      | refine LeO.ite ?_ ?_
      | refine LeO.bind ?_ (fun _ => ?_)
theorem impl_DevRead.mono : ∀ a0 a1 a2 a3 k, LeO (impl_DevRead.f k a0 a1 a2 a3) (impl_DevRead.f (k + 1) a0 a1 a2 a3) := by
  intro a0 a1 a2 a3 k
  obtain ⟨ih0, ih1⟩ := impl_DevRead.mono_l k
  unfold impl_DevRead.f
  repeat' first
      | (with_reducible exact ih0 _ _ _ _ _)
      | (with_reducible exact ih1 _ _ _ _ _)
      | (with_reducible exact impl_validDevice.mono _ _ _ _)
      | (with_reducible exact LeO.refl _)
      | (with_reducible exact LeO.none _)
      | (with_reducible refine LeO.ite ?_ ?_)
      | (with_reducible refine LeO.bind ?_ (fun _ => ?_))
      | exact ih0 _ _ _ _ _
      | exact ih1 _ _ _ _ _
      | exact impl_validDevice.mono _ _ _ _
      | exact LeO.none _
      | refine LeO.ite ?_ ?_
      | refine LeO.bind ?_ (fun _ => ?_)
set_option maxHeartbeats 8000000 in
set_option maxRecDepth 100000 in
theorem impl_DevRead.calls (k : Nat) (a0_0 : Int) (A0_1 : Option Addr) (c0_1 : Nat) (l0_1 : List Int) (A0_2 : Option Addr) (c0_2 : Nat) (l0_2 : List (S32)) (a1 : Int) (r1 : List Int) (r2 : Int) (w : World) (hr0_1 : Kd.C (Kd.int .u8) w A0_1 l0_1.length l0_1) (hc0_1 : l0_1.length ≤ c0_1) (hr0_2 : Kd.C k32 w A0_2 l0_2.length l0_2) (hc0_2 : l0_2.length ≤ c0_2) (h : impl_DevRead.f k a0_0 l0_1 l0_2 a1 = some (r1, r2)) :
    Calls Try.prog 10 #[.agg #[.int .i64 a0_0, .slice A0_1 l0_1.length c0_1, .slice A0_2 l0_2.length c0_2], .int .i64 a1] w fun e w' => ∃ v0_ : Value, e = .returned (.tuple #[v0_, .int .i64 r2]) ∧ Kd.R (Kd.int .u8) 5 w' w.heap.size (fun _ => True) v0_ r1 ∧ Below w.heap.size w w' := by
  have hu25 := Try.underlying25
  have HR0_1 := Aside0.mk hr0_1
  have HC0_1 := Aside0.mk hc0_1
  clear hr0_1 hc0_1
  have HR0_2 := Aside0.mk hr0_2
  have HC0_2 := Aside0.mk hc0_2
  clear hr0_2 hc0_2
  have HB := Aside0.mk (Below.refl w.heap.size w)
  have H : ((impl_validDevice.f k a0_0 l0_1 l0_2).bind fun t350 => (if t350 = true then (if a1 < 0 then (impl_DevRead.j0 k a1 true a0_0 l0_1 l0_2) else (impl_DevRead.j0 k a1 (decide (a1 ≥ a0_0)) a0_0 l0_1 l0_2)) else (some (([] : List Int), 1)))) = some (r1, r2) := h
  clear h
  replace H := Option.bind_eq_some_iff.mp H
  obtain ⟨t350, A30, H⟩ := H
  replace H : (if t350 = true then (if a1 < 0 then (impl_DevRead.j0 k a1 true a0_0 l0_1 l0_2) else (impl_DevRead.j0 k a1 (decide (a1 ≥ a0_0)) a0_0 l0_1 l0_2)) else (some (([] : List Int), 1))) = some (r1, r2) := H
  have A3 := Aside0.mk A30
  clear A30
  by_cases c4 : t350 = true
  · subst c4
    have H1 : (if a1 < 0 then (impl_DevRead.j0 k a1 true a0_0 l0_1 l0_2) else (impl_DevRead.j0 k a1 (decide (a1 ≥ a0_0)) a0_0 l0_1 l0_2)) = some (r1, r2) := by rw [if_pos rfl] at H; exact H
    clear H
    have H := H1
    clear H1
    have HC5 := Aside0.mk H
    clear H
    go_enter Try.func10, Try.ntmps10
    go_upto_region 3 with (first | ((with_reducible refine gate_dst (N := 2) rfl ?_); refine box_event ?hg (N := 2) ?hd (cs := #[.int .i64 a0_0, .slice A0_1 l0_1.length c0_1, .slice A0_2 l0_2.length c0_2]) (t := 25) ?hr ?_; (case hd => rfl); (case hg => rfl); (case hr => first | (go_simp; done) | (go_simp; rfl)); intro gb349 hg w6 hbox hb; have n0_ := Aside0.mk (below_step (by repeat (first | (with_reducible first | exact HB.out | apply below_alloc | apply pw_below_drewN | apply below_drew1) | exact HB.out)) hb); have n1_ := Aside0.mk (hbox); have n2_ := Aside0.mk ((by rw [hg]; exact (below_size (by repeat (first | (with_reducible first | exact HB.out | apply below_alloc | apply pw_below_drewN | apply below_drew1) | exact HB.out))) : w.heap.size ≤ gb349)); have n3_ := Aside0.mk ((by rw [hg]; exact (below_size (by repeat (first | (with_reducible first | exact HB.out | apply below_alloc | apply pw_below_drewN | apply below_drew1) | exact HB.out))) : w.heap.size ≤ gb349)); clear HB; have HB := n0_; have BK349 := n1_; have GW349 := n2_; have GE349 := n3_; clear n0_ n1_ n2_ n3_; clear hb hbox hg; have hcz7_0 : w6.cell? ⟨gb349, 0, none⟩ = some (.int .i64 a0_0) := (blk_cell BK349.out 0).trans rfl; have hcz7_1 : w6.cell? ⟨gb349, 1, none⟩ = some (.slice A0_1 l0_1.length c0_1) := (blk_cell BK349.out 1).trans rfl; have hcz7_2 : w6.cell? ⟨gb349, 2, none⟩ = some (.slice A0_2 l0_2.length c0_2) := (blk_cell BK349.out 2).trans rfl; have hfz7_0 := blk_frozen BK349.out 0; have hfz7_1 := blk_frozen BK349.out 1; have hfz7_2 := blk_frozen BK349.out 2) | ((with_reducible refine gate_callee (f := 20) rfl ?_); refine goesL_ (some 8) rfl rfl Try.func20 (by kernel_rfl) rfl #[.agg #[.int .i64 a0_0, .slice A0_1 l0_1.length c0_1, .slice A0_2 l0_2.length c0_2]] rfl (by (try simp only [List.map_toArray, List.map_cons, List.map_nil]); first | done | rfl | (simp only [List.length_drop, List.length_take]; rfl)) ?_; (with_reducible refine (impl_validDevice.calls k a0_0 _ _ l0_1 _ _ l0_2 true _ ?side1 ?side2 ?side3 ?side4 A3.out).mono ?_); (case side1 => repeat (first | exact (Kd.C_below HR0_1.out HB.out) | (with_reducible refine Kd.C_alloc ?_ _) | (with_reducible refine Kd.C_drewN ?_ _) | (with_reducible refine Kd.C_drew ?_))); (case side2 => exact HC0_1.out); (case side3 => repeat (first | exact (Kd.C_below HR0_2.out HB.out) | (with_reducible refine Kd.C_alloc ?_ _) | (with_reducible refine Kd.C_drewN ?_ _) | (with_reducible refine Kd.C_drew ?_))); (case side4 => exact HC0_2.out); rintro e w8 ⟨rfl, hb⟩; refine ⟨_, rfl, ?_⟩; have n0_ := Aside0.mk (blk_below (g := gb349) (o := .cells #[.int .i64 a0_0, .slice A0_1 l0_1.length c0_1, .slice A0_2 l0_2.length c0_2] 25 (0, 0)) (by (with_reducible repeat (first | refine blk_drewN ?_ _ | refine blk_drew ?_ | refine blk_alloc ?_ _)); exact BK349.out) hb); have n1_ := Aside0.mk (below_step (by repeat (first | (with_reducible first | exact HB.out | apply below_alloc | apply pw_below_drewN | apply below_drew1 | refine below_set ?_ GE349.out) | exact HB.out)) hb); clear BK349; clear HB; have BK349 := n0_; have HB := n1_; clear n0_ n1_; (try clear hb); (try clear hb2); (try clear hk); (try clear hi)))
    (try simp only [Act.put, List.setIfInBounds_toArray, List.set_cons_zero, List.set_cons_succ])
    go_cut [17] (fun v17 wc => ∃ (kq : Nat) (x17_4 : Bool), v17 = .bool x17_4 ∧ Aside0 (impl_DevRead.j0 kq a1 x17_4 a0_0 l0_1 l0_2 = some (r1, r2)) ∧ Aside0 (kq ≤ k) ∧ Aside0 (wc.heap[gb349]? = some (.cells #[.int .i64 a0_0, (.slice A0_1 l0_1.length c0_1), (.slice A0_2 l0_2.length c0_2)] 25 (0, 0))) ∧ Aside0 (Below w.heap.size w wc))
    case first =>
      have H := HC5.out
      clear HC5
      by_cases c9 : a1 < 0
      · rw [if_pos c9] at H
        have c9b0 : decide (a1 < 0) = true := decide_eq_true c9
        clear c9
        (first | rw [c9b0] | (simp only [i64_w, i32_w]; rw [c9b0]) | skip)
        have H' := Aside0.mk H
        clear H
        go_wp2
        go_meet
        case rel => exact ⟨_, (true), (by first | rfl | (simp; done) | (simp [*]; done)), H', ⟨by first | omega | exact Nat.le_refl _⟩, ⟨by (with_reducible repeat (first | refine blk_drewN ?_ _ | refine blk_drew ?_ | refine blk_alloc ?_ _)); exact BK349.out⟩, ⟨by repeat (first | (with_reducible first | exact HB.out | apply below_alloc | apply pw_below_drewN | apply below_drew1 | refine below_set ?_ GE349.out) | exact HB.out)⟩⟩
      · rw [if_neg c9] at H
        have c9b0 : decide (a1 < 0) = false := decide_eq_false c9
        clear c9
        (first | rw [c9b0] | (simp only [i64_w, i32_w]; rw [c9b0]) | skip)
        have H' := Aside0.mk H
        clear H
        have hcz10_0 : w8.cell? ⟨gb349, 0, none⟩ = some (.int .i64 a0_0) := (blk_cell BK349.out 0).trans rfl
        have hcz10_1 : w8.cell? ⟨gb349, 1, none⟩ = some (.slice A0_1 l0_1.length c0_1) := (blk_cell BK349.out 1).trans rfl
        have hcz10_2 : w8.cell? ⟨gb349, 2, none⟩ = some (.slice A0_2 l0_2.length c0_2) := (blk_cell BK349.out 2).trans rfl
        have hfz10_0 := blk_frozen BK349.out 0
        have hfz10_1 := blk_frozen BK349.out 1
        have hfz10_2 := blk_frozen BK349.out 2
        go_wp2
        go_meet
        case rel => exact ⟨_, (decide (a1 ≥ a0_0)), (by first | rfl | (simp; done) | (simp [*]; done)), H', ⟨by first | omega | exact Nat.le_refl _⟩, ⟨by (with_reducible repeat (first | refine blk_drewN ?_ _ | refine blk_drew ?_ | refine blk_alloc ?_ _)); exact BK349.out⟩, ⟨by repeat (first | (with_reducible first | exact HB.out | apply below_alloc | apply pw_below_drewN | apply below_drew1 | refine below_set ?_ GE349.out) | exact HB.out)⟩⟩
    case rest =>
      clear HC5
      try clear c1
      try clear c2
      try clear p2
      try clear c4
      try clear c9
      try clear c9b0
      try clear c10
      try clear hcz10_0
      try clear hcz10_1
      try clear hcz10_2
      try clear hcz7_0
      try clear hcz7_1
      try clear hcz7_2
      try clear hfz10_0
      try clear hfz10_1
      try clear hfz10_2
      try clear hfz7_0
      try clear hfz7_1
      try clear hfz7_2
      obtain ⟨kq, x17_4, rfl, HA, HJ4, BK349, HB⟩ := hcut
      cases kq with
      | zero => exact absurd HA.out (by simp [impl_DevRead.j0])
      | succ kj4 =>
        have H := HA.out
        clear HA
        simp only [impl_DevRead.j0] at H
        by_cases c11 : x17_4 = true
        · subst c11
          have H1 : (some (([] : List Int), 2)) = some (r1, r2) := by rw [if_pos rfl] at H; exact H
          clear H
          have H := H1
          clear H1
          simp only [Option.some.injEq, Prod.mk.injEq] at H
          obtain ⟨rfl, rfl⟩ := H
          go_wp2
          go_ret2
          exact ⟨_, by first | rfl | (simp [errW_none, errW_some] <;> rfl) | (simp [*, errW_none, errW_some] <;> rfl), by first | exact Kd.R_nil _ _ _ _ _ | exact Kd.N_nil _ _ _ _ _ | exact Kd.V_nil _ _ _ _ _ | exact Kd.Q_nil _ _ _ _ _ | exact Kd.S_nil _ _ _ _ _, by repeat (first | (with_reducible first | exact HB.out | apply below_alloc | apply pw_below_drewN | apply below_drew1 | refine below_set ?_ GE349.out) | exact HB.out)⟩
        · replace c11 := Bool.eq_false_iff.mpr c11
          subst c11
          have H1 : (impl_DevRead.l0 kj4 a1 (wrap64 ((l0_2.length : Int) - 1)) a0_0 l0_1 l0_2) = some (r1, r2) := by rw [if_neg (show ¬ (false = true) by decide)] at H; exact H
          clear H
          have H := H1
          clear H1
          have H' := Aside0.mk H
          clear H
          have hcz12_0 : wc.cell? ⟨gb349, 0, none⟩ = some (.int .i64 a0_0) := (blk_cell BK349.out 0).trans rfl
          have hcz12_1 : wc.cell? ⟨gb349, 1, none⟩ = some (.slice A0_1 l0_1.length c0_1) := (blk_cell BK349.out 1).trans rfl
          have hcz12_2 : wc.cell? ⟨gb349, 2, none⟩ = some (.slice A0_2 l0_2.length c0_2) := (blk_cell BK349.out 2).trans rfl
          have hfz12_0 := blk_frozen BK349.out 0
          have hfz12_1 := blk_frozen BK349.out 1
          have hfz12_2 := blk_frozen BK349.out 2
          go_wp2
          go_loopg [6] kj4 (fun kq v6 w' => ∃ (x6_2 : Int), v6 = .int .i64 x6_2 ∧ Aside0 (impl_DevRead.l0 kq a1 x6_2 a0_0 l0_1 l0_2 = some (r1, r2)) ∧ Aside0 (kq ≤ kj4) ∧ Aside0 (w'.heap[gb349]? = some (.cells #[.int .i64 a0_0, (.slice A0_1 l0_1.length c0_1), (.slice A0_2 l0_2.length c0_2)] 25 (0, 0))) ∧ Aside0 (Below w.heap.size w w'))
          case atStart => exact ⟨(wrap64 ((l0_2.length : Int) - 1)), (by first | rfl | (simp; done) | (simp [*]; done)), H', ⟨Nat.le_refl _⟩, ⟨by (with_reducible repeat (first | refine blk_drewN ?_ _ | refine blk_drew ?_ | refine blk_alloc ?_ _)); exact BK349.out⟩, ⟨by repeat (first | (with_reducible first | exact HB.out | apply below_alloc | apply pw_below_drewN | apply below_drew1 | refine below_set ?_ GE349.out) | exact HB.out)⟩⟩
          case round =>
            clear H'
            try clear c1
            try clear c2
            try clear p2
            try clear c4
            try clear p6
            try clear c9
            try clear c9b0
            try clear c10
            try clear c11
            try clear hcz10_0
            try clear hcz10_1
            try clear hcz10_2
            try clear hcz12_0
            try clear hcz12_1
            try clear hcz12_2
            try clear hcz7_0
            try clear hcz7_1
            try clear hcz7_2
            try clear hfz10_0
            try clear hfz10_1
            try clear hfz10_2
            try clear hfz12_0
            try clear hfz12_1
            try clear hfz12_2
            try clear hfz7_0
            try clear hfz7_1
            try clear hfz7_2
            try clear p2
            obtain ⟨x6_2, rfl, HA, HK2, BK349, HB⟩ := hrel
            cases gk with
            | zero => exact absurd HA.out (by simp [impl_DevRead.l0])
            | succ k2 =>
              have H := HA.out
              clear HA
              simp only [impl_DevRead.l0] at H
              by_cases c13 : x6_2 ≥ 0
              · rw [if_pos c13] at H
                have c13b0 : decide (0 ≤ x6_2) = true := decide_eq_true c13
                clear c13
                by_cases c14 : 0 ≤ x6_2
                · rw [if_pos c14] at H
                  have c14b0 : decide (0 ≤ x6_2) = true := decide_eq_true c14
                  clear c14
                  by_cases c15 : x6_2 < (l0_2.length : Int)
                  · rw [if_pos c15] at H
                    have c15b0 : decide (x6_2 < (l0_2.length : Int)) = true := decide_eq_true c15
                    clear c15
                    by_cases c16 : ((rd_T32 l0_2 x6_2).f0) = a1
                    · rw [if_pos c16] at H
                      have c16b0 : (((rd_T32 l0_2 x6_2).f0) == a1) = true := beq_iff_eq.mpr c16
                      have c16b1 : (((rd_T32 l0_2 x6_2).f0) != a1) = false := bne_eq_false_iff_eq.mpr c16
                      clear c16
                      by_cases c17 : ([] : List Int).length + ((rd_T32 l0_2 x6_2).f1).length < 140737488355328
                      · rw [if_pos c17] at H
                        have LMc17 := Aside0.mk c17
                        clear c17
                        obtain ⟨y353, hy353⟩ : ∃ y_ : List Int, y_ = (([] : List Int) ++ ((rd_T32 l0_2 x6_2).f1)) := ⟨_, rfl⟩
                        replace H : (some (y353, 0)) = some (r1, r2) := by first | (rw [hy353]; with_reducible exact H) | (have H2_ := (Option.bind_some _ _).symm.trans H; rw [hy353]; with_reducible exact H2_) | (have H2_ := (Option.bind_some _ _).symm.trans H; with_reducible exact H2_) | with_reducible exact H | (rw [hy353]; exact H) | exact H
                        have Ny353 := Aside0.mk hy353
                        clear hy353
                        simp only [Option.some.injEq, Prod.mk.injEq] at H
                        obtain ⟨rfl, rfl⟩ := H
                        have hcz18_0 : wr.cell? ⟨gb349, 0, none⟩ = some (.int .i64 a0_0) := (blk_cell BK349.out 0).trans rfl
                        have hcz18_1 : wr.cell? ⟨gb349, 1, none⟩ = some (.slice A0_1 l0_1.length c0_1) := (blk_cell BK349.out 1).trans rfl
                        have hcz18_2 : wr.cell? ⟨gb349, 2, none⟩ = some (.slice A0_2 l0_2.length c0_2) := (blk_cell BK349.out 2).trans rfl
                        have hfz18_0 := blk_frozen BK349.out 0
                        have hfz18_1 := blk_frozen BK349.out 1
                        have hfz18_2 := blk_frozen BK349.out 2
                        have p351 : 0 ≤ (x6_2 : Int) := of_decide_eq_true (by first | (with_reducible assumption) | assumption)
                        have q351 : x6_2 < (l0_2.length : Int) := of_decide_eq_true (by first | (with_reducible assumption) | assumption)
                        obtain ⟨ad351, A351_1, c351_1, e351, hx351_0, hx351_1, hl351_1, hi351_1⟩ := at_T32 HR0_2.out x6_2 p351 q351
                        cases e351
                        replace hx351_0 := (HB.out.cell (World.block_lt_of_cell? w _ hx351_0)).trans hx351_0
                        replace hx351_1 := (HB.out.cell (World.block_lt_of_cell? w _ hx351_1)).trans hx351_1
                        have HR351_1 := Aside0.mk hi351_1
                        have HC351_1 := Aside0.mk hl351_1
                        clear hi351_1 hl351_1
                        replace p351 := eq_true p351
                        replace q351 := eq_true q351
                        have p352 : 0 ≤ (x6_2 : Int) := of_decide_eq_true (by first | (with_reducible assumption) | assumption)
                        have q352 : x6_2 < (l0_2.length : Int) := of_decide_eq_true (by first | (with_reducible assumption) | assumption)
                        obtain ⟨ad352, A352_1, c352_1, e352, hx352_0, hx352_1, hl352_1, hi352_1⟩ := at_T32 HR0_2.out x6_2 p352 q352
                        obtain rfl : ad351 = ad352 := (by injection e352)
                        replace hx352_0 := (HB.out.cell (World.block_lt_of_cell? w _ hx352_0)).trans hx352_0
                        replace hx352_1 := (HB.out.cell (World.block_lt_of_cell? w _ hx352_1)).trans hx352_1
                        have HR352_1 := Aside0.mk hi352_1
                        have HC352_1 := Aside0.mk hl352_1
                        clear hi352_1 hl352_1
                        replace p352 := eq_true p352
                        replace q352 := eq_true q352
                        have ea_ := Option.some.inj (hx351_1.symm.trans hx352_1)
                        injection ea_ with ea_ en_ ec_
                        subst ea_
                        subst ec_
                        clear en_
                        go_wp2_with (first | ((with_reducible refine gate_builtin (b := .append) (xs := #[.const (.slice none 0 0), .tmp 39]) rfl ?_); at_builtin; refine Kd.R_append_rows (Kd.int .u8) (w0 := w) w.heap.size rfl (.const (.slice none 0 0)) (.tmp 39) 22 5 (.int .u8 0) 1 rfl Try.underlying22 info5 rfl (by decide) (by omega) (.slice none 0 0) ([] : List Int) ((rd_T32 l0_2 x6_2).f1) _ _ _ (fun _ => True) (fun _ => False) rfl rfl ?aO ?aR (fun _ _ h => h) (fun _ h => h.elim) ?aF ?aB ?aS ?aL ?_; (case aR => repeat (first | exact (Kd.C_below HR352_1.out HB.out) | (with_reducible refine Kd.C_alloc ?_ _) | (with_reducible refine Kd.C_drewN ?_ _) | (with_reducible refine Kd.C_drew ?_))); (case aB => exact (by repeat (first | (with_reducible first | exact HB.out | apply below_alloc | apply pw_below_drewN | apply below_drew1 | refine below_set ?_ GE349.out) | exact HB.out))); (case aF => exact (fun _ _ => trivial)); (case aO => exact ((Kd.R_nil _ _ _ _ (fun _ => True)))); (case aS => exact (below_size (by repeat (first | (with_reducible first | exact HB.out | apply below_alloc | apply pw_below_drewN | apply below_drew1 | refine below_set ?_ GE349.out) | exact HB.out)))); (case aL => have := LMc17.out; omega); intro v354 w19 ho hb hg hat; rw [← Ny353.out] at ho; have n0_ := Aside0.mk (blk_grown (g := gb349) (o := .cells #[.int .i64 a0_0, .slice A0_1 l0_1.length c0_1, .slice (some ad351) l0_2.length c0_2] 25 (0, 0)) (by (with_reducible repeat (first | refine blk_drewN ?_ _ | refine blk_drew ?_ | refine blk_alloc ?_ _)); exact BK349.out) hg (by simp [Value.ownBlock])); have n1_ := Aside0.mk (hb); have n2_ := Aside0.mk (ho); clear BK349; clear HB; have BK349 := n0_; have HB := n1_; have HO355 := n2_; clear n0_ n1_ n2_; clear ho hb hg hat))
                        go_ret2
                        exact ⟨_, by first | rfl | (simp [errW_none, errW_some] <;> rfl) | (simp [*, errW_none, errW_some] <;> rfl), by (with_reducible repeat (first | apply Kd.R_alloc | apply Kd.R_drewN | apply Kd.R_drew)); exact HO355.out, by repeat (first | (with_reducible first | exact HB.out | apply below_alloc | apply pw_below_drewN | apply below_drew1 | refine below_set ?_ GE349.out) | exact HB.out)⟩
                      · rw [if_neg c17] at H
                        exact absurd H (by simp)
                    · rw [if_neg c16] at H
                      have c16b0 : (((rd_T32 l0_2 x6_2).f0) == a1) = false := beq_eq_false_iff_ne.mpr c16
                      have c16b1 : (((rd_T32 l0_2 x6_2).f0) != a1) = true := bne_iff_ne.mpr c16
                      have H' := Aside0.mk H
                      clear H
                      have hcz20_0 : wr.cell? ⟨gb349, 0, none⟩ = some (.int .i64 a0_0) := (blk_cell BK349.out 0).trans rfl
                      have hcz20_1 : wr.cell? ⟨gb349, 1, none⟩ = some (.slice A0_1 l0_1.length c0_1) := (blk_cell BK349.out 1).trans rfl
                      have hcz20_2 : wr.cell? ⟨gb349, 2, none⟩ = some (.slice A0_2 l0_2.length c0_2) := (blk_cell BK349.out 2).trans rfl
                      have hfz20_0 := blk_frozen BK349.out 0
                      have hfz20_1 := blk_frozen BK349.out 1
                      have hfz20_2 := blk_frozen BK349.out 2
                      have p351 : 0 ≤ (x6_2 : Int) := of_decide_eq_true (by first | (with_reducible assumption) | assumption)
                      have q351 : x6_2 < (l0_2.length : Int) := of_decide_eq_true (by first | (with_reducible assumption) | assumption)
                      obtain ⟨ad351, A351_1, c351_1, e351, hx351_0, hx351_1, hl351_1, hi351_1⟩ := at_T32 HR0_2.out x6_2 p351 q351
                      cases e351
                      replace hx351_0 := (HB.out.cell (World.block_lt_of_cell? w _ hx351_0)).trans hx351_0
                      replace hx351_1 := (HB.out.cell (World.block_lt_of_cell? w _ hx351_1)).trans hx351_1
                      have HR351_1 := Aside0.mk hi351_1
                      have HC351_1 := Aside0.mk hl351_1
                      clear hi351_1 hl351_1
                      replace p351 := eq_true p351
                      replace q351 := eq_true q351
                      go_wp2
                      go_roundg k2
                      case measure => have := HJ4.out; have := HK2.out; omega
                      case rel => exact ⟨(wrap64 (x6_2 - 1)), (by first | rfl | (simp; done) | (simp [*]; done)), H', ⟨by have := HJ4.out; have := HK2.out; omega⟩, ⟨by (with_reducible repeat (first | refine blk_drewN ?_ _ | refine blk_drew ?_ | refine blk_alloc ?_ _)); exact BK349.out⟩, ⟨by repeat (first | (with_reducible first | exact HB.out | apply below_alloc | apply pw_below_drewN | apply below_drew1 | refine below_set ?_ GE349.out) | exact HB.out)⟩⟩
                  · rw [if_neg c15] at H
                    exact absurd H (by simp)
                · rw [if_neg c14] at H
                  exact absurd H (by simp)
              · rw [if_neg c13] at H
                have c13b0 : decide (0 ≤ x6_2) = false := decide_eq_false c13
                clear c13
                obtain ⟨ji21, hji21⟩ : ∃ j_ : Int, (wrap64 (a1 * 128)) = j_ := ⟨_, rfl⟩
                replace H : (if 0 ≤ (ji21) then (if (ji21) ≤ (wrap64 ((wrap64 (a1 + 1)) * 128)) then (if (wrap64 ((wrap64 (a1 + 1)) * 128)) ≤ (l0_1.length : Int) then (if ([] : List Int).length + ((l0_1.take ((wrap64 ((wrap64 (a1 + 1)) * 128)) : Int).toNat).drop ((ji21) : Int).toNat).length < 140737488355328 then (some ((([] : List Int) ++ ((l0_1.take ((wrap64 ((wrap64 (a1 + 1)) * 128)) : Int).toNat).drop ((ji21) : Int).toNat)), 0)) else (none)) else (none)) else (none)) else (none)) = some (r1, r2) := by first | (rw [hji21] at H; exact H) | (simp only [hji21] at H ⊢; exact H)
                have hji21w : (IntKind.i64.wrap (a1 * 128)) = ji21 := (i64_w _).trans hji21
                by_cases c22 : 0 ≤ (ji21)
                · rw [if_pos c22] at H
                  have c22b0 := eq_true c22
                  have c22b1 : decide (0 ≤ (ji21)) = true := decide_eq_true c22
                  clear c22
                  by_cases c23 : (ji21) ≤ (wrap64 ((wrap64 (a1 + 1)) * 128))
                  · rw [if_pos c23] at H
                    have c23b0 := eq_true c23
                    have c23b1 : decide ((ji21) ≤ (wrap64 ((wrap64 (a1 + 1)) * 128))) = true := decide_eq_true c23
                    by_cases c24 : (wrap64 ((wrap64 (a1 + 1)) * 128)) ≤ (l0_1.length : Int)
                    · rw [if_pos c24] at H
                      have c24b0 := eq_true c24
                      have c24b1 : decide ((wrap64 ((wrap64 (a1 + 1)) * 128)) ≤ (l0_1.length : Int)) = true := decide_eq_true c24
                      by_cases c25 : ([] : List Int).length + ((l0_1.take ((wrap64 ((wrap64 (a1 + 1)) * 128)) : Int).toNat).drop ((ji21) : Int).toNat).length < 140737488355328
                      · rw [if_pos c25] at H
                        have LMc25 := Aside0.mk c25
                        clear c25
                        obtain ⟨y357, hy357⟩ : ∃ y_ : List Int, y_ = (([] : List Int) ++ ((l0_1.take ((wrap64 ((wrap64 (a1 + 1)) * 128)) : Int).toNat).drop ((ji21) : Int).toNat)) := ⟨_, rfl⟩
                        replace H : (some (y357, 0)) = some (r1, r2) := by first | (rw [hy357]; with_reducible exact H) | (have H2_ := (Option.bind_some _ _).symm.trans H; rw [hy357]; with_reducible exact H2_) | (have H2_ := (Option.bind_some _ _).symm.trans H; with_reducible exact H2_) | with_reducible exact H | (rw [hy357]; exact H) | exact H
                        have Ny357 := Aside0.mk hy357
                        clear hy357
                        simp only [Option.some.injEq, Prod.mk.injEq] at H
                        obtain ⟨rfl, rfl⟩ := H
                        have hcz26_0 : wr.cell? ⟨gb349, 0, none⟩ = some (.int .i64 a0_0) := (blk_cell BK349.out 0).trans rfl
                        have hcz26_1 : wr.cell? ⟨gb349, 1, none⟩ = some (.slice A0_1 l0_1.length c0_1) := (blk_cell BK349.out 1).trans rfl
                        have hcz26_2 : wr.cell? ⟨gb349, 2, none⟩ = some (.slice A0_2 l0_2.length c0_2) := (blk_cell BK349.out 2).trans rfl
                        have hfz26_0 := blk_frozen BK349.out 0
                        have hfz26_1 := blk_frozen BK349.out 1
                        have hfz26_2 := blk_frozen BK349.out 2
                        obtain ⟨i027, hi027, _, hsz27, _⟩ := info_parts info5
                        obtain ⟨A27, hcut27, hA27, hC27⟩ := print_mid_of (P := Try.prog) (Value.int .u8) 0 22 5 .i64 .i64 Try.underlying22 hi027 hsz27 A0_1 c0_1 l0_1 (ji21) (wrap64 ((wrap64 (a1 + 1)) * 128)) (of_decide_eq_true (by first | (with_reducible assumption) | assumption)) (by first | omega | exact of_decide_eq_true (by first | (with_reducible assumption) | assumption)) (of_decide_eq_true (by first | (with_reducible assumption) | assumption)) HC0_1.out
                        have HR356 := Aside0.mk (Kd.C_of_reads (h1 := fun _ => rfl) (hA27 _ (Kd.reads_of_C HR0_1.out)))
                        have HC356 := Aside0.mk hC27
                        clear hA27 hC27 hi027 hsz27
                        go_wp2_with (first | ((with_reducible refine gate_builtin (b := .append) (xs := #[.const (.slice none 0 0), .tmp 48]) rfl ?_); at_builtin; refine Kd.R_append_rows (Kd.int .u8) (w0 := w) w.heap.size rfl (.const (.slice none 0 0)) (.tmp 48) 22 5 (.int .u8 0) 1 rfl Try.underlying22 info5 rfl (by decide) (by omega) (.slice none 0 0) ([] : List Int) ((l0_1.take ((wrap64 ((wrap64 (a1 + 1)) * 128)) : Int).toNat).drop ((ji21) : Int).toNat) _ _ _ (fun _ => True) (fun _ => False) rfl rfl ?aO ?aR (fun _ _ h => h) (fun _ h => h.elim) ?aF ?aB ?aS ?aL ?_; (case aR => first | (rw [← show ((l0_1.take ((wrap64 ((wrap64 (a1 + 1)) * 128)) : Int).toNat).drop ((ji21) : Int).toNat).length = ((wrap64 ((wrap64 (a1 + 1)) * 128)).toNat - (ji21).toNat) from (by rw [List.length_drop, List.length_take]; have h_ : ((wrap64 ((wrap64 (a1 + 1)) * 128)) : Int) ≤ (l0_1.length : Int) := of_decide_eq_true (by first | (with_reducible assumption) | assumption); omega)]; repeat (first | exact (Kd.C_below HR356.out HB.out) | (with_reducible refine Kd.C_alloc ?_ _) | (with_reducible refine Kd.C_drewN ?_ _) | (with_reducible refine Kd.C_drew ?_))) | (repeat (first | exact (Kd.C_below HR356.out HB.out) | (with_reducible refine Kd.C_alloc ?_ _) | (with_reducible refine Kd.C_drewN ?_ _) | (with_reducible refine Kd.C_drew ?_)))); (case aB => exact (by repeat (first | (with_reducible first | exact HB.out | apply below_alloc | apply pw_below_drewN | apply below_drew1 | refine below_set ?_ GE349.out) | exact HB.out))); (case aF => exact (fun _ _ => trivial)); (case aO => exact ((Kd.R_nil _ _ _ _ (fun _ => True)))); (case aS => exact (below_size (by repeat (first | (with_reducible first | exact HB.out | apply below_alloc | apply pw_below_drewN | apply below_drew1 | refine below_set ?_ GE349.out) | exact HB.out)))); (case aL => have := LMc25.out; have hlx_ := (show ((l0_1.take ((wrap64 ((wrap64 (a1 + 1)) * 128)) : Int).toNat).drop ((ji21) : Int).toNat).length = ((wrap64 ((wrap64 (a1 + 1)) * 128)).toNat - (ji21).toNat) from (by rw [List.length_drop, List.length_take]; have h_ : ((wrap64 ((wrap64 (a1 + 1)) * 128)) : Int) ≤ (l0_1.length : Int) := of_decide_eq_true (by first | (with_reducible assumption) | assumption); omega)); omega); intro v358 w28 ho hb hg hat; rw [← Ny357.out] at ho; have n0_ := Aside0.mk (blk_grown (g := gb349) (o := .cells #[.int .i64 a0_0, .slice A0_1 l0_1.length c0_1, .slice A0_2 l0_2.length c0_2] 25 (0, 0)) (by (with_reducible repeat (first | refine blk_drewN ?_ _ | refine blk_drew ?_ | refine blk_alloc ?_ _)); exact BK349.out) hg (by simp [Value.ownBlock])); have n1_ := Aside0.mk (hb); have n2_ := Aside0.mk (ho); clear BK349; clear HB; have BK349 := n0_; have HB := n1_; have HO359 := n2_; clear n0_ n1_ n2_; clear ho hb hg hat))
                        go_ret2
                        exact ⟨_, by first | rfl | (simp [errW_none, errW_some] <;> rfl) | (simp only [← hji21]; first | rfl | (simp [errW_none, errW_some] <;> rfl)) | (simp [*, errW_none, errW_some] <;> rfl), by (with_reducible repeat (first | apply Kd.R_alloc | apply Kd.R_drewN | apply Kd.R_drew)); exact HO359.out, by repeat (first | (with_reducible first | exact HB.out | apply below_alloc | apply pw_below_drewN | apply below_drew1 | refine below_set ?_ GE349.out) | exact HB.out)⟩
                      · rw [if_neg c25] at H
                        exact absurd H (by simp)
                    · rw [if_neg c24] at H
                      exact absurd H (by simp)
                  · rw [if_neg c23] at H
                    exact absurd H (by simp)
                · rw [if_neg c22] at H
                  exact absurd H (by simp)
  · replace c4 := Bool.eq_false_iff.mpr c4
    subst c4
    have H1 : (some (([] : List Int), 1)) = some (r1, r2) := by rw [if_neg (show ¬ (false = true) by decide)] at H; exact H
    clear H
    have H := H1
    clear H1
    simp only [Option.some.injEq, Prod.mk.injEq] at H
    obtain ⟨rfl, rfl⟩ := H
    go_enter Try.func10, Try.ntmps10
    go_wp2_with (first | ((with_reducible refine gate_dst (N := 2) rfl ?_); refine box_event ?hg (N := 2) ?hd (cs := #[.int .i64 a0_0, .slice A0_1 l0_1.length c0_1, .slice A0_2 l0_2.length c0_2]) (t := 25) ?hr ?_; (case hd => rfl); (case hg => rfl); (case hr => first | (go_simp; done) | (go_simp; rfl)); intro gb349 hg w29 hbox hb; have n0_ := Aside0.mk (below_step (by repeat (first | (with_reducible first | exact HB.out | apply below_alloc | apply pw_below_drewN | apply below_drew1) | exact HB.out)) hb); have n1_ := Aside0.mk (hbox); have n2_ := Aside0.mk ((by rw [hg]; exact (below_size (by repeat (first | (with_reducible first | exact HB.out | apply below_alloc | apply pw_below_drewN | apply below_drew1) | exact HB.out))) : w.heap.size ≤ gb349)); have n3_ := Aside0.mk ((by rw [hg]; exact (below_size (by repeat (first | (with_reducible first | exact HB.out | apply below_alloc | apply pw_below_drewN | apply below_drew1) | exact HB.out))) : w.heap.size ≤ gb349)); clear HB; have HB := n0_; have BK349 := n1_; have GW349 := n2_; have GE349 := n3_; clear n0_ n1_ n2_ n3_; clear hb hbox hg; have hcz30_0 : w29.cell? ⟨gb349, 0, none⟩ = some (.int .i64 a0_0) := (blk_cell BK349.out 0).trans rfl; have hcz30_1 : w29.cell? ⟨gb349, 1, none⟩ = some (.slice A0_1 l0_1.length c0_1) := (blk_cell BK349.out 1).trans rfl; have hcz30_2 : w29.cell? ⟨gb349, 2, none⟩ = some (.slice A0_2 l0_2.length c0_2) := (blk_cell BK349.out 2).trans rfl; have hfz30_0 := blk_frozen BK349.out 0; have hfz30_1 := blk_frozen BK349.out 1; have hfz30_2 := blk_frozen BK349.out 2) | ((with_reducible refine gate_callee (f := 20) rfl ?_); refine goesL_ (some 8) rfl rfl Try.func20 (by kernel_rfl) rfl #[.agg #[.int .i64 a0_0, .slice A0_1 l0_1.length c0_1, .slice A0_2 l0_2.length c0_2]] rfl (by (try simp only [List.map_toArray, List.map_cons, List.map_nil]); first | done | rfl | (simp only [List.length_drop, List.length_take]; rfl)) ?_; (with_reducible refine (impl_validDevice.calls k a0_0 _ _ l0_1 _ _ l0_2 false _ ?side1 ?side2 ?side3 ?side4 A3.out).mono ?_); (case side1 => repeat (first | exact (Kd.C_below HR0_1.out HB.out) | (with_reducible refine Kd.C_alloc ?_ _) | (with_reducible refine Kd.C_drewN ?_ _) | (with_reducible refine Kd.C_drew ?_))); (case side2 => exact HC0_1.out); (case side3 => repeat (first | exact (Kd.C_below HR0_2.out HB.out) | (with_reducible refine Kd.C_alloc ?_ _) | (with_reducible refine Kd.C_drewN ?_ _) | (with_reducible refine Kd.C_drew ?_))); (case side4 => exact HC0_2.out); rintro e w31 ⟨rfl, hb⟩; refine ⟨_, rfl, ?_⟩; have n0_ := Aside0.mk (blk_below (g := gb349) (o := .cells #[.int .i64 a0_0, .slice A0_1 l0_1.length c0_1, .slice A0_2 l0_2.length c0_2] 25 (0, 0)) (by (with_reducible repeat (first | refine blk_drewN ?_ _ | refine blk_drew ?_ | refine blk_alloc ?_ _)); exact BK349.out) hb); have n1_ := Aside0.mk (below_step (by repeat (first | (with_reducible first | exact HB.out | apply below_alloc | apply pw_below_drewN | apply below_drew1 | refine below_set ?_ GE349.out) | exact HB.out)) hb); clear BK349; clear HB; have BK349 := n0_; have HB := n1_; clear n0_ n1_; (try clear hb); (try clear hb2); (try clear hk); (try clear hi)))
    go_ret2
    exact ⟨_, by first | rfl | (simp [errW_none, errW_some] <;> rfl) | (simp [*, errW_none, errW_some] <;> rfl), by first | exact Kd.R_nil _ _ _ _ _ | exact Kd.N_nil _ _ _ _ _ | exact Kd.V_nil _ _ _ _ _ | exact Kd.Q_nil _ _ _ _ _ | exact Kd.S_nil _ _ _ _ _, by repeat (first | (with_reducible first | exact HB.out | apply below_alloc | apply pw_below_drewN | apply below_drew1 | refine below_set ?_ GE349.out) | exact HB.out)⟩

end Go.Proofs.Ytnkgclcmjojeiaa.PFnDeviceReads
