-- Written by a program of this session (after the kit's print) out of the translation. Nothing here is trusted: Lean checks it.
import Derived.Test.YtnkgclcmjojeiaaDoorPFnExactEncodeSuperx0
import Derived.Test.YtnkgclcmjojeiaaDoorPFnExactEncodeSuperx1
namespace Go.Proofs.YtnkgclcmjojeiaaDoor.PFnExactEncodeSuper
open Go.RowKit Go.Proofs.YtnkgclcmjojeiaaDoorW.PrintWords Go.Proofs.YtnkgclcmjojeiaaDoorW.PrintLast Go.Proofs.YtnkgclcmjojeiaaDoorW.PrintMore
attribute [local go_sem] max2_int min2_int max_two min_two max_three min_three max_four min_four   -- for this text's walks alone
set_option linter.unusedVariables false
set_option linter.unusedSimpArgs false

/-! ### spec_l2SuperOK: function 66 -/
mutual
def spec_l2SuperOK.j0 : Nat → Bool → Int → Int → Int → Int → List (S79) → Option (Bool)
  | 0, _, _, _, _, _, _ => none
  | k + 1, x28, x119000, x119001, x119002, x119003, x119004 => if x28 = true then (some false) else (if x119003 < 2 then (spec_l2SuperOK.j1 k true x119000 x119001 x119002 x119003 x119004) else (if x119003 ≥ x119000 then (spec_l2SuperOK.j1 k true x119000 x119001 x119002 x119003 x119004) else (if (x119004.length : Int) < 1 then (spec_l2SuperOK.j1 k true x119000 x119001 x119002 x119003 x119004) else (spec_l2SuperOK.j1 k (decide ((x119004.length : Int) > 16)) x119000 x119001 x119002 x119003 x119004))))
def spec_l2SuperOK.j1 : Nat → Bool → Int → Int → Int → Int → List (S79) → Option (Bool)
  | 0, _, _, _, _, _, _ => none
  | k + 1, x50, x119000, x119001, x119002, x119003, x119004 => if x50 = true then (some false) else (spec_l2SuperOK.l0 k 0 x119000 x119001 x119002 x119003 x119004)
def spec_l2SuperOK.l0 : Nat → Int → Int → Int → Int → Int → List (S79) → Option (Bool)
  | 0, _, _, _, _, _, _ => none
  | k + 1, x3, x119000, x119001, x119002, x119003, x119004 => if x3 < (x119004.length : Int) then (if 0 ≤ x3 then (if ((rd_T79 x119004 x3).f0) < 0 then (some false) else (if ((rd_T79 x119004 x3).f0) ≥ x119002 then (some false) else (if ((rd_T79 x119004 x3).f1) < 2 then (some false) else (if ((rd_T79 x119004 x3).f1) ≥ x119000 then (some false) else (if x3 > 0 then (if 0 ≤ (wrap64 (x3 - 1)) then (if (wrap64 (x3 - 1)) < (x119004.length : Int) then (if ((rd_T79 x119004 (wrap64 (x3 - 1))).f0) ≥ ((rd_T79 x119004 x3).f0) then (some false) else (spec_l2SuperOK.l0 k (wrap64 (x3 + 1)) x119000 x119001 x119002 x119003 x119004)) else (none)) else (none)) else (spec_l2SuperOK.l0 k (wrap64 (x3 + 1)) x119000 x119001 x119002 x119003 x119004)))))) else (none)) else (some true)
end
def spec_l2SuperOK.f (k : Nat) (a0_0 : Int) (a0_1 : Int) (a0_2 : Int) (a0_3 : Int) (l0_4 : List (S79)) : Option (Bool) := (spec_l1BlocksOK.f a0_0).bind fun t119 => (if t119 = true then (if a0_1 < 1 then (spec_l2SuperOK.j0 k true a0_0 a0_1 a0_2 a0_3 l0_4) else (if a0_1 > 1099511627776 then (spec_l2SuperOK.j0 k true a0_0 a0_1 a0_2 a0_3 l0_4) else (if a0_2 < 1 then (spec_l2SuperOK.j0 k true a0_0 a0_1 a0_2 a0_3 l0_4) else (spec_l2SuperOK.j0 k (decide (a0_2 > 65535)) a0_0 a0_1 a0_2 a0_3 l0_4)))) else (spec_l2SuperOK.j0 k true a0_0 a0_1 a0_2 a0_3 l0_4))
theorem spec_l2SuperOK.mono_l : ∀ k, (∀ y0 y1 y2 y3 y4 y5, LeO (spec_l2SuperOK.j0 k y0 y1 y2 y3 y4 y5) (spec_l2SuperOK.j0 (k + 1) y0 y1 y2 y3 y4 y5)) ∧ (∀ y0 y1 y2 y3 y4 y5, LeO (spec_l2SuperOK.j1 k y0 y1 y2 y3 y4 y5) (spec_l2SuperOK.j1 (k + 1) y0 y1 y2 y3 y4 y5)) ∧ (∀ y0 y1 y2 y3 y4 y5, LeO (spec_l2SuperOK.l0 k y0 y1 y2 y3 y4 y5) (spec_l2SuperOK.l0 (k + 1) y0 y1 y2 y3 y4 y5))
  | 0 => ⟨fun _ _ _ _ _ _ r h => by first | (cases h; done) | simp [spec_l2SuperOK.j0] at h, fun _ _ _ _ _ _ r h => by first | (cases h; done) | simp [spec_l2SuperOK.j1] at h, fun _ _ _ _ _ _ r h => by first | (cases h; done) | simp [spec_l2SuperOK.l0] at h⟩
  | k + 1 => by
    obtain ⟨ih0, ih1, ih2⟩ := spec_l2SuperOK.mono_l k
    refine ⟨?_, ?_, ?_⟩
    · intro y0 y1 y2 y3 y4 y5
      unfold spec_l2SuperOK.j0
      repeat' first
      | (with_reducible exact ih0 _ _ _ _ _ _)
      | (with_reducible exact ih1 _ _ _ _ _ _)
      | (with_reducible exact ih2 _ _ _ _ _ _)
      | (with_reducible exact LeO.refl _)
      | (with_reducible exact LeO.none _)
      | (with_reducible refine LeO.ite ?_ ?_)
      | (with_reducible refine LeO.bind ?_ (fun _ => ?_))
      | exact ih0 _ _ _ _ _ _
      | exact ih1 _ _ _ _ _ _
      | exact ih2 _ _ _ _ _ _
      | exact LeO.none _
      | refine LeO.ite ?_ ?_
      | refine LeO.bind ?_ (fun _ => ?_)
    · intro y0 y1 y2 y3 y4 y5
      unfold spec_l2SuperOK.j1
      repeat' first
      | (with_reducible exact ih0 _ _ _ _ _ _)
      | (with_reducible exact ih1 _ _ _ _ _ _)
      | (with_reducible exact ih2 _ _ _ _ _ _)
      | (with_reducible exact LeO.refl _)
      | (with_reducible exact LeO.none _)
      | (with_reducible refine LeO.ite ?_ ?_)
      | (with_reducible refine LeO.bind ?_ (fun _ => ?_))
      | exact ih0 _ _ _ _ _ _
      | exact ih1 _ _ _ _ _ _
      | exact ih2 _ _ _ _ _ _
      | exact LeO.none _
      | refine LeO.ite ?_ ?_
      | refine LeO.bind ?_ (fun _ => ?_)
    · intro y0 y1 y2 y3 y4 y5
      unfold spec_l2SuperOK.l0
      repeat' first
      | (with_reducible exact ih0 _ _ _ _ _ _)
      | (with_reducible exact ih1 _ _ _ _ _ _)
      | (with_reducible exact ih2 _ _ _ _ _ _)
      | (with_reducible exact LeO.refl _)
      | (with_reducible exact LeO.none _)
      | (with_reducible refine LeO.ite ?_ ?_)
      | (with_reducible refine LeO.bind ?_ (fun _ => ?_))
      | exact ih0 _ _ _ _ _ _
      | exact ih1 _ _ _ _ _ _
      | exact ih2 _ _ _ _ _ _
      | exact LeO.none _
      | refine LeO.ite ?_ ?_
      | refine LeO.bind ?_ (fun _ => ?_)
theorem spec_l2SuperOK.mono : ∀ a0 a1 a2 a3 a4 k, LeO (spec_l2SuperOK.f k a0 a1 a2 a3 a4) (spec_l2SuperOK.f (k + 1) a0 a1 a2 a3 a4) := by
  intro a0 a1 a2 a3 a4 k
  obtain ⟨ih0, ih1, ih2⟩ := spec_l2SuperOK.mono_l k
  unfold spec_l2SuperOK.f
  repeat' first
      | (with_reducible exact ih0 _ _ _ _ _ _)
      | (with_reducible exact ih1 _ _ _ _ _ _)
      | (with_reducible exact ih2 _ _ _ _ _ _)
      | (with_reducible exact LeO.refl _)
      | (with_reducible exact LeO.none _)
      | (with_reducible refine LeO.ite ?_ ?_)
      | (with_reducible refine LeO.bind ?_ (fun _ => ?_))
      | exact ih0 _ _ _ _ _ _
      | exact ih1 _ _ _ _ _ _
      | exact ih2 _ _ _ _ _ _
      | exact LeO.none _
      | refine LeO.ite ?_ ?_
      | refine LeO.bind ?_ (fun _ => ?_)
set_option maxHeartbeats 8000000 in
set_option maxRecDepth 100000 in
theorem spec_l2SuperOK.calls (k : Nat) (a0_0 : Int) (a0_1 : Int) (a0_2 : Int) (a0_3 : Int) (A0_4 : Option Addr) (c0_4 : Nat) (l0_4 : List (S79)) (r : Bool) (w : World) (hr0_4 : Kd.C k79 w A0_4 l0_4.length l0_4) (hc0_4 : l0_4.length ≤ c0_4) (h : spec_l2SuperOK.f k a0_0 a0_1 a0_2 a0_3 l0_4 = some r) :
    Calls Tryd.prog 66 #[.agg #[.int .i64 a0_0, .int .i64 a0_1, .int .i64 a0_2, .int .i64 a0_3, .slice A0_4 l0_4.length c0_4]] w fun e w' => e = .returned (.bool r) ∧ Below w.heap.size w w' := by
  have hu45 := Tryd.underlying45
  have hu79 := Tryd.underlying79
  have HR0_4 := Aside0.mk hr0_4
  have HC0_4 := Aside0.mk hc0_4
  clear hr0_4 hc0_4
  have HB := Aside0.mk (Below.refl w.heap.size w)
  have H : ((spec_l1BlocksOK.f a0_0).bind fun t119 => (if t119 = true then (if a0_1 < 1 then (spec_l2SuperOK.j0 k true a0_0 a0_1 a0_2 a0_3 l0_4) else (if a0_1 > 1099511627776 then (spec_l2SuperOK.j0 k true a0_0 a0_1 a0_2 a0_3 l0_4) else (if a0_2 < 1 then (spec_l2SuperOK.j0 k true a0_0 a0_1 a0_2 a0_3 l0_4) else (spec_l2SuperOK.j0 k (decide (a0_2 > 65535)) a0_0 a0_1 a0_2 a0_3 l0_4)))) else (spec_l2SuperOK.j0 k true a0_0 a0_1 a0_2 a0_3 l0_4))) = some r := h
  clear h
  have HC2 := Aside0.mk H
  clear H
  go_enter Tryd.func66, Tryd.ntmps66
  go_upto_region 1 with (first | ((with_reducible refine gate_dst (N := 1) rfl ?_); (try (refine gate_guard (by rfl) ?_; dsimp only)); refine box_event ?hg (N := 1) ?hd (cs := #[.int .i64 a0_0, .int .i64 a0_1, .int .i64 a0_2, .int .i64 a0_3, .slice A0_4 l0_4.length c0_4]) (t := 45) ?hr ?_; (case hd => rfl); (case hg => rfl); (case hr => first | (go_simp; done) | (go_simp; rfl)); intro gb118 hg w3 hbox hb; have n0_ := Aside0.mk (below_step (by repeat (first | (with_reducible first | exact HB.out | apply below_alloc | apply pw_below_drewN | apply below_drew1) | exact HB.out)) hb); have n1_ := Aside0.mk (hbox); have n2_ := Aside0.mk ((by rw [hg]; exact (below_size (by repeat (first | (with_reducible first | exact HB.out | apply below_alloc | apply pw_below_drewN | apply below_drew1) | exact HB.out))) : w.heap.size ≤ gb118)); have n3_ := Aside0.mk ((by rw [hg]; exact (below_size (by repeat (first | (with_reducible first | exact HB.out | apply below_alloc | apply pw_below_drewN | apply below_drew1) | exact HB.out))) : w.heap.size ≤ gb118)); clear HB; have HB := n0_; have BK118 := n1_; have GW118 := n2_; have GE118 := n3_; clear n0_ n1_ n2_ n3_; clear hb hbox hg))
  repeat (go_quiet (first | ((with_reducible refine gate_dst (N := 1) rfl ?_); (try (refine gate_guard (by rfl) ?_; dsimp only)); refine box_event ?hg (N := 1) ?hd (cs := #[.int .i64 a0_0, .int .i64 a0_1, .int .i64 a0_2, .int .i64 a0_3, .slice A0_4 l0_4.length c0_4]) (t := 45) ?hr ?_; (case hd => rfl); (case hg => rfl); (case hr => first | (go_simp; done) | (go_simp; rfl)); intro gb118 hg w3 hbox hb; have n0_ := Aside0.mk (below_step (by repeat (first | (with_reducible first | exact HB.out | apply below_alloc | apply pw_below_drewN | apply below_drew1) | exact HB.out)) hb); have n1_ := Aside0.mk (hbox); have n2_ := Aside0.mk ((by rw [hg]; exact (below_size (by repeat (first | (with_reducible first | exact HB.out | apply below_alloc | apply pw_below_drewN | apply below_drew1) | exact HB.out))) : w.heap.size ≤ gb118)); have n3_ := Aside0.mk ((by rw [hg]; exact (below_size (by repeat (first | (with_reducible first | exact HB.out | apply below_alloc | apply pw_below_drewN | apply below_drew1) | exact HB.out))) : w.heap.size ≤ gb118)); clear HB; have HB := n0_; have BK118 := n1_; have GW118 := n2_; have GE118 := n3_; clear n0_ n1_ n2_ n3_; clear hb hbox hg)); go_upto_region 1 with (first | ((with_reducible refine gate_dst (N := 1) rfl ?_); (try (refine gate_guard (by rfl) ?_; dsimp only)); refine box_event ?hg (N := 1) ?hd (cs := #[.int .i64 a0_0, .int .i64 a0_1, .int .i64 a0_2, .int .i64 a0_3, .slice A0_4 l0_4.length c0_4]) (t := 45) ?hr ?_; (case hd => rfl); (case hg => rfl); (case hr => first | (go_simp; done) | (go_simp; rfl)); intro gb118 hg w3 hbox hb; have n0_ := Aside0.mk (below_step (by repeat (first | (with_reducible first | exact HB.out | apply below_alloc | apply pw_below_drewN | apply below_drew1) | exact HB.out)) hb); have n1_ := Aside0.mk (hbox); have n2_ := Aside0.mk ((by rw [hg]; exact (below_size (by repeat (first | (with_reducible first | exact HB.out | apply below_alloc | apply pw_below_drewN | apply below_drew1) | exact HB.out))) : w.heap.size ≤ gb118)); have n3_ := Aside0.mk ((by rw [hg]; exact (below_size (by repeat (first | (with_reducible first | exact HB.out | apply below_alloc | apply pw_below_drewN | apply below_drew1) | exact HB.out))) : w.heap.size ≤ gb118)); clear HB; have HB := n0_; have BK118 := n1_; have GW118 := n2_; have GE118 := n3_; clear n0_ n1_ n2_ n3_; clear hb hbox hg)))
  (try simp only [Act.put, List.setIfInBounds_toArray, List.set_cons_zero, List.set_cons_succ])
  go_cut [28] (fun v28 wc => ∃ (kq : Nat) (x28_1 : Bool), v28 = .bool x28_1 ∧ Aside0 (spec_l2SuperOK.j0 kq x28_1 a0_0 a0_1 a0_2 a0_3 l0_4 = some r) ∧ Aside0 (kq ≤ k) ∧ Aside0 (wc.heap[gb118]? = some (.cells #[.int .i64 a0_0, .int .i64 a0_1, .int .i64 a0_2, .int .i64 a0_3, (.slice A0_4 l0_4.length c0_4)] 45 (0, 0))) ∧ Aside0 (Below w.heap.size w wc))
  case first =>
    have H := HC2.out
    clear HC2
    replace H := Option.bind_eq_some_iff.mp H
    obtain ⟨t119, A40, H⟩ := H
    replace H : (if t119 = true then (if a0_1 < 1 then (spec_l2SuperOK.j0 k true a0_0 a0_1 a0_2 a0_3 l0_4) else (if a0_1 > 1099511627776 then (spec_l2SuperOK.j0 k true a0_0 a0_1 a0_2 a0_3 l0_4) else (if a0_2 < 1 then (spec_l2SuperOK.j0 k true a0_0 a0_1 a0_2 a0_3 l0_4) else (spec_l2SuperOK.j0 k (decide (a0_2 > 65535)) a0_0 a0_1 a0_2 a0_3 l0_4)))) else (spec_l2SuperOK.j0 k true a0_0 a0_1 a0_2 a0_3 l0_4)) = some r := H
    have A4 := Aside0.mk A40
    clear A40
    by_cases c5 : t119 = true
    · subst c5
      have H1 : (if a0_1 < 1 then (spec_l2SuperOK.j0 k true a0_0 a0_1 a0_2 a0_3 l0_4) else (if a0_1 > 1099511627776 then (spec_l2SuperOK.j0 k true a0_0 a0_1 a0_2 a0_3 l0_4) else (if a0_2 < 1 then (spec_l2SuperOK.j0 k true a0_0 a0_1 a0_2 a0_3 l0_4) else (spec_l2SuperOK.j0 k (decide (a0_2 > 65535)) a0_0 a0_1 a0_2 a0_3 l0_4)))) = some r := by rw [if_pos rfl] at H; exact H
      clear H
      have H := H1
      clear H1
      by_cases c6 : a0_1 < 1
      · rw [if_pos c6] at H
        have c6b0 : decide (a0_1 < 1) = true := decide_eq_true c6
        clear c6
        (first | rw [c6b0] | (simp only [i64_w, i32_w]; rw [c6b0]) | skip)
        have H' := Aside0.mk H
        clear H
        have hcz7_0 : w3.cell? ⟨gb118, 0, none⟩ = some (.int .i64 a0_0) := (blk_cell BK118.out 0).trans rfl
        have hcz7_1 : w3.cell? ⟨gb118, 1, none⟩ = some (.int .i64 a0_1) := (blk_cell BK118.out 1).trans rfl
        have hcz7_2 : w3.cell? ⟨gb118, 2, none⟩ = some (.int .i64 a0_2) := (blk_cell BK118.out 2).trans rfl
        have hcz7_3 : w3.cell? ⟨gb118, 3, none⟩ = some (.int .i64 a0_3) := (blk_cell BK118.out 3).trans rfl
        have hcz7_4 : w3.cell? ⟨gb118, 4, none⟩ = some (.slice A0_4 l0_4.length c0_4) := (blk_cell BK118.out 4).trans rfl
        have hfz7_0 := blk_frozen BK118.out 0
        have hfz7_1 := blk_frozen BK118.out 1
        have hfz7_2 := blk_frozen BK118.out 2
        have hfz7_3 := blk_frozen BK118.out 3
        have hfz7_4 := blk_frozen BK118.out 4
        go_wp2_with (first | (go_at_call 85; (with_reducible refine (spec_l1BlocksOK.calls a0_0 true _ A4.out).mono ?_); rintro e w' ⟨rfl, ⟨nd, rfl⟩⟩; (try first | exact ⟨rfl, _, World.drewN_drewN _ _ _⟩ | exact ⟨rfl, _, Eq.trans (World.drewN_drewN _ _ _) (congrArg (World.drewN _) (Nat.add_assoc _ _ _))⟩)))
        repeat (go_quiet (first | (go_at_call 85; (with_reducible refine (spec_l1BlocksOK.calls a0_0 true _ A4.out).mono ?_); rintro e w' ⟨rfl, ⟨nd, rfl⟩⟩; (try first | exact ⟨rfl, _, World.drewN_drewN _ _ _⟩ | exact ⟨rfl, _, Eq.trans (World.drewN_drewN _ _ _) (congrArg (World.drewN _) (Nat.add_assoc _ _ _))⟩))); try go_wp2_with (first | (go_at_call 85; (with_reducible refine (spec_l1BlocksOK.calls a0_0 true _ A4.out).mono ?_); rintro e w' ⟨rfl, ⟨nd, rfl⟩⟩; (try first | exact ⟨rfl, _, World.drewN_drewN _ _ _⟩ | exact ⟨rfl, _, Eq.trans (World.drewN_drewN _ _ _) (congrArg (World.drewN _) (Nat.add_assoc _ _ _))⟩))))
        go_meet
        case rel => exact ⟨_, (true), (by first | rfl | (simp; done) | (simp [*]; done)), H', ⟨by first | omega | exact Nat.le_refl _⟩, ⟨by (with_reducible repeat (first | refine blk_drewN ?_ _ | refine blk_drew ?_ | refine blk_alloc ?_ _)); exact BK118.out⟩, ⟨by repeat (first | (with_reducible first | exact HB.out | apply below_alloc | apply pw_below_drewN | apply below_drew1 | refine below_set ?_ GE118.out) | exact HB.out)⟩⟩
      · rw [if_neg c6] at H
        have c6b0 : decide (a0_1 < 1) = false := decide_eq_false c6
        clear c6
        (first | rw [c6b0] | (simp only [i64_w, i32_w]; rw [c6b0]) | skip)
        by_cases c8 : a0_1 > 1099511627776
        · rw [if_pos c8] at H
          have c8b0 : decide (1099511627776 < a0_1) = true := decide_eq_true c8
          clear c8
          have H' := Aside0.mk H
          clear H
          have hcz9_0 : w3.cell? ⟨gb118, 0, none⟩ = some (.int .i64 a0_0) := (blk_cell BK118.out 0).trans rfl
          have hcz9_1 : w3.cell? ⟨gb118, 1, none⟩ = some (.int .i64 a0_1) := (blk_cell BK118.out 1).trans rfl
          have hcz9_2 : w3.cell? ⟨gb118, 2, none⟩ = some (.int .i64 a0_2) := (blk_cell BK118.out 2).trans rfl
          have hcz9_3 : w3.cell? ⟨gb118, 3, none⟩ = some (.int .i64 a0_3) := (blk_cell BK118.out 3).trans rfl
          have hcz9_4 : w3.cell? ⟨gb118, 4, none⟩ = some (.slice A0_4 l0_4.length c0_4) := (blk_cell BK118.out 4).trans rfl
          have hfz9_0 := blk_frozen BK118.out 0
          have hfz9_1 := blk_frozen BK118.out 1
          have hfz9_2 := blk_frozen BK118.out 2
          have hfz9_3 := blk_frozen BK118.out 3
          have hfz9_4 := blk_frozen BK118.out 4
          go_wp2_with (first | (go_at_call 85; (with_reducible refine (spec_l1BlocksOK.calls a0_0 true _ A4.out).mono ?_); rintro e w' ⟨rfl, ⟨nd, rfl⟩⟩; (try first | exact ⟨rfl, _, World.drewN_drewN _ _ _⟩ | exact ⟨rfl, _, Eq.trans (World.drewN_drewN _ _ _) (congrArg (World.drewN _) (Nat.add_assoc _ _ _))⟩)))
          repeat (go_quiet (first | (go_at_call 85; (with_reducible refine (spec_l1BlocksOK.calls a0_0 true _ A4.out).mono ?_); rintro e w' ⟨rfl, ⟨nd, rfl⟩⟩; (try first | exact ⟨rfl, _, World.drewN_drewN _ _ _⟩ | exact ⟨rfl, _, Eq.trans (World.drewN_drewN _ _ _) (congrArg (World.drewN _) (Nat.add_assoc _ _ _))⟩))); try go_wp2_with (first | (go_at_call 85; (with_reducible refine (spec_l1BlocksOK.calls a0_0 true _ A4.out).mono ?_); rintro e w' ⟨rfl, ⟨nd, rfl⟩⟩; (try first | exact ⟨rfl, _, World.drewN_drewN _ _ _⟩ | exact ⟨rfl, _, Eq.trans (World.drewN_drewN _ _ _) (congrArg (World.drewN _) (Nat.add_assoc _ _ _))⟩))))
          go_meet
          case rel => exact ⟨_, (true), (by first | rfl | (simp; done) | (simp [*]; done)), H', ⟨by first | omega | exact Nat.le_refl _⟩, ⟨by (with_reducible repeat (first | refine blk_drewN ?_ _ | refine blk_drew ?_ | refine blk_alloc ?_ _)); exact BK118.out⟩, ⟨by repeat (first | (with_reducible first | exact HB.out | apply below_alloc | apply pw_below_drewN | apply below_drew1 | refine below_set ?_ GE118.out) | exact HB.out)⟩⟩
        · rw [if_neg c8] at H
          have c8b0 : decide (1099511627776 < a0_1) = false := decide_eq_false c8
          clear c8
          by_cases c10 : a0_2 < 1
          · rw [if_pos c10] at H
            have c10b0 : decide (a0_2 < 1) = true := decide_eq_true c10
            clear c10
            have H' := Aside0.mk H
            clear H
            have hcz11_0 : w3.cell? ⟨gb118, 0, none⟩ = some (.int .i64 a0_0) := (blk_cell BK118.out 0).trans rfl
            have hcz11_1 : w3.cell? ⟨gb118, 1, none⟩ = some (.int .i64 a0_1) := (blk_cell BK118.out 1).trans rfl
            have hcz11_2 : w3.cell? ⟨gb118, 2, none⟩ = some (.int .i64 a0_2) := (blk_cell BK118.out 2).trans rfl
            have hcz11_3 : w3.cell? ⟨gb118, 3, none⟩ = some (.int .i64 a0_3) := (blk_cell BK118.out 3).trans rfl
            have hcz11_4 : w3.cell? ⟨gb118, 4, none⟩ = some (.slice A0_4 l0_4.length c0_4) := (blk_cell BK118.out 4).trans rfl
            have hfz11_0 := blk_frozen BK118.out 0
            have hfz11_1 := blk_frozen BK118.out 1
            have hfz11_2 := blk_frozen BK118.out 2
            have hfz11_3 := blk_frozen BK118.out 3
            have hfz11_4 := blk_frozen BK118.out 4
            go_wp2_with (first | (go_at_call 85; (with_reducible refine (spec_l1BlocksOK.calls a0_0 true _ A4.out).mono ?_); rintro e w' ⟨rfl, ⟨nd, rfl⟩⟩; (try first | exact ⟨rfl, _, World.drewN_drewN _ _ _⟩ | exact ⟨rfl, _, Eq.trans (World.drewN_drewN _ _ _) (congrArg (World.drewN _) (Nat.add_assoc _ _ _))⟩)))
            repeat (go_quiet (first | (go_at_call 85; (with_reducible refine (spec_l1BlocksOK.calls a0_0 true _ A4.out).mono ?_); rintro e w' ⟨rfl, ⟨nd, rfl⟩⟩; (try first | exact ⟨rfl, _, World.drewN_drewN _ _ _⟩ | exact ⟨rfl, _, Eq.trans (World.drewN_drewN _ _ _) (congrArg (World.drewN _) (Nat.add_assoc _ _ _))⟩))); try go_wp2_with (first | (go_at_call 85; (with_reducible refine (spec_l1BlocksOK.calls a0_0 true _ A4.out).mono ?_); rintro e w' ⟨rfl, ⟨nd, rfl⟩⟩; (try first | exact ⟨rfl, _, World.drewN_drewN _ _ _⟩ | exact ⟨rfl, _, Eq.trans (World.drewN_drewN _ _ _) (congrArg (World.drewN _) (Nat.add_assoc _ _ _))⟩))))
            go_meet
            case rel => exact ⟨_, (true), (by first | rfl | (simp; done) | (simp [*]; done)), H', ⟨by first | omega | exact Nat.le_refl _⟩, ⟨by (with_reducible repeat (first | refine blk_drewN ?_ _ | refine blk_drew ?_ | refine blk_alloc ?_ _)); exact BK118.out⟩, ⟨by repeat (first | (with_reducible first | exact HB.out | apply below_alloc | apply pw_below_drewN | apply below_drew1 | refine below_set ?_ GE118.out) | exact HB.out)⟩⟩
          · rw [if_neg c10] at H
            have c10b0 : decide (a0_2 < 1) = false := decide_eq_false c10
            clear c10
            have H' := Aside0.mk H
            clear H
            have hcz12_0 : w3.cell? ⟨gb118, 0, none⟩ = some (.int .i64 a0_0) := (blk_cell BK118.out 0).trans rfl
            have hcz12_1 : w3.cell? ⟨gb118, 1, none⟩ = some (.int .i64 a0_1) := (blk_cell BK118.out 1).trans rfl
            have hcz12_2 : w3.cell? ⟨gb118, 2, none⟩ = some (.int .i64 a0_2) := (blk_cell BK118.out 2).trans rfl
            have hcz12_3 : w3.cell? ⟨gb118, 3, none⟩ = some (.int .i64 a0_3) := (blk_cell BK118.out 3).trans rfl
            have hcz12_4 : w3.cell? ⟨gb118, 4, none⟩ = some (.slice A0_4 l0_4.length c0_4) := (blk_cell BK118.out 4).trans rfl
            have hfz12_0 := blk_frozen BK118.out 0
            have hfz12_1 := blk_frozen BK118.out 1
            have hfz12_2 := blk_frozen BK118.out 2
            have hfz12_3 := blk_frozen BK118.out 3
            have hfz12_4 := blk_frozen BK118.out 4
            go_wp2_with (first | (go_at_call 85; (with_reducible refine (spec_l1BlocksOK.calls a0_0 true _ A4.out).mono ?_); rintro e w' ⟨rfl, ⟨nd, rfl⟩⟩; (try first | exact ⟨rfl, _, World.drewN_drewN _ _ _⟩ | exact ⟨rfl, _, Eq.trans (World.drewN_drewN _ _ _) (congrArg (World.drewN _) (Nat.add_assoc _ _ _))⟩)))
            repeat (go_quiet (first | (go_at_call 85; (with_reducible refine (spec_l1BlocksOK.calls a0_0 true _ A4.out).mono ?_); rintro e w' ⟨rfl, ⟨nd, rfl⟩⟩; (try first | exact ⟨rfl, _, World.drewN_drewN _ _ _⟩ | exact ⟨rfl, _, Eq.trans (World.drewN_drewN _ _ _) (congrArg (World.drewN _) (Nat.add_assoc _ _ _))⟩))); try go_wp2_with (first | (go_at_call 85; (with_reducible refine (spec_l1BlocksOK.calls a0_0 true _ A4.out).mono ?_); rintro e w' ⟨rfl, ⟨nd, rfl⟩⟩; (try first | exact ⟨rfl, _, World.drewN_drewN _ _ _⟩ | exact ⟨rfl, _, Eq.trans (World.drewN_drewN _ _ _) (congrArg (World.drewN _) (Nat.add_assoc _ _ _))⟩))))
            go_meet
            case rel => exact ⟨_, (decide (a0_2 > 65535)), (by first | rfl | (simp; done) | (simp [*]; done)), H', ⟨by first | omega | exact Nat.le_refl _⟩, ⟨by (with_reducible repeat (first | refine blk_drewN ?_ _ | refine blk_drew ?_ | refine blk_alloc ?_ _)); exact BK118.out⟩, ⟨by repeat (first | (with_reducible first | exact HB.out | apply below_alloc | apply pw_below_drewN | apply below_drew1 | refine below_set ?_ GE118.out) | exact HB.out)⟩⟩
    · replace c5 := Bool.eq_false_iff.mpr c5
      subst c5
      have H1 : (spec_l2SuperOK.j0 k true a0_0 a0_1 a0_2 a0_3 l0_4) = some r := by rw [if_neg (show ¬ (false = true) by decide)] at H; exact H
      clear H
      have H := H1
      clear H1
      have H' := Aside0.mk H
      clear H
      have hcz13_0 : w3.cell? ⟨gb118, 0, none⟩ = some (.int .i64 a0_0) := (blk_cell BK118.out 0).trans rfl
      have hcz13_1 : w3.cell? ⟨gb118, 1, none⟩ = some (.int .i64 a0_1) := (blk_cell BK118.out 1).trans rfl
      have hcz13_2 : w3.cell? ⟨gb118, 2, none⟩ = some (.int .i64 a0_2) := (blk_cell BK118.out 2).trans rfl
      have hcz13_3 : w3.cell? ⟨gb118, 3, none⟩ = some (.int .i64 a0_3) := (blk_cell BK118.out 3).trans rfl
      have hcz13_4 : w3.cell? ⟨gb118, 4, none⟩ = some (.slice A0_4 l0_4.length c0_4) := (blk_cell BK118.out 4).trans rfl
      have hfz13_0 := blk_frozen BK118.out 0
      have hfz13_1 := blk_frozen BK118.out 1
      have hfz13_2 := blk_frozen BK118.out 2
      have hfz13_3 := blk_frozen BK118.out 3
      have hfz13_4 := blk_frozen BK118.out 4
      go_wp2_with (first | (go_at_call 85; (with_reducible refine (spec_l1BlocksOK.calls a0_0 false _ A4.out).mono ?_); rintro e w' ⟨rfl, ⟨nd, rfl⟩⟩; (try first | exact ⟨rfl, _, World.drewN_drewN _ _ _⟩ | exact ⟨rfl, _, Eq.trans (World.drewN_drewN _ _ _) (congrArg (World.drewN _) (Nat.add_assoc _ _ _))⟩)))
      repeat (go_quiet (first | (go_at_call 85; (with_reducible refine (spec_l1BlocksOK.calls a0_0 false _ A4.out).mono ?_); rintro e w' ⟨rfl, ⟨nd, rfl⟩⟩; (try first | exact ⟨rfl, _, World.drewN_drewN _ _ _⟩ | exact ⟨rfl, _, Eq.trans (World.drewN_drewN _ _ _) (congrArg (World.drewN _) (Nat.add_assoc _ _ _))⟩))); try go_wp2_with (first | (go_at_call 85; (with_reducible refine (spec_l1BlocksOK.calls a0_0 false _ A4.out).mono ?_); rintro e w' ⟨rfl, ⟨nd, rfl⟩⟩; (try first | exact ⟨rfl, _, World.drewN_drewN _ _ _⟩ | exact ⟨rfl, _, Eq.trans (World.drewN_drewN _ _ _) (congrArg (World.drewN _) (Nat.add_assoc _ _ _))⟩))))
      go_meet
      case rel => exact ⟨_, (true), (by first | rfl | (simp; done) | (simp [*]; done)), H', ⟨by first | omega | exact Nat.le_refl _⟩, ⟨by (with_reducible repeat (first | refine blk_drewN ?_ _ | refine blk_drew ?_ | refine blk_alloc ?_ _)); exact BK118.out⟩, ⟨by repeat (first | (with_reducible first | exact HB.out | apply below_alloc | apply pw_below_drewN | apply below_drew1 | refine below_set ?_ GE118.out) | exact HB.out)⟩⟩
  case rest =>
    clear HC2
    try clear c1
    try clear p2
    try clear c5
    try clear c6
    try clear c6b0
    try clear c8
    try clear c8b0
    try clear c10
    try clear c10b0
    try clear hcz11_0
    try clear hcz11_1
    try clear hcz11_2
    try clear hcz11_3
    try clear hcz11_4
    try clear hcz12_0
    try clear hcz12_1
    try clear hcz12_2
    try clear hcz12_3
    try clear hcz12_4
    try clear hcz13_0
    try clear hcz13_1
    try clear hcz13_2
    try clear hcz13_3
    try clear hcz13_4
    try clear hcz7_0
    try clear hcz7_1
    try clear hcz7_2
    try clear hcz7_3
    try clear hcz7_4
    try clear hcz9_0
    try clear hcz9_1
    try clear hcz9_2
    try clear hcz9_3
    try clear hcz9_4
    try clear hfz11_0
    try clear hfz11_1
    try clear hfz11_2
    try clear hfz11_3
    try clear hfz11_4
    try clear hfz12_0
    try clear hfz12_1
    try clear hfz12_2
    try clear hfz12_3
    try clear hfz12_4
    try clear hfz13_0
    try clear hfz13_1
    try clear hfz13_2
    try clear hfz13_3
    try clear hfz13_4
    try clear hfz7_0
    try clear hfz7_1
    try clear hfz7_2
    try clear hfz7_3
    try clear hfz7_4
    try clear hfz9_0
    try clear hfz9_1
    try clear hfz9_2
    try clear hfz9_3
    try clear hfz9_4
    obtain ⟨kq, x28_1, rfl, HA, HJ1, BK118, HB⟩ := hcut
    cases kq with
    | zero => exact absurd HA.out (by first | (intro h_; cases h_; done) | simp [spec_l2SuperOK.j0])
    | succ kj1 =>
      have H := HA.out
      clear HA
      simp only [spec_l2SuperOK.j0] at H
      by_cases c14 : x28_1 = true
      · subst c14
        have H1 : (some false) = some r := by rw [if_pos rfl] at H; exact H
        clear H
        have H := H1
        clear H1
        obtain rfl := Option.some.inj H
        go_wp2
        repeat (go_quiet (fail); try go_wp2)
        go_ret
        exact ⟨by first | rfl | (simp [errW_none, errW_some] <;> rfl) | (simp [*, errW_none, errW_some] <;> rfl), by repeat (first | (with_reducible first | exact HB.out | apply below_alloc | apply pw_below_drewN | apply below_drew1 | refine below_set ?_ GE118.out) | exact HB.out)⟩
      · replace c14 := Bool.eq_false_iff.mpr c14
        subst c14
        have H1 : (if a0_3 < 2 then (spec_l2SuperOK.j1 kj1 true a0_0 a0_1 a0_2 a0_3 l0_4) else (if a0_3 ≥ a0_0 then (spec_l2SuperOK.j1 kj1 true a0_0 a0_1 a0_2 a0_3 l0_4) else (if (l0_4.length : Int) < 1 then (spec_l2SuperOK.j1 kj1 true a0_0 a0_1 a0_2 a0_3 l0_4) else (spec_l2SuperOK.j1 kj1 (decide ((l0_4.length : Int) > 16)) a0_0 a0_1 a0_2 a0_3 l0_4)))) = some r := by rw [if_neg (show ¬ (false = true) by decide)] at H; exact H
        clear H
        have H := H1
        clear H1
        have HC15 := Aside0.mk H
        clear H
        go_upto_region 3 with (fail)
        repeat (go_quiet (fail); go_upto_region 3 with (fail))
        go_cut [50] (fun v50 wc => ∃ (kq : Nat) (x50_14 : Bool), v50 = .bool x50_14 ∧ Aside0 (spec_l2SuperOK.j1 kq x50_14 a0_0 a0_1 a0_2 a0_3 l0_4 = some r) ∧ Aside0 (kq ≤ kj1) ∧ Aside0 (wc.heap[gb118]? = some (.cells #[.int .i64 a0_0, .int .i64 a0_1, .int .i64 a0_2, .int .i64 a0_3, (.slice A0_4 l0_4.length c0_4)] 45 (0, 0))) ∧ Aside0 (Below w.heap.size w wc))
        case first =>
          have H := HC15.out
          clear HC15
          by_cases c16 : a0_3 < 2
          · rw [if_pos c16] at H
            have c16b0 : decide (a0_3 < 2) = true := decide_eq_true c16
            clear c16
            (first | rw [c16b0] | (simp only [i64_w, i32_w]; rw [c16b0]) | skip)
            have H' := Aside0.mk H
            clear H
            have hcz17_0 : wc.cell? ⟨gb118, 0, none⟩ = some (.int .i64 a0_0) := (blk_cell BK118.out 0).trans rfl
            have hcz17_1 : wc.cell? ⟨gb118, 1, none⟩ = some (.int .i64 a0_1) := (blk_cell BK118.out 1).trans rfl
            have hcz17_2 : wc.cell? ⟨gb118, 2, none⟩ = some (.int .i64 a0_2) := (blk_cell BK118.out 2).trans rfl
            have hcz17_3 : wc.cell? ⟨gb118, 3, none⟩ = some (.int .i64 a0_3) := (blk_cell BK118.out 3).trans rfl
            have hcz17_4 : wc.cell? ⟨gb118, 4, none⟩ = some (.slice A0_4 l0_4.length c0_4) := (blk_cell BK118.out 4).trans rfl
            have hfz17_0 := blk_frozen BK118.out 0
            have hfz17_1 := blk_frozen BK118.out 1
            have hfz17_2 := blk_frozen BK118.out 2
            have hfz17_3 := blk_frozen BK118.out 3
            have hfz17_4 := blk_frozen BK118.out 4
            go_wp2
            repeat (go_quiet (fail); try go_wp2)
            go_meet
            case rel => exact ⟨_, (true), (by first | rfl | (simp; done) | (simp [*]; done)), H', ⟨by have := HJ1.out; first | omega | exact Nat.le_refl _⟩, ⟨by (with_reducible repeat (first | refine blk_drewN ?_ _ | refine blk_drew ?_ | refine blk_alloc ?_ _)); exact BK118.out⟩, ⟨by repeat (first | (with_reducible first | exact HB.out | apply below_alloc | apply pw_below_drewN | apply below_drew1 | refine below_set ?_ GE118.out) | exact HB.out)⟩⟩
          · rw [if_neg c16] at H
            have c16b0 : decide (a0_3 < 2) = false := decide_eq_false c16
            clear c16
            (first | rw [c16b0] | (simp only [i64_w, i32_w]; rw [c16b0]) | skip)
            by_cases c18 : a0_3 ≥ a0_0
            · rw [if_pos c18] at H
              have c18b0 : decide (a0_0 ≤ a0_3) = true := decide_eq_true c18
              clear c18
              have H' := Aside0.mk H
              clear H
              have hcz19_0 : wc.cell? ⟨gb118, 0, none⟩ = some (.int .i64 a0_0) := (blk_cell BK118.out 0).trans rfl
              have hcz19_1 : wc.cell? ⟨gb118, 1, none⟩ = some (.int .i64 a0_1) := (blk_cell BK118.out 1).trans rfl
              have hcz19_2 : wc.cell? ⟨gb118, 2, none⟩ = some (.int .i64 a0_2) := (blk_cell BK118.out 2).trans rfl
              have hcz19_3 : wc.cell? ⟨gb118, 3, none⟩ = some (.int .i64 a0_3) := (blk_cell BK118.out 3).trans rfl
              have hcz19_4 : wc.cell? ⟨gb118, 4, none⟩ = some (.slice A0_4 l0_4.length c0_4) := (blk_cell BK118.out 4).trans rfl
              have hfz19_0 := blk_frozen BK118.out 0
              have hfz19_1 := blk_frozen BK118.out 1
              have hfz19_2 := blk_frozen BK118.out 2
              have hfz19_3 := blk_frozen BK118.out 3
              have hfz19_4 := blk_frozen BK118.out 4
              go_wp2
              repeat (go_quiet (fail); try go_wp2)
              go_meet
              case rel => exact ⟨_, (true), (by first | rfl | (simp; done) | (simp [*]; done)), H', ⟨by have := HJ1.out; first | omega | exact Nat.le_refl _⟩, ⟨by (with_reducible repeat (first | refine blk_drewN ?_ _ | refine blk_drew ?_ | refine blk_alloc ?_ _)); exact BK118.out⟩, ⟨by repeat (first | (with_reducible first | exact HB.out | apply below_alloc | apply pw_below_drewN | apply below_drew1 | refine below_set ?_ GE118.out) | exact HB.out)⟩⟩
            · rw [if_neg c18] at H
              have c18b0 : decide (a0_0 ≤ a0_3) = false := decide_eq_false c18
              clear c18
              by_cases c20 : (l0_4.length : Int) < 1
              · rw [if_pos c20] at H
                have c20b0 : decide ((l0_4.length : Int) < 1) = true := decide_eq_true c20
                have c20b1 : decide (l0_4.length < 1) = true := decide_eq_true (by omega)
                clear c20
                have H' := Aside0.mk H
                clear H
                have hcz21_0 : wc.cell? ⟨gb118, 0, none⟩ = some (.int .i64 a0_0) := (blk_cell BK118.out 0).trans rfl
                have hcz21_1 : wc.cell? ⟨gb118, 1, none⟩ = some (.int .i64 a0_1) := (blk_cell BK118.out 1).trans rfl
                have hcz21_2 : wc.cell? ⟨gb118, 2, none⟩ = some (.int .i64 a0_2) := (blk_cell BK118.out 2).trans rfl
                have hcz21_3 : wc.cell? ⟨gb118, 3, none⟩ = some (.int .i64 a0_3) := (blk_cell BK118.out 3).trans rfl
                have hcz21_4 : wc.cell? ⟨gb118, 4, none⟩ = some (.slice A0_4 l0_4.length c0_4) := (blk_cell BK118.out 4).trans rfl
                have hfz21_0 := blk_frozen BK118.out 0
                have hfz21_1 := blk_frozen BK118.out 1
                have hfz21_2 := blk_frozen BK118.out 2
                have hfz21_3 := blk_frozen BK118.out 3
                have hfz21_4 := blk_frozen BK118.out 4
                go_wp2
                repeat (go_quiet (fail); try go_wp2)
                go_meet
                case rel => exact ⟨_, (true), (by first | rfl | (simp; done) | (simp [*]; done)), H', ⟨by have := HJ1.out; first | omega | exact Nat.le_refl _⟩, ⟨by (with_reducible repeat (first | refine blk_drewN ?_ _ | refine blk_drew ?_ | refine blk_alloc ?_ _)); exact BK118.out⟩, ⟨by repeat (first | (with_reducible first | exact HB.out | apply below_alloc | apply pw_below_drewN | apply below_drew1 | refine below_set ?_ GE118.out) | exact HB.out)⟩⟩
              · rw [if_neg c20] at H
                have c20b0 : decide ((l0_4.length : Int) < 1) = false := decide_eq_false c20
                have c20b1 : decide (l0_4.length < 1) = false := decide_eq_false (by omega)
                clear c20
                have H' := Aside0.mk H
                clear H
                have hcz22_0 : wc.cell? ⟨gb118, 0, none⟩ = some (.int .i64 a0_0) := (blk_cell BK118.out 0).trans rfl
                have hcz22_1 : wc.cell? ⟨gb118, 1, none⟩ = some (.int .i64 a0_1) := (blk_cell BK118.out 1).trans rfl
                have hcz22_2 : wc.cell? ⟨gb118, 2, none⟩ = some (.int .i64 a0_2) := (blk_cell BK118.out 2).trans rfl
                have hcz22_3 : wc.cell? ⟨gb118, 3, none⟩ = some (.int .i64 a0_3) := (blk_cell BK118.out 3).trans rfl
                have hcz22_4 : wc.cell? ⟨gb118, 4, none⟩ = some (.slice A0_4 l0_4.length c0_4) := (blk_cell BK118.out 4).trans rfl
                have hfz22_0 := blk_frozen BK118.out 0
                have hfz22_1 := blk_frozen BK118.out 1
                have hfz22_2 := blk_frozen BK118.out 2
                have hfz22_3 := blk_frozen BK118.out 3
                have hfz22_4 := blk_frozen BK118.out 4
                go_wp2
                repeat (go_quiet (fail); try go_wp2)
                go_meet
                case rel => exact ⟨_, (decide ((l0_4.length : Int) > 16)), (by first | rfl | (simp; done) | (simp [*]; done)), H', ⟨by have := HJ1.out; first | omega | exact Nat.le_refl _⟩, ⟨by (with_reducible repeat (first | refine blk_drewN ?_ _ | refine blk_drew ?_ | refine blk_alloc ?_ _)); exact BK118.out⟩, ⟨by repeat (first | (with_reducible first | exact HB.out | apply below_alloc | apply pw_below_drewN | apply below_drew1 | refine below_set ?_ GE118.out) | exact HB.out)⟩⟩
        case rest =>
          clear HC15
          try clear c1
          try clear c2
          try clear p2
          try clear c5
          try clear c6
          try clear c6b0
          try clear c8
          try clear c8b0
          try clear c10
          try clear c10b0
          try clear c14
          try clear c16
          try clear c16b0
          try clear c18
          try clear c18b0
          try clear c20
          try clear c20b0
          try clear c20b1
          try clear hcz11_0
          try clear hcz11_1
          try clear hcz11_2
          try clear hcz11_3
          try clear hcz11_4
          try clear hcz12_0
          try clear hcz12_1
          try clear hcz12_2
          try clear hcz12_3
          try clear hcz12_4
          try clear hcz13_0
          try clear hcz13_1
          try clear hcz13_2
          try clear hcz13_3
          try clear hcz13_4
          try clear hcz17_0
          try clear hcz17_1
          try clear hcz17_2
          try clear hcz17_3
          try clear hcz17_4
          try clear hcz19_0
          try clear hcz19_1
          try clear hcz19_2
          try clear hcz19_3
          try clear hcz19_4
          try clear hcz21_0
          try clear hcz21_1
          try clear hcz21_2
          try clear hcz21_3
          try clear hcz21_4
          try clear hcz22_0
          try clear hcz22_1
          try clear hcz22_2
          try clear hcz22_3
          try clear hcz22_4
          try clear hcz7_0
          try clear hcz7_1
          try clear hcz7_2
          try clear hcz7_3
          try clear hcz7_4
          try clear hcz9_0
          try clear hcz9_1
          try clear hcz9_2
          try clear hcz9_3
          try clear hcz9_4
          try clear hfz11_0
          try clear hfz11_1
          try clear hfz11_2
          try clear hfz11_3
          try clear hfz11_4
          try clear hfz12_0
          try clear hfz12_1
          try clear hfz12_2
          try clear hfz12_3
          try clear hfz12_4
          try clear hfz13_0
          try clear hfz13_1
          try clear hfz13_2
          try clear hfz13_3
          try clear hfz13_4
          try clear hfz17_0
          try clear hfz17_1
          try clear hfz17_2
          try clear hfz17_3
          try clear hfz17_4
          try clear hfz19_0
          try clear hfz19_1
          try clear hfz19_2
          try clear hfz19_3
          try clear hfz19_4
          try clear hfz21_0
          try clear hfz21_1
          try clear hfz21_2
          try clear hfz21_3
          try clear hfz21_4
          try clear hfz22_0
          try clear hfz22_1
          try clear hfz22_2
          try clear hfz22_3
          try clear hfz22_4
          try clear hfz7_0
          try clear hfz7_1
          try clear hfz7_2
          try clear hfz7_3
          try clear hfz7_4
          try clear hfz9_0
          try clear hfz9_1
          try clear hfz9_2
          try clear hfz9_3
          try clear hfz9_4
          try clear p2
          obtain ⟨kq, x50_14, rfl, HA, HJ14, BK118, HB⟩ := hcut
          cases kq with
          | zero => exact absurd HA.out (by first | (intro h_; cases h_; done) | simp [spec_l2SuperOK.j1])
          | succ kj14 =>
            have H := HA.out
            clear HA
            simp only [spec_l2SuperOK.j1] at H
            by_cases c23 : x50_14 = true
            · subst c23
              have H1 : (some false) = some r := by rw [if_pos rfl] at H; exact H
              clear H
              have H := H1
              clear H1
              obtain rfl := Option.some.inj H
              go_wp2
              repeat (go_quiet (fail); try go_wp2)
              go_ret
              exact ⟨by first | rfl | (simp [errW_none, errW_some] <;> rfl) | (simp [*, errW_none, errW_some] <;> rfl), by repeat (first | (with_reducible first | exact HB.out | apply below_alloc | apply pw_below_drewN | apply below_drew1 | refine below_set ?_ GE118.out) | exact HB.out)⟩
            · replace c23 := Bool.eq_false_iff.mpr c23
              subst c23
              have H1 : (spec_l2SuperOK.l0 kj14 0 a0_0 a0_1 a0_2 a0_3 l0_4) = some r := by rw [if_neg (show ¬ (false = true) by decide)] at H; exact H
              clear H
              have H := H1
              clear H1
              have H' := Aside0.mk H
              clear H
              go_wp2
              repeat (go_quiet (fail); try go_wp2)
              go_loopg [3] kj14 (fun kq v3 w' => ∃ (x3_3 : Int), v3 = .int .i64 x3_3 ∧ Aside0 (spec_l2SuperOK.l0 kq x3_3 a0_0 a0_1 a0_2 a0_3 l0_4 = some r) ∧ Aside0 (kq ≤ kj14) ∧ Aside0 (w'.heap[gb118]? = some (.cells #[.int .i64 a0_0, .int .i64 a0_1, .int .i64 a0_2, .int .i64 a0_3, (.slice A0_4 l0_4.length c0_4)] 45 (0, 0))) ∧ Aside0 (Below w.heap.size w w'))
              case atStart => exact ⟨(0), (by first | rfl | (simp; done) | (simp [*]; done)), H', ⟨Nat.le_refl _⟩, ⟨by (with_reducible repeat (first | refine blk_drewN ?_ _ | refine blk_drew ?_ | refine blk_alloc ?_ _)); exact BK118.out⟩, ⟨by repeat (first | (with_reducible first | exact HB.out | apply below_alloc | apply pw_below_drewN | apply below_drew1 | refine below_set ?_ GE118.out) | exact HB.out)⟩⟩
              case round =>
                clear H'
                try clear c1
                try clear c2
                try clear p2
                try clear c5
                try clear c6
                try clear c6b0
                try clear c8
                try clear c8b0
                try clear c10
                try clear c10b0
                try clear c14
                try clear c16
                try clear c16b0
                try clear c18
                try clear c18b0
                try clear c20
                try clear c20b0
                try clear c20b1
                try clear c23
                try clear hcz11_0
                try clear hcz11_1
                try clear hcz11_2
                try clear hcz11_3
                try clear hcz11_4
                try clear hcz12_0
                try clear hcz12_1
                try clear hcz12_2
                try clear hcz12_3
                try clear hcz12_4
                try clear hcz13_0
                try clear hcz13_1
                try clear hcz13_2
                try clear hcz13_3
                try clear hcz13_4
                try clear hcz17_0
                try clear hcz17_1
                try clear hcz17_2
                try clear hcz17_3
                try clear hcz17_4
                try clear hcz19_0
                try clear hcz19_1
                try clear hcz19_2
                try clear hcz19_3
                try clear hcz19_4
                try clear hcz21_0
                try clear hcz21_1
                try clear hcz21_2
                try clear hcz21_3
                try clear hcz21_4
                try clear hcz22_0
                try clear hcz22_1
                try clear hcz22_2
                try clear hcz22_3
                try clear hcz22_4
                try clear hcz7_0
                try clear hcz7_1
                try clear hcz7_2
                try clear hcz7_3
                try clear hcz7_4
                try clear hcz9_0
                try clear hcz9_1
                try clear hcz9_2
                try clear hcz9_3
                try clear hcz9_4
                try clear hfz11_0
                try clear hfz11_1
                try clear hfz11_2
                try clear hfz11_3
                try clear hfz11_4
                try clear hfz12_0
                try clear hfz12_1
                try clear hfz12_2
                try clear hfz12_3
                try clear hfz12_4
                try clear hfz13_0
                try clear hfz13_1
                try clear hfz13_2
                try clear hfz13_3
                try clear hfz13_4
                try clear hfz17_0
                try clear hfz17_1
                try clear hfz17_2
                try clear hfz17_3
                try clear hfz17_4
                try clear hfz19_0
                try clear hfz19_1
                try clear hfz19_2
                try clear hfz19_3
                try clear hfz19_4
                try clear hfz21_0
                try clear hfz21_1
                try clear hfz21_2
                try clear hfz21_3
                try clear hfz21_4
                try clear hfz22_0
                try clear hfz22_1
                try clear hfz22_2
                try clear hfz22_3
                try clear hfz22_4
                try clear hfz7_0
                try clear hfz7_1
                try clear hfz7_2
                try clear hfz7_3
                try clear hfz7_4
                try clear hfz9_0
                try clear hfz9_1
                try clear hfz9_2
                try clear hfz9_3
                try clear hfz9_4
                try clear p2
                obtain ⟨x3_3, rfl, HA, HK3, BK118, HB⟩ := hrel
                cases gk with
                | zero => exact absurd HA.out (by first | (intro h_; cases h_; done) | simp [spec_l2SuperOK.l0])
                | succ k3 =>
                  have H := HA.out
                  clear HA
                  simp only [spec_l2SuperOK.l0] at H
                  by_cases c24 : x3_3 < (l0_4.length : Int)
                  · rw [if_pos c24] at H
                    have c24b0 : decide (x3_3 < (l0_4.length : Int)) = true := decide_eq_true c24
                    clear c24
                    by_cases c25 : 0 ≤ x3_3
                    · rw [if_pos c25] at H
                      have c25b0 : decide (0 ≤ x3_3) = true := decide_eq_true c25
                      clear c25
                      by_cases c26 : ((rd_T79 l0_4 x3_3).f0) < 0
                      · rw [if_pos c26] at H
                        have c26b0 : decide (((rd_T79 l0_4 x3_3).f0) < 0) = true := decide_eq_true c26
                        clear c26
                        obtain rfl := Option.some.inj H
                        have hcz27_0 : wr.cell? ⟨gb118, 0, none⟩ = some (.int .i64 a0_0) := (blk_cell BK118.out 0).trans rfl
                        have hcz27_1 : wr.cell? ⟨gb118, 1, none⟩ = some (.int .i64 a0_1) := (blk_cell BK118.out 1).trans rfl
                        have hcz27_2 : wr.cell? ⟨gb118, 2, none⟩ = some (.int .i64 a0_2) := (blk_cell BK118.out 2).trans rfl
                        have hcz27_3 : wr.cell? ⟨gb118, 3, none⟩ = some (.int .i64 a0_3) := (blk_cell BK118.out 3).trans rfl
                        have hcz27_4 : wr.cell? ⟨gb118, 4, none⟩ = some (.slice A0_4 l0_4.length c0_4) := (blk_cell BK118.out 4).trans rfl
                        have hfz27_0 := blk_frozen BK118.out 0
                        have hfz27_1 := blk_frozen BK118.out 1
                        have hfz27_2 := blk_frozen BK118.out 2
                        have hfz27_3 := blk_frozen BK118.out 3
                        have hfz27_4 := blk_frozen BK118.out 4
                        have p120 : 0 ≤ (x3_3 : Int) := of_decide_eq_true (by first | (with_reducible assumption) | assumption)
                        have q120 : x3_3 < (l0_4.length : Int) := of_decide_eq_true (by first | (with_reducible assumption) | assumption)
                        obtain ⟨ad120, e120, hx120_0, hx120_1⟩ := at_T79 HR0_4.out x3_3 p120 q120
                        cases e120
                        replace hx120_0 := (HB.out.cell (World.block_lt_of_cell? w _ hx120_0)).trans hx120_0
                        replace hx120_1 := (HB.out.cell (World.block_lt_of_cell? w _ hx120_1)).trans hx120_1
                        replace p120 := eq_true p120
                        replace q120 := eq_true q120
                        go_wp2_with (first | ((with_reducible refine gate_dst (N := 4) rfl ?_); (try (refine gate_guard (by rfl) ?_; dsimp only)); refine box_event ?hg (N := 4) ?hd (cs := #[.int .i64 0, .int .i64 0]) (t := 79) ?hr ?_; (case hd => rfl); (case hg => rfl); (case hr => first | (go_simp; done) | (go_simp; rfl)); intro gb121 hg w28 hbox hb; have n0_ := Aside0.mk (blk_below (g := gb118) (o := .cells #[.int .i64 a0_0, .int .i64 a0_1, .int .i64 a0_2, .int .i64 a0_3, .slice (some ad120) l0_4.length c0_4] 45 (0, 0)) (by (with_reducible repeat (first | refine blk_drewN ?_ _ | refine blk_drew ?_ | refine blk_alloc ?_ _)); exact BK118.out) hb); have n1_ := Aside0.mk (below_step (by repeat (first | (with_reducible first | exact HB.out | apply below_alloc | apply pw_below_drewN | apply below_drew1 | refine below_set ?_ GE118.out) | exact HB.out)) hb); have n2_ := Aside0.mk (hbox); have n3_ := Aside0.mk ((by rw [hg]; exact (below_size (by repeat (first | (with_reducible first | exact HB.out | apply below_alloc | apply pw_below_drewN | apply below_drew1 | refine below_set ?_ GE118.out) | exact HB.out))) : w.heap.size ≤ gb121)); have n4_ := Aside0.mk ((by rw [hg]; exact (below_size (by repeat (first | (with_reducible first | exact HB.out | apply below_alloc | apply pw_below_drewN | apply below_drew1 | refine below_set ?_ GE118.out) | exact HB.out))) : w.heap.size ≤ gb121)); have n5_ := Aside0.mk ((by rw [hg]; exact Nat.ne_of_lt (blk_lt (g := gb118) (o := .cells #[.int .i64 a0_0, .int .i64 a0_1, .int .i64 a0_2, .int .i64 a0_3, .slice (some ad120) l0_4.length c0_4] 45 (0, 0)) (by (with_reducible repeat (first | refine blk_drewN ?_ _ | refine blk_drew ?_ | refine blk_alloc ?_ _)); exact BK118.out)) : gb118 ≠ gb121)); have n6_ := Aside0.mk ((by rw [hg]; exact Nat.ne_of_gt (blk_lt (g := gb118) (o := .cells #[.int .i64 a0_0, .int .i64 a0_1, .int .i64 a0_2, .int .i64 a0_3, .slice (some ad120) l0_4.length c0_4] 45 (0, 0)) (by (with_reducible repeat (first | refine blk_drewN ?_ _ | refine blk_drew ?_ | refine blk_alloc ?_ _)); exact BK118.out)) : gb121 ≠ gb118)); clear BK118; clear HB; have BK118 := n0_; have HB := n1_; have BK121 := n2_; have GW121 := n3_; have GE121 := n4_; have NB118_121 := n5_; have NB121_118 := n6_; clear n0_ n1_ n2_ n3_ n4_ n5_ n6_; clear hb hbox hg; have hnb29 := NB121_118.out; have hnc29 := NB118_121.out; have hcz30_0 : w28.cell? ⟨gb121, 0, none⟩ = some (.int .i64 0) := (blk_cell BK121.out 0).trans rfl; have hcz30_1 : w28.cell? ⟨gb121, 1, none⟩ = some (.int .i64 0) := (blk_cell BK121.out 1).trans rfl; have hfz30_0 := blk_frozen BK121.out 0; have hfz30_1 := blk_frozen BK121.out 1))
                        repeat (go_quiet (first | ((with_reducible refine gate_dst (N := 4) rfl ?_); (try (refine gate_guard (by rfl) ?_; dsimp only)); refine box_event ?hg (N := 4) ?hd (cs := #[.int .i64 0, .int .i64 0]) (t := 79) ?hr ?_; (case hd => rfl); (case hg => rfl); (case hr => first | (go_simp; done) | (go_simp; rfl)); intro gb121 hg w28 hbox hb; have n0_ := Aside0.mk (blk_below (g := gb118) (o := .cells #[.int .i64 a0_0, .int .i64 a0_1, .int .i64 a0_2, .int .i64 a0_3, .slice (some ad120) l0_4.length c0_4] 45 (0, 0)) (by (with_reducible repeat (first | refine blk_drewN ?_ _ | refine blk_drew ?_ | refine blk_alloc ?_ _)); exact BK118.out) hb); have n1_ := Aside0.mk (below_step (by repeat (first | (with_reducible first | exact HB.out | apply below_alloc | apply pw_below_drewN | apply below_drew1 | refine below_set ?_ GE118.out) | exact HB.out)) hb); have n2_ := Aside0.mk (hbox); have n3_ := Aside0.mk ((by rw [hg]; exact (below_size (by repeat (first | (with_reducible first | exact HB.out | apply below_alloc | apply pw_below_drewN | apply below_drew1 | refine below_set ?_ GE118.out) | exact HB.out))) : w.heap.size ≤ gb121)); have n4_ := Aside0.mk ((by rw [hg]; exact (below_size (by repeat (first | (with_reducible first | exact HB.out | apply below_alloc | apply pw_below_drewN | apply below_drew1 | refine below_set ?_ GE118.out) | exact HB.out))) : w.heap.size ≤ gb121)); have n5_ := Aside0.mk ((by rw [hg]; exact Nat.ne_of_lt (blk_lt (g := gb118) (o := .cells #[.int .i64 a0_0, .int .i64 a0_1, .int .i64 a0_2, .int .i64 a0_3, .slice (some ad120) l0_4.length c0_4] 45 (0, 0)) (by (with_reducible repeat (first | refine blk_drewN ?_ _ | refine blk_drew ?_ | refine blk_alloc ?_ _)); exact BK118.out)) : gb118 ≠ gb121)); have n6_ := Aside0.mk ((by rw [hg]; exact Nat.ne_of_gt (blk_lt (g := gb118) (o := .cells #[.int .i64 a0_0, .int .i64 a0_1, .int .i64 a0_2, .int .i64 a0_3, .slice (some ad120) l0_4.length c0_4] 45 (0, 0)) (by (with_reducible repeat (first | refine blk_drewN ?_ _ | refine blk_drew ?_ | refine blk_alloc ?_ _)); exact BK118.out)) : gb121 ≠ gb118)); clear BK118; clear HB; have BK118 := n0_; have HB := n1_; have BK121 := n2_; have GW121 := n3_; have GE121 := n4_; have NB118_121 := n5_; have NB121_118 := n6_; clear n0_ n1_ n2_ n3_ n4_ n5_ n6_; clear hb hbox hg; have hnb29 := NB121_118.out; have hnc29 := NB118_121.out; have hcz30_0 : w28.cell? ⟨gb121, 0, none⟩ = some (.int .i64 0) := (blk_cell BK121.out 0).trans rfl; have hcz30_1 : w28.cell? ⟨gb121, 1, none⟩ = some (.int .i64 0) := (blk_cell BK121.out 1).trans rfl; have hfz30_0 := blk_frozen BK121.out 0; have hfz30_1 := blk_frozen BK121.out 1)); try go_wp2_with (first | ((with_reducible refine gate_dst (N := 4) rfl ?_); (try (refine gate_guard (by rfl) ?_; dsimp only)); refine box_event ?hg (N := 4) ?hd (cs := #[.int .i64 0, .int .i64 0]) (t := 79) ?hr ?_; (case hd => rfl); (case hg => rfl); (case hr => first | (go_simp; done) | (go_simp; rfl)); intro gb121 hg w28 hbox hb; have n0_ := Aside0.mk (blk_below (g := gb118) (o := .cells #[.int .i64 a0_0, .int .i64 a0_1, .int .i64 a0_2, .int .i64 a0_3, .slice (some ad120) l0_4.length c0_4] 45 (0, 0)) (by (with_reducible repeat (first | refine blk_drewN ?_ _ | refine blk_drew ?_ | refine blk_alloc ?_ _)); exact BK118.out) hb); have n1_ := Aside0.mk (below_step (by repeat (first | (with_reducible first | exact HB.out | apply below_alloc | apply pw_below_drewN | apply below_drew1 | refine below_set ?_ GE118.out) | exact HB.out)) hb); have n2_ := Aside0.mk (hbox); have n3_ := Aside0.mk ((by rw [hg]; exact (below_size (by repeat (first | (with_reducible first | exact HB.out | apply below_alloc | apply pw_below_drewN | apply below_drew1 | refine below_set ?_ GE118.out) | exact HB.out))) : w.heap.size ≤ gb121)); have n4_ := Aside0.mk ((by rw [hg]; exact (below_size (by repeat (first | (with_reducible first | exact HB.out | apply below_alloc | apply pw_below_drewN | apply below_drew1 | refine below_set ?_ GE118.out) | exact HB.out))) : w.heap.size ≤ gb121)); have n5_ := Aside0.mk ((by rw [hg]; exact Nat.ne_of_lt (blk_lt (g := gb118) (o := .cells #[.int .i64 a0_0, .int .i64 a0_1, .int .i64 a0_2, .int .i64 a0_3, .slice (some ad120) l0_4.length c0_4] 45 (0, 0)) (by (with_reducible repeat (first | refine blk_drewN ?_ _ | refine blk_drew ?_ | refine blk_alloc ?_ _)); exact BK118.out)) : gb118 ≠ gb121)); have n6_ := Aside0.mk ((by rw [hg]; exact Nat.ne_of_gt (blk_lt (g := gb118) (o := .cells #[.int .i64 a0_0, .int .i64 a0_1, .int .i64 a0_2, .int .i64 a0_3, .slice (some ad120) l0_4.length c0_4] 45 (0, 0)) (by (with_reducible repeat (first | refine blk_drewN ?_ _ | refine blk_drew ?_ | refine blk_alloc ?_ _)); exact BK118.out)) : gb121 ≠ gb118)); clear BK118; clear HB; have BK118 := n0_; have HB := n1_; have BK121 := n2_; have GW121 := n3_; have GE121 := n4_; have NB118_121 := n5_; have NB121_118 := n6_; clear n0_ n1_ n2_ n3_ n4_ n5_ n6_; clear hb hbox hg; have hnb29 := NB121_118.out; have hnc29 := NB118_121.out; have hcz30_0 : w28.cell? ⟨gb121, 0, none⟩ = some (.int .i64 0) := (blk_cell BK121.out 0).trans rfl; have hcz30_1 : w28.cell? ⟨gb121, 1, none⟩ = some (.int .i64 0) := (blk_cell BK121.out 1).trans rfl; have hfz30_0 := blk_frozen BK121.out 0; have hfz30_1 := blk_frozen BK121.out 1)))
                        go_ret
                        exact ⟨by first | rfl | (simp [errW_none, errW_some] <;> rfl) | (simp [*, errW_none, errW_some] <;> rfl), by repeat (first | (with_reducible first | exact HB.out | apply below_alloc | apply pw_below_drewN | apply below_drew1 | refine below_set ?_ GE118.out | refine below_set ?_ GE121.out) | exact HB.out)⟩
                      · rw [if_neg c26] at H
                        have c26b0 : decide (((rd_T79 l0_4 x3_3).f0) < 0) = false := decide_eq_false c26
                        clear c26
                        by_cases c31 : ((rd_T79 l0_4 x3_3).f0) ≥ a0_2
                        · rw [if_pos c31] at H
                          have c31b0 : decide (a0_2 ≤ ((rd_T79 l0_4 x3_3).f0)) = true := decide_eq_true c31
                          clear c31
                          obtain rfl := Option.some.inj H
                          have hcz32_0 : wr.cell? ⟨gb118, 0, none⟩ = some (.int .i64 a0_0) := (blk_cell BK118.out 0).trans rfl
                          have hcz32_1 : wr.cell? ⟨gb118, 1, none⟩ = some (.int .i64 a0_1) := (blk_cell BK118.out 1).trans rfl
                          have hcz32_2 : wr.cell? ⟨gb118, 2, none⟩ = some (.int .i64 a0_2) := (blk_cell BK118.out 2).trans rfl
                          have hcz32_3 : wr.cell? ⟨gb118, 3, none⟩ = some (.int .i64 a0_3) := (blk_cell BK118.out 3).trans rfl
                          have hcz32_4 : wr.cell? ⟨gb118, 4, none⟩ = some (.slice A0_4 l0_4.length c0_4) := (blk_cell BK118.out 4).trans rfl
                          have hfz32_0 := blk_frozen BK118.out 0
                          have hfz32_1 := blk_frozen BK118.out 1
                          have hfz32_2 := blk_frozen BK118.out 2
                          have hfz32_3 := blk_frozen BK118.out 3
                          have hfz32_4 := blk_frozen BK118.out 4
                          have p120 : 0 ≤ (x3_3 : Int) := of_decide_eq_true (by first | (with_reducible assumption) | assumption)
                          have q120 : x3_3 < (l0_4.length : Int) := of_decide_eq_true (by first | (with_reducible assumption) | assumption)
                          obtain ⟨ad120, e120, hx120_0, hx120_1⟩ := at_T79 HR0_4.out x3_3 p120 q120
                          cases e120
                          replace hx120_0 := (HB.out.cell (World.block_lt_of_cell? w _ hx120_0)).trans hx120_0
                          replace hx120_1 := (HB.out.cell (World.block_lt_of_cell? w _ hx120_1)).trans hx120_1
                          replace p120 := eq_true p120
                          replace q120 := eq_true q120
                          go_wp2_with (first | ((with_reducible refine gate_dst (N := 4) rfl ?_); (try (refine gate_guard (by rfl) ?_; dsimp only)); refine box_event ?hg (N := 4) ?hd (cs := #[.int .i64 0, .int .i64 0]) (t := 79) ?hr ?_; (case hd => rfl); (case hg => rfl); (case hr => first | (go_simp; done) | (go_simp; rfl)); intro gb121 hg w33 hbox hb; have n0_ := Aside0.mk (blk_below (g := gb118) (o := .cells #[.int .i64 a0_0, .int .i64 a0_1, .int .i64 a0_2, .int .i64 a0_3, .slice (some ad120) l0_4.length c0_4] 45 (0, 0)) (by (with_reducible repeat (first | refine blk_drewN ?_ _ | refine blk_drew ?_ | refine blk_alloc ?_ _)); exact BK118.out) hb); have n1_ := Aside0.mk (below_step (by repeat (first | (with_reducible first | exact HB.out | apply below_alloc | apply pw_below_drewN | apply below_drew1 | refine below_set ?_ GE118.out) | exact HB.out)) hb); have n2_ := Aside0.mk (hbox); have n3_ := Aside0.mk ((by rw [hg]; exact (below_size (by repeat (first | (with_reducible first | exact HB.out | apply below_alloc | apply pw_below_drewN | apply below_drew1 | refine below_set ?_ GE118.out) | exact HB.out))) : w.heap.size ≤ gb121)); have n4_ := Aside0.mk ((by rw [hg]; exact (below_size (by repeat (first | (with_reducible first | exact HB.out | apply below_alloc | apply pw_below_drewN | apply below_drew1 | refine below_set ?_ GE118.out) | exact HB.out))) : w.heap.size ≤ gb121)); have n5_ := Aside0.mk ((by rw [hg]; exact Nat.ne_of_lt (blk_lt (g := gb118) (o := .cells #[.int .i64 a0_0, .int .i64 a0_1, .int .i64 a0_2, .int .i64 a0_3, .slice (some ad120) l0_4.length c0_4] 45 (0, 0)) (by (with_reducible repeat (first | refine blk_drewN ?_ _ | refine blk_drew ?_ | refine blk_alloc ?_ _)); exact BK118.out)) : gb118 ≠ gb121)); have n6_ := Aside0.mk ((by rw [hg]; exact Nat.ne_of_gt (blk_lt (g := gb118) (o := .cells #[.int .i64 a0_0, .int .i64 a0_1, .int .i64 a0_2, .int .i64 a0_3, .slice (some ad120) l0_4.length c0_4] 45 (0, 0)) (by (with_reducible repeat (first | refine blk_drewN ?_ _ | refine blk_drew ?_ | refine blk_alloc ?_ _)); exact BK118.out)) : gb121 ≠ gb118)); clear BK118; clear HB; have BK118 := n0_; have HB := n1_; have BK121 := n2_; have GW121 := n3_; have GE121 := n4_; have NB118_121 := n5_; have NB121_118 := n6_; clear n0_ n1_ n2_ n3_ n4_ n5_ n6_; clear hb hbox hg; have hnb34 := NB121_118.out; have hnc34 := NB118_121.out; have hcz35_0 : w33.cell? ⟨gb121, 0, none⟩ = some (.int .i64 0) := (blk_cell BK121.out 0).trans rfl; have hcz35_1 : w33.cell? ⟨gb121, 1, none⟩ = some (.int .i64 0) := (blk_cell BK121.out 1).trans rfl; have hfz35_0 := blk_frozen BK121.out 0; have hfz35_1 := blk_frozen BK121.out 1; have hcz36_0 : w33.cell? ⟨gb118, 0, none⟩ = some (.int .i64 a0_0) := (blk_cell BK118.out 0).trans rfl; have hcz36_1 : w33.cell? ⟨gb118, 1, none⟩ = some (.int .i64 a0_1) := (blk_cell BK118.out 1).trans rfl; have hcz36_2 : w33.cell? ⟨gb118, 2, none⟩ = some (.int .i64 a0_2) := (blk_cell BK118.out 2).trans rfl; have hcz36_3 : w33.cell? ⟨gb118, 3, none⟩ = some (.int .i64 a0_3) := (blk_cell BK118.out 3).trans rfl; have hcz36_4 : w33.cell? ⟨gb118, 4, none⟩ = some (.slice (some ad120) l0_4.length c0_4) := (blk_cell BK118.out 4).trans rfl; have hfz36_0 := blk_frozen BK118.out 0; have hfz36_1 := blk_frozen BK118.out 1; have hfz36_2 := blk_frozen BK118.out 2; have hfz36_3 := blk_frozen BK118.out 3; have hfz36_4 := blk_frozen BK118.out 4))
                          repeat (go_quiet (first | ((with_reducible refine gate_dst (N := 4) rfl ?_); (try (refine gate_guard (by rfl) ?_; dsimp only)); refine box_event ?hg (N := 4) ?hd (cs := #[.int .i64 0, .int .i64 0]) (t := 79) ?hr ?_; (case hd => rfl); (case hg => rfl); (case hr => first | (go_simp; done) | (go_simp; rfl)); intro gb121 hg w33 hbox hb; have n0_ := Aside0.mk (blk_below (g := gb118) (o := .cells #[.int .i64 a0_0, .int .i64 a0_1, .int .i64 a0_2, .int .i64 a0_3, .slice (some ad120) l0_4.length c0_4] 45 (0, 0)) (by (with_reducible repeat (first | refine blk_drewN ?_ _ | refine blk_drew ?_ | refine blk_alloc ?_ _)); exact BK118.out) hb); have n1_ := Aside0.mk (below_step (by repeat (first | (with_reducible first | exact HB.out | apply below_alloc | apply pw_below_drewN | apply below_drew1 | refine below_set ?_ GE118.out) | exact HB.out)) hb); have n2_ := Aside0.mk (hbox); have n3_ := Aside0.mk ((by rw [hg]; exact (below_size (by repeat (first | (with_reducible first | exact HB.out | apply below_alloc | apply pw_below_drewN | apply below_drew1 | refine below_set ?_ GE118.out) | exact HB.out))) : w.heap.size ≤ gb121)); have n4_ := Aside0.mk ((by rw [hg]; exact (below_size (by repeat (first | (with_reducible first | exact HB.out | apply below_alloc | apply pw_below_drewN | apply below_drew1 | refine below_set ?_ GE118.out) | exact HB.out))) : w.heap.size ≤ gb121)); have n5_ := Aside0.mk ((by rw [hg]; exact Nat.ne_of_lt (blk_lt (g := gb118) (o := .cells #[.int .i64 a0_0, .int .i64 a0_1, .int .i64 a0_2, .int .i64 a0_3, .slice (some ad120) l0_4.length c0_4] 45 (0, 0)) (by (with_reducible repeat (first | refine blk_drewN ?_ _ | refine blk_drew ?_ | refine blk_alloc ?_ _)); exact BK118.out)) : gb118 ≠ gb121)); have n6_ := Aside0.mk ((by rw [hg]; exact Nat.ne_of_gt (blk_lt (g := gb118) (o := .cells #[.int .i64 a0_0, .int .i64 a0_1, .int .i64 a0_2, .int .i64 a0_3, .slice (some ad120) l0_4.length c0_4] 45 (0, 0)) (by (with_reducible repeat (first | refine blk_drewN ?_ _ | refine blk_drew ?_ | refine blk_alloc ?_ _)); exact BK118.out)) : gb121 ≠ gb118)); clear BK118; clear HB; have BK118 := n0_; have HB := n1_; have BK121 := n2_; have GW121 := n3_; have GE121 := n4_; have NB118_121 := n5_; have NB121_118 := n6_; clear n0_ n1_ n2_ n3_ n4_ n5_ n6_; clear hb hbox hg; have hnb34 := NB121_118.out; have hnc34 := NB118_121.out; have hcz35_0 : w33.cell? ⟨gb121, 0, none⟩ = some (.int .i64 0) := (blk_cell BK121.out 0).trans rfl; have hcz35_1 : w33.cell? ⟨gb121, 1, none⟩ = some (.int .i64 0) := (blk_cell BK121.out 1).trans rfl; have hfz35_0 := blk_frozen BK121.out 0; have hfz35_1 := blk_frozen BK121.out 1; have hcz36_0 : w33.cell? ⟨gb118, 0, none⟩ = some (.int .i64 a0_0) := (blk_cell BK118.out 0).trans rfl; have hcz36_1 : w33.cell? ⟨gb118, 1, none⟩ = some (.int .i64 a0_1) := (blk_cell BK118.out 1).trans rfl; have hcz36_2 : w33.cell? ⟨gb118, 2, none⟩ = some (.int .i64 a0_2) := (blk_cell BK118.out 2).trans rfl; have hcz36_3 : w33.cell? ⟨gb118, 3, none⟩ = some (.int .i64 a0_3) := (blk_cell BK118.out 3).trans rfl; have hcz36_4 : w33.cell? ⟨gb118, 4, none⟩ = some (.slice (some ad120) l0_4.length c0_4) := (blk_cell BK118.out 4).trans rfl; have hfz36_0 := blk_frozen BK118.out 0; have hfz36_1 := blk_frozen BK118.out 1; have hfz36_2 := blk_frozen BK118.out 2; have hfz36_3 := blk_frozen BK118.out 3; have hfz36_4 := blk_frozen BK118.out 4)); try go_wp2_with (first | ((with_reducible refine gate_dst (N := 4) rfl ?_); (try (refine gate_guard (by rfl) ?_; dsimp only)); refine box_event ?hg (N := 4) ?hd (cs := #[.int .i64 0, .int .i64 0]) (t := 79) ?hr ?_; (case hd => rfl); (case hg => rfl); (case hr => first | (go_simp; done) | (go_simp; rfl)); intro gb121 hg w33 hbox hb; have n0_ := Aside0.mk (blk_below (g := gb118) (o := .cells #[.int .i64 a0_0, .int .i64 a0_1, .int .i64 a0_2, .int .i64 a0_3, .slice (some ad120) l0_4.length c0_4] 45 (0, 0)) (by (with_reducible repeat (first | refine blk_drewN ?_ _ | refine blk_drew ?_ | refine blk_alloc ?_ _)); exact BK118.out) hb); have n1_ := Aside0.mk (below_step (by repeat (first | (with_reducible first | exact HB.out | apply below_alloc | apply pw_below_drewN | apply below_drew1 | refine below_set ?_ GE118.out) | exact HB.out)) hb); have n2_ := Aside0.mk (hbox); have n3_ := Aside0.mk ((by rw [hg]; exact (below_size (by repeat (first | (with_reducible first | exact HB.out | apply below_alloc | apply pw_below_drewN | apply below_drew1 | refine below_set ?_ GE118.out) | exact HB.out))) : w.heap.size ≤ gb121)); have n4_ := Aside0.mk ((by rw [hg]; exact (below_size (by repeat (first | (with_reducible first | exact HB.out | apply below_alloc | apply pw_below_drewN | apply below_drew1 | refine below_set ?_ GE118.out) | exact HB.out))) : w.heap.size ≤ gb121)); have n5_ := Aside0.mk ((by rw [hg]; exact Nat.ne_of_lt (blk_lt (g := gb118) (o := .cells #[.int .i64 a0_0, .int .i64 a0_1, .int .i64 a0_2, .int .i64 a0_3, .slice (some ad120) l0_4.length c0_4] 45 (0, 0)) (by (with_reducible repeat (first | refine blk_drewN ?_ _ | refine blk_drew ?_ | refine blk_alloc ?_ _)); exact BK118.out)) : gb118 ≠ gb121)); have n6_ := Aside0.mk ((by rw [hg]; exact Nat.ne_of_gt (blk_lt (g := gb118) (o := .cells #[.int .i64 a0_0, .int .i64 a0_1, .int .i64 a0_2, .int .i64 a0_3, .slice (some ad120) l0_4.length c0_4] 45 (0, 0)) (by (with_reducible repeat (first | refine blk_drewN ?_ _ | refine blk_drew ?_ | refine blk_alloc ?_ _)); exact BK118.out)) : gb121 ≠ gb118)); clear BK118; clear HB; have BK118 := n0_; have HB := n1_; have BK121 := n2_; have GW121 := n3_; have GE121 := n4_; have NB118_121 := n5_; have NB121_118 := n6_; clear n0_ n1_ n2_ n3_ n4_ n5_ n6_; clear hb hbox hg; have hnb34 := NB121_118.out; have hnc34 := NB118_121.out; have hcz35_0 : w33.cell? ⟨gb121, 0, none⟩ = some (.int .i64 0) := (blk_cell BK121.out 0).trans rfl; have hcz35_1 : w33.cell? ⟨gb121, 1, none⟩ = some (.int .i64 0) := (blk_cell BK121.out 1).trans rfl; have hfz35_0 := blk_frozen BK121.out 0; have hfz35_1 := blk_frozen BK121.out 1; have hcz36_0 : w33.cell? ⟨gb118, 0, none⟩ = some (.int .i64 a0_0) := (blk_cell BK118.out 0).trans rfl; have hcz36_1 : w33.cell? ⟨gb118, 1, none⟩ = some (.int .i64 a0_1) := (blk_cell BK118.out 1).trans rfl; have hcz36_2 : w33.cell? ⟨gb118, 2, none⟩ = some (.int .i64 a0_2) := (blk_cell BK118.out 2).trans rfl; have hcz36_3 : w33.cell? ⟨gb118, 3, none⟩ = some (.int .i64 a0_3) := (blk_cell BK118.out 3).trans rfl; have hcz36_4 : w33.cell? ⟨gb118, 4, none⟩ = some (.slice (some ad120) l0_4.length c0_4) := (blk_cell BK118.out 4).trans rfl; have hfz36_0 := blk_frozen BK118.out 0; have hfz36_1 := blk_frozen BK118.out 1; have hfz36_2 := blk_frozen BK118.out 2; have hfz36_3 := blk_frozen BK118.out 3; have hfz36_4 := blk_frozen BK118.out 4)))
                          go_ret
                          exact ⟨by first | rfl | (simp [errW_none, errW_some] <;> rfl) | (simp [*, errW_none, errW_some] <;> rfl), by repeat (first | (with_reducible first | exact HB.out | apply below_alloc | apply pw_below_drewN | apply below_drew1 | refine below_set ?_ GE118.out | refine below_set ?_ GE121.out) | exact HB.out)⟩
                        · rw [if_neg c31] at H
                          have c31b0 : decide (a0_2 ≤ ((rd_T79 l0_4 x3_3).f0)) = false := decide_eq_false c31
                          clear c31
                          by_cases c37 : ((rd_T79 l0_4 x3_3).f1) < 2
                          · rw [if_pos c37] at H
                            have c37b0 : decide (((rd_T79 l0_4 x3_3).f1) < 2) = true := decide_eq_true c37
                            clear c37
                            obtain rfl := Option.some.inj H
                            have hcz38_0 : wr.cell? ⟨gb118, 0, none⟩ = some (.int .i64 a0_0) := (blk_cell BK118.out 0).trans rfl
                            have hcz38_1 : wr.cell? ⟨gb118, 1, none⟩ = some (.int .i64 a0_1) := (blk_cell BK118.out 1).trans rfl
                            have hcz38_2 : wr.cell? ⟨gb118, 2, none⟩ = some (.int .i64 a0_2) := (blk_cell BK118.out 2).trans rfl
                            have hcz38_3 : wr.cell? ⟨gb118, 3, none⟩ = some (.int .i64 a0_3) := (blk_cell BK118.out 3).trans rfl
                            have hcz38_4 : wr.cell? ⟨gb118, 4, none⟩ = some (.slice A0_4 l0_4.length c0_4) := (blk_cell BK118.out 4).trans rfl
                            have hfz38_0 := blk_frozen BK118.out 0
                            have hfz38_1 := blk_frozen BK118.out 1
                            have hfz38_2 := blk_frozen BK118.out 2
                            have hfz38_3 := blk_frozen BK118.out 3
                            have hfz38_4 := blk_frozen BK118.out 4
                            have p120 : 0 ≤ (x3_3 : Int) := of_decide_eq_true (by first | (with_reducible assumption) | assumption)
                            have q120 : x3_3 < (l0_4.length : Int) := of_decide_eq_true (by first | (with_reducible assumption) | assumption)
                            obtain ⟨ad120, e120, hx120_0, hx120_1⟩ := at_T79 HR0_4.out x3_3 p120 q120
                            cases e120
                            replace hx120_0 := (HB.out.cell (World.block_lt_of_cell? w _ hx120_0)).trans hx120_0
                            replace hx120_1 := (HB.out.cell (World.block_lt_of_cell? w _ hx120_1)).trans hx120_1
                            replace p120 := eq_true p120
                            replace q120 := eq_true q120
                            go_wp2_with (first | ((with_reducible refine gate_dst (N := 4) rfl ?_); (try (refine gate_guard (by rfl) ?_; dsimp only)); refine box_event ?hg (N := 4) ?hd (cs := #[.int .i64 0, .int .i64 0]) (t := 79) ?hr ?_; (case hd => rfl); (case hg => rfl); (case hr => first | (go_simp; done) | (go_simp; rfl)); intro gb121 hg w39 hbox hb; have n0_ := Aside0.mk (blk_below (g := gb118) (o := .cells #[.int .i64 a0_0, .int .i64 a0_1, .int .i64 a0_2, .int .i64 a0_3, .slice (some ad120) l0_4.length c0_4] 45 (0, 0)) (by (with_reducible repeat (first | refine blk_drewN ?_ _ | refine blk_drew ?_ | refine blk_alloc ?_ _)); exact BK118.out) hb); have n1_ := Aside0.mk (below_step (by repeat (first | (with_reducible first | exact HB.out | apply below_alloc | apply pw_below_drewN | apply below_drew1 | refine below_set ?_ GE118.out) | exact HB.out)) hb); have n2_ := Aside0.mk (hbox); have n3_ := Aside0.mk ((by rw [hg]; exact (below_size (by repeat (first | (with_reducible first | exact HB.out | apply below_alloc | apply pw_below_drewN | apply below_drew1 | refine below_set ?_ GE118.out) | exact HB.out))) : w.heap.size ≤ gb121)); have n4_ := Aside0.mk ((by rw [hg]; exact (below_size (by repeat (first | (with_reducible first | exact HB.out | apply below_alloc | apply pw_below_drewN | apply below_drew1 | refine below_set ?_ GE118.out) | exact HB.out))) : w.heap.size ≤ gb121)); have n5_ := Aside0.mk ((by rw [hg]; exact Nat.ne_of_lt (blk_lt (g := gb118) (o := .cells #[.int .i64 a0_0, .int .i64 a0_1, .int .i64 a0_2, .int .i64 a0_3, .slice (some ad120) l0_4.length c0_4] 45 (0, 0)) (by (with_reducible repeat (first | refine blk_drewN ?_ _ | refine blk_drew ?_ | refine blk_alloc ?_ _)); exact BK118.out)) : gb118 ≠ gb121)); have n6_ := Aside0.mk ((by rw [hg]; exact Nat.ne_of_gt (blk_lt (g := gb118) (o := .cells #[.int .i64 a0_0, .int .i64 a0_1, .int .i64 a0_2, .int .i64 a0_3, .slice (some ad120) l0_4.length c0_4] 45 (0, 0)) (by (with_reducible repeat (first | refine blk_drewN ?_ _ | refine blk_drew ?_ | refine blk_alloc ?_ _)); exact BK118.out)) : gb121 ≠ gb118)); clear BK118; clear HB; have BK118 := n0_; have HB := n1_; have BK121 := n2_; have GW121 := n3_; have GE121 := n4_; have NB118_121 := n5_; have NB121_118 := n6_; clear n0_ n1_ n2_ n3_ n4_ n5_ n6_; clear hb hbox hg; have hnb40 := NB121_118.out; have hnc40 := NB118_121.out; have hcz41_0 : w39.cell? ⟨gb121, 0, none⟩ = some (.int .i64 0) := (blk_cell BK121.out 0).trans rfl; have hcz41_1 : w39.cell? ⟨gb121, 1, none⟩ = some (.int .i64 0) := (blk_cell BK121.out 1).trans rfl; have hfz41_0 := blk_frozen BK121.out 0; have hfz41_1 := blk_frozen BK121.out 1; have hcz42_0 : w39.cell? ⟨gb118, 0, none⟩ = some (.int .i64 a0_0) := (blk_cell BK118.out 0).trans rfl; have hcz42_1 : w39.cell? ⟨gb118, 1, none⟩ = some (.int .i64 a0_1) := (blk_cell BK118.out 1).trans rfl; have hcz42_2 : w39.cell? ⟨gb118, 2, none⟩ = some (.int .i64 a0_2) := (blk_cell BK118.out 2).trans rfl; have hcz42_3 : w39.cell? ⟨gb118, 3, none⟩ = some (.int .i64 a0_3) := (blk_cell BK118.out 3).trans rfl; have hcz42_4 : w39.cell? ⟨gb118, 4, none⟩ = some (.slice (some ad120) l0_4.length c0_4) := (blk_cell BK118.out 4).trans rfl; have hfz42_0 := blk_frozen BK118.out 0; have hfz42_1 := blk_frozen BK118.out 1; have hfz42_2 := blk_frozen BK118.out 2; have hfz42_3 := blk_frozen BK118.out 3; have hfz42_4 := blk_frozen BK118.out 4))
                            repeat (go_quiet (first | ((with_reducible refine gate_dst (N := 4) rfl ?_); (try (refine gate_guard (by rfl) ?_; dsimp only)); refine box_event ?hg (N := 4) ?hd (cs := #[.int .i64 0, .int .i64 0]) (t := 79) ?hr ?_; (case hd => rfl); (case hg => rfl); (case hr => first | (go_simp; done) | (go_simp; rfl)); intro gb121 hg w39 hbox hb; have n0_ := Aside0.mk (blk_below (g := gb118) (o := .cells #[.int .i64 a0_0, .int .i64 a0_1, .int .i64 a0_2, .int .i64 a0_3, .slice (some ad120) l0_4.length c0_4] 45 (0, 0)) (by (with_reducible repeat (first | refine blk_drewN ?_ _ | refine blk_drew ?_ | refine blk_alloc ?_ _)); exact BK118.out) hb); have n1_ := Aside0.mk (below_step (by repeat (first | (with_reducible first | exact HB.out | apply below_alloc | apply pw_below_drewN | apply below_drew1 | refine below_set ?_ GE118.out) | exact HB.out)) hb); have n2_ := Aside0.mk (hbox); have n3_ := Aside0.mk ((by rw [hg]; exact (below_size (by repeat (first | (with_reducible first | exact HB.out | apply below_alloc | apply pw_below_drewN | apply below_drew1 | refine below_set ?_ GE118.out) | exact HB.out))) : w.heap.size ≤ gb121)); have n4_ := Aside0.mk ((by rw [hg]; exact (below_size (by repeat (first | (with_reducible first | exact HB.out | apply below_alloc | apply pw_below_drewN | apply below_drew1 | refine below_set ?_ GE118.out) | exact HB.out))) : w.heap.size ≤ gb121)); have n5_ := Aside0.mk ((by rw [hg]; exact Nat.ne_of_lt (blk_lt (g := gb118) (o := .cells #[.int .i64 a0_0, .int .i64 a0_1, .int .i64 a0_2, .int .i64 a0_3, .slice (some ad120) l0_4.length c0_4] 45 (0, 0)) (by (with_reducible repeat (first | refine blk_drewN ?_ _ | refine blk_drew ?_ | refine blk_alloc ?_ _)); exact BK118.out)) : gb118 ≠ gb121)); have n6_ := Aside0.mk ((by rw [hg]; exact Nat.ne_of_gt (blk_lt (g := gb118) (o := .cells #[.int .i64 a0_0, .int .i64 a0_1, .int .i64 a0_2, .int .i64 a0_3, .slice (some ad120) l0_4.length c0_4] 45 (0, 0)) (by (with_reducible repeat (first | refine blk_drewN ?_ _ | refine blk_drew ?_ | refine blk_alloc ?_ _)); exact BK118.out)) : gb121 ≠ gb118)); clear BK118; clear HB; have BK118 := n0_; have HB := n1_; have BK121 := n2_; have GW121 := n3_; have GE121 := n4_; have NB118_121 := n5_; have NB121_118 := n6_; clear n0_ n1_ n2_ n3_ n4_ n5_ n6_; clear hb hbox hg; have hnb40 := NB121_118.out; have hnc40 := NB118_121.out; have hcz41_0 : w39.cell? ⟨gb121, 0, none⟩ = some (.int .i64 0) := (blk_cell BK121.out 0).trans rfl; have hcz41_1 : w39.cell? ⟨gb121, 1, none⟩ = some (.int .i64 0) := (blk_cell BK121.out 1).trans rfl; have hfz41_0 := blk_frozen BK121.out 0; have hfz41_1 := blk_frozen BK121.out 1; have hcz42_0 : w39.cell? ⟨gb118, 0, none⟩ = some (.int .i64 a0_0) := (blk_cell BK118.out 0).trans rfl; have hcz42_1 : w39.cell? ⟨gb118, 1, none⟩ = some (.int .i64 a0_1) := (blk_cell BK118.out 1).trans rfl; have hcz42_2 : w39.cell? ⟨gb118, 2, none⟩ = some (.int .i64 a0_2) := (blk_cell BK118.out 2).trans rfl; have hcz42_3 : w39.cell? ⟨gb118, 3, none⟩ = some (.int .i64 a0_3) := (blk_cell BK118.out 3).trans rfl; have hcz42_4 : w39.cell? ⟨gb118, 4, none⟩ = some (.slice (some ad120) l0_4.length c0_4) := (blk_cell BK118.out 4).trans rfl; have hfz42_0 := blk_frozen BK118.out 0; have hfz42_1 := blk_frozen BK118.out 1; have hfz42_2 := blk_frozen BK118.out 2; have hfz42_3 := blk_frozen BK118.out 3; have hfz42_4 := blk_frozen BK118.out 4)); try go_wp2_with (first | ((with_reducible refine gate_dst (N := 4) rfl ?_); (try (refine gate_guard (by rfl) ?_; dsimp only)); refine box_event ?hg (N := 4) ?hd (cs := #[.int .i64 0, .int .i64 0]) (t := 79) ?hr ?_; (case hd => rfl); (case hg => rfl); (case hr => first | (go_simp; done) | (go_simp; rfl)); intro gb121 hg w39 hbox hb; have n0_ := Aside0.mk (blk_below (g := gb118) (o := .cells #[.int .i64 a0_0, .int .i64 a0_1, .int .i64 a0_2, .int .i64 a0_3, .slice (some ad120) l0_4.length c0_4] 45 (0, 0)) (by (with_reducible repeat (first | refine blk_drewN ?_ _ | refine blk_drew ?_ | refine blk_alloc ?_ _)); exact BK118.out) hb); have n1_ := Aside0.mk (below_step (by repeat (first | (with_reducible first | exact HB.out | apply below_alloc | apply pw_below_drewN | apply below_drew1 | refine below_set ?_ GE118.out) | exact HB.out)) hb); have n2_ := Aside0.mk (hbox); have n3_ := Aside0.mk ((by rw [hg]; exact (below_size (by repeat (first | (with_reducible first | exact HB.out | apply below_alloc | apply pw_below_drewN | apply below_drew1 | refine below_set ?_ GE118.out) | exact HB.out))) : w.heap.size ≤ gb121)); have n4_ := Aside0.mk ((by rw [hg]; exact (below_size (by repeat (first | (with_reducible first | exact HB.out | apply below_alloc | apply pw_below_drewN | apply below_drew1 | refine below_set ?_ GE118.out) | exact HB.out))) : w.heap.size ≤ gb121)); have n5_ := Aside0.mk ((by rw [hg]; exact Nat.ne_of_lt (blk_lt (g := gb118) (o := .cells #[.int .i64 a0_0, .int .i64 a0_1, .int .i64 a0_2, .int .i64 a0_3, .slice (some ad120) l0_4.length c0_4] 45 (0, 0)) (by (with_reducible repeat (first | refine blk_drewN ?_ _ | refine blk_drew ?_ | refine blk_alloc ?_ _)); exact BK118.out)) : gb118 ≠ gb121)); have n6_ := Aside0.mk ((by rw [hg]; exact Nat.ne_of_gt (blk_lt (g := gb118) (o := .cells #[.int .i64 a0_0, .int .i64 a0_1, .int .i64 a0_2, .int .i64 a0_3, .slice (some ad120) l0_4.length c0_4] 45 (0, 0)) (by (with_reducible repeat (first | refine blk_drewN ?_ _ | refine blk_drew ?_ | refine blk_alloc ?_ _)); exact BK118.out)) : gb121 ≠ gb118)); clear BK118; clear HB; have BK118 := n0_; have HB := n1_; have BK121 := n2_; have GW121 := n3_; have GE121 := n4_; have NB118_121 := n5_; have NB121_118 := n6_; clear n0_ n1_ n2_ n3_ n4_ n5_ n6_; clear hb hbox hg; have hnb40 := NB121_118.out; have hnc40 := NB118_121.out; have hcz41_0 : w39.cell? ⟨gb121, 0, none⟩ = some (.int .i64 0) := (blk_cell BK121.out 0).trans rfl; have hcz41_1 : w39.cell? ⟨gb121, 1, none⟩ = some (.int .i64 0) := (blk_cell BK121.out 1).trans rfl; have hfz41_0 := blk_frozen BK121.out 0; have hfz41_1 := blk_frozen BK121.out 1; have hcz42_0 : w39.cell? ⟨gb118, 0, none⟩ = some (.int .i64 a0_0) := (blk_cell BK118.out 0).trans rfl; have hcz42_1 : w39.cell? ⟨gb118, 1, none⟩ = some (.int .i64 a0_1) := (blk_cell BK118.out 1).trans rfl; have hcz42_2 : w39.cell? ⟨gb118, 2, none⟩ = some (.int .i64 a0_2) := (blk_cell BK118.out 2).trans rfl; have hcz42_3 : w39.cell? ⟨gb118, 3, none⟩ = some (.int .i64 a0_3) := (blk_cell BK118.out 3).trans rfl; have hcz42_4 : w39.cell? ⟨gb118, 4, none⟩ = some (.slice (some ad120) l0_4.length c0_4) := (blk_cell BK118.out 4).trans rfl; have hfz42_0 := blk_frozen BK118.out 0; have hfz42_1 := blk_frozen BK118.out 1; have hfz42_2 := blk_frozen BK118.out 2; have hfz42_3 := blk_frozen BK118.out 3; have hfz42_4 := blk_frozen BK118.out 4)))
                            go_ret
                            exact ⟨by first | rfl | (simp [errW_none, errW_some] <;> rfl) | (simp [*, errW_none, errW_some] <;> rfl), by repeat (first | (with_reducible first | exact HB.out | apply below_alloc | apply pw_below_drewN | apply below_drew1 | refine below_set ?_ GE118.out | refine below_set ?_ GE121.out) | exact HB.out)⟩
                          · rw [if_neg c37] at H
                            have c37b0 : decide (((rd_T79 l0_4 x3_3).f1) < 2) = false := decide_eq_false c37
                            clear c37
                            by_cases c43 : ((rd_T79 l0_4 x3_3).f1) ≥ a0_0
                            · rw [if_pos c43] at H
                              have c43b0 : decide (a0_0 ≤ ((rd_T79 l0_4 x3_3).f1)) = true := decide_eq_true c43
                              clear c43
                              obtain rfl := Option.some.inj H
                              have hcz44_0 : wr.cell? ⟨gb118, 0, none⟩ = some (.int .i64 a0_0) := (blk_cell BK118.out 0).trans rfl
                              have hcz44_1 : wr.cell? ⟨gb118, 1, none⟩ = some (.int .i64 a0_1) := (blk_cell BK118.out 1).trans rfl
                              have hcz44_2 : wr.cell? ⟨gb118, 2, none⟩ = some (.int .i64 a0_2) := (blk_cell BK118.out 2).trans rfl
                              have hcz44_3 : wr.cell? ⟨gb118, 3, none⟩ = some (.int .i64 a0_3) := (blk_cell BK118.out 3).trans rfl
                              have hcz44_4 : wr.cell? ⟨gb118, 4, none⟩ = some (.slice A0_4 l0_4.length c0_4) := (blk_cell BK118.out 4).trans rfl
                              have hfz44_0 := blk_frozen BK118.out 0
                              have hfz44_1 := blk_frozen BK118.out 1
                              have hfz44_2 := blk_frozen BK118.out 2
                              have hfz44_3 := blk_frozen BK118.out 3
                              have hfz44_4 := blk_frozen BK118.out 4
                              have p120 : 0 ≤ (x3_3 : Int) := of_decide_eq_true (by first | (with_reducible assumption) | assumption)
                              have q120 : x3_3 < (l0_4.length : Int) := of_decide_eq_true (by first | (with_reducible assumption) | assumption)
                              obtain ⟨ad120, e120, hx120_0, hx120_1⟩ := at_T79 HR0_4.out x3_3 p120 q120
                              cases e120
                              replace hx120_0 := (HB.out.cell (World.block_lt_of_cell? w _ hx120_0)).trans hx120_0
                              replace hx120_1 := (HB.out.cell (World.block_lt_of_cell? w _ hx120_1)).trans hx120_1
                              replace p120 := eq_true p120
                              replace q120 := eq_true q120
                              go_wp2_with (first | ((with_reducible refine gate_dst (N := 4) rfl ?_); (try (refine gate_guard (by rfl) ?_; dsimp only)); refine box_event ?hg (N := 4) ?hd (cs := #[.int .i64 0, .int .i64 0]) (t := 79) ?hr ?_; (case hd => rfl); (case hg => rfl); (case hr => first | (go_simp; done) | (go_simp; rfl)); intro gb121 hg w45 hbox hb; have n0_ := Aside0.mk (blk_below (g := gb118) (o := .cells #[.int .i64 a0_0, .int .i64 a0_1, .int .i64 a0_2, .int .i64 a0_3, .slice (some ad120) l0_4.length c0_4] 45 (0, 0)) (by (with_reducible repeat (first | refine blk_drewN ?_ _ | refine blk_drew ?_ | refine blk_alloc ?_ _)); exact BK118.out) hb); have n1_ := Aside0.mk (below_step (by repeat (first | (with_reducible first | exact HB.out | apply below_alloc | apply pw_below_drewN | apply below_drew1 | refine below_set ?_ GE118.out) | exact HB.out)) hb); have n2_ := Aside0.mk (hbox); have n3_ := Aside0.mk ((by rw [hg]; exact (below_size (by repeat (first | (with_reducible first | exact HB.out | apply below_alloc | apply pw_below_drewN | apply below_drew1 | refine below_set ?_ GE118.out) | exact HB.out))) : w.heap.size ≤ gb121)); have n4_ := Aside0.mk ((by rw [hg]; exact (below_size (by repeat (first | (with_reducible first | exact HB.out | apply below_alloc | apply pw_below_drewN | apply below_drew1 | refine below_set ?_ GE118.out) | exact HB.out))) : w.heap.size ≤ gb121)); have n5_ := Aside0.mk ((by rw [hg]; exact Nat.ne_of_lt (blk_lt (g := gb118) (o := .cells #[.int .i64 a0_0, .int .i64 a0_1, .int .i64 a0_2, .int .i64 a0_3, .slice (some ad120) l0_4.length c0_4] 45 (0, 0)) (by (with_reducible repeat (first | refine blk_drewN ?_ _ | refine blk_drew ?_ | refine blk_alloc ?_ _)); exact BK118.out)) : gb118 ≠ gb121)); have n6_ := Aside0.mk ((by rw [hg]; exact Nat.ne_of_gt (blk_lt (g := gb118) (o := .cells #[.int .i64 a0_0, .int .i64 a0_1, .int .i64 a0_2, .int .i64 a0_3, .slice (some ad120) l0_4.length c0_4] 45 (0, 0)) (by (with_reducible repeat (first | refine blk_drewN ?_ _ | refine blk_drew ?_ | refine blk_alloc ?_ _)); exact BK118.out)) : gb121 ≠ gb118)); clear BK118; clear HB; have BK118 := n0_; have HB := n1_; have BK121 := n2_; have GW121 := n3_; have GE121 := n4_; have NB118_121 := n5_; have NB121_118 := n6_; clear n0_ n1_ n2_ n3_ n4_ n5_ n6_; clear hb hbox hg; have hnb46 := NB121_118.out; have hnc46 := NB118_121.out; have hcz47_0 : w45.cell? ⟨gb121, 0, none⟩ = some (.int .i64 0) := (blk_cell BK121.out 0).trans rfl; have hcz47_1 : w45.cell? ⟨gb121, 1, none⟩ = some (.int .i64 0) := (blk_cell BK121.out 1).trans rfl; have hfz47_0 := blk_frozen BK121.out 0; have hfz47_1 := blk_frozen BK121.out 1; have hcz48_0 : w45.cell? ⟨gb118, 0, none⟩ = some (.int .i64 a0_0) := (blk_cell BK118.out 0).trans rfl; have hcz48_1 : w45.cell? ⟨gb118, 1, none⟩ = some (.int .i64 a0_1) := (blk_cell BK118.out 1).trans rfl; have hcz48_2 : w45.cell? ⟨gb118, 2, none⟩ = some (.int .i64 a0_2) := (blk_cell BK118.out 2).trans rfl; have hcz48_3 : w45.cell? ⟨gb118, 3, none⟩ = some (.int .i64 a0_3) := (blk_cell BK118.out 3).trans rfl; have hcz48_4 : w45.cell? ⟨gb118, 4, none⟩ = some (.slice (some ad120) l0_4.length c0_4) := (blk_cell BK118.out 4).trans rfl; have hfz48_0 := blk_frozen BK118.out 0; have hfz48_1 := blk_frozen BK118.out 1; have hfz48_2 := blk_frozen BK118.out 2; have hfz48_3 := blk_frozen BK118.out 3; have hfz48_4 := blk_frozen BK118.out 4))
                              repeat (go_quiet (first | ((with_reducible refine gate_dst (N := 4) rfl ?_); (try (refine gate_guard (by rfl) ?_; dsimp only)); refine box_event ?hg (N := 4) ?hd (cs := #[.int .i64 0, .int .i64 0]) (t := 79) ?hr ?_; (case hd => rfl); (case hg => rfl); (case hr => first | (go_simp; done) | (go_simp; rfl)); intro gb121 hg w45 hbox hb; have n0_ := Aside0.mk (blk_below (g := gb118) (o := .cells #[.int .i64 a0_0, .int .i64 a0_1, .int .i64 a0_2, .int .i64 a0_3, .slice (some ad120) l0_4.length c0_4] 45 (0, 0)) (by (with_reducible repeat (first | refine blk_drewN ?_ _ | refine blk_drew ?_ | refine blk_alloc ?_ _)); exact BK118.out) hb); have n1_ := Aside0.mk (below_step (by repeat (first | (with_reducible first | exact HB.out | apply below_alloc | apply pw_below_drewN | apply below_drew1 | refine below_set ?_ GE118.out) | exact HB.out)) hb); have n2_ := Aside0.mk (hbox); have n3_ := Aside0.mk ((by rw [hg]; exact (below_size (by repeat (first | (with_reducible first | exact HB.out | apply below_alloc | apply pw_below_drewN | apply below_drew1 | refine below_set ?_ GE118.out) | exact HB.out))) : w.heap.size ≤ gb121)); have n4_ := Aside0.mk ((by rw [hg]; exact (below_size (by repeat (first | (with_reducible first | exact HB.out | apply below_alloc | apply pw_below_drewN | apply below_drew1 | refine below_set ?_ GE118.out) | exact HB.out))) : w.heap.size ≤ gb121)); have n5_ := Aside0.mk ((by rw [hg]; exact Nat.ne_of_lt (blk_lt (g := gb118) (o := .cells #[.int .i64 a0_0, .int .i64 a0_1, .int .i64 a0_2, .int .i64 a0_3, .slice (some ad120) l0_4.length c0_4] 45 (0, 0)) (by (with_reducible repeat (first | refine blk_drewN ?_ _ | refine blk_drew ?_ | refine blk_alloc ?_ _)); exact BK118.out)) : gb118 ≠ gb121)); have n6_ := Aside0.mk ((by rw [hg]; exact Nat.ne_of_gt (blk_lt (g := gb118) (o := .cells #[.int .i64 a0_0, .int .i64 a0_1, .int .i64 a0_2, .int .i64 a0_3, .slice (some ad120) l0_4.length c0_4] 45 (0, 0)) (by (with_reducible repeat (first | refine blk_drewN ?_ _ | refine blk_drew ?_ | refine blk_alloc ?_ _)); exact BK118.out)) : gb121 ≠ gb118)); clear BK118; clear HB; have BK118 := n0_; have HB := n1_; have BK121 := n2_; have GW121 := n3_; have GE121 := n4_; have NB118_121 := n5_; have NB121_118 := n6_; clear n0_ n1_ n2_ n3_ n4_ n5_ n6_; clear hb hbox hg; have hnb46 := NB121_118.out; have hnc46 := NB118_121.out; have hcz47_0 : w45.cell? ⟨gb121, 0, none⟩ = some (.int .i64 0) := (blk_cell BK121.out 0).trans rfl; have hcz47_1 : w45.cell? ⟨gb121, 1, none⟩ = some (.int .i64 0) := (blk_cell BK121.out 1).trans rfl; have hfz47_0 := blk_frozen BK121.out 0; have hfz47_1 := blk_frozen BK121.out 1; have hcz48_0 : w45.cell? ⟨gb118, 0, none⟩ = some (.int .i64 a0_0) := (blk_cell BK118.out 0).trans rfl; have hcz48_1 : w45.cell? ⟨gb118, 1, none⟩ = some (.int .i64 a0_1) := (blk_cell BK118.out 1).trans rfl; have hcz48_2 : w45.cell? ⟨gb118, 2, none⟩ = some (.int .i64 a0_2) := (blk_cell BK118.out 2).trans rfl; have hcz48_3 : w45.cell? ⟨gb118, 3, none⟩ = some (.int .i64 a0_3) := (blk_cell BK118.out 3).trans rfl; have hcz48_4 : w45.cell? ⟨gb118, 4, none⟩ = some (.slice (some ad120) l0_4.length c0_4) := (blk_cell BK118.out 4).trans rfl; have hfz48_0 := blk_frozen BK118.out 0; have hfz48_1 := blk_frozen BK118.out 1; have hfz48_2 := blk_frozen BK118.out 2; have hfz48_3 := blk_frozen BK118.out 3; have hfz48_4 := blk_frozen BK118.out 4)); try go_wp2_with (first | ((with_reducible refine gate_dst (N := 4) rfl ?_); (try (refine gate_guard (by rfl) ?_; dsimp only)); refine box_event ?hg (N := 4) ?hd (cs := #[.int .i64 0, .int .i64 0]) (t := 79) ?hr ?_; (case hd => rfl); (case hg => rfl); (case hr => first | (go_simp; done) | (go_simp; rfl)); intro gb121 hg w45 hbox hb; have n0_ := Aside0.mk (blk_below (g := gb118) (o := .cells #[.int .i64 a0_0, .int .i64 a0_1, .int .i64 a0_2, .int .i64 a0_3, .slice (some ad120) l0_4.length c0_4] 45 (0, 0)) (by (with_reducible repeat (first | refine blk_drewN ?_ _ | refine blk_drew ?_ | refine blk_alloc ?_ _)); exact BK118.out) hb); have n1_ := Aside0.mk (below_step (by repeat (first | (with_reducible first | exact HB.out | apply below_alloc | apply pw_below_drewN | apply below_drew1 | refine below_set ?_ GE118.out) | exact HB.out)) hb); have n2_ := Aside0.mk (hbox); have n3_ := Aside0.mk ((by rw [hg]; exact (below_size (by repeat (first | (with_reducible first | exact HB.out | apply below_alloc | apply pw_below_drewN | apply below_drew1 | refine below_set ?_ GE118.out) | exact HB.out))) : w.heap.size ≤ gb121)); have n4_ := Aside0.mk ((by rw [hg]; exact (below_size (by repeat (first | (with_reducible first | exact HB.out | apply below_alloc | apply pw_below_drewN | apply below_drew1 | refine below_set ?_ GE118.out) | exact HB.out))) : w.heap.size ≤ gb121)); have n5_ := Aside0.mk ((by rw [hg]; exact Nat.ne_of_lt (blk_lt (g := gb118) (o := .cells #[.int .i64 a0_0, .int .i64 a0_1, .int .i64 a0_2, .int .i64 a0_3, .slice (some ad120) l0_4.length c0_4] 45 (0, 0)) (by (with_reducible repeat (first | refine blk_drewN ?_ _ | refine blk_drew ?_ | refine blk_alloc ?_ _)); exact BK118.out)) : gb118 ≠ gb121)); have n6_ := Aside0.mk ((by rw [hg]; exact Nat.ne_of_gt (blk_lt (g := gb118) (o := .cells #[.int .i64 a0_0, .int .i64 a0_1, .int .i64 a0_2, .int .i64 a0_3, .slice (some ad120) l0_4.length c0_4] 45 (0, 0)) (by (with_reducible repeat (first | refine blk_drewN ?_ _ | refine blk_drew ?_ | refine blk_alloc ?_ _)); exact BK118.out)) : gb121 ≠ gb118)); clear BK118; clear HB; have BK118 := n0_; have HB := n1_; have BK121 := n2_; have GW121 := n3_; have GE121 := n4_; have NB118_121 := n5_; have NB121_118 := n6_; clear n0_ n1_ n2_ n3_ n4_ n5_ n6_; clear hb hbox hg; have hnb46 := NB121_118.out; have hnc46 := NB118_121.out; have hcz47_0 : w45.cell? ⟨gb121, 0, none⟩ = some (.int .i64 0) := (blk_cell BK121.out 0).trans rfl; have hcz47_1 : w45.cell? ⟨gb121, 1, none⟩ = some (.int .i64 0) := (blk_cell BK121.out 1).trans rfl; have hfz47_0 := blk_frozen BK121.out 0; have hfz47_1 := blk_frozen BK121.out 1; have hcz48_0 : w45.cell? ⟨gb118, 0, none⟩ = some (.int .i64 a0_0) := (blk_cell BK118.out 0).trans rfl; have hcz48_1 : w45.cell? ⟨gb118, 1, none⟩ = some (.int .i64 a0_1) := (blk_cell BK118.out 1).trans rfl; have hcz48_2 : w45.cell? ⟨gb118, 2, none⟩ = some (.int .i64 a0_2) := (blk_cell BK118.out 2).trans rfl; have hcz48_3 : w45.cell? ⟨gb118, 3, none⟩ = some (.int .i64 a0_3) := (blk_cell BK118.out 3).trans rfl; have hcz48_4 : w45.cell? ⟨gb118, 4, none⟩ = some (.slice (some ad120) l0_4.length c0_4) := (blk_cell BK118.out 4).trans rfl; have hfz48_0 := blk_frozen BK118.out 0; have hfz48_1 := blk_frozen BK118.out 1; have hfz48_2 := blk_frozen BK118.out 2; have hfz48_3 := blk_frozen BK118.out 3; have hfz48_4 := blk_frozen BK118.out 4)))
                              go_ret
                              exact ⟨by first | rfl | (simp [errW_none, errW_some] <;> rfl) | (simp [*, errW_none, errW_some] <;> rfl), by repeat (first | (with_reducible first | exact HB.out | apply below_alloc | apply pw_below_drewN | apply below_drew1 | refine below_set ?_ GE118.out | refine below_set ?_ GE121.out) | exact HB.out)⟩
                            · rw [if_neg c43] at H
                              have c43b0 : decide (a0_0 ≤ ((rd_T79 l0_4 x3_3).f1)) = false := decide_eq_false c43
                              clear c43
                              by_cases c49 : x3_3 > 0
                              · rw [if_pos c49] at H
                                have c49b0 : decide (0 < x3_3) = true := decide_eq_true c49
                                clear c49
                                obtain ⟨ji50, hji50⟩ : ∃ j_ : Int, (wrap64 (x3_3 - 1)) = j_ := ⟨_, rfl⟩
                                replace H : (if 0 ≤ (ji50) then (if (ji50) < (l0_4.length : Int) then (if ((rd_T79 l0_4 (ji50)).f0) ≥ ((rd_T79 l0_4 x3_3).f0) then (some false) else (spec_l2SuperOK.l0 k3 (wrap64 (x3_3 + 1)) a0_0 a0_1 a0_2 a0_3 l0_4)) else (none)) else (none)) = some r := by first | (rw [hji50] at H; exact H) | (simp only [hji50] at H ⊢; exact H)
                                have hji50w : (IntKind.i64.wrap (x3_3 - 1)) = ji50 := (i64_w _).trans hji50
                                by_cases c51 : 0 ≤ (ji50)
                                · rw [if_pos c51] at H
                                  have c51b0 : decide (0 ≤ (ji50)) = true := decide_eq_true c51
                                  clear c51
                                  by_cases c52 : (ji50) < (l0_4.length : Int)
                                  · rw [if_pos c52] at H
                                    have c52b0 : decide ((ji50) < (l0_4.length : Int)) = true := decide_eq_true c52
                                    clear c52
                                    by_cases c53 : ((rd_T79 l0_4 (ji50)).f0) ≥ ((rd_T79 l0_4 x3_3).f0)
                                    · rw [if_pos c53] at H
                                      have c53b0 : decide (((rd_T79 l0_4 x3_3).f0) ≤ ((rd_T79 l0_4 (ji50)).f0)) = true := decide_eq_true c53
                                      clear c53
                                      obtain rfl := Option.some.inj H
                                      have hcz54_0 : wr.cell? ⟨gb118, 0, none⟩ = some (.int .i64 a0_0) := (blk_cell BK118.out 0).trans rfl
                                      have hcz54_1 : wr.cell? ⟨gb118, 1, none⟩ = some (.int .i64 a0_1) := (blk_cell BK118.out 1).trans rfl
                                      have hcz54_2 : wr.cell? ⟨gb118, 2, none⟩ = some (.int .i64 a0_2) := (blk_cell BK118.out 2).trans rfl
                                      have hcz54_3 : wr.cell? ⟨gb118, 3, none⟩ = some (.int .i64 a0_3) := (blk_cell BK118.out 3).trans rfl
                                      have hcz54_4 : wr.cell? ⟨gb118, 4, none⟩ = some (.slice A0_4 l0_4.length c0_4) := (blk_cell BK118.out 4).trans rfl
                                      have hfz54_0 := blk_frozen BK118.out 0
                                      have hfz54_1 := blk_frozen BK118.out 1
                                      have hfz54_2 := blk_frozen BK118.out 2
                                      have hfz54_3 := blk_frozen BK118.out 3
                                      have hfz54_4 := blk_frozen BK118.out 4
                                      have p120 : 0 ≤ (x3_3 : Int) := of_decide_eq_true (by first | (with_reducible assumption) | assumption)
                                      have q120 : x3_3 < (l0_4.length : Int) := of_decide_eq_true (by first | (with_reducible assumption) | assumption)
                                      obtain ⟨ad120, e120, hx120_0, hx120_1⟩ := at_T79 HR0_4.out x3_3 p120 q120
                                      cases e120
                                      replace hx120_0 := (HB.out.cell (World.block_lt_of_cell? w _ hx120_0)).trans hx120_0
                                      replace hx120_1 := (HB.out.cell (World.block_lt_of_cell? w _ hx120_1)).trans hx120_1
                                      replace p120 := eq_true p120
                                      replace q120 := eq_true q120
                                      go_wp2_with (first | ((with_reducible refine gate_dst (N := 4) rfl ?_); (try (refine gate_guard (by rfl) ?_; dsimp only)); refine box_event ?hg (N := 4) ?hd (cs := #[.int .i64 0, .int .i64 0]) (t := 79) ?hr ?_; (case hd => rfl); (case hg => rfl); (case hr => first | (go_simp; done) | (go_simp; rfl)); intro gb121 hg w55 hbox hb; have n0_ := Aside0.mk (blk_below (g := gb118) (o := .cells #[.int .i64 a0_0, .int .i64 a0_1, .int .i64 a0_2, .int .i64 a0_3, .slice (some ad120) l0_4.length c0_4] 45 (0, 0)) (by (with_reducible repeat (first | refine blk_drewN ?_ _ | refine blk_drew ?_ | refine blk_alloc ?_ _)); exact BK118.out) hb); have n1_ := Aside0.mk (below_step (by repeat (first | (with_reducible first | exact HB.out | apply below_alloc | apply pw_below_drewN | apply below_drew1 | refine below_set ?_ GE118.out) | exact HB.out)) hb); have n2_ := Aside0.mk (hbox); have n3_ := Aside0.mk ((by rw [hg]; exact (below_size (by repeat (first | (with_reducible first | exact HB.out | apply below_alloc | apply pw_below_drewN | apply below_drew1 | refine below_set ?_ GE118.out) | exact HB.out))) : w.heap.size ≤ gb121)); have n4_ := Aside0.mk ((by rw [hg]; exact (below_size (by repeat (first | (with_reducible first | exact HB.out | apply below_alloc | apply pw_below_drewN | apply below_drew1 | refine below_set ?_ GE118.out) | exact HB.out))) : w.heap.size ≤ gb121)); have n5_ := Aside0.mk ((by rw [hg]; exact Nat.ne_of_lt (blk_lt (g := gb118) (o := .cells #[.int .i64 a0_0, .int .i64 a0_1, .int .i64 a0_2, .int .i64 a0_3, .slice (some ad120) l0_4.length c0_4] 45 (0, 0)) (by (with_reducible repeat (first | refine blk_drewN ?_ _ | refine blk_drew ?_ | refine blk_alloc ?_ _)); exact BK118.out)) : gb118 ≠ gb121)); have n6_ := Aside0.mk ((by rw [hg]; exact Nat.ne_of_gt (blk_lt (g := gb118) (o := .cells #[.int .i64 a0_0, .int .i64 a0_1, .int .i64 a0_2, .int .i64 a0_3, .slice (some ad120) l0_4.length c0_4] 45 (0, 0)) (by (with_reducible repeat (first | refine blk_drewN ?_ _ | refine blk_drew ?_ | refine blk_alloc ?_ _)); exact BK118.out)) : gb121 ≠ gb118)); clear BK118; clear HB; have BK118 := n0_; have HB := n1_; have BK121 := n2_; have GW121 := n3_; have GE121 := n4_; have NB118_121 := n5_; have NB121_118 := n6_; clear n0_ n1_ n2_ n3_ n4_ n5_ n6_; clear hb hbox hg; have hnb56 := NB121_118.out; have hnc56 := NB118_121.out; have hcz57_0 : w55.cell? ⟨gb121, 0, none⟩ = some (.int .i64 0) := (blk_cell BK121.out 0).trans rfl; have hcz57_1 : w55.cell? ⟨gb121, 1, none⟩ = some (.int .i64 0) := (blk_cell BK121.out 1).trans rfl; have hfz57_0 := blk_frozen BK121.out 0; have hfz57_1 := blk_frozen BK121.out 1; have hcz58_0 : w55.cell? ⟨gb118, 0, none⟩ = some (.int .i64 a0_0) := (blk_cell BK118.out 0).trans rfl; have hcz58_1 : w55.cell? ⟨gb118, 1, none⟩ = some (.int .i64 a0_1) := (blk_cell BK118.out 1).trans rfl; have hcz58_2 : w55.cell? ⟨gb118, 2, none⟩ = some (.int .i64 a0_2) := (blk_cell BK118.out 2).trans rfl; have hcz58_3 : w55.cell? ⟨gb118, 3, none⟩ = some (.int .i64 a0_3) := (blk_cell BK118.out 3).trans rfl; have hcz58_4 : w55.cell? ⟨gb118, 4, none⟩ = some (.slice (some ad120) l0_4.length c0_4) := (blk_cell BK118.out 4).trans rfl; have hfz58_0 := blk_frozen BK118.out 0; have hfz58_1 := blk_frozen BK118.out 1; have hfz58_2 := blk_frozen BK118.out 2; have hfz58_3 := blk_frozen BK118.out 3; have hfz58_4 := blk_frozen BK118.out 4; have p122 : 0 ≤ ((ji50) : Int) := of_decide_eq_true (by first | (with_reducible assumption) | assumption); have q122 : (ji50) < (l0_4.length : Int) := of_decide_eq_true (by first | (with_reducible assumption) | assumption); obtain ⟨ad122, e122, hx122_0, hx122_1⟩ := at_T79 HR0_4.out (ji50) p122 q122; obtain rfl : ad120 = ad122 := (by injection e122); have hn122_0 : ad120.block ≠ gb121 := Nat.ne_of_lt (Nat.lt_of_lt_of_le (by have := World.block_lt_of_cell? _ _ hx122_0; first | rwa [add_block] at this | exact this) GW121.out); have hn122_1 : ad120.block ≠ gb121 := Nat.ne_of_lt (Nat.lt_of_lt_of_le (by have := World.block_lt_of_cell? _ _ hx122_0; first | rwa [add_block] at this | exact this) GW121.out); replace hx122_0 := (HB.out.cell (World.block_lt_of_cell? w _ hx122_0)).trans hx122_0; replace hx122_1 := (HB.out.cell (World.block_lt_of_cell? w _ hx122_1)).trans hx122_1; replace hx122_0 := (cell_far (p := ⟨gb121, 0, none⟩) (by first | (rw [add_block]; exact hn122_0) | (show (Addr.add _ _).block ≠ _; rw [add_block]; exact hn122_0) | exact hn122_0) (.int .i64 ((rd_T79 l0_4 x3_3).f0))).trans hx122_0; replace hx122_1 := (cell_far (p := ⟨gb121, 0, none⟩) (by first | (rw [add_block]; exact hn122_0) | (show (Addr.add _ _).block ≠ _; rw [add_block]; exact hn122_0) | exact hn122_0) (.int .i64 ((rd_T79 l0_4 x3_3).f0))).trans hx122_1; replace hx122_0 := (cell_far (p := ⟨gb121, 1, none⟩) (by first | (rw [add_block]; exact hn122_1) | (show (Addr.add _ _).block ≠ _; rw [add_block]; exact hn122_1) | exact hn122_1) (.int .i64 ((rd_T79 l0_4 x3_3).f1))).trans hx122_0; replace hx122_1 := (cell_far (p := ⟨gb121, 1, none⟩) (by first | (rw [add_block]; exact hn122_1) | (show (Addr.add _ _).block ≠ _; rw [add_block]; exact hn122_1) | exact hn122_1) (.int .i64 ((rd_T79 l0_4 x3_3).f1))).trans hx122_1; (try have hy122_0 := fun (n_ : Nat) => (show ((((w55.drewN n_).setCell ⟨gb121, 0, none⟩ (.int .i64 ((rd_T79 l0_4 x3_3).f0))).setCell ⟨gb121, 1, none⟩ (.int .i64 ((rd_T79 l0_4 x3_3).f1)))).cell? _ = some _ from hx122_0)); (try have hy122_1 := fun (n_ : Nat) => (show ((((w55.drewN n_).setCell ⟨gb121, 0, none⟩ (.int .i64 ((rd_T79 l0_4 x3_3).f0))).setCell ⟨gb121, 1, none⟩ (.int .i64 ((rd_T79 l0_4 x3_3).f1)))).cell? _ = some _ from hx122_1)); clear hn122_0; clear hn122_1; replace p122 := eq_true p122; replace q122 := eq_true q122))
                                      repeat (go_quiet (first | ((with_reducible refine gate_dst (N := 4) rfl ?_); (try (refine gate_guard (by rfl) ?_; dsimp only)); refine box_event ?hg (N := 4) ?hd (cs := #[.int .i64 0, .int .i64 0]) (t := 79) ?hr ?_; (case hd => rfl); (case hg => rfl); (case hr => first | (go_simp; done) | (go_simp; rfl)); intro gb121 hg w55 hbox hb; have n0_ := Aside0.mk (blk_below (g := gb118) (o := .cells #[.int .i64 a0_0, .int .i64 a0_1, .int .i64 a0_2, .int .i64 a0_3, .slice (some ad120) l0_4.length c0_4] 45 (0, 0)) (by (with_reducible repeat (first | refine blk_drewN ?_ _ | refine blk_drew ?_ | refine blk_alloc ?_ _)); exact BK118.out) hb); have n1_ := Aside0.mk (below_step (by repeat (first | (with_reducible first | exact HB.out | apply below_alloc | apply pw_below_drewN | apply below_drew1 | refine below_set ?_ GE118.out) | exact HB.out)) hb); have n2_ := Aside0.mk (hbox); have n3_ := Aside0.mk ((by rw [hg]; exact (below_size (by repeat (first | (with_reducible first | exact HB.out | apply below_alloc | apply pw_below_drewN | apply below_drew1 | refine below_set ?_ GE118.out) | exact HB.out))) : w.heap.size ≤ gb121)); have n4_ := Aside0.mk ((by rw [hg]; exact (below_size (by repeat (first | (with_reducible first | exact HB.out | apply below_alloc | apply pw_below_drewN | apply below_drew1 | refine below_set ?_ GE118.out) | exact HB.out))) : w.heap.size ≤ gb121)); have n5_ := Aside0.mk ((by rw [hg]; exact Nat.ne_of_lt (blk_lt (g := gb118) (o := .cells #[.int .i64 a0_0, .int .i64 a0_1, .int .i64 a0_2, .int .i64 a0_3, .slice (some ad120) l0_4.length c0_4] 45 (0, 0)) (by (with_reducible repeat (first | refine blk_drewN ?_ _ | refine blk_drew ?_ | refine blk_alloc ?_ _)); exact BK118.out)) : gb118 ≠ gb121)); have n6_ := Aside0.mk ((by rw [hg]; exact Nat.ne_of_gt (blk_lt (g := gb118) (o := .cells #[.int .i64 a0_0, .int .i64 a0_1, .int .i64 a0_2, .int .i64 a0_3, .slice (some ad120) l0_4.length c0_4] 45 (0, 0)) (by (with_reducible repeat (first | refine blk_drewN ?_ _ | refine blk_drew ?_ | refine blk_alloc ?_ _)); exact BK118.out)) : gb121 ≠ gb118)); clear BK118; clear HB; have BK118 := n0_; have HB := n1_; have BK121 := n2_; have GW121 := n3_; have GE121 := n4_; have NB118_121 := n5_; have NB121_118 := n6_; clear n0_ n1_ n2_ n3_ n4_ n5_ n6_; clear hb hbox hg; have hnb56 := NB121_118.out; have hnc56 := NB118_121.out; have hcz57_0 : w55.cell? ⟨gb121, 0, none⟩ = some (.int .i64 0) := (blk_cell BK121.out 0).trans rfl; have hcz57_1 : w55.cell? ⟨gb121, 1, none⟩ = some (.int .i64 0) := (blk_cell BK121.out 1).trans rfl; have hfz57_0 := blk_frozen BK121.out 0; have hfz57_1 := blk_frozen BK121.out 1; have hcz58_0 : w55.cell? ⟨gb118, 0, none⟩ = some (.int .i64 a0_0) := (blk_cell BK118.out 0).trans rfl; have hcz58_1 : w55.cell? ⟨gb118, 1, none⟩ = some (.int .i64 a0_1) := (blk_cell BK118.out 1).trans rfl; have hcz58_2 : w55.cell? ⟨gb118, 2, none⟩ = some (.int .i64 a0_2) := (blk_cell BK118.out 2).trans rfl; have hcz58_3 : w55.cell? ⟨gb118, 3, none⟩ = some (.int .i64 a0_3) := (blk_cell BK118.out 3).trans rfl; have hcz58_4 : w55.cell? ⟨gb118, 4, none⟩ = some (.slice (some ad120) l0_4.length c0_4) := (blk_cell BK118.out 4).trans rfl; have hfz58_0 := blk_frozen BK118.out 0; have hfz58_1 := blk_frozen BK118.out 1; have hfz58_2 := blk_frozen BK118.out 2; have hfz58_3 := blk_frozen BK118.out 3; have hfz58_4 := blk_frozen BK118.out 4; have p122 : 0 ≤ ((ji50) : Int) := of_decide_eq_true (by first | (with_reducible assumption) | assumption); have q122 : (ji50) < (l0_4.length : Int) := of_decide_eq_true (by first | (with_reducible assumption) | assumption); obtain ⟨ad122, e122, hx122_0, hx122_1⟩ := at_T79 HR0_4.out (ji50) p122 q122; obtain rfl : ad120 = ad122 := (by injection e122); have hn122_0 : ad120.block ≠ gb121 := Nat.ne_of_lt (Nat.lt_of_lt_of_le (by have := World.block_lt_of_cell? _ _ hx122_0; first | rwa [add_block] at this | exact this) GW121.out); have hn122_1 : ad120.block ≠ gb121 := Nat.ne_of_lt (Nat.lt_of_lt_of_le (by have := World.block_lt_of_cell? _ _ hx122_0; first | rwa [add_block] at this | exact this) GW121.out); replace hx122_0 := (HB.out.cell (World.block_lt_of_cell? w _ hx122_0)).trans hx122_0; replace hx122_1 := (HB.out.cell (World.block_lt_of_cell? w _ hx122_1)).trans hx122_1; replace hx122_0 := (cell_far (p := ⟨gb121, 0, none⟩) (by first | (rw [add_block]; exact hn122_0) | (show (Addr.add _ _).block ≠ _; rw [add_block]; exact hn122_0) | exact hn122_0) (.int .i64 ((rd_T79 l0_4 x3_3).f0))).trans hx122_0; replace hx122_1 := (cell_far (p := ⟨gb121, 0, none⟩) (by first | (rw [add_block]; exact hn122_0) | (show (Addr.add _ _).block ≠ _; rw [add_block]; exact hn122_0) | exact hn122_0) (.int .i64 ((rd_T79 l0_4 x3_3).f0))).trans hx122_1; replace hx122_0 := (cell_far (p := ⟨gb121, 1, none⟩) (by first | (rw [add_block]; exact hn122_1) | (show (Addr.add _ _).block ≠ _; rw [add_block]; exact hn122_1) | exact hn122_1) (.int .i64 ((rd_T79 l0_4 x3_3).f1))).trans hx122_0; replace hx122_1 := (cell_far (p := ⟨gb121, 1, none⟩) (by first | (rw [add_block]; exact hn122_1) | (show (Addr.add _ _).block ≠ _; rw [add_block]; exact hn122_1) | exact hn122_1) (.int .i64 ((rd_T79 l0_4 x3_3).f1))).trans hx122_1; (try have hy122_0 := fun (n_ : Nat) => (show ((((w55.drewN n_).setCell ⟨gb121, 0, none⟩ (.int .i64 ((rd_T79 l0_4 x3_3).f0))).setCell ⟨gb121, 1, none⟩ (.int .i64 ((rd_T79 l0_4 x3_3).f1)))).cell? _ = some _ from hx122_0)); (try have hy122_1 := fun (n_ : Nat) => (show ((((w55.drewN n_).setCell ⟨gb121, 0, none⟩ (.int .i64 ((rd_T79 l0_4 x3_3).f0))).setCell ⟨gb121, 1, none⟩ (.int .i64 ((rd_T79 l0_4 x3_3).f1)))).cell? _ = some _ from hx122_1)); clear hn122_0; clear hn122_1; replace p122 := eq_true p122; replace q122 := eq_true q122)); try go_wp2_with (first | ((with_reducible refine gate_dst (N := 4) rfl ?_); (try (refine gate_guard (by rfl) ?_; dsimp only)); refine box_event ?hg (N := 4) ?hd (cs := #[.int .i64 0, .int .i64 0]) (t := 79) ?hr ?_; (case hd => rfl); (case hg => rfl); (case hr => first | (go_simp; done) | (go_simp; rfl)); intro gb121 hg w55 hbox hb; have n0_ := Aside0.mk (blk_below (g := gb118) (o := .cells #[.int .i64 a0_0, .int .i64 a0_1, .int .i64 a0_2, .int .i64 a0_3, .slice (some ad120) l0_4.length c0_4] 45 (0, 0)) (by (with_reducible repeat (first | refine blk_drewN ?_ _ | refine blk_drew ?_ | refine blk_alloc ?_ _)); exact BK118.out) hb); have n1_ := Aside0.mk (below_step (by repeat (first | (with_reducible first | exact HB.out | apply below_alloc | apply pw_below_drewN | apply below_drew1 | refine below_set ?_ GE118.out) | exact HB.out)) hb); have n2_ := Aside0.mk (hbox); have n3_ := Aside0.mk ((by rw [hg]; exact (below_size (by repeat (first | (with_reducible first | exact HB.out | apply below_alloc | apply pw_below_drewN | apply below_drew1 | refine below_set ?_ GE118.out) | exact HB.out))) : w.heap.size ≤ gb121)); have n4_ := Aside0.mk ((by rw [hg]; exact (below_size (by repeat (first | (with_reducible first | exact HB.out | apply below_alloc | apply pw_below_drewN | apply below_drew1 | refine below_set ?_ GE118.out) | exact HB.out))) : w.heap.size ≤ gb121)); have n5_ := Aside0.mk ((by rw [hg]; exact Nat.ne_of_lt (blk_lt (g := gb118) (o := .cells #[.int .i64 a0_0, .int .i64 a0_1, .int .i64 a0_2, .int .i64 a0_3, .slice (some ad120) l0_4.length c0_4] 45 (0, 0)) (by (with_reducible repeat (first | refine blk_drewN ?_ _ | refine blk_drew ?_ | refine blk_alloc ?_ _)); exact BK118.out)) : gb118 ≠ gb121)); have n6_ := Aside0.mk ((by rw [hg]; exact Nat.ne_of_gt (blk_lt (g := gb118) (o := .cells #[.int .i64 a0_0, .int .i64 a0_1, .int .i64 a0_2, .int .i64 a0_3, .slice (some ad120) l0_4.length c0_4] 45 (0, 0)) (by (with_reducible repeat (first | refine blk_drewN ?_ _ | refine blk_drew ?_ | refine blk_alloc ?_ _)); exact BK118.out)) : gb121 ≠ gb118)); clear BK118; clear HB; have BK118 := n0_; have HB := n1_; have BK121 := n2_; have GW121 := n3_; have GE121 := n4_; have NB118_121 := n5_; have NB121_118 := n6_; clear n0_ n1_ n2_ n3_ n4_ n5_ n6_; clear hb hbox hg; have hnb56 := NB121_118.out; have hnc56 := NB118_121.out; have hcz57_0 : w55.cell? ⟨gb121, 0, none⟩ = some (.int .i64 0) := (blk_cell BK121.out 0).trans rfl; have hcz57_1 : w55.cell? ⟨gb121, 1, none⟩ = some (.int .i64 0) := (blk_cell BK121.out 1).trans rfl; have hfz57_0 := blk_frozen BK121.out 0; have hfz57_1 := blk_frozen BK121.out 1; have hcz58_0 : w55.cell? ⟨gb118, 0, none⟩ = some (.int .i64 a0_0) := (blk_cell BK118.out 0).trans rfl; have hcz58_1 : w55.cell? ⟨gb118, 1, none⟩ = some (.int .i64 a0_1) := (blk_cell BK118.out 1).trans rfl; have hcz58_2 : w55.cell? ⟨gb118, 2, none⟩ = some (.int .i64 a0_2) := (blk_cell BK118.out 2).trans rfl; have hcz58_3 : w55.cell? ⟨gb118, 3, none⟩ = some (.int .i64 a0_3) := (blk_cell BK118.out 3).trans rfl; have hcz58_4 : w55.cell? ⟨gb118, 4, none⟩ = some (.slice (some ad120) l0_4.length c0_4) := (blk_cell BK118.out 4).trans rfl; have hfz58_0 := blk_frozen BK118.out 0; have hfz58_1 := blk_frozen BK118.out 1; have hfz58_2 := blk_frozen BK118.out 2; have hfz58_3 := blk_frozen BK118.out 3; have hfz58_4 := blk_frozen BK118.out 4; have p122 : 0 ≤ ((ji50) : Int) := of_decide_eq_true (by first | (with_reducible assumption) | assumption); have q122 : (ji50) < (l0_4.length : Int) := of_decide_eq_true (by first | (with_reducible assumption) | assumption); obtain ⟨ad122, e122, hx122_0, hx122_1⟩ := at_T79 HR0_4.out (ji50) p122 q122; obtain rfl : ad120 = ad122 := (by injection e122); have hn122_0 : ad120.block ≠ gb121 := Nat.ne_of_lt (Nat.lt_of_lt_of_le (by have := World.block_lt_of_cell? _ _ hx122_0; first | rwa [add_block] at this | exact this) GW121.out); have hn122_1 : ad120.block ≠ gb121 := Nat.ne_of_lt (Nat.lt_of_lt_of_le (by have := World.block_lt_of_cell? _ _ hx122_0; first | rwa [add_block] at this | exact this) GW121.out); replace hx122_0 := (HB.out.cell (World.block_lt_of_cell? w _ hx122_0)).trans hx122_0; replace hx122_1 := (HB.out.cell (World.block_lt_of_cell? w _ hx122_1)).trans hx122_1; replace hx122_0 := (cell_far (p := ⟨gb121, 0, none⟩) (by first | (rw [add_block]; exact hn122_0) | (show (Addr.add _ _).block ≠ _; rw [add_block]; exact hn122_0) | exact hn122_0) (.int .i64 ((rd_T79 l0_4 x3_3).f0))).trans hx122_0; replace hx122_1 := (cell_far (p := ⟨gb121, 0, none⟩) (by first | (rw [add_block]; exact hn122_0) | (show (Addr.add _ _).block ≠ _; rw [add_block]; exact hn122_0) | exact hn122_0) (.int .i64 ((rd_T79 l0_4 x3_3).f0))).trans hx122_1; replace hx122_0 := (cell_far (p := ⟨gb121, 1, none⟩) (by first | (rw [add_block]; exact hn122_1) | (show (Addr.add _ _).block ≠ _; rw [add_block]; exact hn122_1) | exact hn122_1) (.int .i64 ((rd_T79 l0_4 x3_3).f1))).trans hx122_0; replace hx122_1 := (cell_far (p := ⟨gb121, 1, none⟩) (by first | (rw [add_block]; exact hn122_1) | (show (Addr.add _ _).block ≠ _; rw [add_block]; exact hn122_1) | exact hn122_1) (.int .i64 ((rd_T79 l0_4 x3_3).f1))).trans hx122_1; (try have hy122_0 := fun (n_ : Nat) => (show ((((w55.drewN n_).setCell ⟨gb121, 0, none⟩ (.int .i64 ((rd_T79 l0_4 x3_3).f0))).setCell ⟨gb121, 1, none⟩ (.int .i64 ((rd_T79 l0_4 x3_3).f1)))).cell? _ = some _ from hx122_0)); (try have hy122_1 := fun (n_ : Nat) => (show ((((w55.drewN n_).setCell ⟨gb121, 0, none⟩ (.int .i64 ((rd_T79 l0_4 x3_3).f0))).setCell ⟨gb121, 1, none⟩ (.int .i64 ((rd_T79 l0_4 x3_3).f1)))).cell? _ = some _ from hx122_1)); clear hn122_0; clear hn122_1; replace p122 := eq_true p122; replace q122 := eq_true q122)))
                                      go_ret
                                      exact ⟨by first | rfl | (simp [errW_none, errW_some] <;> rfl) | (simp only [← hji50]; first | rfl | (simp [errW_none, errW_some] <;> rfl)) | (simp [*, errW_none, errW_some] <;> rfl), by repeat (first | (with_reducible first | exact HB.out | apply below_alloc | apply pw_below_drewN | apply below_drew1 | refine below_set ?_ GE118.out | refine below_set ?_ GE121.out) | exact HB.out)⟩
                                    · rw [if_neg c53] at H
                                      have c53b0 : decide (((rd_T79 l0_4 x3_3).f0) ≤ ((rd_T79 l0_4 (ji50)).f0)) = false := decide_eq_false c53
                                      clear c53
                                      have H' := Aside0.mk H
                                      clear H
                                      have hcz59_0 : wr.cell? ⟨gb118, 0, none⟩ = some (.int .i64 a0_0) := (blk_cell BK118.out 0).trans rfl
                                      have hcz59_1 : wr.cell? ⟨gb118, 1, none⟩ = some (.int .i64 a0_1) := (blk_cell BK118.out 1).trans rfl
                                      have hcz59_2 : wr.cell? ⟨gb118, 2, none⟩ = some (.int .i64 a0_2) := (blk_cell BK118.out 2).trans rfl
                                      have hcz59_3 : wr.cell? ⟨gb118, 3, none⟩ = some (.int .i64 a0_3) := (blk_cell BK118.out 3).trans rfl
                                      have hcz59_4 : wr.cell? ⟨gb118, 4, none⟩ = some (.slice A0_4 l0_4.length c0_4) := (blk_cell BK118.out 4).trans rfl
                                      have hfz59_0 := blk_frozen BK118.out 0
                                      have hfz59_1 := blk_frozen BK118.out 1
                                      have hfz59_2 := blk_frozen BK118.out 2
                                      have hfz59_3 := blk_frozen BK118.out 3
                                      have hfz59_4 := blk_frozen BK118.out 4
                                      have p120 : 0 ≤ (x3_3 : Int) := of_decide_eq_true (by first | (with_reducible assumption) | assumption)
                                      have q120 : x3_3 < (l0_4.length : Int) := of_decide_eq_true (by first | (with_reducible assumption) | assumption)
                                      obtain ⟨ad120, e120, hx120_0, hx120_1⟩ := at_T79 HR0_4.out x3_3 p120 q120
                                      cases e120
                                      replace hx120_0 := (HB.out.cell (World.block_lt_of_cell? w _ hx120_0)).trans hx120_0
                                      replace hx120_1 := (HB.out.cell (World.block_lt_of_cell? w _ hx120_1)).trans hx120_1
                                      replace p120 := eq_true p120
                                      replace q120 := eq_true q120
                                      go_wp2_with (first | ((with_reducible refine gate_dst (N := 4) rfl ?_); (try (refine gate_guard (by rfl) ?_; dsimp only)); refine box_event ?hg (N := 4) ?hd (cs := #[.int .i64 0, .int .i64 0]) (t := 79) ?hr ?_; (case hd => rfl); (case hg => rfl); (case hr => first | (go_simp; done) | (go_simp; rfl)); intro gb121 hg w60 hbox hb; have n0_ := Aside0.mk (blk_below (g := gb118) (o := .cells #[.int .i64 a0_0, .int .i64 a0_1, .int .i64 a0_2, .int .i64 a0_3, .slice (some ad120) l0_4.length c0_4] 45 (0, 0)) (by (with_reducible repeat (first | refine blk_drewN ?_ _ | refine blk_drew ?_ | refine blk_alloc ?_ _)); exact BK118.out) hb); have n1_ := Aside0.mk (below_step (by repeat (first | (with_reducible first | exact HB.out | apply below_alloc | apply pw_below_drewN | apply below_drew1 | refine below_set ?_ GE118.out) | exact HB.out)) hb); have n2_ := Aside0.mk (hbox); have n3_ := Aside0.mk ((by rw [hg]; exact (below_size (by repeat (first | (with_reducible first | exact HB.out | apply below_alloc | apply pw_below_drewN | apply below_drew1 | refine below_set ?_ GE118.out) | exact HB.out))) : w.heap.size ≤ gb121)); have n4_ := Aside0.mk ((by rw [hg]; exact (below_size (by repeat (first | (with_reducible first | exact HB.out | apply below_alloc | apply pw_below_drewN | apply below_drew1 | refine below_set ?_ GE118.out) | exact HB.out))) : w.heap.size ≤ gb121)); have n5_ := Aside0.mk ((by rw [hg]; exact Nat.ne_of_lt (blk_lt (g := gb118) (o := .cells #[.int .i64 a0_0, .int .i64 a0_1, .int .i64 a0_2, .int .i64 a0_3, .slice (some ad120) l0_4.length c0_4] 45 (0, 0)) (by (with_reducible repeat (first | refine blk_drewN ?_ _ | refine blk_drew ?_ | refine blk_alloc ?_ _)); exact BK118.out)) : gb118 ≠ gb121)); have n6_ := Aside0.mk ((by rw [hg]; exact Nat.ne_of_gt (blk_lt (g := gb118) (o := .cells #[.int .i64 a0_0, .int .i64 a0_1, .int .i64 a0_2, .int .i64 a0_3, .slice (some ad120) l0_4.length c0_4] 45 (0, 0)) (by (with_reducible repeat (first | refine blk_drewN ?_ _ | refine blk_drew ?_ | refine blk_alloc ?_ _)); exact BK118.out)) : gb121 ≠ gb118)); clear BK118; clear HB; have BK118 := n0_; have HB := n1_; have BK121 := n2_; have GW121 := n3_; have GE121 := n4_; have NB118_121 := n5_; have NB121_118 := n6_; clear n0_ n1_ n2_ n3_ n4_ n5_ n6_; clear hb hbox hg; have hnb61 := NB121_118.out; have hnc61 := NB118_121.out; have hcz62_0 : w60.cell? ⟨gb121, 0, none⟩ = some (.int .i64 0) := (blk_cell BK121.out 0).trans rfl; have hcz62_1 : w60.cell? ⟨gb121, 1, none⟩ = some (.int .i64 0) := (blk_cell BK121.out 1).trans rfl; have hfz62_0 := blk_frozen BK121.out 0; have hfz62_1 := blk_frozen BK121.out 1; have hcz63_0 : w60.cell? ⟨gb118, 0, none⟩ = some (.int .i64 a0_0) := (blk_cell BK118.out 0).trans rfl; have hcz63_1 : w60.cell? ⟨gb118, 1, none⟩ = some (.int .i64 a0_1) := (blk_cell BK118.out 1).trans rfl; have hcz63_2 : w60.cell? ⟨gb118, 2, none⟩ = some (.int .i64 a0_2) := (blk_cell BK118.out 2).trans rfl; have hcz63_3 : w60.cell? ⟨gb118, 3, none⟩ = some (.int .i64 a0_3) := (blk_cell BK118.out 3).trans rfl; have hcz63_4 : w60.cell? ⟨gb118, 4, none⟩ = some (.slice (some ad120) l0_4.length c0_4) := (blk_cell BK118.out 4).trans rfl; have hfz63_0 := blk_frozen BK118.out 0; have hfz63_1 := blk_frozen BK118.out 1; have hfz63_2 := blk_frozen BK118.out 2; have hfz63_3 := blk_frozen BK118.out 3; have hfz63_4 := blk_frozen BK118.out 4; have p122 : 0 ≤ ((ji50) : Int) := of_decide_eq_true (by first | (with_reducible assumption) | assumption); have q122 : (ji50) < (l0_4.length : Int) := of_decide_eq_true (by first | (with_reducible assumption) | assumption); obtain ⟨ad122, e122, hx122_0, hx122_1⟩ := at_T79 HR0_4.out (ji50) p122 q122; obtain rfl : ad120 = ad122 := (by injection e122); have hn122_0 : ad120.block ≠ gb121 := Nat.ne_of_lt (Nat.lt_of_lt_of_le (by have := World.block_lt_of_cell? _ _ hx122_0; first | rwa [add_block] at this | exact this) GW121.out); have hn122_1 : ad120.block ≠ gb121 := Nat.ne_of_lt (Nat.lt_of_lt_of_le (by have := World.block_lt_of_cell? _ _ hx122_0; first | rwa [add_block] at this | exact this) GW121.out); replace hx122_0 := (HB.out.cell (World.block_lt_of_cell? w _ hx122_0)).trans hx122_0; replace hx122_1 := (HB.out.cell (World.block_lt_of_cell? w _ hx122_1)).trans hx122_1; replace hx122_0 := (cell_far (p := ⟨gb121, 0, none⟩) (by first | (rw [add_block]; exact hn122_0) | (show (Addr.add _ _).block ≠ _; rw [add_block]; exact hn122_0) | exact hn122_0) (.int .i64 ((rd_T79 l0_4 x3_3).f0))).trans hx122_0; replace hx122_1 := (cell_far (p := ⟨gb121, 0, none⟩) (by first | (rw [add_block]; exact hn122_0) | (show (Addr.add _ _).block ≠ _; rw [add_block]; exact hn122_0) | exact hn122_0) (.int .i64 ((rd_T79 l0_4 x3_3).f0))).trans hx122_1; replace hx122_0 := (cell_far (p := ⟨gb121, 1, none⟩) (by first | (rw [add_block]; exact hn122_1) | (show (Addr.add _ _).block ≠ _; rw [add_block]; exact hn122_1) | exact hn122_1) (.int .i64 ((rd_T79 l0_4 x3_3).f1))).trans hx122_0; replace hx122_1 := (cell_far (p := ⟨gb121, 1, none⟩) (by first | (rw [add_block]; exact hn122_1) | (show (Addr.add _ _).block ≠ _; rw [add_block]; exact hn122_1) | exact hn122_1) (.int .i64 ((rd_T79 l0_4 x3_3).f1))).trans hx122_1; (try have hy122_0 := fun (n_ : Nat) => (show ((((w60.drewN n_).setCell ⟨gb121, 0, none⟩ (.int .i64 ((rd_T79 l0_4 x3_3).f0))).setCell ⟨gb121, 1, none⟩ (.int .i64 ((rd_T79 l0_4 x3_3).f1)))).cell? _ = some _ from hx122_0)); (try have hy122_1 := fun (n_ : Nat) => (show ((((w60.drewN n_).setCell ⟨gb121, 0, none⟩ (.int .i64 ((rd_T79 l0_4 x3_3).f0))).setCell ⟨gb121, 1, none⟩ (.int .i64 ((rd_T79 l0_4 x3_3).f1)))).cell? _ = some _ from hx122_1)); clear hn122_0; clear hn122_1; replace p122 := eq_true p122; replace q122 := eq_true q122))
                                      repeat (go_quiet (first | ((with_reducible refine gate_dst (N := 4) rfl ?_); (try (refine gate_guard (by rfl) ?_; dsimp only)); refine box_event ?hg (N := 4) ?hd (cs := #[.int .i64 0, .int .i64 0]) (t := 79) ?hr ?_; (case hd => rfl); (case hg => rfl); (case hr => first | (go_simp; done) | (go_simp; rfl)); intro gb121 hg w60 hbox hb; have n0_ := Aside0.mk (blk_below (g := gb118) (o := .cells #[.int .i64 a0_0, .int .i64 a0_1, .int .i64 a0_2, .int .i64 a0_3, .slice (some ad120) l0_4.length c0_4] 45 (0, 0)) (by (with_reducible repeat (first | refine blk_drewN ?_ _ | refine blk_drew ?_ | refine blk_alloc ?_ _)); exact BK118.out) hb); have n1_ := Aside0.mk (below_step (by repeat (first | (with_reducible first | exact HB.out | apply below_alloc | apply pw_below_drewN | apply below_drew1 | refine below_set ?_ GE118.out) | exact HB.out)) hb); have n2_ := Aside0.mk (hbox); have n3_ := Aside0.mk ((by rw [hg]; exact (below_size (by repeat (first | (with_reducible first | exact HB.out | apply below_alloc | apply pw_below_drewN | apply below_drew1 | refine below_set ?_ GE118.out) | exact HB.out))) : w.heap.size ≤ gb121)); have n4_ := Aside0.mk ((by rw [hg]; exact (below_size (by repeat (first | (with_reducible first | exact HB.out | apply below_alloc | apply pw_below_drewN | apply below_drew1 | refine below_set ?_ GE118.out) | exact HB.out))) : w.heap.size ≤ gb121)); have n5_ := Aside0.mk ((by rw [hg]; exact Nat.ne_of_lt (blk_lt (g := gb118) (o := .cells #[.int .i64 a0_0, .int .i64 a0_1, .int .i64 a0_2, .int .i64 a0_3, .slice (some ad120) l0_4.length c0_4] 45 (0, 0)) (by (with_reducible repeat (first | refine blk_drewN ?_ _ | refine blk_drew ?_ | refine blk_alloc ?_ _)); exact BK118.out)) : gb118 ≠ gb121)); have n6_ := Aside0.mk ((by rw [hg]; exact Nat.ne_of_gt (blk_lt (g := gb118) (o := .cells #[.int .i64 a0_0, .int .i64 a0_1, .int .i64 a0_2, .int .i64 a0_3, .slice (some ad120) l0_4.length c0_4] 45 (0, 0)) (by (with_reducible repeat (first | refine blk_drewN ?_ _ | refine blk_drew ?_ | refine blk_alloc ?_ _)); exact BK118.out)) : gb121 ≠ gb118)); clear BK118; clear HB; have BK118 := n0_; have HB := n1_; have BK121 := n2_; have GW121 := n3_; have GE121 := n4_; have NB118_121 := n5_; have NB121_118 := n6_; clear n0_ n1_ n2_ n3_ n4_ n5_ n6_; clear hb hbox hg; have hnb61 := NB121_118.out; have hnc61 := NB118_121.out; have hcz62_0 : w60.cell? ⟨gb121, 0, none⟩ = some (.int .i64 0) := (blk_cell BK121.out 0).trans rfl; have hcz62_1 : w60.cell? ⟨gb121, 1, none⟩ = some (.int .i64 0) := (blk_cell BK121.out 1).trans rfl; have hfz62_0 := blk_frozen BK121.out 0; have hfz62_1 := blk_frozen BK121.out 1; have hcz63_0 : w60.cell? ⟨gb118, 0, none⟩ = some (.int .i64 a0_0) := (blk_cell BK118.out 0).trans rfl; have hcz63_1 : w60.cell? ⟨gb118, 1, none⟩ = some (.int .i64 a0_1) := (blk_cell BK118.out 1).trans rfl; have hcz63_2 : w60.cell? ⟨gb118, 2, none⟩ = some (.int .i64 a0_2) := (blk_cell BK118.out 2).trans rfl; have hcz63_3 : w60.cell? ⟨gb118, 3, none⟩ = some (.int .i64 a0_3) := (blk_cell BK118.out 3).trans rfl; have hcz63_4 : w60.cell? ⟨gb118, 4, none⟩ = some (.slice (some ad120) l0_4.length c0_4) := (blk_cell BK118.out 4).trans rfl; have hfz63_0 := blk_frozen BK118.out 0; have hfz63_1 := blk_frozen BK118.out 1; have hfz63_2 := blk_frozen BK118.out 2; have hfz63_3 := blk_frozen BK118.out 3; have hfz63_4 := blk_frozen BK118.out 4; have p122 : 0 ≤ ((ji50) : Int) := of_decide_eq_true (by first | (with_reducible assumption) | assumption); have q122 : (ji50) < (l0_4.length : Int) := of_decide_eq_true (by first | (with_reducible assumption) | assumption); obtain ⟨ad122, e122, hx122_0, hx122_1⟩ := at_T79 HR0_4.out (ji50) p122 q122; obtain rfl : ad120 = ad122 := (by injection e122); have hn122_0 : ad120.block ≠ gb121 := Nat.ne_of_lt (Nat.lt_of_lt_of_le (by have := World.block_lt_of_cell? _ _ hx122_0; first | rwa [add_block] at this | exact this) GW121.out); have hn122_1 : ad120.block ≠ gb121 := Nat.ne_of_lt (Nat.lt_of_lt_of_le (by have := World.block_lt_of_cell? _ _ hx122_0; first | rwa [add_block] at this | exact this) GW121.out); replace hx122_0 := (HB.out.cell (World.block_lt_of_cell? w _ hx122_0)).trans hx122_0; replace hx122_1 := (HB.out.cell (World.block_lt_of_cell? w _ hx122_1)).trans hx122_1; replace hx122_0 := (cell_far (p := ⟨gb121, 0, none⟩) (by first | (rw [add_block]; exact hn122_0) | (show (Addr.add _ _).block ≠ _; rw [add_block]; exact hn122_0) | exact hn122_0) (.int .i64 ((rd_T79 l0_4 x3_3).f0))).trans hx122_0; replace hx122_1 := (cell_far (p := ⟨gb121, 0, none⟩) (by first | (rw [add_block]; exact hn122_0) | (show (Addr.add _ _).block ≠ _; rw [add_block]; exact hn122_0) | exact hn122_0) (.int .i64 ((rd_T79 l0_4 x3_3).f0))).trans hx122_1; replace hx122_0 := (cell_far (p := ⟨gb121, 1, none⟩) (by first | (rw [add_block]; exact hn122_1) | (show (Addr.add _ _).block ≠ _; rw [add_block]; exact hn122_1) | exact hn122_1) (.int .i64 ((rd_T79 l0_4 x3_3).f1))).trans hx122_0; replace hx122_1 := (cell_far (p := ⟨gb121, 1, none⟩) (by first | (rw [add_block]; exact hn122_1) | (show (Addr.add _ _).block ≠ _; rw [add_block]; exact hn122_1) | exact hn122_1) (.int .i64 ((rd_T79 l0_4 x3_3).f1))).trans hx122_1; (try have hy122_0 := fun (n_ : Nat) => (show ((((w60.drewN n_).setCell ⟨gb121, 0, none⟩ (.int .i64 ((rd_T79 l0_4 x3_3).f0))).setCell ⟨gb121, 1, none⟩ (.int .i64 ((rd_T79 l0_4 x3_3).f1)))).cell? _ = some _ from hx122_0)); (try have hy122_1 := fun (n_ : Nat) => (show ((((w60.drewN n_).setCell ⟨gb121, 0, none⟩ (.int .i64 ((rd_T79 l0_4 x3_3).f0))).setCell ⟨gb121, 1, none⟩ (.int .i64 ((rd_T79 l0_4 x3_3).f1)))).cell? _ = some _ from hx122_1)); clear hn122_0; clear hn122_1; replace p122 := eq_true p122; replace q122 := eq_true q122)); try go_wp2_with (first | ((with_reducible refine gate_dst (N := 4) rfl ?_); (try (refine gate_guard (by rfl) ?_; dsimp only)); refine box_event ?hg (N := 4) ?hd (cs := #[.int .i64 0, .int .i64 0]) (t := 79) ?hr ?_; (case hd => rfl); (case hg => rfl); (case hr => first | (go_simp; done) | (go_simp; rfl)); intro gb121 hg w60 hbox hb; have n0_ := Aside0.mk (blk_below (g := gb118) (o := .cells #[.int .i64 a0_0, .int .i64 a0_1, .int .i64 a0_2, .int .i64 a0_3, .slice (some ad120) l0_4.length c0_4] 45 (0, 0)) (by (with_reducible repeat (first | refine blk_drewN ?_ _ | refine blk_drew ?_ | refine blk_alloc ?_ _)); exact BK118.out) hb); have n1_ := Aside0.mk (below_step (by repeat (first | (with_reducible first | exact HB.out | apply below_alloc | apply pw_below_drewN | apply below_drew1 | refine below_set ?_ GE118.out) | exact HB.out)) hb); have n2_ := Aside0.mk (hbox); have n3_ := Aside0.mk ((by rw [hg]; exact (below_size (by repeat (first | (with_reducible first | exact HB.out | apply below_alloc | apply pw_below_drewN | apply below_drew1 | refine below_set ?_ GE118.out) | exact HB.out))) : w.heap.size ≤ gb121)); have n4_ := Aside0.mk ((by rw [hg]; exact (below_size (by repeat (first | (with_reducible first | exact HB.out | apply below_alloc | apply pw_below_drewN | apply below_drew1 | refine below_set ?_ GE118.out) | exact HB.out))) : w.heap.size ≤ gb121)); have n5_ := Aside0.mk ((by rw [hg]; exact Nat.ne_of_lt (blk_lt (g := gb118) (o := .cells #[.int .i64 a0_0, .int .i64 a0_1, .int .i64 a0_2, .int .i64 a0_3, .slice (some ad120) l0_4.length c0_4] 45 (0, 0)) (by (with_reducible repeat (first | refine blk_drewN ?_ _ | refine blk_drew ?_ | refine blk_alloc ?_ _)); exact BK118.out)) : gb118 ≠ gb121)); have n6_ := Aside0.mk ((by rw [hg]; exact Nat.ne_of_gt (blk_lt (g := gb118) (o := .cells #[.int .i64 a0_0, .int .i64 a0_1, .int .i64 a0_2, .int .i64 a0_3, .slice (some ad120) l0_4.length c0_4] 45 (0, 0)) (by (with_reducible repeat (first | refine blk_drewN ?_ _ | refine blk_drew ?_ | refine blk_alloc ?_ _)); exact BK118.out)) : gb121 ≠ gb118)); clear BK118; clear HB; have BK118 := n0_; have HB := n1_; have BK121 := n2_; have GW121 := n3_; have GE121 := n4_; have NB118_121 := n5_; have NB121_118 := n6_; clear n0_ n1_ n2_ n3_ n4_ n5_ n6_; clear hb hbox hg; have hnb61 := NB121_118.out; have hnc61 := NB118_121.out; have hcz62_0 : w60.cell? ⟨gb121, 0, none⟩ = some (.int .i64 0) := (blk_cell BK121.out 0).trans rfl; have hcz62_1 : w60.cell? ⟨gb121, 1, none⟩ = some (.int .i64 0) := (blk_cell BK121.out 1).trans rfl; have hfz62_0 := blk_frozen BK121.out 0; have hfz62_1 := blk_frozen BK121.out 1; have hcz63_0 : w60.cell? ⟨gb118, 0, none⟩ = some (.int .i64 a0_0) := (blk_cell BK118.out 0).trans rfl; have hcz63_1 : w60.cell? ⟨gb118, 1, none⟩ = some (.int .i64 a0_1) := (blk_cell BK118.out 1).trans rfl; have hcz63_2 : w60.cell? ⟨gb118, 2, none⟩ = some (.int .i64 a0_2) := (blk_cell BK118.out 2).trans rfl; have hcz63_3 : w60.cell? ⟨gb118, 3, none⟩ = some (.int .i64 a0_3) := (blk_cell BK118.out 3).trans rfl; have hcz63_4 : w60.cell? ⟨gb118, 4, none⟩ = some (.slice (some ad120) l0_4.length c0_4) := (blk_cell BK118.out 4).trans rfl; have hfz63_0 := blk_frozen BK118.out 0; have hfz63_1 := blk_frozen BK118.out 1; have hfz63_2 := blk_frozen BK118.out 2; have hfz63_3 := blk_frozen BK118.out 3; have hfz63_4 := blk_frozen BK118.out 4; have p122 : 0 ≤ ((ji50) : Int) := of_decide_eq_true (by first | (with_reducible assumption) | assumption); have q122 : (ji50) < (l0_4.length : Int) := of_decide_eq_true (by first | (with_reducible assumption) | assumption); obtain ⟨ad122, e122, hx122_0, hx122_1⟩ := at_T79 HR0_4.out (ji50) p122 q122; obtain rfl : ad120 = ad122 := (by injection e122); have hn122_0 : ad120.block ≠ gb121 := Nat.ne_of_lt (Nat.lt_of_lt_of_le (by have := World.block_lt_of_cell? _ _ hx122_0; first | rwa [add_block] at this | exact this) GW121.out); have hn122_1 : ad120.block ≠ gb121 := Nat.ne_of_lt (Nat.lt_of_lt_of_le (by have := World.block_lt_of_cell? _ _ hx122_0; first | rwa [add_block] at this | exact this) GW121.out); replace hx122_0 := (HB.out.cell (World.block_lt_of_cell? w _ hx122_0)).trans hx122_0; replace hx122_1 := (HB.out.cell (World.block_lt_of_cell? w _ hx122_1)).trans hx122_1; replace hx122_0 := (cell_far (p := ⟨gb121, 0, none⟩) (by first | (rw [add_block]; exact hn122_0) | (show (Addr.add _ _).block ≠ _; rw [add_block]; exact hn122_0) | exact hn122_0) (.int .i64 ((rd_T79 l0_4 x3_3).f0))).trans hx122_0; replace hx122_1 := (cell_far (p := ⟨gb121, 0, none⟩) (by first | (rw [add_block]; exact hn122_0) | (show (Addr.add _ _).block ≠ _; rw [add_block]; exact hn122_0) | exact hn122_0) (.int .i64 ((rd_T79 l0_4 x3_3).f0))).trans hx122_1; replace hx122_0 := (cell_far (p := ⟨gb121, 1, none⟩) (by first | (rw [add_block]; exact hn122_1) | (show (Addr.add _ _).block ≠ _; rw [add_block]; exact hn122_1) | exact hn122_1) (.int .i64 ((rd_T79 l0_4 x3_3).f1))).trans hx122_0; replace hx122_1 := (cell_far (p := ⟨gb121, 1, none⟩) (by first | (rw [add_block]; exact hn122_1) | (show (Addr.add _ _).block ≠ _; rw [add_block]; exact hn122_1) | exact hn122_1) (.int .i64 ((rd_T79 l0_4 x3_3).f1))).trans hx122_1; (try have hy122_0 := fun (n_ : Nat) => (show ((((w60.drewN n_).setCell ⟨gb121, 0, none⟩ (.int .i64 ((rd_T79 l0_4 x3_3).f0))).setCell ⟨gb121, 1, none⟩ (.int .i64 ((rd_T79 l0_4 x3_3).f1)))).cell? _ = some _ from hx122_0)); (try have hy122_1 := fun (n_ : Nat) => (show ((((w60.drewN n_).setCell ⟨gb121, 0, none⟩ (.int .i64 ((rd_T79 l0_4 x3_3).f0))).setCell ⟨gb121, 1, none⟩ (.int .i64 ((rd_T79 l0_4 x3_3).f1)))).cell? _ = some _ from hx122_1)); clear hn122_0; clear hn122_1; replace p122 := eq_true p122; replace q122 := eq_true q122)))
                                      go_roundg k3
                                      case measure => have := HJ1.out; have := HJ14.out; have := HK3.out; omega
                                      case rel => exact ⟨(wrap64 (x3_3 + 1)), (by first | rfl | (simp; done) | (simp [*]; done)), H', ⟨by have := HJ1.out; have := HJ14.out; have := HK3.out; omega⟩, ⟨by (with_reducible repeat (first | refine blk_drewN ?_ _ | refine blk_drew ?_ | refine blk_alloc ?_ _)); refine blk_far ?_ NB118_121.out _; (with_reducible repeat (first | refine blk_drewN ?_ _ | refine blk_drew ?_ | refine blk_alloc ?_ _)); refine blk_far ?_ NB118_121.out _; (with_reducible repeat (first | refine blk_drewN ?_ _ | refine blk_drew ?_ | refine blk_alloc ?_ _)); exact BK118.out⟩, ⟨by repeat (first | (with_reducible first | exact HB.out | apply below_alloc | apply pw_below_drewN | apply below_drew1 | refine below_set ?_ GE118.out | refine below_set ?_ GE121.out) | exact HB.out)⟩⟩
                                  · rw [if_neg c52] at H
                                    exact absurd H (by simp)
                                · rw [if_neg c51] at H
                                  exact absurd H (by simp)
                              · rw [if_neg c49] at H
                                have c49b0 : decide (0 < x3_3) = false := decide_eq_false c49
                                clear c49
                                have H' := Aside0.mk H
                                clear H
                                have hcz64_0 : wr.cell? ⟨gb118, 0, none⟩ = some (.int .i64 a0_0) := (blk_cell BK118.out 0).trans rfl
                                have hcz64_1 : wr.cell? ⟨gb118, 1, none⟩ = some (.int .i64 a0_1) := (blk_cell BK118.out 1).trans rfl
                                have hcz64_2 : wr.cell? ⟨gb118, 2, none⟩ = some (.int .i64 a0_2) := (blk_cell BK118.out 2).trans rfl
                                have hcz64_3 : wr.cell? ⟨gb118, 3, none⟩ = some (.int .i64 a0_3) := (blk_cell BK118.out 3).trans rfl
                                have hcz64_4 : wr.cell? ⟨gb118, 4, none⟩ = some (.slice A0_4 l0_4.length c0_4) := (blk_cell BK118.out 4).trans rfl
                                have hfz64_0 := blk_frozen BK118.out 0
                                have hfz64_1 := blk_frozen BK118.out 1
                                have hfz64_2 := blk_frozen BK118.out 2
                                have hfz64_3 := blk_frozen BK118.out 3
                                have hfz64_4 := blk_frozen BK118.out 4
                                have p120 : 0 ≤ (x3_3 : Int) := of_decide_eq_true (by first | (with_reducible assumption) | assumption)
                                have q120 : x3_3 < (l0_4.length : Int) := of_decide_eq_true (by first | (with_reducible assumption) | assumption)
                                obtain ⟨ad120, e120, hx120_0, hx120_1⟩ := at_T79 HR0_4.out x3_3 p120 q120
                                cases e120
                                replace hx120_0 := (HB.out.cell (World.block_lt_of_cell? w _ hx120_0)).trans hx120_0
                                replace hx120_1 := (HB.out.cell (World.block_lt_of_cell? w _ hx120_1)).trans hx120_1
                                replace p120 := eq_true p120
                                replace q120 := eq_true q120
                                go_wp2_with (first | ((with_reducible refine gate_dst (N := 4) rfl ?_); (try (refine gate_guard (by rfl) ?_; dsimp only)); refine box_event ?hg (N := 4) ?hd (cs := #[.int .i64 0, .int .i64 0]) (t := 79) ?hr ?_; (case hd => rfl); (case hg => rfl); (case hr => first | (go_simp; done) | (go_simp; rfl)); intro gb121 hg w65 hbox hb; have n0_ := Aside0.mk (blk_below (g := gb118) (o := .cells #[.int .i64 a0_0, .int .i64 a0_1, .int .i64 a0_2, .int .i64 a0_3, .slice (some ad120) l0_4.length c0_4] 45 (0, 0)) (by (with_reducible repeat (first | refine blk_drewN ?_ _ | refine blk_drew ?_ | refine blk_alloc ?_ _)); exact BK118.out) hb); have n1_ := Aside0.mk (below_step (by repeat (first | (with_reducible first | exact HB.out | apply below_alloc | apply pw_below_drewN | apply below_drew1 | refine below_set ?_ GE118.out) | exact HB.out)) hb); have n2_ := Aside0.mk (hbox); have n3_ := Aside0.mk ((by rw [hg]; exact (below_size (by repeat (first | (with_reducible first | exact HB.out | apply below_alloc | apply pw_below_drewN | apply below_drew1 | refine below_set ?_ GE118.out) | exact HB.out))) : w.heap.size ≤ gb121)); have n4_ := Aside0.mk ((by rw [hg]; exact (below_size (by repeat (first | (with_reducible first | exact HB.out | apply below_alloc | apply pw_below_drewN | apply below_drew1 | refine below_set ?_ GE118.out) | exact HB.out))) : w.heap.size ≤ gb121)); have n5_ := Aside0.mk ((by rw [hg]; exact Nat.ne_of_lt (blk_lt (g := gb118) (o := .cells #[.int .i64 a0_0, .int .i64 a0_1, .int .i64 a0_2, .int .i64 a0_3, .slice (some ad120) l0_4.length c0_4] 45 (0, 0)) (by (with_reducible repeat (first | refine blk_drewN ?_ _ | refine blk_drew ?_ | refine blk_alloc ?_ _)); exact BK118.out)) : gb118 ≠ gb121)); have n6_ := Aside0.mk ((by rw [hg]; exact Nat.ne_of_gt (blk_lt (g := gb118) (o := .cells #[.int .i64 a0_0, .int .i64 a0_1, .int .i64 a0_2, .int .i64 a0_3, .slice (some ad120) l0_4.length c0_4] 45 (0, 0)) (by (with_reducible repeat (first | refine blk_drewN ?_ _ | refine blk_drew ?_ | refine blk_alloc ?_ _)); exact BK118.out)) : gb121 ≠ gb118)); clear BK118; clear HB; have BK118 := n0_; have HB := n1_; have BK121 := n2_; have GW121 := n3_; have GE121 := n4_; have NB118_121 := n5_; have NB121_118 := n6_; clear n0_ n1_ n2_ n3_ n4_ n5_ n6_; clear hb hbox hg; have hnb66 := NB121_118.out; have hnc66 := NB118_121.out; have hcz67_0 : w65.cell? ⟨gb121, 0, none⟩ = some (.int .i64 0) := (blk_cell BK121.out 0).trans rfl; have hcz67_1 : w65.cell? ⟨gb121, 1, none⟩ = some (.int .i64 0) := (blk_cell BK121.out 1).trans rfl; have hfz67_0 := blk_frozen BK121.out 0; have hfz67_1 := blk_frozen BK121.out 1; have hcz68_0 : w65.cell? ⟨gb118, 0, none⟩ = some (.int .i64 a0_0) := (blk_cell BK118.out 0).trans rfl; have hcz68_1 : w65.cell? ⟨gb118, 1, none⟩ = some (.int .i64 a0_1) := (blk_cell BK118.out 1).trans rfl; have hcz68_2 : w65.cell? ⟨gb118, 2, none⟩ = some (.int .i64 a0_2) := (blk_cell BK118.out 2).trans rfl; have hcz68_3 : w65.cell? ⟨gb118, 3, none⟩ = some (.int .i64 a0_3) := (blk_cell BK118.out 3).trans rfl; have hcz68_4 : w65.cell? ⟨gb118, 4, none⟩ = some (.slice (some ad120) l0_4.length c0_4) := (blk_cell BK118.out 4).trans rfl; have hfz68_0 := blk_frozen BK118.out 0; have hfz68_1 := blk_frozen BK118.out 1; have hfz68_2 := blk_frozen BK118.out 2; have hfz68_3 := blk_frozen BK118.out 3; have hfz68_4 := blk_frozen BK118.out 4))
                                repeat (go_quiet (first | ((with_reducible refine gate_dst (N := 4) rfl ?_); (try (refine gate_guard (by rfl) ?_; dsimp only)); refine box_event ?hg (N := 4) ?hd (cs := #[.int .i64 0, .int .i64 0]) (t := 79) ?hr ?_; (case hd => rfl); (case hg => rfl); (case hr => first | (go_simp; done) | (go_simp; rfl)); intro gb121 hg w65 hbox hb; have n0_ := Aside0.mk (blk_below (g := gb118) (o := .cells #[.int .i64 a0_0, .int .i64 a0_1, .int .i64 a0_2, .int .i64 a0_3, .slice (some ad120) l0_4.length c0_4] 45 (0, 0)) (by (with_reducible repeat (first | refine blk_drewN ?_ _ | refine blk_drew ?_ | refine blk_alloc ?_ _)); exact BK118.out) hb); have n1_ := Aside0.mk (below_step (by repeat (first | (with_reducible first | exact HB.out | apply below_alloc | apply pw_below_drewN | apply below_drew1 | refine below_set ?_ GE118.out) | exact HB.out)) hb); have n2_ := Aside0.mk (hbox); have n3_ := Aside0.mk ((by rw [hg]; exact (below_size (by repeat (first | (with_reducible first | exact HB.out | apply below_alloc | apply pw_below_drewN | apply below_drew1 | refine below_set ?_ GE118.out) | exact HB.out))) : w.heap.size ≤ gb121)); have n4_ := Aside0.mk ((by rw [hg]; exact (below_size (by repeat (first | (with_reducible first | exact HB.out | apply below_alloc | apply pw_below_drewN | apply below_drew1 | refine below_set ?_ GE118.out) | exact HB.out))) : w.heap.size ≤ gb121)); have n5_ := Aside0.mk ((by rw [hg]; exact Nat.ne_of_lt (blk_lt (g := gb118) (o := .cells #[.int .i64 a0_0, .int .i64 a0_1, .int .i64 a0_2, .int .i64 a0_3, .slice (some ad120) l0_4.length c0_4] 45 (0, 0)) (by (with_reducible repeat (first | refine blk_drewN ?_ _ | refine blk_drew ?_ | refine blk_alloc ?_ _)); exact BK118.out)) : gb118 ≠ gb121)); have n6_ := Aside0.mk ((by rw [hg]; exact Nat.ne_of_gt (blk_lt (g := gb118) (o := .cells #[.int .i64 a0_0, .int .i64 a0_1, .int .i64 a0_2, .int .i64 a0_3, .slice (some ad120) l0_4.length c0_4] 45 (0, 0)) (by (with_reducible repeat (first | refine blk_drewN ?_ _ | refine blk_drew ?_ | refine blk_alloc ?_ _)); exact BK118.out)) : gb121 ≠ gb118)); clear BK118; clear HB; have BK118 := n0_; have HB := n1_; have BK121 := n2_; have GW121 := n3_; have GE121 := n4_; have NB118_121 := n5_; have NB121_118 := n6_; clear n0_ n1_ n2_ n3_ n4_ n5_ n6_; clear hb hbox hg; have hnb66 := NB121_118.out; have hnc66 := NB118_121.out; have hcz67_0 : w65.cell? ⟨gb121, 0, none⟩ = some (.int .i64 0) := (blk_cell BK121.out 0).trans rfl; have hcz67_1 : w65.cell? ⟨gb121, 1, none⟩ = some (.int .i64 0) := (blk_cell BK121.out 1).trans rfl; have hfz67_0 := blk_frozen BK121.out 0; have hfz67_1 := blk_frozen BK121.out 1; have hcz68_0 : w65.cell? ⟨gb118, 0, none⟩ = some (.int .i64 a0_0) := (blk_cell BK118.out 0).trans rfl; have hcz68_1 : w65.cell? ⟨gb118, 1, none⟩ = some (.int .i64 a0_1) := (blk_cell BK118.out 1).trans rfl; have hcz68_2 : w65.cell? ⟨gb118, 2, none⟩ = some (.int .i64 a0_2) := (blk_cell BK118.out 2).trans rfl; have hcz68_3 : w65.cell? ⟨gb118, 3, none⟩ = some (.int .i64 a0_3) := (blk_cell BK118.out 3).trans rfl; have hcz68_4 : w65.cell? ⟨gb118, 4, none⟩ = some (.slice (some ad120) l0_4.length c0_4) := (blk_cell BK118.out 4).trans rfl; have hfz68_0 := blk_frozen BK118.out 0; have hfz68_1 := blk_frozen BK118.out 1; have hfz68_2 := blk_frozen BK118.out 2; have hfz68_3 := blk_frozen BK118.out 3; have hfz68_4 := blk_frozen BK118.out 4)); try go_wp2_with (first | ((with_reducible refine gate_dst (N := 4) rfl ?_); (try (refine gate_guard (by rfl) ?_; dsimp only)); refine box_event ?hg (N := 4) ?hd (cs := #[.int .i64 0, .int .i64 0]) (t := 79) ?hr ?_; (case hd => rfl); (case hg => rfl); (case hr => first | (go_simp; done) | (go_simp; rfl)); intro gb121 hg w65 hbox hb; have n0_ := Aside0.mk (blk_below (g := gb118) (o := .cells #[.int .i64 a0_0, .int .i64 a0_1, .int .i64 a0_2, .int .i64 a0_3, .slice (some ad120) l0_4.length c0_4] 45 (0, 0)) (by (with_reducible repeat (first | refine blk_drewN ?_ _ | refine blk_drew ?_ | refine blk_alloc ?_ _)); exact BK118.out) hb); have n1_ := Aside0.mk (below_step (by repeat (first | (with_reducible first | exact HB.out | apply below_alloc | apply pw_below_drewN | apply below_drew1 | refine below_set ?_ GE118.out) | exact HB.out)) hb); have n2_ := Aside0.mk (hbox); have n3_ := Aside0.mk ((by rw [hg]; exact (below_size (by repeat (first | (with_reducible first | exact HB.out | apply below_alloc | apply pw_below_drewN | apply below_drew1 | refine below_set ?_ GE118.out) | exact HB.out))) : w.heap.size ≤ gb121)); have n4_ := Aside0.mk ((by rw [hg]; exact (below_size (by repeat (first | (with_reducible first | exact HB.out | apply below_alloc | apply pw_below_drewN | apply below_drew1 | refine below_set ?_ GE118.out) | exact HB.out))) : w.heap.size ≤ gb121)); have n5_ := Aside0.mk ((by rw [hg]; exact Nat.ne_of_lt (blk_lt (g := gb118) (o := .cells #[.int .i64 a0_0, .int .i64 a0_1, .int .i64 a0_2, .int .i64 a0_3, .slice (some ad120) l0_4.length c0_4] 45 (0, 0)) (by (with_reducible repeat (first | refine blk_drewN ?_ _ | refine blk_drew ?_ | refine blk_alloc ?_ _)); exact BK118.out)) : gb118 ≠ gb121)); have n6_ := Aside0.mk ((by rw [hg]; exact Nat.ne_of_gt (blk_lt (g := gb118) (o := .cells #[.int .i64 a0_0, .int .i64 a0_1, .int .i64 a0_2, .int .i64 a0_3, .slice (some ad120) l0_4.length c0_4] 45 (0, 0)) (by (with_reducible repeat (first | refine blk_drewN ?_ _ | refine blk_drew ?_ | refine blk_alloc ?_ _)); exact BK118.out)) : gb121 ≠ gb118)); clear BK118; clear HB; have BK118 := n0_; have HB := n1_; have BK121 := n2_; have GW121 := n3_; have GE121 := n4_; have NB118_121 := n5_; have NB121_118 := n6_; clear n0_ n1_ n2_ n3_ n4_ n5_ n6_; clear hb hbox hg; have hnb66 := NB121_118.out; have hnc66 := NB118_121.out; have hcz67_0 : w65.cell? ⟨gb121, 0, none⟩ = some (.int .i64 0) := (blk_cell BK121.out 0).trans rfl; have hcz67_1 : w65.cell? ⟨gb121, 1, none⟩ = some (.int .i64 0) := (blk_cell BK121.out 1).trans rfl; have hfz67_0 := blk_frozen BK121.out 0; have hfz67_1 := blk_frozen BK121.out 1; have hcz68_0 : w65.cell? ⟨gb118, 0, none⟩ = some (.int .i64 a0_0) := (blk_cell BK118.out 0).trans rfl; have hcz68_1 : w65.cell? ⟨gb118, 1, none⟩ = some (.int .i64 a0_1) := (blk_cell BK118.out 1).trans rfl; have hcz68_2 : w65.cell? ⟨gb118, 2, none⟩ = some (.int .i64 a0_2) := (blk_cell BK118.out 2).trans rfl; have hcz68_3 : w65.cell? ⟨gb118, 3, none⟩ = some (.int .i64 a0_3) := (blk_cell BK118.out 3).trans rfl; have hcz68_4 : w65.cell? ⟨gb118, 4, none⟩ = some (.slice (some ad120) l0_4.length c0_4) := (blk_cell BK118.out 4).trans rfl; have hfz68_0 := blk_frozen BK118.out 0; have hfz68_1 := blk_frozen BK118.out 1; have hfz68_2 := blk_frozen BK118.out 2; have hfz68_3 := blk_frozen BK118.out 3; have hfz68_4 := blk_frozen BK118.out 4)))
                                go_roundg k3
                                case measure => have := HJ1.out; have := HJ14.out; have := HK3.out; omega
                                case rel => exact ⟨(wrap64 (x3_3 + 1)), (by first | rfl | (simp; done) | (simp [*]; done)), H', ⟨by have := HJ1.out; have := HJ14.out; have := HK3.out; omega⟩, ⟨by (with_reducible repeat (first | refine blk_drewN ?_ _ | refine blk_drew ?_ | refine blk_alloc ?_ _)); refine blk_far ?_ NB118_121.out _; (with_reducible repeat (first | refine blk_drewN ?_ _ | refine blk_drew ?_ | refine blk_alloc ?_ _)); refine blk_far ?_ NB118_121.out _; (with_reducible repeat (first | refine blk_drewN ?_ _ | refine blk_drew ?_ | refine blk_alloc ?_ _)); exact BK118.out⟩, ⟨by repeat (first | (with_reducible first | exact HB.out | apply below_alloc | apply pw_below_drewN | apply below_drew1 | refine below_set ?_ GE118.out | refine below_set ?_ GE121.out) | exact HB.out)⟩⟩
                    · rw [if_neg c25] at H
                      exact absurd H (by simp)
                  · rw [if_neg c24] at H
                    have c24b0 : decide (x3_3 < (l0_4.length : Int)) = false := decide_eq_false c24
                    clear c24
                    obtain rfl := Option.some.inj H
                    have hcz69_0 : wr.cell? ⟨gb118, 0, none⟩ = some (.int .i64 a0_0) := (blk_cell BK118.out 0).trans rfl
                    have hcz69_1 : wr.cell? ⟨gb118, 1, none⟩ = some (.int .i64 a0_1) := (blk_cell BK118.out 1).trans rfl
                    have hcz69_2 : wr.cell? ⟨gb118, 2, none⟩ = some (.int .i64 a0_2) := (blk_cell BK118.out 2).trans rfl
                    have hcz69_3 : wr.cell? ⟨gb118, 3, none⟩ = some (.int .i64 a0_3) := (blk_cell BK118.out 3).trans rfl
                    have hcz69_4 : wr.cell? ⟨gb118, 4, none⟩ = some (.slice A0_4 l0_4.length c0_4) := (blk_cell BK118.out 4).trans rfl
                    have hfz69_0 := blk_frozen BK118.out 0
                    have hfz69_1 := blk_frozen BK118.out 1
                    have hfz69_2 := blk_frozen BK118.out 2
                    have hfz69_3 := blk_frozen BK118.out 3
                    have hfz69_4 := blk_frozen BK118.out 4
                    go_wp2
                    repeat (go_quiet (fail); try go_wp2)
                    go_ret
                    exact ⟨by first | rfl | (simp [errW_none, errW_some] <;> rfl) | (simp [*, errW_none, errW_some] <;> rfl), by repeat (first | (with_reducible first | exact HB.out | apply below_alloc | apply pw_below_drewN | apply below_drew1 | refine below_set ?_ GE118.out) | exact HB.out)⟩

end Go.Proofs.YtnkgclcmjojeiaaDoor.PFnExactEncodeSuper
