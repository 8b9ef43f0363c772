-- Written by a program of this session (after the kit's print) out of the translation. Nothing here is trusted: Lean checks it.
import Derived.Test.YtnkgclcmjojeiaaDoorPFnExactEncodeSuperx0
namespace Go.Proofs.YtnkgclcmjojeiaaDoor.PFnExactEncodeSuper
open Go.RowKit Go.Proofs.YtnkgclcmjojeiaaDoorW.PrintWords Go.Proofs.YtnkgclcmjojeiaaDoorW.PrintLast Go.Proofs.YtnkgclcmjojeiaaDoorW.PrintMore
attribute [local go_sem] max2_int min2_int max_two min_two max_three min_three max_four min_four   -- for this text's walks alone
set_option linter.unusedVariables false
set_option linter.unusedSimpArgs false

/-! ### impl_superForm_sound: function 162 -/
mutual
def impl_superForm_sound.j0 : Nat → Bool → Int → Int → Int → Int → List (S79) → Option (Bool)
  | 0, _, _, _, _, _, _ => none
  | k + 1, x25, x170000, x170001, x170002, x170003, x170004 => if x25 = true then (some false) else (if x170002 < 1 then (impl_superForm_sound.j1 k true x170000 x170001 x170002 x170003 x170004) else (if x170002 > 65535 then (impl_superForm_sound.j1 k true x170000 x170001 x170002 x170003 x170004) else (if x170003 < 2 then (impl_superForm_sound.j1 k true x170000 x170001 x170002 x170003 x170004) else (impl_superForm_sound.j1 k (decide (x170003 ≥ x170000)) x170000 x170001 x170002 x170003 x170004))))
def impl_superForm_sound.j1 : Nat → Bool → Int → Int → Int → Int → List (S79) → Option (Bool)
  | 0, _, _, _, _, _, _ => none
  | k + 1, x45, x170000, x170001, x170002, x170003, x170004 => if x45 = true then (some false) else (if (x170004.length : Int) < 1 then (impl_superForm_sound.j2 k true x170000 x170001 x170002 x170003 x170004) else (impl_superForm_sound.j2 k (decide ((x170004.length : Int) > 16)) x170000 x170001 x170002 x170003 x170004))
def impl_superForm_sound.j2 : Nat → Bool → Int → Int → Int → Int → List (S79) → Option (Bool)
  | 0, _, _, _, _, _, _ => none
  | k + 1, x55, x170000, x170001, x170002, x170003, x170004 => if x55 = true then (some false) else (impl_superForm_sound.l0 k x170004 (x170004.length : Int) 0 x170000 x170001 x170002 x170003 x170004)
def impl_superForm_sound.l0 : Nat → List (S79) → Int → Int → Int → Int → Int → Int → List (S79) → Option (Bool)
  | 0, _, _, _, _, _, _, _, _ => none
  | k + 1, x57, x58, x59, x170000, x170001, x170002, x170003, x170004 => if x59 < x58 then (if 0 ≤ x59 then (if x59 < (x57.length : Int) then (if ((rd_T79 x57 x59).f0) < 0 then (some false) else (if ((rd_T79 x57 x59).f0) ≥ x170002 then (some false) else (if ((rd_T79 x57 x59).f1) < 2 then (some false) else (if ((rd_T79 x57 x59).f1) ≥ x170000 then (some false) else (if x59 > 0 then (if 0 ≤ (wrap64 (x59 - 1)) then (if (wrap64 (x59 - 1)) < (x170004.length : Int) then (if ((rd_T79 x170004 (wrap64 (x59 - 1))).f0) ≥ ((rd_T79 x57 x59).f0) then (some false) else (impl_superForm_sound.l0 k x57 x58 (wrap64 (x59 + 1)) x170000 x170001 x170002 x170003 x170004)) else (none)) else (none)) else (impl_superForm_sound.l0 k x57 x58 (wrap64 (x59 + 1)) x170000 x170001 x170002 x170003 x170004)))))) else (none)) else (none)) else (some true)
end
def impl_superForm_sound.f (k : Nat) (a0_0 : Int) (a0_1 : Int) (a0_2 : Int) (a0_3 : Int) (a0_4 : Int) (a0_5 : Int) (l0_6 : List (S79)) : Option (Bool) := if a0_2 < 8 then (impl_superForm_sound.j0 k true a0_2 a0_3 a0_4 a0_5 l0_6) else (if a0_2 > 512 then (impl_superForm_sound.j0 k true a0_2 a0_3 a0_4 a0_5 l0_6) else (if a0_3 < 1 then (impl_superForm_sound.j0 k true a0_2 a0_3 a0_4 a0_5 l0_6) else (impl_superForm_sound.j0 k (decide (a0_3 > 1099511627776)) a0_2 a0_3 a0_4 a0_5 l0_6)))
theorem impl_superForm_sound.mono_l : ∀ k, (∀ y0 y1 y2 y3 y4 y5, LeO (impl_superForm_sound.j0 k y0 y1 y2 y3 y4 y5) (impl_superForm_sound.j0 (k + 1) y0 y1 y2 y3 y4 y5)) ∧ (∀ y0 y1 y2 y3 y4 y5, LeO (impl_superForm_sound.j1 k y0 y1 y2 y3 y4 y5) (impl_superForm_sound.j1 (k + 1) y0 y1 y2 y3 y4 y5)) ∧ (∀ y0 y1 y2 y3 y4 y5, LeO (impl_superForm_sound.j2 k y0 y1 y2 y3 y4 y5) (impl_superForm_sound.j2 (k + 1) y0 y1 y2 y3 y4 y5)) ∧ (∀ y0 y1 y2 y3 y4 y5 y6 y7, LeO (impl_superForm_sound.l0 k y0 y1 y2 y3 y4 y5 y6 y7) (impl_superForm_sound.l0 (k + 1) y0 y1 y2 y3 y4 y5 y6 y7))
  | 0 => ⟨fun _ _ _ _ _ _ r h => by first | (cases h; done) | simp [impl_superForm_sound.j0] at h, fun _ _ _ _ _ _ r h => by first | (cases h; done) | simp [impl_superForm_sound.j1] at h, fun _ _ _ _ _ _ r h => by first | (cases h; done) | simp [impl_superForm_sound.j2] at h, fun _ _ _ _ _ _ _ _ r h => by first | (cases h; done) | simp [impl_superForm_sound.l0] at h⟩
  | k + 1 => by
    obtain ⟨ih0, ih1, ih2, ih3⟩ := impl_superForm_sound.mono_l k
    refine ⟨?_, ?_, ?_, ?_⟩
    · intro y0 y1 y2 y3 y4 y5
      unfold impl_superForm_sound.j0
      repeat' first
      | (with_reducible exact ih0 _ _ _ _ _ _)
      | (with_reducible exact ih1 _ _ _ _ _ _)
      | (with_reducible exact ih2 _ _ _ _ _ _)
      | (with_reducible exact ih3 _ _ _ _ _ _ _ _)
      | (with_reducible exact LeO.refl _)
      | (with_reducible exact LeO.none _)
      | (with_reducible refine LeO.ite ?_ ?_)
      | (with_reducible refine LeO.bind ?_ (fun _ => ?_))
      | exact ih0 _ _ _ _ _ _
      | exact ih1 _ _ _ _ _ _
      | exact ih2 _ _ _ _ _ _
      | exact ih3 _ _ _ _ _ _ _ _
      | exact LeO.none _
      | refine LeO.ite ?_ ?_
      | refine LeO.bind ?_ (fun _ => ?_)
    · intro y0 y1 y2 y3 y4 y5
      unfold impl_superForm_sound.j1
      repeat' first
      | (with_reducible exact ih0 _ _ _ _ _ _)
      | (with_reducible exact ih1 _ _ _ _ _ _)
      | (with_reducible exact ih2 _ _ _ _ _ _)
      | (with_reducible exact ih3 _ _ _ _ _ _ _ _)
      | (with_reducible exact LeO.refl _)
      | (with_reducible exact LeO.none _)
      | (with_reducible refine LeO.ite ?_ ?_)
      | (with_reducible refine LeO.bind ?_ (fun _ => ?_))
      | exact ih0 _ _ _ _ _ _
      | exact ih1 _ _ _ _ _ _
      | exact ih2 _ _ _ _ _ _
      | exact ih3 _ _ _ _ _ _ _ _
      | exact LeO.none _
      | refine LeO.ite ?_ ?_
      | refine LeO.bind ?_ (fun _ => ?_)
    · intro y0 y1 y2 y3 y4 y5
      unfold impl_superForm_sound.j2
      repeat' first
      | (with_reducible exact ih0 _ _ _ _ _ _)
      | (with_reducible exact ih1 _ _ _ _ _ _)
      | (with_reducible exact ih2 _ _ _ _ _ _)
      | (with_reducible exact ih3 _ _ _ _ _ _ _ _)
      | (with_reducible exact LeO.refl _)
      | (with_reducible exact LeO.none _)
      | (with_reducible refine LeO.ite ?_ ?_)
      | (with_reducible refine LeO.bind ?_ (fun _ => ?_))
      | exact ih0 _ _ _ _ _ _
      | exact ih1 _ _ _ _ _ _
      | exact ih2 _ _ _ _ _ _
      | exact ih3 _ _ _ _ _ _ _ _
      | exact LeO.none _
      | refine LeO.ite ?_ ?_
      | refine LeO.bind ?_ (fun _ => ?_)
    · intro y0 y1 y2 y3 y4 y5 y6 y7
      unfold impl_superForm_sound.l0
      repeat' first
      | (with_reducible exact ih0 _ _ _ _ _ _)
      | (with_reducible exact ih1 _ _ _ _ _ _)
      | (with_reducible exact ih2 _ _ _ _ _ _)
      | (with_reducible exact ih3 _ _ _ _ _ _ _ _)
      | (with_reducible exact LeO.refl _)
      | (with_reducible exact LeO.none _)
      | (with_reducible refine LeO.ite ?_ ?_)
      | (with_reducible refine LeO.bind ?_ (fun _ => ?_))
      | exact ih0 _ _ _ _ _ _
      | exact ih1 _ _ _ _ _ _
      | exact ih2 _ _ _ _ _ _
      | exact ih3 _ _ _ _ _ _ _ _
      | exact LeO.none _
      | refine LeO.ite ?_ ?_
      | refine LeO.bind ?_ (fun _ => ?_)
theorem impl_superForm_sound.mono : ∀ a0 a1 a2 a3 a4 a5 a6 k, LeO (impl_superForm_sound.f k a0 a1 a2 a3 a4 a5 a6) (impl_superForm_sound.f (k + 1) a0 a1 a2 a3 a4 a5 a6) := by
  intro a0 a1 a2 a3 a4 a5 a6 k
  obtain ⟨ih0, ih1, ih2, ih3⟩ := impl_superForm_sound.mono_l k
  unfold impl_superForm_sound.f
  repeat' first
      | (with_reducible exact ih0 _ _ _ _ _ _)
      | (with_reducible exact ih1 _ _ _ _ _ _)
      | (with_reducible exact ih2 _ _ _ _ _ _)
      | (with_reducible exact ih3 _ _ _ _ _ _ _ _)
      | (with_reducible exact LeO.refl _)
      | (with_reducible exact LeO.none _)
      | (with_reducible refine LeO.ite ?_ ?_)
      | (with_reducible refine LeO.bind ?_ (fun _ => ?_))
      | exact ih0 _ _ _ _ _ _
      | exact ih1 _ _ _ _ _ _
      | exact ih2 _ _ _ _ _ _
      | exact ih3 _ _ _ _ _ _ _ _
      | exact LeO.none _
      | refine LeO.ite ?_ ?_
      | refine LeO.bind ?_ (fun _ => ?_)
set_option maxHeartbeats 8000000 in
set_option maxRecDepth 100000 in
theorem impl_superForm_sound.calls (k : Nat) (a0_0 : Int) (a0_1 : Int) (a0_2 : Int) (a0_3 : Int) (a0_4 : Int) (a0_5 : Int) (A0_6 : Option Addr) (c0_6 : Nat) (l0_6 : List (S79)) (r : Bool) (w : World) (hr0_6 : Kd.C k79 w A0_6 l0_6.length l0_6) (hc0_6 : l0_6.length ≤ c0_6) (h : impl_superForm_sound.f k a0_0 a0_1 a0_2 a0_3 a0_4 a0_5 l0_6 = some r) :
    Calls Tryd.prog 162 #[.agg #[.int .i64 a0_0, .int .i64 a0_1, .int .i64 a0_2, .int .i64 a0_3, .int .i64 a0_4, .int .i64 a0_5, .slice A0_6 l0_6.length c0_6]] w fun e w' => e = .returned (.bool r) ∧ Below w.heap.size w w' := by
  have hu101 := Tryd.underlying101
  have hu45 := Tryd.underlying45
  have hu79 := Tryd.underlying79
  have HR0_6 := Aside0.mk hr0_6
  have HC0_6 := Aside0.mk hc0_6
  clear hr0_6 hc0_6
  have HB := Aside0.mk (Below.refl w.heap.size w)
  have H : (if a0_2 < 8 then (impl_superForm_sound.j0 k true a0_2 a0_3 a0_4 a0_5 l0_6) else (if a0_2 > 512 then (impl_superForm_sound.j0 k true a0_2 a0_3 a0_4 a0_5 l0_6) else (if a0_3 < 1 then (impl_superForm_sound.j0 k true a0_2 a0_3 a0_4 a0_5 l0_6) else (impl_superForm_sound.j0 k (decide (a0_3 > 1099511627776)) a0_2 a0_3 a0_4 a0_5 l0_6)))) = some r := h
  clear h
  have HC2 := Aside0.mk H
  clear H
  go_enter Tryd.func162, Tryd.ntmps162
  go_upto_region 2 with (first | ((with_reducible refine gate_dst (N := 1) rfl ?_); (try (refine gate_guard (by rfl) ?_; dsimp only)); refine box_event ?hg (N := 1) ?hd (cs := #[.int .i64 a0_0, .int .i64 a0_1, .int .i64 a0_2, .int .i64 a0_3, .int .i64 a0_4, .int .i64 a0_5, .slice A0_6 l0_6.length c0_6]) (t := 101) ?hr ?_; (case hd => rfl); (case hg => rfl); (case hr => first | (go_simp; done) | (go_simp; rfl)); intro gb168 hg w3 hbox hb; have n0_ := Aside0.mk (below_step (by repeat (first | (with_reducible first | exact HB.out | apply below_alloc | apply pw_below_drewN | apply below_drew1) | exact HB.out)) hb); have n1_ := Aside0.mk (hbox); have n2_ := Aside0.mk ((by rw [hg]; exact (below_size (by repeat (first | (with_reducible first | exact HB.out | apply below_alloc | apply pw_below_drewN | apply below_drew1) | exact HB.out))) : w.heap.size ≤ gb168)); have n3_ := Aside0.mk ((by rw [hg]; exact (below_size (by repeat (first | (with_reducible first | exact HB.out | apply below_alloc | apply pw_below_drewN | apply below_drew1) | exact HB.out))) : w.heap.size ≤ gb168)); clear HB; have HB := n0_; have BK168 := n1_; have GW168 := n2_; have GE168 := n3_; clear n0_ n1_ n2_ n3_; clear hb hbox hg; have hcz4_0 : w3.cell? ⟨gb168, 0, none⟩ = some (.int .i64 a0_0) := (blk_cell BK168.out 0).trans rfl; have hcz4_1 : w3.cell? ⟨gb168, 1, none⟩ = some (.int .i64 a0_1) := (blk_cell BK168.out 1).trans rfl; have hcz4_2 : w3.cell? ⟨gb168, 2, none⟩ = some (.int .i64 a0_2) := (blk_cell BK168.out 2).trans rfl; have hcz4_3 : w3.cell? ⟨gb168, 3, none⟩ = some (.int .i64 a0_3) := (blk_cell BK168.out 3).trans rfl; have hcz4_4 : w3.cell? ⟨gb168, 4, none⟩ = some (.int .i64 a0_4) := (blk_cell BK168.out 4).trans rfl; have hcz4_5 : w3.cell? ⟨gb168, 5, none⟩ = some (.int .i64 a0_5) := (blk_cell BK168.out 5).trans rfl; have hcz4_6 : w3.cell? ⟨gb168, 6, none⟩ = some (.slice A0_6 l0_6.length c0_6) := (blk_cell BK168.out 6).trans rfl; have hfz4_0 := blk_frozen BK168.out 0; have hfz4_1 := blk_frozen BK168.out 1; have hfz4_2 := blk_frozen BK168.out 2; have hfz4_3 := blk_frozen BK168.out 3; have hfz4_4 := blk_frozen BK168.out 4; have hfz4_5 := blk_frozen BK168.out 5; have hfz4_6 := blk_frozen BK168.out 6) | ((with_reducible refine gate_dst (N := 3) rfl ?_); (try (refine gate_guard (by rfl) ?_; dsimp only)); refine box_event ?hg (N := 3) ?hd (cs := #[.int .i64 0, .int .i64 0, .int .i64 0, .int .i64 0, .slice none 0 0]) (t := 45) ?hr ?_; (case hd => rfl); (case hg => rfl); (case hr => first | (go_simp; done) | (go_simp; rfl)); intro gb169 hg w5 hbox hb; have n0_ := Aside0.mk (blk_below (g := gb168) (o := .cells #[.int .i64 a0_0, .int .i64 a0_1, .int .i64 a0_2, .int .i64 a0_3, .int .i64 a0_4, .int .i64 a0_5, .slice A0_6 l0_6.length c0_6] 101 (0, 0)) (by (with_reducible repeat (first | refine blk_drewN ?_ _ | refine blk_drew ?_ | refine blk_alloc ?_ _)); exact BK168.out) hb); have n1_ := Aside0.mk (below_step (by repeat (first | (with_reducible first | exact HB.out | apply below_alloc | apply pw_below_drewN | apply below_drew1 | refine below_set ?_ GE168.out) | exact HB.out)) hb); have n2_ := Aside0.mk (hbox); have n3_ := Aside0.mk ((by rw [hg]; exact (below_size (by repeat (first | (with_reducible first | exact HB.out | apply below_alloc | apply pw_below_drewN | apply below_drew1 | refine below_set ?_ GE168.out) | exact HB.out))) : w.heap.size ≤ gb169)); have n4_ := Aside0.mk ((by rw [hg]; exact (below_size (by repeat (first | (with_reducible first | exact HB.out | apply below_alloc | apply pw_below_drewN | apply below_drew1 | refine below_set ?_ GE168.out) | exact HB.out))) : w.heap.size ≤ gb169)); have n5_ := Aside0.mk ((by rw [hg]; exact Nat.ne_of_lt (blk_lt (g := gb168) (o := .cells #[.int .i64 a0_0, .int .i64 a0_1, .int .i64 a0_2, .int .i64 a0_3, .int .i64 a0_4, .int .i64 a0_5, .slice A0_6 l0_6.length c0_6] 101 (0, 0)) (by (with_reducible repeat (first | refine blk_drewN ?_ _ | refine blk_drew ?_ | refine blk_alloc ?_ _)); exact BK168.out)) : gb168 ≠ gb169)); have n6_ := Aside0.mk ((by rw [hg]; exact Nat.ne_of_gt (blk_lt (g := gb168) (o := .cells #[.int .i64 a0_0, .int .i64 a0_1, .int .i64 a0_2, .int .i64 a0_3, .int .i64 a0_4, .int .i64 a0_5, .slice A0_6 l0_6.length c0_6] 101 (0, 0)) (by (with_reducible repeat (first | refine blk_drewN ?_ _ | refine blk_drew ?_ | refine blk_alloc ?_ _)); exact BK168.out)) : gb169 ≠ gb168)); clear BK168; clear HB; have BK168 := n0_; have HB := n1_; have BK169 := n2_; have GW169 := n3_; have GE169 := n4_; have NB168_169 := n5_; have NB169_168 := n6_; clear n0_ n1_ n2_ n3_ n4_ n5_ n6_; clear hb hbox hg; have hnb6 := NB169_168.out; have hnc6 := NB168_169.out; have hcz7_0 : w5.cell? ⟨gb169, 0, none⟩ = some (.int .i64 0) := (blk_cell BK169.out 0).trans rfl; have hcz7_1 : w5.cell? ⟨gb169, 1, none⟩ = some (.int .i64 0) := (blk_cell BK169.out 1).trans rfl; have hcz7_2 : w5.cell? ⟨gb169, 2, none⟩ = some (.int .i64 0) := (blk_cell BK169.out 2).trans rfl; have hcz7_3 : w5.cell? ⟨gb169, 3, none⟩ = some (.int .i64 0) := (blk_cell BK169.out 3).trans rfl; have hcz7_4 : w5.cell? ⟨gb169, 4, none⟩ = some (.slice none 0 0) := (blk_cell BK169.out 4).trans rfl; have hfz7_0 := blk_frozen BK169.out 0; have hfz7_1 := blk_frozen BK169.out 1; have hfz7_2 := blk_frozen BK169.out 2; have hfz7_3 := blk_frozen BK169.out 3; have hfz7_4 := blk_frozen BK169.out 4))
  repeat (go_quiet (first | ((with_reducible refine gate_dst (N := 1) rfl ?_); (try (refine gate_guard (by rfl) ?_; dsimp only)); refine box_event ?hg (N := 1) ?hd (cs := #[.int .i64 a0_0, .int .i64 a0_1, .int .i64 a0_2, .int .i64 a0_3, .int .i64 a0_4, .int .i64 a0_5, .slice A0_6 l0_6.length c0_6]) (t := 101) ?hr ?_; (case hd => rfl); (case hg => rfl); (case hr => first | (go_simp; done) | (go_simp; rfl)); intro gb168 hg w3 hbox hb; have n0_ := Aside0.mk (below_step (by repeat (first | (with_reducible first | exact HB.out | apply below_alloc | apply pw_below_drewN | apply below_drew1) | exact HB.out)) hb); have n1_ := Aside0.mk (hbox); have n2_ := Aside0.mk ((by rw [hg]; exact (below_size (by repeat (first | (with_reducible first | exact HB.out | apply below_alloc | apply pw_below_drewN | apply below_drew1) | exact HB.out))) : w.heap.size ≤ gb168)); have n3_ := Aside0.mk ((by rw [hg]; exact (below_size (by repeat (first | (with_reducible first | exact HB.out | apply below_alloc | apply pw_below_drewN | apply below_drew1) | exact HB.out))) : w.heap.size ≤ gb168)); clear HB; have HB := n0_; have BK168 := n1_; have GW168 := n2_; have GE168 := n3_; clear n0_ n1_ n2_ n3_; clear hb hbox hg; have hcz4_0 : w3.cell? ⟨gb168, 0, none⟩ = some (.int .i64 a0_0) := (blk_cell BK168.out 0).trans rfl; have hcz4_1 : w3.cell? ⟨gb168, 1, none⟩ = some (.int .i64 a0_1) := (blk_cell BK168.out 1).trans rfl; have hcz4_2 : w3.cell? ⟨gb168, 2, none⟩ = some (.int .i64 a0_2) := (blk_cell BK168.out 2).trans rfl; have hcz4_3 : w3.cell? ⟨gb168, 3, none⟩ = some (.int .i64 a0_3) := (blk_cell BK168.out 3).trans rfl; have hcz4_4 : w3.cell? ⟨gb168, 4, none⟩ = some (.int .i64 a0_4) := (blk_cell BK168.out 4).trans rfl; have hcz4_5 : w3.cell? ⟨gb168, 5, none⟩ = some (.int .i64 a0_5) := (blk_cell BK168.out 5).trans rfl; have hcz4_6 : w3.cell? ⟨gb168, 6, none⟩ = some (.slice A0_6 l0_6.length c0_6) := (blk_cell BK168.out 6).trans rfl; have hfz4_0 := blk_frozen BK168.out 0; have hfz4_1 := blk_frozen BK168.out 1; have hfz4_2 := blk_frozen BK168.out 2; have hfz4_3 := blk_frozen BK168.out 3; have hfz4_4 := blk_frozen BK168.out 4; have hfz4_5 := blk_frozen BK168.out 5; have hfz4_6 := blk_frozen BK168.out 6) | ((with_reducible refine gate_dst (N := 3) rfl ?_); (try (refine gate_guard (by rfl) ?_; dsimp only)); refine box_event ?hg (N := 3) ?hd (cs := #[.int .i64 0, .int .i64 0, .int .i64 0, .int .i64 0, .slice none 0 0]) (t := 45) ?hr ?_; (case hd => rfl); (case hg => rfl); (case hr => first | (go_simp; done) | (go_simp; rfl)); intro gb169 hg w5 hbox hb; have n0_ := Aside0.mk (blk_below (g := gb168) (o := .cells #[.int .i64 a0_0, .int .i64 a0_1, .int .i64 a0_2, .int .i64 a0_3, .int .i64 a0_4, .int .i64 a0_5, .slice A0_6 l0_6.length c0_6] 101 (0, 0)) (by (with_reducible repeat (first | refine blk_drewN ?_ _ | refine blk_drew ?_ | refine blk_alloc ?_ _)); exact BK168.out) hb); have n1_ := Aside0.mk (below_step (by repeat (first | (with_reducible first | exact HB.out | apply below_alloc | apply pw_below_drewN | apply below_drew1 | refine below_set ?_ GE168.out) | exact HB.out)) hb); have n2_ := Aside0.mk (hbox); have n3_ := Aside0.mk ((by rw [hg]; exact (below_size (by repeat (first | (with_reducible first | exact HB.out | apply below_alloc | apply pw_below_drewN | apply below_drew1 | refine below_set ?_ GE168.out) | exact HB.out))) : w.heap.size ≤ gb169)); have n4_ := Aside0.mk ((by rw [hg]; exact (below_size (by repeat (first | (with_reducible first | exact HB.out | apply below_alloc | apply pw_below_drewN | apply below_drew1 | refine below_set ?_ GE168.out) | exact HB.out))) : w.heap.size ≤ gb169)); have n5_ := Aside0.mk ((by rw [hg]; exact Nat.ne_of_lt (blk_lt (g := gb168) (o := .cells #[.int .i64 a0_0, .int .i64 a0_1, .int .i64 a0_2, .int .i64 a0_3, .int .i64 a0_4, .int .i64 a0_5, .slice A0_6 l0_6.length c0_6] 101 (0, 0)) (by (with_reducible repeat (first | refine blk_drewN ?_ _ | refine blk_drew ?_ | refine blk_alloc ?_ _)); exact BK168.out)) : gb168 ≠ gb169)); have n6_ := Aside0.mk ((by rw [hg]; exact Nat.ne_of_gt (blk_lt (g := gb168) (o := .cells #[.int .i64 a0_0, .int .i64 a0_1, .int .i64 a0_2, .int .i64 a0_3, .int .i64 a0_4, .int .i64 a0_5, .slice A0_6 l0_6.length c0_6] 101 (0, 0)) (by (with_reducible repeat (first | refine blk_drewN ?_ _ | refine blk_drew ?_ | refine blk_alloc ?_ _)); exact BK168.out)) : gb169 ≠ gb168)); clear BK168; clear HB; have BK168 := n0_; have HB := n1_; have BK169 := n2_; have GW169 := n3_; have GE169 := n4_; have NB168_169 := n5_; have NB169_168 := n6_; clear n0_ n1_ n2_ n3_ n4_ n5_ n6_; clear hb hbox hg; have hnb6 := NB169_168.out; have hnc6 := NB168_169.out; have hcz7_0 : w5.cell? ⟨gb169, 0, none⟩ = some (.int .i64 0) := (blk_cell BK169.out 0).trans rfl; have hcz7_1 : w5.cell? ⟨gb169, 1, none⟩ = some (.int .i64 0) := (blk_cell BK169.out 1).trans rfl; have hcz7_2 : w5.cell? ⟨gb169, 2, none⟩ = some (.int .i64 0) := (blk_cell BK169.out 2).trans rfl; have hcz7_3 : w5.cell? ⟨gb169, 3, none⟩ = some (.int .i64 0) := (blk_cell BK169.out 3).trans rfl; have hcz7_4 : w5.cell? ⟨gb169, 4, none⟩ = some (.slice none 0 0) := (blk_cell BK169.out 4).trans rfl; have hfz7_0 := blk_frozen BK169.out 0; have hfz7_1 := blk_frozen BK169.out 1; have hfz7_2 := blk_frozen BK169.out 2; have hfz7_3 := blk_frozen BK169.out 3; have hfz7_4 := blk_frozen BK169.out 4)); go_upto_region 2 with (first | ((with_reducible refine gate_dst (N := 1) rfl ?_); (try (refine gate_guard (by rfl) ?_; dsimp only)); refine box_event ?hg (N := 1) ?hd (cs := #[.int .i64 a0_0, .int .i64 a0_1, .int .i64 a0_2, .int .i64 a0_3, .int .i64 a0_4, .int .i64 a0_5, .slice A0_6 l0_6.length c0_6]) (t := 101) ?hr ?_; (case hd => rfl); (case hg => rfl); (case hr => first | (go_simp; done) | (go_simp; rfl)); intro gb168 hg w3 hbox hb; have n0_ := Aside0.mk (below_step (by repeat (first | (with_reducible first | exact HB.out | apply below_alloc | apply pw_below_drewN | apply below_drew1) | exact HB.out)) hb); have n1_ := Aside0.mk (hbox); have n2_ := Aside0.mk ((by rw [hg]; exact (below_size (by repeat (first | (with_reducible first | exact HB.out | apply below_alloc | apply pw_below_drewN | apply below_drew1) | exact HB.out))) : w.heap.size ≤ gb168)); have n3_ := Aside0.mk ((by rw [hg]; exact (below_size (by repeat (first | (with_reducible first | exact HB.out | apply below_alloc | apply pw_below_drewN | apply below_drew1) | exact HB.out))) : w.heap.size ≤ gb168)); clear HB; have HB := n0_; have BK168 := n1_; have GW168 := n2_; have GE168 := n3_; clear n0_ n1_ n2_ n3_; clear hb hbox hg; have hcz4_0 : w3.cell? ⟨gb168, 0, none⟩ = some (.int .i64 a0_0) := (blk_cell BK168.out 0).trans rfl; have hcz4_1 : w3.cell? ⟨gb168, 1, none⟩ = some (.int .i64 a0_1) := (blk_cell BK168.out 1).trans rfl; have hcz4_2 : w3.cell? ⟨gb168, 2, none⟩ = some (.int .i64 a0_2) := (blk_cell BK168.out 2).trans rfl; have hcz4_3 : w3.cell? ⟨gb168, 3, none⟩ = some (.int .i64 a0_3) := (blk_cell BK168.out 3).trans rfl; have hcz4_4 : w3.cell? ⟨gb168, 4, none⟩ = some (.int .i64 a0_4) := (blk_cell BK168.out 4).trans rfl; have hcz4_5 : w3.cell? ⟨gb168, 5, none⟩ = some (.int .i64 a0_5) := (blk_cell BK168.out 5).trans rfl; have hcz4_6 : w3.cell? ⟨gb168, 6, none⟩ = some (.slice A0_6 l0_6.length c0_6) := (blk_cell BK168.out 6).trans rfl; have hfz4_0 := blk_frozen BK168.out 0; have hfz4_1 := blk_frozen BK168.out 1; have hfz4_2 := blk_frozen BK168.out 2; have hfz4_3 := blk_frozen BK168.out 3; have hfz4_4 := blk_frozen BK168.out 4; have hfz4_5 := blk_frozen BK168.out 5; have hfz4_6 := blk_frozen BK168.out 6) | ((with_reducible refine gate_dst (N := 3) rfl ?_); (try (refine gate_guard (by rfl) ?_; dsimp only)); refine box_event ?hg (N := 3) ?hd (cs := #[.int .i64 0, .int .i64 0, .int .i64 0, .int .i64 0, .slice none 0 0]) (t := 45) ?hr ?_; (case hd => rfl); (case hg => rfl); (case hr => first | (go_simp; done) | (go_simp; rfl)); intro gb169 hg w5 hbox hb; have n0_ := Aside0.mk (blk_below (g := gb168) (o := .cells #[.int .i64 a0_0, .int .i64 a0_1, .int .i64 a0_2, .int .i64 a0_3, .int .i64 a0_4, .int .i64 a0_5, .slice A0_6 l0_6.length c0_6] 101 (0, 0)) (by (with_reducible repeat (first | refine blk_drewN ?_ _ | refine blk_drew ?_ | refine blk_alloc ?_ _)); exact BK168.out) hb); have n1_ := Aside0.mk (below_step (by repeat (first | (with_reducible first | exact HB.out | apply below_alloc | apply pw_below_drewN | apply below_drew1 | refine below_set ?_ GE168.out) | exact HB.out)) hb); have n2_ := Aside0.mk (hbox); have n3_ := Aside0.mk ((by rw [hg]; exact (below_size (by repeat (first | (with_reducible first | exact HB.out | apply below_alloc | apply pw_below_drewN | apply below_drew1 | refine below_set ?_ GE168.out) | exact HB.out))) : w.heap.size ≤ gb169)); have n4_ := Aside0.mk ((by rw [hg]; exact (below_size (by repeat (first | (with_reducible first | exact HB.out | apply below_alloc | apply pw_below_drewN | apply below_drew1 | refine below_set ?_ GE168.out) | exact HB.out))) : w.heap.size ≤ gb169)); have n5_ := Aside0.mk ((by rw [hg]; exact Nat.ne_of_lt (blk_lt (g := gb168) (o := .cells #[.int .i64 a0_0, .int .i64 a0_1, .int .i64 a0_2, .int .i64 a0_3, .int .i64 a0_4, .int .i64 a0_5, .slice A0_6 l0_6.length c0_6] 101 (0, 0)) (by (with_reducible repeat (first | refine blk_drewN ?_ _ | refine blk_drew ?_ | refine blk_alloc ?_ _)); exact BK168.out)) : gb168 ≠ gb169)); have n6_ := Aside0.mk ((by rw [hg]; exact Nat.ne_of_gt (blk_lt (g := gb168) (o := .cells #[.int .i64 a0_0, .int .i64 a0_1, .int .i64 a0_2, .int .i64 a0_3, .int .i64 a0_4, .int .i64 a0_5, .slice A0_6 l0_6.length c0_6] 101 (0, 0)) (by (with_reducible repeat (first | refine blk_drewN ?_ _ | refine blk_drew ?_ | refine blk_alloc ?_ _)); exact BK168.out)) : gb169 ≠ gb168)); clear BK168; clear HB; have BK168 := n0_; have HB := n1_; have BK169 := n2_; have GW169 := n3_; have GE169 := n4_; have NB168_169 := n5_; have NB169_168 := n6_; clear n0_ n1_ n2_ n3_ n4_ n5_ n6_; clear hb hbox hg; have hnb6 := NB169_168.out; have hnc6 := NB168_169.out; have hcz7_0 : w5.cell? ⟨gb169, 0, none⟩ = some (.int .i64 0) := (blk_cell BK169.out 0).trans rfl; have hcz7_1 : w5.cell? ⟨gb169, 1, none⟩ = some (.int .i64 0) := (blk_cell BK169.out 1).trans rfl; have hcz7_2 : w5.cell? ⟨gb169, 2, none⟩ = some (.int .i64 0) := (blk_cell BK169.out 2).trans rfl; have hcz7_3 : w5.cell? ⟨gb169, 3, none⟩ = some (.int .i64 0) := (blk_cell BK169.out 3).trans rfl; have hcz7_4 : w5.cell? ⟨gb169, 4, none⟩ = some (.slice none 0 0) := (blk_cell BK169.out 4).trans rfl; have hfz7_0 := blk_frozen BK169.out 0; have hfz7_1 := blk_frozen BK169.out 1; have hfz7_2 := blk_frozen BK169.out 2; have hfz7_3 := blk_frozen BK169.out 3; have hfz7_4 := blk_frozen BK169.out 4)))
  (try simp only [Act.put, List.setIfInBounds_toArray, List.set_cons_zero, List.set_cons_succ])
  go_cut [25] (fun v25 wc => ∃ (kq : Nat) (x25_1 : Bool), v25 = .bool x25_1 ∧ Aside0 (impl_superForm_sound.j0 kq x25_1 a0_2 a0_3 a0_4 a0_5 l0_6 = some r) ∧ Aside0 (kq ≤ k) ∧ Aside0 (wc.heap[gb168]? = some (.cells #[.int .i64 a0_0, .int .i64 a0_1, .int .i64 a0_2, .int .i64 a0_3, .int .i64 a0_4, .int .i64 a0_5, (.slice A0_6 l0_6.length c0_6)] 101 (0, 0))) ∧ Aside0 (wc.heap[gb169]? = some (.cells #[.int .i64 a0_2, .int .i64 a0_3, .int .i64 a0_4, .int .i64 a0_5, (.slice A0_6 l0_6.length c0_6)] 45 (0, 0))) ∧ Aside0 (Below w.heap.size w wc))
  case first =>
    have H := HC2.out
    clear HC2
    by_cases c8 : a0_2 < 8
    · rw [if_pos c8] at H
      have c8b0 : decide (a0_2 < 8) = true := decide_eq_true c8
      clear c8
      (first | rw [c8b0] | (simp only [i64_w, i32_w]; rw [c8b0]) | skip)
      have H' := Aside0.mk H
      clear H
      have hnb9 := NB169_168.out
      have hnc9 := NB168_169.out
      have hcz10_0 : w5.cell? ⟨gb169, 0, none⟩ = some (.int .i64 0) := (blk_cell BK169.out 0).trans rfl
      have hcz10_1 : w5.cell? ⟨gb169, 1, none⟩ = some (.int .i64 0) := (blk_cell BK169.out 1).trans rfl
      have hcz10_2 : w5.cell? ⟨gb169, 2, none⟩ = some (.int .i64 0) := (blk_cell BK169.out 2).trans rfl
      have hcz10_3 : w5.cell? ⟨gb169, 3, none⟩ = some (.int .i64 0) := (blk_cell BK169.out 3).trans rfl
      have hcz10_4 : w5.cell? ⟨gb169, 4, none⟩ = some (.slice none 0 0) := (blk_cell BK169.out 4).trans rfl
      have hfz10_0 := blk_frozen BK169.out 0
      have hfz10_1 := blk_frozen BK169.out 1
      have hfz10_2 := blk_frozen BK169.out 2
      have hfz10_3 := blk_frozen BK169.out 3
      have hfz10_4 := blk_frozen BK169.out 4
      go_wp2
      repeat (go_quiet (fail); try go_wp2)
      go_meet
      case rel => exact ⟨_, (true), (by first | rfl | (simp; done) | (simp [*]; done)), H', ⟨by first | omega | exact Nat.le_refl _⟩, ⟨by (with_reducible repeat (first | refine blk_drewN ?_ _ | refine blk_drew ?_ | refine blk_alloc ?_ _)); refine blk_far ?_ NB168_169.out _; (with_reducible repeat (first | refine blk_drewN ?_ _ | refine blk_drew ?_ | refine blk_alloc ?_ _)); refine blk_far ?_ NB168_169.out _; (with_reducible repeat (first | refine blk_drewN ?_ _ | refine blk_drew ?_ | refine blk_alloc ?_ _)); refine blk_far ?_ NB168_169.out _; (with_reducible repeat (first | refine blk_drewN ?_ _ | refine blk_drew ?_ | refine blk_alloc ?_ _)); refine blk_far ?_ NB168_169.out _; (with_reducible repeat (first | refine blk_drewN ?_ _ | refine blk_drew ?_ | refine blk_alloc ?_ _)); refine blk_far ?_ NB168_169.out _; (with_reducible repeat (first | refine blk_drewN ?_ _ | refine blk_drew ?_ | refine blk_alloc ?_ _)); exact BK168.out⟩, ⟨by (with_reducible repeat (first | refine blk_drewN ?_ _ | refine blk_drew ?_ | refine blk_alloc ?_ _)); refine blk_put (cs := #[.int .i64 a0_2, .int .i64 a0_3, .int .i64 a0_4, .int .i64 a0_5, .slice none 0 0]) ?_ 4 _ rfl; (with_reducible repeat (first | refine blk_drewN ?_ _ | refine blk_drew ?_ | refine blk_alloc ?_ _)); refine blk_put (cs := #[.int .i64 a0_2, .int .i64 a0_3, .int .i64 a0_4, .int .i64 0, .slice none 0 0]) ?_ 3 _ rfl; (with_reducible repeat (first | refine blk_drewN ?_ _ | refine blk_drew ?_ | refine blk_alloc ?_ _)); refine blk_put (cs := #[.int .i64 a0_2, .int .i64 a0_3, .int .i64 0, .int .i64 0, .slice none 0 0]) ?_ 2 _ rfl; (with_reducible repeat (first | refine blk_drewN ?_ _ | refine blk_drew ?_ | refine blk_alloc ?_ _)); refine blk_put (cs := #[.int .i64 a0_2, .int .i64 0, .int .i64 0, .int .i64 0, .slice none 0 0]) ?_ 1 _ rfl; (with_reducible repeat (first | refine blk_drewN ?_ _ | refine blk_drew ?_ | refine blk_alloc ?_ _)); refine blk_put (cs := #[.int .i64 0, .int .i64 0, .int .i64 0, .int .i64 0, .slice none 0 0]) ?_ 0 _ rfl; (with_reducible repeat (first | refine blk_drewN ?_ _ | refine blk_drew ?_ | refine blk_alloc ?_ _)); exact BK169.out⟩, ⟨by repeat (first | (with_reducible first | exact HB.out | apply below_alloc | apply pw_below_drewN | apply below_drew1 | refine below_set ?_ GE168.out | refine below_set ?_ GE169.out) | exact HB.out)⟩⟩
    · rw [if_neg c8] at H
      have c8b0 : decide (a0_2 < 8) = false := decide_eq_false c8
      clear c8
      (first | rw [c8b0] | (simp only [i64_w, i32_w]; rw [c8b0]) | skip)
      by_cases c11 : a0_2 > 512
      · rw [if_pos c11] at H
        have c11b0 : decide (512 < a0_2) = true := decide_eq_true c11
        clear c11
        have H' := Aside0.mk H
        clear H
        have hnb12 := NB169_168.out
        have hnc12 := NB168_169.out
        have hcz13_0 : w5.cell? ⟨gb169, 0, none⟩ = some (.int .i64 0) := (blk_cell BK169.out 0).trans rfl
        have hcz13_1 : w5.cell? ⟨gb169, 1, none⟩ = some (.int .i64 0) := (blk_cell BK169.out 1).trans rfl
        have hcz13_2 : w5.cell? ⟨gb169, 2, none⟩ = some (.int .i64 0) := (blk_cell BK169.out 2).trans rfl
        have hcz13_3 : w5.cell? ⟨gb169, 3, none⟩ = some (.int .i64 0) := (blk_cell BK169.out 3).trans rfl
        have hcz13_4 : w5.cell? ⟨gb169, 4, none⟩ = some (.slice none 0 0) := (blk_cell BK169.out 4).trans rfl
        have hfz13_0 := blk_frozen BK169.out 0
        have hfz13_1 := blk_frozen BK169.out 1
        have hfz13_2 := blk_frozen BK169.out 2
        have hfz13_3 := blk_frozen BK169.out 3
        have hfz13_4 := blk_frozen BK169.out 4
        go_wp2
        repeat (go_quiet (fail); try go_wp2)
        go_meet
        case rel => exact ⟨_, (true), (by first | rfl | (simp; done) | (simp [*]; done)), H', ⟨by first | omega | exact Nat.le_refl _⟩, ⟨by (with_reducible repeat (first | refine blk_drewN ?_ _ | refine blk_drew ?_ | refine blk_alloc ?_ _)); refine blk_far ?_ NB168_169.out _; (with_reducible repeat (first | refine blk_drewN ?_ _ | refine blk_drew ?_ | refine blk_alloc ?_ _)); refine blk_far ?_ NB168_169.out _; (with_reducible repeat (first | refine blk_drewN ?_ _ | refine blk_drew ?_ | refine blk_alloc ?_ _)); refine blk_far ?_ NB168_169.out _; (with_reducible repeat (first | refine blk_drewN ?_ _ | refine blk_drew ?_ | refine blk_alloc ?_ _)); refine blk_far ?_ NB168_169.out _; (with_reducible repeat (first | refine blk_drewN ?_ _ | refine blk_drew ?_ | refine blk_alloc ?_ _)); refine blk_far ?_ NB168_169.out _; (with_reducible repeat (first | refine blk_drewN ?_ _ | refine blk_drew ?_ | refine blk_alloc ?_ _)); exact BK168.out⟩, ⟨by (with_reducible repeat (first | refine blk_drewN ?_ _ | refine blk_drew ?_ | refine blk_alloc ?_ _)); refine blk_put (cs := #[.int .i64 a0_2, .int .i64 a0_3, .int .i64 a0_4, .int .i64 a0_5, .slice none 0 0]) ?_ 4 _ rfl; (with_reducible repeat (first | refine blk_drewN ?_ _ | refine blk_drew ?_ | refine blk_alloc ?_ _)); refine blk_put (cs := #[.int .i64 a0_2, .int .i64 a0_3, .int .i64 a0_4, .int .i64 0, .slice none 0 0]) ?_ 3 _ rfl; (with_reducible repeat (first | refine blk_drewN ?_ _ | refine blk_drew ?_ | refine blk_alloc ?_ _)); refine blk_put (cs := #[.int .i64 a0_2, .int .i64 a0_3, .int .i64 0, .int .i64 0, .slice none 0 0]) ?_ 2 _ rfl; (with_reducible repeat (first | refine blk_drewN ?_ _ | refine blk_drew ?_ | refine blk_alloc ?_ _)); refine blk_put (cs := #[.int .i64 a0_2, .int .i64 0, .int .i64 0, .int .i64 0, .slice none 0 0]) ?_ 1 _ rfl; (with_reducible repeat (first | refine blk_drewN ?_ _ | refine blk_drew ?_ | refine blk_alloc ?_ _)); refine blk_put (cs := #[.int .i64 0, .int .i64 0, .int .i64 0, .int .i64 0, .slice none 0 0]) ?_ 0 _ rfl; (with_reducible repeat (first | refine blk_drewN ?_ _ | refine blk_drew ?_ | refine blk_alloc ?_ _)); exact BK169.out⟩, ⟨by repeat (first | (with_reducible first | exact HB.out | apply below_alloc | apply pw_below_drewN | apply below_drew1 | refine below_set ?_ GE168.out | refine below_set ?_ GE169.out) | exact HB.out)⟩⟩
      · rw [if_neg c11] at H
        have c11b0 : decide (512 < a0_2) = false := decide_eq_false c11
        clear c11
        by_cases c14 : a0_3 < 1
        · rw [if_pos c14] at H
          have c14b0 : decide (a0_3 < 1) = true := decide_eq_true c14
          clear c14
          have H' := Aside0.mk H
          clear H
          have hnb15 := NB169_168.out
          have hnc15 := NB168_169.out
          have hcz16_0 : w5.cell? ⟨gb169, 0, none⟩ = some (.int .i64 0) := (blk_cell BK169.out 0).trans rfl
          have hcz16_1 : w5.cell? ⟨gb169, 1, none⟩ = some (.int .i64 0) := (blk_cell BK169.out 1).trans rfl
          have hcz16_2 : w5.cell? ⟨gb169, 2, none⟩ = some (.int .i64 0) := (blk_cell BK169.out 2).trans rfl
          have hcz16_3 : w5.cell? ⟨gb169, 3, none⟩ = some (.int .i64 0) := (blk_cell BK169.out 3).trans rfl
          have hcz16_4 : w5.cell? ⟨gb169, 4, none⟩ = some (.slice none 0 0) := (blk_cell BK169.out 4).trans rfl
          have hfz16_0 := blk_frozen BK169.out 0
          have hfz16_1 := blk_frozen BK169.out 1
          have hfz16_2 := blk_frozen BK169.out 2
          have hfz16_3 := blk_frozen BK169.out 3
          have hfz16_4 := blk_frozen BK169.out 4
          go_wp2
          repeat (go_quiet (fail); try go_wp2)
          go_meet
          case rel => exact ⟨_, (true), (by first | rfl | (simp; done) | (simp [*]; done)), H', ⟨by first | omega | exact Nat.le_refl _⟩, ⟨by (with_reducible repeat (first | refine blk_drewN ?_ _ | refine blk_drew ?_ | refine blk_alloc ?_ _)); refine blk_far ?_ NB168_169.out _; (with_reducible repeat (first | refine blk_drewN ?_ _ | refine blk_drew ?_ | refine blk_alloc ?_ _)); refine blk_far ?_ NB168_169.out _; (with_reducible repeat (first | refine blk_drewN ?_ _ | refine blk_drew ?_ | refine blk_alloc ?_ _)); refine blk_far ?_ NB168_169.out _; (with_reducible repeat (first | refine blk_drewN ?_ _ | refine blk_drew ?_ | refine blk_alloc ?_ _)); refine blk_far ?_ NB168_169.out _; (with_reducible repeat (first | refine blk_drewN ?_ _ | refine blk_drew ?_ | refine blk_alloc ?_ _)); refine blk_far ?_ NB168_169.out _; (with_reducible repeat (first | refine blk_drewN ?_ _ | refine blk_drew ?_ | refine blk_alloc ?_ _)); exact BK168.out⟩, ⟨by (with_reducible repeat (first | refine blk_drewN ?_ _ | refine blk_drew ?_ | refine blk_alloc ?_ _)); refine blk_put (cs := #[.int .i64 a0_2, .int .i64 a0_3, .int .i64 a0_4, .int .i64 a0_5, .slice none 0 0]) ?_ 4 _ rfl; (with_reducible repeat (first | refine blk_drewN ?_ _ | refine blk_drew ?_ | refine blk_alloc ?_ _)); refine blk_put (cs := #[.int .i64 a0_2, .int .i64 a0_3, .int .i64 a0_4, .int .i64 0, .slice none 0 0]) ?_ 3 _ rfl; (with_reducible repeat (first | refine blk_drewN ?_ _ | refine blk_drew ?_ | refine blk_alloc ?_ _)); refine blk_put (cs := #[.int .i64 a0_2, .int .i64 a0_3, .int .i64 0, .int .i64 0, .slice none 0 0]) ?_ 2 _ rfl; (with_reducible repeat (first | refine blk_drewN ?_ _ | refine blk_drew ?_ | refine blk_alloc ?_ _)); refine blk_put (cs := #[.int .i64 a0_2, .int .i64 0, .int .i64 0, .int .i64 0, .slice none 0 0]) ?_ 1 _ rfl; (with_reducible repeat (first | refine blk_drewN ?_ _ | refine blk_drew ?_ | refine blk_alloc ?_ _)); refine blk_put (cs := #[.int .i64 0, .int .i64 0, .int .i64 0, .int .i64 0, .slice none 0 0]) ?_ 0 _ rfl; (with_reducible repeat (first | refine blk_drewN ?_ _ | refine blk_drew ?_ | refine blk_alloc ?_ _)); exact BK169.out⟩, ⟨by repeat (first | (with_reducible first | exact HB.out | apply below_alloc | apply pw_below_drewN | apply below_drew1 | refine below_set ?_ GE168.out | refine below_set ?_ GE169.out) | exact HB.out)⟩⟩
        · rw [if_neg c14] at H
          have c14b0 : decide (a0_3 < 1) = false := decide_eq_false c14
          clear c14
          have H' := Aside0.mk H
          clear H
          have hnb17 := NB169_168.out
          have hnc17 := NB168_169.out
          have hcz18_0 : w5.cell? ⟨gb169, 0, none⟩ = some (.int .i64 0) := (blk_cell BK169.out 0).trans rfl
          have hcz18_1 : w5.cell? ⟨gb169, 1, none⟩ = some (.int .i64 0) := (blk_cell BK169.out 1).trans rfl
          have hcz18_2 : w5.cell? ⟨gb169, 2, none⟩ = some (.int .i64 0) := (blk_cell BK169.out 2).trans rfl
          have hcz18_3 : w5.cell? ⟨gb169, 3, none⟩ = some (.int .i64 0) := (blk_cell BK169.out 3).trans rfl
          have hcz18_4 : w5.cell? ⟨gb169, 4, none⟩ = some (.slice none 0 0) := (blk_cell BK169.out 4).trans rfl
          have hfz18_0 := blk_frozen BK169.out 0
          have hfz18_1 := blk_frozen BK169.out 1
          have hfz18_2 := blk_frozen BK169.out 2
          have hfz18_3 := blk_frozen BK169.out 3
          have hfz18_4 := blk_frozen BK169.out 4
          go_wp2
          repeat (go_quiet (fail); try go_wp2)
          go_meet
          case rel => exact ⟨_, (decide (a0_3 > 1099511627776)), (by first | rfl | (simp; done) | (simp [*]; done)), H', ⟨by first | omega | exact Nat.le_refl _⟩, ⟨by (with_reducible repeat (first | refine blk_drewN ?_ _ | refine blk_drew ?_ | refine blk_alloc ?_ _)); refine blk_far ?_ NB168_169.out _; (with_reducible repeat (first | refine blk_drewN ?_ _ | refine blk_drew ?_ | refine blk_alloc ?_ _)); refine blk_far ?_ NB168_169.out _; (with_reducible repeat (first | refine blk_drewN ?_ _ | refine blk_drew ?_ | refine blk_alloc ?_ _)); refine blk_far ?_ NB168_169.out _; (with_reducible repeat (first | refine blk_drewN ?_ _ | refine blk_drew ?_ | refine blk_alloc ?_ _)); refine blk_far ?_ NB168_169.out _; (with_reducible repeat (first | refine blk_drewN ?_ _ | refine blk_drew ?_ | refine blk_alloc ?_ _)); refine blk_far ?_ NB168_169.out _; (with_reducible repeat (first | refine blk_drewN ?_ _ | refine blk_drew ?_ | refine blk_alloc ?_ _)); exact BK168.out⟩, ⟨by (with_reducible repeat (first | refine blk_drewN ?_ _ | refine blk_drew ?_ | refine blk_alloc ?_ _)); refine blk_put (cs := #[.int .i64 a0_2, .int .i64 a0_3, .int .i64 a0_4, .int .i64 a0_5, .slice none 0 0]) ?_ 4 _ rfl; (with_reducible repeat (first | refine blk_drewN ?_ _ | refine blk_drew ?_ | refine blk_alloc ?_ _)); refine blk_put (cs := #[.int .i64 a0_2, .int .i64 a0_3, .int .i64 a0_4, .int .i64 0, .slice none 0 0]) ?_ 3 _ rfl; (with_reducible repeat (first | refine blk_drewN ?_ _ | refine blk_drew ?_ | refine blk_alloc ?_ _)); refine blk_put (cs := #[.int .i64 a0_2, .int .i64 a0_3, .int .i64 0, .int .i64 0, .slice none 0 0]) ?_ 2 _ rfl; (with_reducible repeat (first | refine blk_drewN ?_ _ | refine blk_drew ?_ | refine blk_alloc ?_ _)); refine blk_put (cs := #[.int .i64 a0_2, .int .i64 0, .int .i64 0, .int .i64 0, .slice none 0 0]) ?_ 1 _ rfl; (with_reducible repeat (first | refine blk_drewN ?_ _ | refine blk_drew ?_ | refine blk_alloc ?_ _)); refine blk_put (cs := #[.int .i64 0, .int .i64 0, .int .i64 0, .int .i64 0, .slice none 0 0]) ?_ 0 _ rfl; (with_reducible repeat (first | refine blk_drewN ?_ _ | refine blk_drew ?_ | refine blk_alloc ?_ _)); exact BK169.out⟩, ⟨by repeat (first | (with_reducible first | exact HB.out | apply below_alloc | apply pw_below_drewN | apply below_drew1 | refine below_set ?_ GE168.out | refine below_set ?_ GE169.out) | exact HB.out)⟩⟩
  case rest =>
    clear HC2
    try clear c1
    try clear p2
    try clear c6
    try clear c8
    try clear c8b0
    try clear c9
    try clear c11
    try clear c11b0
    try clear c12
    try clear c14
    try clear c14b0
    try clear c15
    try clear c16
    try clear c17
    try clear hcz10_0
    try clear hcz10_1
    try clear hcz10_2
    try clear hcz10_3
    try clear hcz10_4
    try clear hcz13_0
    try clear hcz13_1
    try clear hcz13_2
    try clear hcz13_3
    try clear hcz13_4
    try clear hcz16_0
    try clear hcz16_1
    try clear hcz16_2
    try clear hcz16_3
    try clear hcz16_4
    try clear hcz18_0
    try clear hcz18_1
    try clear hcz18_2
    try clear hcz18_3
    try clear hcz18_4
    try clear hcz4_0
    try clear hcz4_1
    try clear hcz4_2
    try clear hcz4_3
    try clear hcz4_4
    try clear hcz4_5
    try clear hcz4_6
    try clear hcz7_0
    try clear hcz7_1
    try clear hcz7_2
    try clear hcz7_3
    try clear hcz7_4
    try clear hfz10_0
    try clear hfz10_1
    try clear hfz10_2
    try clear hfz10_3
    try clear hfz10_4
    try clear hfz13_0
    try clear hfz13_1
    try clear hfz13_2
    try clear hfz13_3
    try clear hfz13_4
    try clear hfz16_0
    try clear hfz16_1
    try clear hfz16_2
    try clear hfz16_3
    try clear hfz16_4
    try clear hfz18_0
    try clear hfz18_1
    try clear hfz18_2
    try clear hfz18_3
    try clear hfz18_4
    try clear hfz4_0
    try clear hfz4_1
    try clear hfz4_2
    try clear hfz4_3
    try clear hfz4_4
    try clear hfz4_5
    try clear hfz4_6
    try clear hfz7_0
    try clear hfz7_1
    try clear hfz7_2
    try clear hfz7_3
    try clear hfz7_4
    obtain ⟨kq, x25_1, rfl, HA, HJ1, BK168, BK169, HB⟩ := hcut
    cases kq with
    | zero => exact absurd HA.out (by first | (intro h_; cases h_; done) | simp [impl_superForm_sound.j0])
    | succ kj1 =>
      have H := HA.out
      clear HA
      simp only [impl_superForm_sound.j0] at H
      by_cases c19 : x25_1 = true
      · subst c19
        have H1 : (some false) = some r := by rw [if_pos rfl] at H; exact H
        clear H
        have H := H1
        clear H1
        obtain rfl := Option.some.inj H
        go_wp2
        repeat (go_quiet (fail); try go_wp2)
        go_ret
        exact ⟨by first | rfl | (simp [errW_none, errW_some] <;> rfl) | (simp [*, errW_none, errW_some] <;> rfl), by repeat (first | (with_reducible first | exact HB.out | apply below_alloc | apply pw_below_drewN | apply below_drew1 | refine below_set ?_ GE168.out | refine below_set ?_ GE169.out) | exact HB.out)⟩
      · replace c19 := Bool.eq_false_iff.mpr c19
        subst c19
        have H1 : (if a0_4 < 1 then (impl_superForm_sound.j1 kj1 true a0_2 a0_3 a0_4 a0_5 l0_6) else (if a0_4 > 65535 then (impl_superForm_sound.j1 kj1 true a0_2 a0_3 a0_4 a0_5 l0_6) else (if a0_5 < 2 then (impl_superForm_sound.j1 kj1 true a0_2 a0_3 a0_4 a0_5 l0_6) else (impl_superForm_sound.j1 kj1 (decide (a0_5 ≥ a0_2)) a0_2 a0_3 a0_4 a0_5 l0_6)))) = some r := by rw [if_neg (show ¬ (false = true) by decide)] at H; exact H
        clear H
        have H := H1
        clear H1
        have HC20 := Aside0.mk H
        clear H
        go_upto_region 4 with (fail)
        repeat (go_quiet (fail); go_upto_region 4 with (fail))
        go_cut [45] (fun v45 wc => ∃ (kq : Nat) (x45_19 : Bool), v45 = .bool x45_19 ∧ Aside0 (impl_superForm_sound.j1 kq x45_19 a0_2 a0_3 a0_4 a0_5 l0_6 = some r) ∧ Aside0 (kq ≤ kj1) ∧ Aside0 (wc.heap[gb168]? = some (.cells #[.int .i64 a0_0, .int .i64 a0_1, .int .i64 a0_2, .int .i64 a0_3, .int .i64 a0_4, .int .i64 a0_5, (.slice A0_6 l0_6.length c0_6)] 101 (0, 0))) ∧ Aside0 (wc.heap[gb169]? = some (.cells #[.int .i64 a0_2, .int .i64 a0_3, .int .i64 a0_4, .int .i64 a0_5, (.slice A0_6 l0_6.length c0_6)] 45 (0, 0))) ∧ Aside0 (Below w.heap.size w wc))
        case first =>
          have H := HC20.out
          clear HC20
          by_cases c21 : a0_4 < 1
          · rw [if_pos c21] at H
            have c21b0 : decide (a0_4 < 1) = true := decide_eq_true c21
            clear c21
            (first | rw [c21b0] | (simp only [i64_w, i32_w]; rw [c21b0]) | skip)
            have H' := Aside0.mk H
            clear H
            have hnb22 := NB169_168.out
            have hnc22 := NB168_169.out
            have hcz23_0 : wc.cell? ⟨gb169, 0, none⟩ = some (.int .i64 a0_2) := (blk_cell BK169.out 0).trans rfl
            have hcz23_1 : wc.cell? ⟨gb169, 1, none⟩ = some (.int .i64 a0_3) := (blk_cell BK169.out 1).trans rfl
            have hcz23_2 : wc.cell? ⟨gb169, 2, none⟩ = some (.int .i64 a0_4) := (blk_cell BK169.out 2).trans rfl
            have hcz23_3 : wc.cell? ⟨gb169, 3, none⟩ = some (.int .i64 a0_5) := (blk_cell BK169.out 3).trans rfl
            have hcz23_4 : wc.cell? ⟨gb169, 4, none⟩ = some (.slice A0_6 l0_6.length c0_6) := (blk_cell BK169.out 4).trans rfl
            have hfz23_0 := blk_frozen BK169.out 0
            have hfz23_1 := blk_frozen BK169.out 1
            have hfz23_2 := blk_frozen BK169.out 2
            have hfz23_3 := blk_frozen BK169.out 3
            have hfz23_4 := blk_frozen BK169.out 4
            go_wp2
            repeat (go_quiet (fail); try go_wp2)
            go_meet
            case rel => exact ⟨_, (true), (by first | rfl | (simp; done) | (simp [*]; done)), H', ⟨by have := HJ1.out; first | omega | exact Nat.le_refl _⟩, ⟨by (with_reducible repeat (first | refine blk_drewN ?_ _ | refine blk_drew ?_ | refine blk_alloc ?_ _)); exact BK168.out⟩, ⟨by (with_reducible repeat (first | refine blk_drewN ?_ _ | refine blk_drew ?_ | refine blk_alloc ?_ _)); exact BK169.out⟩, ⟨by repeat (first | (with_reducible first | exact HB.out | apply below_alloc | apply pw_below_drewN | apply below_drew1 | refine below_set ?_ GE168.out | refine below_set ?_ GE169.out) | exact HB.out)⟩⟩
          · rw [if_neg c21] at H
            have c21b0 : decide (a0_4 < 1) = false := decide_eq_false c21
            clear c21
            (first | rw [c21b0] | (simp only [i64_w, i32_w]; rw [c21b0]) | skip)
            by_cases c24 : a0_4 > 65535
            · rw [if_pos c24] at H
              have c24b0 : decide (65535 < a0_4) = true := decide_eq_true c24
              clear c24
              have H' := Aside0.mk H
              clear H
              have hnb25 := NB169_168.out
              have hnc25 := NB168_169.out
              have hcz26_0 : wc.cell? ⟨gb169, 0, none⟩ = some (.int .i64 a0_2) := (blk_cell BK169.out 0).trans rfl
              have hcz26_1 : wc.cell? ⟨gb169, 1, none⟩ = some (.int .i64 a0_3) := (blk_cell BK169.out 1).trans rfl
              have hcz26_2 : wc.cell? ⟨gb169, 2, none⟩ = some (.int .i64 a0_4) := (blk_cell BK169.out 2).trans rfl
              have hcz26_3 : wc.cell? ⟨gb169, 3, none⟩ = some (.int .i64 a0_5) := (blk_cell BK169.out 3).trans rfl
              have hcz26_4 : wc.cell? ⟨gb169, 4, none⟩ = some (.slice A0_6 l0_6.length c0_6) := (blk_cell BK169.out 4).trans rfl
              have hfz26_0 := blk_frozen BK169.out 0
              have hfz26_1 := blk_frozen BK169.out 1
              have hfz26_2 := blk_frozen BK169.out 2
              have hfz26_3 := blk_frozen BK169.out 3
              have hfz26_4 := blk_frozen BK169.out 4
              go_wp2
              repeat (go_quiet (fail); try go_wp2)
              go_meet
              case rel => exact ⟨_, (true), (by first | rfl | (simp; done) | (simp [*]; done)), H', ⟨by have := HJ1.out; first | omega | exact Nat.le_refl _⟩, ⟨by (with_reducible repeat (first | refine blk_drewN ?_ _ | refine blk_drew ?_ | refine blk_alloc ?_ _)); exact BK168.out⟩, ⟨by (with_reducible repeat (first | refine blk_drewN ?_ _ | refine blk_drew ?_ | refine blk_alloc ?_ _)); exact BK169.out⟩, ⟨by repeat (first | (with_reducible first | exact HB.out | apply below_alloc | apply pw_below_drewN | apply below_drew1 | refine below_set ?_ GE168.out | refine below_set ?_ GE169.out) | exact HB.out)⟩⟩
            · rw [if_neg c24] at H
              have c24b0 : decide (65535 < a0_4) = false := decide_eq_false c24
              clear c24
              by_cases c27 : a0_5 < 2
              · rw [if_pos c27] at H
                have c27b0 : decide (a0_5 < 2) = true := decide_eq_true c27
                clear c27
                have H' := Aside0.mk H
                clear H
                have hnb28 := NB169_168.out
                have hnc28 := NB168_169.out
                have hcz29_0 : wc.cell? ⟨gb169, 0, none⟩ = some (.int .i64 a0_2) := (blk_cell BK169.out 0).trans rfl
                have hcz29_1 : wc.cell? ⟨gb169, 1, none⟩ = some (.int .i64 a0_3) := (blk_cell BK169.out 1).trans rfl
                have hcz29_2 : wc.cell? ⟨gb169, 2, none⟩ = some (.int .i64 a0_4) := (blk_cell BK169.out 2).trans rfl
                have hcz29_3 : wc.cell? ⟨gb169, 3, none⟩ = some (.int .i64 a0_5) := (blk_cell BK169.out 3).trans rfl
                have hcz29_4 : wc.cell? ⟨gb169, 4, none⟩ = some (.slice A0_6 l0_6.length c0_6) := (blk_cell BK169.out 4).trans rfl
                have hfz29_0 := blk_frozen BK169.out 0
                have hfz29_1 := blk_frozen BK169.out 1
                have hfz29_2 := blk_frozen BK169.out 2
                have hfz29_3 := blk_frozen BK169.out 3
                have hfz29_4 := blk_frozen BK169.out 4
                go_wp2
                repeat (go_quiet (fail); try go_wp2)
                go_meet
                case rel => exact ⟨_, (true), (by first | rfl | (simp; done) | (simp [*]; done)), H', ⟨by have := HJ1.out; first | omega | exact Nat.le_refl _⟩, ⟨by (with_reducible repeat (first | refine blk_drewN ?_ _ | refine blk_drew ?_ | refine blk_alloc ?_ _)); exact BK168.out⟩, ⟨by (with_reducible repeat (first | refine blk_drewN ?_ _ | refine blk_drew ?_ | refine blk_alloc ?_ _)); exact BK169.out⟩, ⟨by repeat (first | (with_reducible first | exact HB.out | apply below_alloc | apply pw_below_drewN | apply below_drew1 | refine below_set ?_ GE168.out | refine below_set ?_ GE169.out) | exact HB.out)⟩⟩
              · rw [if_neg c27] at H
                have c27b0 : decide (a0_5 < 2) = false := decide_eq_false c27
                clear c27
                have H' := Aside0.mk H
                clear H
                have hnb30 := NB169_168.out
                have hnc30 := NB168_169.out
                have hcz31_0 : wc.cell? ⟨gb169, 0, none⟩ = some (.int .i64 a0_2) := (blk_cell BK169.out 0).trans rfl
                have hcz31_1 : wc.cell? ⟨gb169, 1, none⟩ = some (.int .i64 a0_3) := (blk_cell BK169.out 1).trans rfl
                have hcz31_2 : wc.cell? ⟨gb169, 2, none⟩ = some (.int .i64 a0_4) := (blk_cell BK169.out 2).trans rfl
                have hcz31_3 : wc.cell? ⟨gb169, 3, none⟩ = some (.int .i64 a0_5) := (blk_cell BK169.out 3).trans rfl
                have hcz31_4 : wc.cell? ⟨gb169, 4, none⟩ = some (.slice A0_6 l0_6.length c0_6) := (blk_cell BK169.out 4).trans rfl
                have hfz31_0 := blk_frozen BK169.out 0
                have hfz31_1 := blk_frozen BK169.out 1
                have hfz31_2 := blk_frozen BK169.out 2
                have hfz31_3 := blk_frozen BK169.out 3
                have hfz31_4 := blk_frozen BK169.out 4
                go_wp2
                repeat (go_quiet (fail); try go_wp2)
                go_meet
                case rel => exact ⟨_, (decide (a0_5 ≥ a0_2)), (by first | rfl | (simp; done) | (simp [*]; done)), H', ⟨by have := HJ1.out; first | omega | exact Nat.le_refl _⟩, ⟨by (with_reducible repeat (first | refine blk_drewN ?_ _ | refine blk_drew ?_ | refine blk_alloc ?_ _)); exact BK168.out⟩, ⟨by (with_reducible repeat (first | refine blk_drewN ?_ _ | refine blk_drew ?_ | refine blk_alloc ?_ _)); exact BK169.out⟩, ⟨by repeat (first | (with_reducible first | exact HB.out | apply below_alloc | apply pw_below_drewN | apply below_drew1 | refine below_set ?_ GE168.out | refine below_set ?_ GE169.out) | exact HB.out)⟩⟩
        case rest =>
          clear HC20
          try clear c1
          try clear c2
          try clear p2
          try clear c3
          try clear c6
          try clear c8
          try clear c8b0
          try clear c9
          try clear c11
          try clear c11b0
          try clear c12
          try clear c14
          try clear c14b0
          try clear c15
          try clear c16
          try clear c17
          try clear c19
          try clear c21
          try clear c21b0
          try clear c22
          try clear c24
          try clear c24b0
          try clear c25
          try clear c27
          try clear c27b0
          try clear c28
          try clear c30
          try clear hcz10_0
          try clear hcz10_1
          try clear hcz10_2
          try clear hcz10_3
          try clear hcz10_4
          try clear hcz13_0
          try clear hcz13_1
          try clear hcz13_2
          try clear hcz13_3
          try clear hcz13_4
          try clear hcz16_0
          try clear hcz16_1
          try clear hcz16_2
          try clear hcz16_3
          try clear hcz16_4
          try clear hcz18_0
          try clear hcz18_1
          try clear hcz18_2
          try clear hcz18_3
          try clear hcz18_4
          try clear hcz23_0
          try clear hcz23_1
          try clear hcz23_2
          try clear hcz23_3
          try clear hcz23_4
          try clear hcz26_0
          try clear hcz26_1
          try clear hcz26_2
          try clear hcz26_3
          try clear hcz26_4
          try clear hcz29_0
          try clear hcz29_1
          try clear hcz29_2
          try clear hcz29_3
          try clear hcz29_4
          try clear hcz31_0
          try clear hcz31_1
          try clear hcz31_2
          try clear hcz31_3
          try clear hcz31_4
          try clear hcz4_0
          try clear hcz4_1
          try clear hcz4_2
          try clear hcz4_3
          try clear hcz4_4
          try clear hcz4_5
          try clear hcz4_6
          try clear hcz7_0
          try clear hcz7_1
          try clear hcz7_2
          try clear hcz7_3
          try clear hcz7_4
          try clear hfz10_0
          try clear hfz10_1
          try clear hfz10_2
          try clear hfz10_3
          try clear hfz10_4
          try clear hfz13_0
          try clear hfz13_1
          try clear hfz13_2
          try clear hfz13_3
          try clear hfz13_4
          try clear hfz16_0
          try clear hfz16_1
          try clear hfz16_2
          try clear hfz16_3
          try clear hfz16_4
          try clear hfz18_0
          try clear hfz18_1
          try clear hfz18_2
          try clear hfz18_3
          try clear hfz18_4
          try clear hfz23_0
          try clear hfz23_1
          try clear hfz23_2
          try clear hfz23_3
          try clear hfz23_4
          try clear hfz26_0
          try clear hfz26_1
          try clear hfz26_2
          try clear hfz26_3
          try clear hfz26_4
          try clear hfz29_0
          try clear hfz29_1
          try clear hfz29_2
          try clear hfz29_3
          try clear hfz29_4
          try clear hfz31_0
          try clear hfz31_1
          try clear hfz31_2
          try clear hfz31_3
          try clear hfz31_4
          try clear hfz4_0
          try clear hfz4_1
          try clear hfz4_2
          try clear hfz4_3
          try clear hfz4_4
          try clear hfz4_5
          try clear hfz4_6
          try clear hfz7_0
          try clear hfz7_1
          try clear hfz7_2
          try clear hfz7_3
          try clear hfz7_4
          try clear p2
          obtain ⟨kq, x45_19, rfl, HA, HJ19, BK168, BK169, HB⟩ := hcut
          cases kq with
          | zero => exact absurd HA.out (by first | (intro h_; cases h_; done) | simp [impl_superForm_sound.j1])
          | succ kj19 =>
            have H := HA.out
            clear HA
            simp only [impl_superForm_sound.j1] at H
            by_cases c32 : x45_19 = true
            · subst c32
              have H1 : (some false) = some r := by rw [if_pos rfl] at H; exact H
              clear H
              have H := H1
              clear H1
              obtain rfl := Option.some.inj H
              go_wp2
              repeat (go_quiet (fail); try go_wp2)
              go_ret
              exact ⟨by first | rfl | (simp [errW_none, errW_some] <;> rfl) | (simp [*, errW_none, errW_some] <;> rfl), by repeat (first | (with_reducible first | exact HB.out | apply below_alloc | apply pw_below_drewN | apply below_drew1 | refine below_set ?_ GE168.out | refine below_set ?_ GE169.out) | exact HB.out)⟩
            · replace c32 := Bool.eq_false_iff.mpr c32
              subst c32
              have H1 : (if (l0_6.length : Int) < 1 then (impl_superForm_sound.j2 kj19 true a0_2 a0_3 a0_4 a0_5 l0_6) else (impl_superForm_sound.j2 kj19 (decide ((l0_6.length : Int) > 16)) a0_2 a0_3 a0_4 a0_5 l0_6)) = some r := by rw [if_neg (show ¬ (false = true) by decide)] at H; exact H
              clear H
              have H := H1
              clear H1
              have HC33 := Aside0.mk H
              clear H
              go_upto_region 6 with (fail)
              repeat (go_quiet (fail); go_upto_region 6 with (fail))
              go_cut [55] (fun v55 wc => ∃ (kq : Nat) (x55_32 : Bool), v55 = .bool x55_32 ∧ Aside0 (impl_superForm_sound.j2 kq x55_32 a0_2 a0_3 a0_4 a0_5 l0_6 = some r) ∧ Aside0 (kq ≤ kj19) ∧ Aside0 (wc.heap[gb168]? = some (.cells #[.int .i64 a0_0, .int .i64 a0_1, .int .i64 a0_2, .int .i64 a0_3, .int .i64 a0_4, .int .i64 a0_5, (.slice A0_6 l0_6.length c0_6)] 101 (0, 0))) ∧ Aside0 (wc.heap[gb169]? = some (.cells #[.int .i64 a0_2, .int .i64 a0_3, .int .i64 a0_4, .int .i64 a0_5, (.slice A0_6 l0_6.length c0_6)] 45 (0, 0))) ∧ Aside0 (Below w.heap.size w wc))
              case first =>
                have H := HC33.out
                clear HC33
                by_cases c34 : (l0_6.length : Int) < 1
                · rw [if_pos c34] at H
                  have c34b0 : decide ((l0_6.length : Int) < 1) = true := decide_eq_true c34
                  have c34b1 : decide (l0_6.length < 1) = true := decide_eq_true (by omega)
                  clear c34
                  (first | rw [c34b0] | (simp only [i64_w, i32_w]; rw [c34b0]) | skip)
                  have H' := Aside0.mk H
                  clear H
                  have hnb35 := NB169_168.out
                  have hnc35 := NB168_169.out
                  have hcz36_0 : wc.cell? ⟨gb169, 0, none⟩ = some (.int .i64 a0_2) := (blk_cell BK169.out 0).trans rfl
                  have hcz36_1 : wc.cell? ⟨gb169, 1, none⟩ = some (.int .i64 a0_3) := (blk_cell BK169.out 1).trans rfl
                  have hcz36_2 : wc.cell? ⟨gb169, 2, none⟩ = some (.int .i64 a0_4) := (blk_cell BK169.out 2).trans rfl
                  have hcz36_3 : wc.cell? ⟨gb169, 3, none⟩ = some (.int .i64 a0_5) := (blk_cell BK169.out 3).trans rfl
                  have hcz36_4 : wc.cell? ⟨gb169, 4, none⟩ = some (.slice A0_6 l0_6.length c0_6) := (blk_cell BK169.out 4).trans rfl
                  have hfz36_0 := blk_frozen BK169.out 0
                  have hfz36_1 := blk_frozen BK169.out 1
                  have hfz36_2 := blk_frozen BK169.out 2
                  have hfz36_3 := blk_frozen BK169.out 3
                  have hfz36_4 := blk_frozen BK169.out 4
                  go_wp2
                  repeat (go_quiet (fail); try go_wp2)
                  go_meet
                  case rel => exact ⟨_, (true), (by first | rfl | (simp; done) | (simp [*]; done)), H', ⟨by have := HJ1.out; have := HJ19.out; first | omega | exact Nat.le_refl _⟩, ⟨by (with_reducible repeat (first | refine blk_drewN ?_ _ | refine blk_drew ?_ | refine blk_alloc ?_ _)); exact BK168.out⟩, ⟨by (with_reducible repeat (first | refine blk_drewN ?_ _ | refine blk_drew ?_ | refine blk_alloc ?_ _)); exact BK169.out⟩, ⟨by repeat (first | (with_reducible first | exact HB.out | apply below_alloc | apply pw_below_drewN | apply below_drew1 | refine below_set ?_ GE168.out | refine below_set ?_ GE169.out) | exact HB.out)⟩⟩
                · rw [if_neg c34] at H
                  have c34b0 : decide ((l0_6.length : Int) < 1) = false := decide_eq_false c34
                  have c34b1 : decide (l0_6.length < 1) = false := decide_eq_false (by omega)
                  clear c34
                  (first | rw [c34b0] | (simp only [i64_w, i32_w]; rw [c34b0]) | skip)
                  have H' := Aside0.mk H
                  clear H
                  have hnb37 := NB169_168.out
                  have hnc37 := NB168_169.out
                  have hcz38_0 : wc.cell? ⟨gb169, 0, none⟩ = some (.int .i64 a0_2) := (blk_cell BK169.out 0).trans rfl
                  have hcz38_1 : wc.cell? ⟨gb169, 1, none⟩ = some (.int .i64 a0_3) := (blk_cell BK169.out 1).trans rfl
                  have hcz38_2 : wc.cell? ⟨gb169, 2, none⟩ = some (.int .i64 a0_4) := (blk_cell BK169.out 2).trans rfl
                  have hcz38_3 : wc.cell? ⟨gb169, 3, none⟩ = some (.int .i64 a0_5) := (blk_cell BK169.out 3).trans rfl
                  have hcz38_4 : wc.cell? ⟨gb169, 4, none⟩ = some (.slice A0_6 l0_6.length c0_6) := (blk_cell BK169.out 4).trans rfl
                  have hfz38_0 := blk_frozen BK169.out 0
                  have hfz38_1 := blk_frozen BK169.out 1
                  have hfz38_2 := blk_frozen BK169.out 2
                  have hfz38_3 := blk_frozen BK169.out 3
                  have hfz38_4 := blk_frozen BK169.out 4
                  go_wp2
                  repeat (go_quiet (fail); try go_wp2)
                  go_meet
                  case rel => exact ⟨_, (decide ((l0_6.length : Int) > 16)), (by first | rfl | (simp; done) | (simp [*]; done)), H', ⟨by have := HJ1.out; have := HJ19.out; first | omega | exact Nat.le_refl _⟩, ⟨by (with_reducible repeat (first | refine blk_drewN ?_ _ | refine blk_drew ?_ | refine blk_alloc ?_ _)); exact BK168.out⟩, ⟨by (with_reducible repeat (first | refine blk_drewN ?_ _ | refine blk_drew ?_ | refine blk_alloc ?_ _)); exact BK169.out⟩, ⟨by repeat (first | (with_reducible first | exact HB.out | apply below_alloc | apply pw_below_drewN | apply below_drew1 | refine below_set ?_ GE168.out | refine below_set ?_ GE169.out) | exact HB.out)⟩⟩
              case rest =>
                clear HC33
                try clear c1
                try clear c2
                try clear p2
                try clear c3
                try clear c6
                try clear c8
                try clear c8b0
                try clear c9
                try clear c11
                try clear c11b0
                try clear c12
                try clear c14
                try clear c14b0
                try clear c15
                try clear c16
                try clear c17
                try clear c19
                try clear c21
                try clear c21b0
                try clear c22
                try clear c24
                try clear c24b0
                try clear c25
                try clear c27
                try clear c27b0
                try clear c28
                try clear c30
                try clear c32
                try clear c34
                try clear c34b0
                try clear c34b1
                try clear c35
                try clear c37
                try clear hcz10_0
                try clear hcz10_1
                try clear hcz10_2
                try clear hcz10_3
                try clear hcz10_4
                try clear hcz13_0
                try clear hcz13_1
                try clear hcz13_2
                try clear hcz13_3
                try clear hcz13_4
                try clear hcz16_0
                try clear hcz16_1
                try clear hcz16_2
                try clear hcz16_3
                try clear hcz16_4
                try clear hcz18_0
                try clear hcz18_1
                try clear hcz18_2
                try clear hcz18_3
                try clear hcz18_4
                try clear hcz23_0
                try clear hcz23_1
                try clear hcz23_2
                try clear hcz23_3
                try clear hcz23_4
                try clear hcz26_0
                try clear hcz26_1
                try clear hcz26_2
                try clear hcz26_3
                try clear hcz26_4
                try clear hcz29_0
                try clear hcz29_1
                try clear hcz29_2
                try clear hcz29_3
                try clear hcz29_4
                try clear hcz31_0
                try clear hcz31_1
                try clear hcz31_2
                try clear hcz31_3
                try clear hcz31_4
                try clear hcz36_0
                try clear hcz36_1
                try clear hcz36_2
                try clear hcz36_3
                try clear hcz36_4
                try clear hcz38_0
                try clear hcz38_1
                try clear hcz38_2
                try clear hcz38_3
                try clear hcz38_4
                try clear hcz4_0
                try clear hcz4_1
                try clear hcz4_2
                try clear hcz4_3
                try clear hcz4_4
                try clear hcz4_5
                try clear hcz4_6
                try clear hcz7_0
                try clear hcz7_1
                try clear hcz7_2
                try clear hcz7_3
                try clear hcz7_4
                try clear hfz10_0
                try clear hfz10_1
                try clear hfz10_2
                try clear hfz10_3
                try clear hfz10_4
                try clear hfz13_0
                try clear hfz13_1
                try clear hfz13_2
                try clear hfz13_3
                try clear hfz13_4
                try clear hfz16_0
                try clear hfz16_1
                try clear hfz16_2
                try clear hfz16_3
                try clear hfz16_4
                try clear hfz18_0
                try clear hfz18_1
                try clear hfz18_2
                try clear hfz18_3
                try clear hfz18_4
                try clear hfz23_0
                try clear hfz23_1
                try clear hfz23_2
                try clear hfz23_3
                try clear hfz23_4
                try clear hfz26_0
                try clear hfz26_1
                try clear hfz26_2
                try clear hfz26_3
                try clear hfz26_4
                try clear hfz29_0
                try clear hfz29_1
                try clear hfz29_2
                try clear hfz29_3
                try clear hfz29_4
                try clear hfz31_0
                try clear hfz31_1
                try clear hfz31_2
                try clear hfz31_3
                try clear hfz31_4
                try clear hfz36_0
                try clear hfz36_1
                try clear hfz36_2
                try clear hfz36_3
                try clear hfz36_4
                try clear hfz38_0
                try clear hfz38_1
                try clear hfz38_2
                try clear hfz38_3
                try clear hfz38_4
                try clear hfz4_0
                try clear hfz4_1
                try clear hfz4_2
                try clear hfz4_3
                try clear hfz4_4
                try clear hfz4_5
                try clear hfz4_6
                try clear hfz7_0
                try clear hfz7_1
                try clear hfz7_2
                try clear hfz7_3
                try clear hfz7_4
                try clear p2
                obtain ⟨kq, x55_32, rfl, HA, HJ32, BK168, BK169, HB⟩ := hcut
                cases kq with
                | zero => exact absurd HA.out (by first | (intro h_; cases h_; done) | simp [impl_superForm_sound.j2])
                | succ kj32 =>
                  have H := HA.out
                  clear HA
                  simp only [impl_superForm_sound.j2] at H
                  by_cases c39 : x55_32 = true
                  · subst c39
                    have H1 : (some false) = some r := by rw [if_pos rfl] at H; exact H
                    clear H
                    have H := H1
                    clear H1
                    obtain rfl := Option.some.inj H
                    go_wp2
                    repeat (go_quiet (fail); try go_wp2)
                    go_ret
                    exact ⟨by first | rfl | (simp [errW_none, errW_some] <;> rfl) | (simp [*, errW_none, errW_some] <;> rfl), by repeat (first | (with_reducible first | exact HB.out | apply below_alloc | apply pw_below_drewN | apply below_drew1 | refine below_set ?_ GE168.out | refine below_set ?_ GE169.out) | exact HB.out)⟩
                  · replace c39 := Bool.eq_false_iff.mpr c39
                    subst c39
                    have H1 : (impl_superForm_sound.l0 kj32 l0_6 (l0_6.length : Int) 0 a0_2 a0_3 a0_4 a0_5 l0_6) = some r := by rw [if_neg (show ¬ (false = true) by decide)] at H; exact H
                    clear H
                    have H := H1
                    clear H1
                    have H' := Aside0.mk H
                    clear H
                    have hnb40 := NB169_168.out
                    have hnc40 := NB168_169.out
                    have hcz41_0 : wc.cell? ⟨gb169, 0, none⟩ = some (.int .i64 a0_2) := (blk_cell BK169.out 0).trans rfl
                    have hcz41_1 : wc.cell? ⟨gb169, 1, none⟩ = some (.int .i64 a0_3) := (blk_cell BK169.out 1).trans rfl
                    have hcz41_2 : wc.cell? ⟨gb169, 2, none⟩ = some (.int .i64 a0_4) := (blk_cell BK169.out 2).trans rfl
                    have hcz41_3 : wc.cell? ⟨gb169, 3, none⟩ = some (.int .i64 a0_5) := (blk_cell BK169.out 3).trans rfl
                    have hcz41_4 : wc.cell? ⟨gb169, 4, none⟩ = some (.slice A0_6 l0_6.length c0_6) := (blk_cell BK169.out 4).trans rfl
                    have hfz41_0 := blk_frozen BK169.out 0
                    have hfz41_1 := blk_frozen BK169.out 1
                    have hfz41_2 := blk_frozen BK169.out 2
                    have hfz41_3 := blk_frozen BK169.out 3
                    have hfz41_4 := blk_frozen BK169.out 4
                    go_wp2
                    repeat (go_quiet (fail); try go_wp2)
                    go_loopg [59] kj32 (fun kq v59 w' => ∃ (x59_4 : Int), v59 = .int .i64 x59_4 ∧ Aside0 (impl_superForm_sound.l0 kq l0_6 (l0_6.length : Int) x59_4 a0_2 a0_3 a0_4 a0_5 l0_6 = some r) ∧ Aside0 (kq ≤ kj32) ∧ Aside0 (w'.heap[gb168]? = some (.cells #[.int .i64 a0_0, .int .i64 a0_1, .int .i64 a0_2, .int .i64 a0_3, .int .i64 a0_4, .int .i64 a0_5, (.slice A0_6 l0_6.length c0_6)] 101 (0, 0))) ∧ Aside0 (w'.heap[gb169]? = some (.cells #[.int .i64 a0_2, .int .i64 a0_3, .int .i64 a0_4, .int .i64 a0_5, (.slice A0_6 l0_6.length c0_6)] 45 (0, 0))) ∧ Aside0 (Below w.heap.size w w'))
                    case atStart => exact ⟨(0), (by first | rfl | (simp; done) | (simp [*]; done)), H', ⟨Nat.le_refl _⟩, ⟨by (with_reducible repeat (first | refine blk_drewN ?_ _ | refine blk_drew ?_ | refine blk_alloc ?_ _)); exact BK168.out⟩, ⟨by (with_reducible repeat (first | refine blk_drewN ?_ _ | refine blk_drew ?_ | refine blk_alloc ?_ _)); exact BK169.out⟩, ⟨by repeat (first | (with_reducible first | exact HB.out | apply below_alloc | apply pw_below_drewN | apply below_drew1 | refine below_set ?_ GE168.out | refine below_set ?_ GE169.out) | exact HB.out)⟩⟩
                    case round =>
                      clear H'
                      try clear c1
                      try clear c2
                      try clear p2
                      try clear c3
                      try clear c4
                      try clear c6
                      try clear c8
                      try clear c8b0
                      try clear c9
                      try clear c11
                      try clear c11b0
                      try clear c12
                      try clear c14
                      try clear c14b0
                      try clear c15
                      try clear c16
                      try clear c17
                      try clear c19
                      try clear c21
                      try clear c21b0
                      try clear c22
                      try clear c24
                      try clear c24b0
                      try clear c25
                      try clear c27
                      try clear c27b0
                      try clear c28
                      try clear c30
                      try clear c32
                      try clear c34
                      try clear c34b0
                      try clear c34b1
                      try clear c35
                      try clear c37
                      try clear c39
                      try clear c40
                      try clear hcz10_0
                      try clear hcz10_1
                      try clear hcz10_2
                      try clear hcz10_3
                      try clear hcz10_4
                      try clear hcz13_0
                      try clear hcz13_1
                      try clear hcz13_2
                      try clear hcz13_3
                      try clear hcz13_4
                      try clear hcz16_0
                      try clear hcz16_1
                      try clear hcz16_2
                      try clear hcz16_3
                      try clear hcz16_4
                      try clear hcz18_0
                      try clear hcz18_1
                      try clear hcz18_2
                      try clear hcz18_3
                      try clear hcz18_4
                      try clear hcz23_0
                      try clear hcz23_1
                      try clear hcz23_2
                      try clear hcz23_3
                      try clear hcz23_4
                      try clear hcz26_0
                      try clear hcz26_1
                      try clear hcz26_2
                      try clear hcz26_3
                      try clear hcz26_4
                      try clear hcz29_0
                      try clear hcz29_1
                      try clear hcz29_2
                      try clear hcz29_3
                      try clear hcz29_4
                      try clear hcz31_0
                      try clear hcz31_1
                      try clear hcz31_2
                      try clear hcz31_3
                      try clear hcz31_4
                      try clear hcz36_0
                      try clear hcz36_1
                      try clear hcz36_2
                      try clear hcz36_3
                      try clear hcz36_4
                      try clear hcz38_0
                      try clear hcz38_1
                      try clear hcz38_2
                      try clear hcz38_3
                      try clear hcz38_4
                      try clear hcz41_0
                      try clear hcz41_1
                      try clear hcz41_2
                      try clear hcz41_3
                      try clear hcz41_4
                      try clear hcz4_0
                      try clear hcz4_1
                      try clear hcz4_2
                      try clear hcz4_3
                      try clear hcz4_4
                      try clear hcz4_5
                      try clear hcz4_6
                      try clear hcz7_0
                      try clear hcz7_1
                      try clear hcz7_2
                      try clear hcz7_3
                      try clear hcz7_4
                      try clear hfz10_0
                      try clear hfz10_1
                      try clear hfz10_2
                      try clear hfz10_3
                      try clear hfz10_4
                      try clear hfz13_0
                      try clear hfz13_1
                      try clear hfz13_2
                      try clear hfz13_3
                      try clear hfz13_4
                      try clear hfz16_0
                      try clear hfz16_1
                      try clear hfz16_2
                      try clear hfz16_3
                      try clear hfz16_4
                      try clear hfz18_0
                      try clear hfz18_1
                      try clear hfz18_2
                      try clear hfz18_3
                      try clear hfz18_4
                      try clear hfz23_0
                      try clear hfz23_1
                      try clear hfz23_2
                      try clear hfz23_3
                      try clear hfz23_4
                      try clear hfz26_0
                      try clear hfz26_1
                      try clear hfz26_2
                      try clear hfz26_3
                      try clear hfz26_4
                      try clear hfz29_0
                      try clear hfz29_1
                      try clear hfz29_2
                      try clear hfz29_3
                      try clear hfz29_4
                      try clear hfz31_0
                      try clear hfz31_1
                      try clear hfz31_2
                      try clear hfz31_3
                      try clear hfz31_4
                      try clear hfz36_0
                      try clear hfz36_1
                      try clear hfz36_2
                      try clear hfz36_3
                      try clear hfz36_4
                      try clear hfz38_0
                      try clear hfz38_1
                      try clear hfz38_2
                      try clear hfz38_3
                      try clear hfz38_4
                      try clear hfz41_0
                      try clear hfz41_1
                      try clear hfz41_2
                      try clear hfz41_3
                      try clear hfz41_4
                      try clear hfz4_0
                      try clear hfz4_1
                      try clear hfz4_2
                      try clear hfz4_3
                      try clear hfz4_4
                      try clear hfz4_5
                      try clear hfz4_6
                      try clear hfz7_0
                      try clear hfz7_1
                      try clear hfz7_2
                      try clear hfz7_3
                      try clear hfz7_4
                      try clear p2
                      obtain ⟨x59_4, rfl, HA, HK4, BK168, BK169, HB⟩ := hrel
                      cases gk with
                      | zero => exact absurd HA.out (by first | (intro h_; cases h_; done) | simp [impl_superForm_sound.l0])
                      | succ k4 =>
                        have H := HA.out
                        clear HA
                        simp only [impl_superForm_sound.l0] at H
                        by_cases c42 : x59_4 < (l0_6.length : Int)
                        · rw [if_pos c42] at H
                          have c42b0 : decide (x59_4 < (l0_6.length : Int)) = true := decide_eq_true c42
                          clear c42
                          by_cases c43 : 0 ≤ x59_4
                          · rw [if_pos c43] at H
                            have c43b0 : decide (0 ≤ x59_4) = true := decide_eq_true c43
                            clear c43
                            by_cases c44 : x59_4 < (l0_6.length : Int)
                            · rw [if_pos c44] at H
                              have c44b0 : decide (x59_4 < (l0_6.length : Int)) = true := decide_eq_true c44
                              clear c44
                              by_cases c45 : ((rd_T79 l0_6 x59_4).f0) < 0
                              · rw [if_pos c45] at H
                                have c45b0 : decide (((rd_T79 l0_6 x59_4).f0) < 0) = true := decide_eq_true c45
                                clear c45
                                obtain rfl := Option.some.inj H
                                have p170 : 0 ≤ (x59_4 : Int) := of_decide_eq_true (by first | (with_reducible assumption) | assumption)
                                have q170 : x59_4 < (l0_6.length : Int) := of_decide_eq_true (by first | (with_reducible assumption) | assumption)
                                obtain ⟨ad170, e170, hx170_0, hx170_1⟩ := at_T79 HR0_6.out x59_4 p170 q170
                                cases e170
                                replace hx170_0 := (HB.out.cell (World.block_lt_of_cell? w _ hx170_0)).trans hx170_0
                                replace hx170_1 := (HB.out.cell (World.block_lt_of_cell? w _ hx170_1)).trans hx170_1
                                replace p170 := eq_true p170
                                replace q170 := eq_true q170
                                go_wp2_with (first | ((with_reducible refine gate_dst (N := 5) rfl ?_); (try (refine gate_guard (by rfl) ?_; dsimp only)); refine box_event ?hg (N := 5) ?hd (cs := #[.int .i64 0, .int .i64 0]) (t := 79) ?hr ?_; (case hd => rfl); (case hg => rfl); (case hr => first | (go_simp; done) | (go_simp; rfl)); intro gb171 hg w46 hbox hb; have n0_ := Aside0.mk (blk_below (g := gb168) (o := .cells #[.int .i64 a0_0, .int .i64 a0_1, .int .i64 a0_2, .int .i64 a0_3, .int .i64 a0_4, .int .i64 a0_5, .slice (some ad170) l0_6.length c0_6] 101 (0, 0)) (by (with_reducible repeat (first | refine blk_drewN ?_ _ | refine blk_drew ?_ | refine blk_alloc ?_ _)); exact BK168.out) hb); have n1_ := Aside0.mk (blk_below (g := gb169) (o := .cells #[.int .i64 a0_2, .int .i64 a0_3, .int .i64 a0_4, .int .i64 a0_5, .slice (some ad170) l0_6.length c0_6] 45 (0, 0)) (by (with_reducible repeat (first | refine blk_drewN ?_ _ | refine blk_drew ?_ | refine blk_alloc ?_ _)); exact BK169.out) hb); have n2_ := Aside0.mk (below_step (by repeat (first | (with_reducible first | exact HB.out | apply below_alloc | apply pw_below_drewN | apply below_drew1 | refine below_set ?_ GE168.out | refine below_set ?_ GE169.out) | exact HB.out)) hb); have n3_ := Aside0.mk (hbox); have n4_ := Aside0.mk ((by rw [hg]; exact (below_size (by repeat (first | (with_reducible first | exact HB.out | apply below_alloc | apply pw_below_drewN | apply below_drew1 | refine below_set ?_ GE168.out | refine below_set ?_ GE169.out) | exact HB.out))) : w.heap.size ≤ gb171)); have n5_ := Aside0.mk ((by rw [hg]; exact (below_size (by repeat (first | (with_reducible first | exact HB.out | apply below_alloc | apply pw_below_drewN | apply below_drew1 | refine below_set ?_ GE168.out | refine below_set ?_ GE169.out) | exact HB.out))) : w.heap.size ≤ gb171)); have n6_ := Aside0.mk ((by rw [hg]; exact Nat.ne_of_lt (blk_lt (g := gb168) (o := .cells #[.int .i64 a0_0, .int .i64 a0_1, .int .i64 a0_2, .int .i64 a0_3, .int .i64 a0_4, .int .i64 a0_5, .slice (some ad170) l0_6.length c0_6] 101 (0, 0)) (by (with_reducible repeat (first | refine blk_drewN ?_ _ | refine blk_drew ?_ | refine blk_alloc ?_ _)); exact BK168.out)) : gb168 ≠ gb171)); have n7_ := Aside0.mk ((by rw [hg]; exact Nat.ne_of_gt (blk_lt (g := gb168) (o := .cells #[.int .i64 a0_0, .int .i64 a0_1, .int .i64 a0_2, .int .i64 a0_3, .int .i64 a0_4, .int .i64 a0_5, .slice (some ad170) l0_6.length c0_6] 101 (0, 0)) (by (with_reducible repeat (first | refine blk_drewN ?_ _ | refine blk_drew ?_ | refine blk_alloc ?_ _)); exact BK168.out)) : gb171 ≠ gb168)); have n8_ := Aside0.mk ((by rw [hg]; exact Nat.ne_of_lt (blk_lt (g := gb169) (o := .cells #[.int .i64 a0_2, .int .i64 a0_3, .int .i64 a0_4, .int .i64 a0_5, .slice (some ad170) l0_6.length c0_6] 45 (0, 0)) (by (with_reducible repeat (first | refine blk_drewN ?_ _ | refine blk_drew ?_ | refine blk_alloc ?_ _)); exact BK169.out)) : gb169 ≠ gb171)); have n9_ := Aside0.mk ((by rw [hg]; exact Nat.ne_of_gt (blk_lt (g := gb169) (o := .cells #[.int .i64 a0_2, .int .i64 a0_3, .int .i64 a0_4, .int .i64 a0_5, .slice (some ad170) l0_6.length c0_6] 45 (0, 0)) (by (with_reducible repeat (first | refine blk_drewN ?_ _ | refine blk_drew ?_ | refine blk_alloc ?_ _)); exact BK169.out)) : gb171 ≠ gb169)); clear BK168; clear BK169; clear HB; have BK168 := n0_; have BK169 := n1_; have HB := n2_; have BK171 := n3_; have GW171 := n4_; have GE171 := n5_; have NB168_171 := n6_; have NB171_168 := n7_; have NB169_171 := n8_; have NB171_169 := n9_; clear n0_ n1_ n2_ n3_ n4_ n5_ n6_ n7_ n8_ n9_; clear hb hbox hg; have hnb47 := NB171_168.out; have hnc47 := NB168_171.out; have hnb48 := NB171_169.out; have hnc48 := NB169_171.out; have hcz49_0 : w46.cell? ⟨gb171, 0, none⟩ = some (.int .i64 0) := (blk_cell BK171.out 0).trans rfl; have hcz49_1 : w46.cell? ⟨gb171, 1, none⟩ = some (.int .i64 0) := (blk_cell BK171.out 1).trans rfl; have hfz49_0 := blk_frozen BK171.out 0; have hfz49_1 := blk_frozen BK171.out 1))
                                repeat (go_quiet (first | ((with_reducible refine gate_dst (N := 5) rfl ?_); (try (refine gate_guard (by rfl) ?_; dsimp only)); refine box_event ?hg (N := 5) ?hd (cs := #[.int .i64 0, .int .i64 0]) (t := 79) ?hr ?_; (case hd => rfl); (case hg => rfl); (case hr => first | (go_simp; done) | (go_simp; rfl)); intro gb171 hg w46 hbox hb; have n0_ := Aside0.mk (blk_below (g := gb168) (o := .cells #[.int .i64 a0_0, .int .i64 a0_1, .int .i64 a0_2, .int .i64 a0_3, .int .i64 a0_4, .int .i64 a0_5, .slice (some ad170) l0_6.length c0_6] 101 (0, 0)) (by (with_reducible repeat (first | refine blk_drewN ?_ _ | refine blk_drew ?_ | refine blk_alloc ?_ _)); exact BK168.out) hb); have n1_ := Aside0.mk (blk_below (g := gb169) (o := .cells #[.int .i64 a0_2, .int .i64 a0_3, .int .i64 a0_4, .int .i64 a0_5, .slice (some ad170) l0_6.length c0_6] 45 (0, 0)) (by (with_reducible repeat (first | refine blk_drewN ?_ _ | refine blk_drew ?_ | refine blk_alloc ?_ _)); exact BK169.out) hb); have n2_ := Aside0.mk (below_step (by repeat (first | (with_reducible first | exact HB.out | apply below_alloc | apply pw_below_drewN | apply below_drew1 | refine below_set ?_ GE168.out | refine below_set ?_ GE169.out) | exact HB.out)) hb); have n3_ := Aside0.mk (hbox); have n4_ := Aside0.mk ((by rw [hg]; exact (below_size (by repeat (first | (with_reducible first | exact HB.out | apply below_alloc | apply pw_below_drewN | apply below_drew1 | refine below_set ?_ GE168.out | refine below_set ?_ GE169.out) | exact HB.out))) : w.heap.size ≤ gb171)); have n5_ := Aside0.mk ((by rw [hg]; exact (below_size (by repeat (first | (with_reducible first | exact HB.out | apply below_alloc | apply pw_below_drewN | apply below_drew1 | refine below_set ?_ GE168.out | refine below_set ?_ GE169.out) | exact HB.out))) : w.heap.size ≤ gb171)); have n6_ := Aside0.mk ((by rw [hg]; exact Nat.ne_of_lt (blk_lt (g := gb168) (o := .cells #[.int .i64 a0_0, .int .i64 a0_1, .int .i64 a0_2, .int .i64 a0_3, .int .i64 a0_4, .int .i64 a0_5, .slice (some ad170) l0_6.length c0_6] 101 (0, 0)) (by (with_reducible repeat (first | refine blk_drewN ?_ _ | refine blk_drew ?_ | refine blk_alloc ?_ _)); exact BK168.out)) : gb168 ≠ gb171)); have n7_ := Aside0.mk ((by rw [hg]; exact Nat.ne_of_gt (blk_lt (g := gb168) (o := .cells #[.int .i64 a0_0, .int .i64 a0_1, .int .i64 a0_2, .int .i64 a0_3, .int .i64 a0_4, .int .i64 a0_5, .slice (some ad170) l0_6.length c0_6] 101 (0, 0)) (by (with_reducible repeat (first | refine blk_drewN ?_ _ | refine blk_drew ?_ | refine blk_alloc ?_ _)); exact BK168.out)) : gb171 ≠ gb168)); have n8_ := Aside0.mk ((by rw [hg]; exact Nat.ne_of_lt (blk_lt (g := gb169) (o := .cells #[.int .i64 a0_2, .int .i64 a0_3, .int .i64 a0_4, .int .i64 a0_5, .slice (some ad170) l0_6.length c0_6] 45 (0, 0)) (by (with_reducible repeat (first | refine blk_drewN ?_ _ | refine blk_drew ?_ | refine blk_alloc ?_ _)); exact BK169.out)) : gb169 ≠ gb171)); have n9_ := Aside0.mk ((by rw [hg]; exact Nat.ne_of_gt (blk_lt (g := gb169) (o := .cells #[.int .i64 a0_2, .int .i64 a0_3, .int .i64 a0_4, .int .i64 a0_5, .slice (some ad170) l0_6.length c0_6] 45 (0, 0)) (by (with_reducible repeat (first | refine blk_drewN ?_ _ | refine blk_drew ?_ | refine blk_alloc ?_ _)); exact BK169.out)) : gb171 ≠ gb169)); clear BK168; clear BK169; clear HB; have BK168 := n0_; have BK169 := n1_; have HB := n2_; have BK171 := n3_; have GW171 := n4_; have GE171 := n5_; have NB168_171 := n6_; have NB171_168 := n7_; have NB169_171 := n8_; have NB171_169 := n9_; clear n0_ n1_ n2_ n3_ n4_ n5_ n6_ n7_ n8_ n9_; clear hb hbox hg; have hnb47 := NB171_168.out; have hnc47 := NB168_171.out; have hnb48 := NB171_169.out; have hnc48 := NB169_171.out; have hcz49_0 : w46.cell? ⟨gb171, 0, none⟩ = some (.int .i64 0) := (blk_cell BK171.out 0).trans rfl; have hcz49_1 : w46.cell? ⟨gb171, 1, none⟩ = some (.int .i64 0) := (blk_cell BK171.out 1).trans rfl; have hfz49_0 := blk_frozen BK171.out 0; have hfz49_1 := blk_frozen BK171.out 1)); try go_wp2_with (first | ((with_reducible refine gate_dst (N := 5) rfl ?_); (try (refine gate_guard (by rfl) ?_; dsimp only)); refine box_event ?hg (N := 5) ?hd (cs := #[.int .i64 0, .int .i64 0]) (t := 79) ?hr ?_; (case hd => rfl); (case hg => rfl); (case hr => first | (go_simp; done) | (go_simp; rfl)); intro gb171 hg w46 hbox hb; have n0_ := Aside0.mk (blk_below (g := gb168) (o := .cells #[.int .i64 a0_0, .int .i64 a0_1, .int .i64 a0_2, .int .i64 a0_3, .int .i64 a0_4, .int .i64 a0_5, .slice (some ad170) l0_6.length c0_6] 101 (0, 0)) (by (with_reducible repeat (first | refine blk_drewN ?_ _ | refine blk_drew ?_ | refine blk_alloc ?_ _)); exact BK168.out) hb); have n1_ := Aside0.mk (blk_below (g := gb169) (o := .cells #[.int .i64 a0_2, .int .i64 a0_3, .int .i64 a0_4, .int .i64 a0_5, .slice (some ad170) l0_6.length c0_6] 45 (0, 0)) (by (with_reducible repeat (first | refine blk_drewN ?_ _ | refine blk_drew ?_ | refine blk_alloc ?_ _)); exact BK169.out) hb); have n2_ := Aside0.mk (below_step (by repeat (first | (with_reducible first | exact HB.out | apply below_alloc | apply pw_below_drewN | apply below_drew1 | refine below_set ?_ GE168.out | refine below_set ?_ GE169.out) | exact HB.out)) hb); have n3_ := Aside0.mk (hbox); have n4_ := Aside0.mk ((by rw [hg]; exact (below_size (by repeat (first | (with_reducible first | exact HB.out | apply below_alloc | apply pw_below_drewN | apply below_drew1 | refine below_set ?_ GE168.out | refine below_set ?_ GE169.out) | exact HB.out))) : w.heap.size ≤ gb171)); have n5_ := Aside0.mk ((by rw [hg]; exact (below_size (by repeat (first | (with_reducible first | exact HB.out | apply below_alloc | apply pw_below_drewN | apply below_drew1 | refine below_set ?_ GE168.out | refine below_set ?_ GE169.out) | exact HB.out))) : w.heap.size ≤ gb171)); have n6_ := Aside0.mk ((by rw [hg]; exact Nat.ne_of_lt (blk_lt (g := gb168) (o := .cells #[.int .i64 a0_0, .int .i64 a0_1, .int .i64 a0_2, .int .i64 a0_3, .int .i64 a0_4, .int .i64 a0_5, .slice (some ad170) l0_6.length c0_6] 101 (0, 0)) (by (with_reducible repeat (first | refine blk_drewN ?_ _ | refine blk_drew ?_ | refine blk_alloc ?_ _)); exact BK168.out)) : gb168 ≠ gb171)); have n7_ := Aside0.mk ((by rw [hg]; exact Nat.ne_of_gt (blk_lt (g := gb168) (o := .cells #[.int .i64 a0_0, .int .i64 a0_1, .int .i64 a0_2, .int .i64 a0_3, .int .i64 a0_4, .int .i64 a0_5, .slice (some ad170) l0_6.length c0_6] 101 (0, 0)) (by (with_reducible repeat (first | refine blk_drewN ?_ _ | refine blk_drew ?_ | refine blk_alloc ?_ _)); exact BK168.out)) : gb171 ≠ gb168)); have n8_ := Aside0.mk ((by rw [hg]; exact Nat.ne_of_lt (blk_lt (g := gb169) (o := .cells #[.int .i64 a0_2, .int .i64 a0_3, .int .i64 a0_4, .int .i64 a0_5, .slice (some ad170) l0_6.length c0_6] 45 (0, 0)) (by (with_reducible repeat (first | refine blk_drewN ?_ _ | refine blk_drew ?_ | refine blk_alloc ?_ _)); exact BK169.out)) : gb169 ≠ gb171)); have n9_ := Aside0.mk ((by rw [hg]; exact Nat.ne_of_gt (blk_lt (g := gb169) (o := .cells #[.int .i64 a0_2, .int .i64 a0_3, .int .i64 a0_4, .int .i64 a0_5, .slice (some ad170) l0_6.length c0_6] 45 (0, 0)) (by (with_reducible repeat (first | refine blk_drewN ?_ _ | refine blk_drew ?_ | refine blk_alloc ?_ _)); exact BK169.out)) : gb171 ≠ gb169)); clear BK168; clear BK169; clear HB; have BK168 := n0_; have BK169 := n1_; have HB := n2_; have BK171 := n3_; have GW171 := n4_; have GE171 := n5_; have NB168_171 := n6_; have NB171_168 := n7_; have NB169_171 := n8_; have NB171_169 := n9_; clear n0_ n1_ n2_ n3_ n4_ n5_ n6_ n7_ n8_ n9_; clear hb hbox hg; have hnb47 := NB171_168.out; have hnc47 := NB168_171.out; have hnb48 := NB171_169.out; have hnc48 := NB169_171.out; have hcz49_0 : w46.cell? ⟨gb171, 0, none⟩ = some (.int .i64 0) := (blk_cell BK171.out 0).trans rfl; have hcz49_1 : w46.cell? ⟨gb171, 1, none⟩ = some (.int .i64 0) := (blk_cell BK171.out 1).trans rfl; have hfz49_0 := blk_frozen BK171.out 0; have hfz49_1 := blk_frozen BK171.out 1)))
                                go_ret
                                exact ⟨by first | rfl | (simp [errW_none, errW_some] <;> rfl) | (simp [*, errW_none, errW_some] <;> rfl), by repeat (first | (with_reducible first | exact HB.out | apply below_alloc | apply pw_below_drewN | apply below_drew1 | refine below_set ?_ GE168.out | refine below_set ?_ GE169.out | refine below_set ?_ GE171.out) | exact HB.out)⟩
                              · rw [if_neg c45] at H
                                have c45b0 : decide (((rd_T79 l0_6 x59_4).f0) < 0) = false := decide_eq_false c45
                                clear c45
                                by_cases c50 : ((rd_T79 l0_6 x59_4).f0) ≥ a0_4
                                · rw [if_pos c50] at H
                                  have c50b0 : decide (a0_4 ≤ ((rd_T79 l0_6 x59_4).f0)) = true := decide_eq_true c50
                                  clear c50
                                  obtain rfl := Option.some.inj H
                                  have p170 : 0 ≤ (x59_4 : Int) := of_decide_eq_true (by first | (with_reducible assumption) | assumption)
                                  have q170 : x59_4 < (l0_6.length : Int) := of_decide_eq_true (by first | (with_reducible assumption) | assumption)
                                  obtain ⟨ad170, e170, hx170_0, hx170_1⟩ := at_T79 HR0_6.out x59_4 p170 q170
                                  cases e170
                                  replace hx170_0 := (HB.out.cell (World.block_lt_of_cell? w _ hx170_0)).trans hx170_0
                                  replace hx170_1 := (HB.out.cell (World.block_lt_of_cell? w _ hx170_1)).trans hx170_1
                                  replace p170 := eq_true p170
                                  replace q170 := eq_true q170
                                  go_wp2_with (first | ((with_reducible refine gate_dst (N := 5) rfl ?_); (try (refine gate_guard (by rfl) ?_; dsimp only)); refine box_event ?hg (N := 5) ?hd (cs := #[.int .i64 0, .int .i64 0]) (t := 79) ?hr ?_; (case hd => rfl); (case hg => rfl); (case hr => first | (go_simp; done) | (go_simp; rfl)); intro gb171 hg w51 hbox hb; have n0_ := Aside0.mk (blk_below (g := gb168) (o := .cells #[.int .i64 a0_0, .int .i64 a0_1, .int .i64 a0_2, .int .i64 a0_3, .int .i64 a0_4, .int .i64 a0_5, .slice (some ad170) l0_6.length c0_6] 101 (0, 0)) (by (with_reducible repeat (first | refine blk_drewN ?_ _ | refine blk_drew ?_ | refine blk_alloc ?_ _)); exact BK168.out) hb); have n1_ := Aside0.mk (blk_below (g := gb169) (o := .cells #[.int .i64 a0_2, .int .i64 a0_3, .int .i64 a0_4, .int .i64 a0_5, .slice (some ad170) l0_6.length c0_6] 45 (0, 0)) (by (with_reducible repeat (first | refine blk_drewN ?_ _ | refine blk_drew ?_ | refine blk_alloc ?_ _)); exact BK169.out) hb); have n2_ := Aside0.mk (below_step (by repeat (first | (with_reducible first | exact HB.out | apply below_alloc | apply pw_below_drewN | apply below_drew1 | refine below_set ?_ GE168.out | refine below_set ?_ GE169.out) | exact HB.out)) hb); have n3_ := Aside0.mk (hbox); have n4_ := Aside0.mk ((by rw [hg]; exact (below_size (by repeat (first | (with_reducible first | exact HB.out | apply below_alloc | apply pw_below_drewN | apply below_drew1 | refine below_set ?_ GE168.out | refine below_set ?_ GE169.out) | exact HB.out))) : w.heap.size ≤ gb171)); have n5_ := Aside0.mk ((by rw [hg]; exact (below_size (by repeat (first | (with_reducible first | exact HB.out | apply below_alloc | apply pw_below_drewN | apply below_drew1 | refine below_set ?_ GE168.out | refine below_set ?_ GE169.out) | exact HB.out))) : w.heap.size ≤ gb171)); have n6_ := Aside0.mk ((by rw [hg]; exact Nat.ne_of_lt (blk_lt (g := gb168) (o := .cells #[.int .i64 a0_0, .int .i64 a0_1, .int .i64 a0_2, .int .i64 a0_3, .int .i64 a0_4, .int .i64 a0_5, .slice (some ad170) l0_6.length c0_6] 101 (0, 0)) (by (with_reducible repeat (first | refine blk_drewN ?_ _ | refine blk_drew ?_ | refine blk_alloc ?_ _)); exact BK168.out)) : gb168 ≠ gb171)); have n7_ := Aside0.mk ((by rw [hg]; exact Nat.ne_of_gt (blk_lt (g := gb168) (o := .cells #[.int .i64 a0_0, .int .i64 a0_1, .int .i64 a0_2, .int .i64 a0_3, .int .i64 a0_4, .int .i64 a0_5, .slice (some ad170) l0_6.length c0_6] 101 (0, 0)) (by (with_reducible repeat (first | refine blk_drewN ?_ _ | refine blk_drew ?_ | refine blk_alloc ?_ _)); exact BK168.out)) : gb171 ≠ gb168)); have n8_ := Aside0.mk ((by rw [hg]; exact Nat.ne_of_lt (blk_lt (g := gb169) (o := .cells #[.int .i64 a0_2, .int .i64 a0_3, .int .i64 a0_4, .int .i64 a0_5, .slice (some ad170) l0_6.length c0_6] 45 (0, 0)) (by (with_reducible repeat (first | refine blk_drewN ?_ _ | refine blk_drew ?_ | refine blk_alloc ?_ _)); exact BK169.out)) : gb169 ≠ gb171)); have n9_ := Aside0.mk ((by rw [hg]; exact Nat.ne_of_gt (blk_lt (g := gb169) (o := .cells #[.int .i64 a0_2, .int .i64 a0_3, .int .i64 a0_4, .int .i64 a0_5, .slice (some ad170) l0_6.length c0_6] 45 (0, 0)) (by (with_reducible repeat (first | refine blk_drewN ?_ _ | refine blk_drew ?_ | refine blk_alloc ?_ _)); exact BK169.out)) : gb171 ≠ gb169)); clear BK168; clear BK169; clear HB; have BK168 := n0_; have BK169 := n1_; have HB := n2_; have BK171 := n3_; have GW171 := n4_; have GE171 := n5_; have NB168_171 := n6_; have NB171_168 := n7_; have NB169_171 := n8_; have NB171_169 := n9_; clear n0_ n1_ n2_ n3_ n4_ n5_ n6_ n7_ n8_ n9_; clear hb hbox hg; have hnb52 := NB171_168.out; have hnc52 := NB168_171.out; have hnb53 := NB171_169.out; have hnc53 := NB169_171.out; have hcz54_0 : w51.cell? ⟨gb171, 0, none⟩ = some (.int .i64 0) := (blk_cell BK171.out 0).trans rfl; have hcz54_1 : w51.cell? ⟨gb171, 1, none⟩ = some (.int .i64 0) := (blk_cell BK171.out 1).trans rfl; have hfz54_0 := blk_frozen BK171.out 0; have hfz54_1 := blk_frozen BK171.out 1; have hnb55 := NB169_168.out; have hnc55 := NB168_169.out; have hcz56_0 : w51.cell? ⟨gb169, 0, none⟩ = some (.int .i64 a0_2) := (blk_cell BK169.out 0).trans rfl; have hcz56_1 : w51.cell? ⟨gb169, 1, none⟩ = some (.int .i64 a0_3) := (blk_cell BK169.out 1).trans rfl; have hcz56_2 : w51.cell? ⟨gb169, 2, none⟩ = some (.int .i64 a0_4) := (blk_cell BK169.out 2).trans rfl; have hcz56_3 : w51.cell? ⟨gb169, 3, none⟩ = some (.int .i64 a0_5) := (blk_cell BK169.out 3).trans rfl; have hcz56_4 : w51.cell? ⟨gb169, 4, none⟩ = some (.slice (some ad170) l0_6.length c0_6) := (blk_cell BK169.out 4).trans rfl; have hfz56_0 := blk_frozen BK169.out 0; have hfz56_1 := blk_frozen BK169.out 1; have hfz56_2 := blk_frozen BK169.out 2; have hfz56_3 := blk_frozen BK169.out 3; have hfz56_4 := blk_frozen BK169.out 4))
                                  repeat (go_quiet (first | ((with_reducible refine gate_dst (N := 5) rfl ?_); (try (refine gate_guard (by rfl) ?_; dsimp only)); refine box_event ?hg (N := 5) ?hd (cs := #[.int .i64 0, .int .i64 0]) (t := 79) ?hr ?_; (case hd => rfl); (case hg => rfl); (case hr => first | (go_simp; done) | (go_simp; rfl)); intro gb171 hg w51 hbox hb; have n0_ := Aside0.mk (blk_below (g := gb168) (o := .cells #[.int .i64 a0_0, .int .i64 a0_1, .int .i64 a0_2, .int .i64 a0_3, .int .i64 a0_4, .int .i64 a0_5, .slice (some ad170) l0_6.length c0_6] 101 (0, 0)) (by (with_reducible repeat (first | refine blk_drewN ?_ _ | refine blk_drew ?_ | refine blk_alloc ?_ _)); exact BK168.out) hb); have n1_ := Aside0.mk (blk_below (g := gb169) (o := .cells #[.int .i64 a0_2, .int .i64 a0_3, .int .i64 a0_4, .int .i64 a0_5, .slice (some ad170) l0_6.length c0_6] 45 (0, 0)) (by (with_reducible repeat (first | refine blk_drewN ?_ _ | refine blk_drew ?_ | refine blk_alloc ?_ _)); exact BK169.out) hb); have n2_ := Aside0.mk (below_step (by repeat (first | (with_reducible first | exact HB.out | apply below_alloc | apply pw_below_drewN | apply below_drew1 | refine below_set ?_ GE168.out | refine below_set ?_ GE169.out) | exact HB.out)) hb); have n3_ := Aside0.mk (hbox); have n4_ := Aside0.mk ((by rw [hg]; exact (below_size (by repeat (first | (with_reducible first | exact HB.out | apply below_alloc | apply pw_below_drewN | apply below_drew1 | refine below_set ?_ GE168.out | refine below_set ?_ GE169.out) | exact HB.out))) : w.heap.size ≤ gb171)); have n5_ := Aside0.mk ((by rw [hg]; exact (below_size (by repeat (first | (with_reducible first | exact HB.out | apply below_alloc | apply pw_below_drewN | apply below_drew1 | refine below_set ?_ GE168.out | refine below_set ?_ GE169.out) | exact HB.out))) : w.heap.size ≤ gb171)); have n6_ := Aside0.mk ((by rw [hg]; exact Nat.ne_of_lt (blk_lt (g := gb168) (o := .cells #[.int .i64 a0_0, .int .i64 a0_1, .int .i64 a0_2, .int .i64 a0_3, .int .i64 a0_4, .int .i64 a0_5, .slice (some ad170) l0_6.length c0_6] 101 (0, 0)) (by (with_reducible repeat (first | refine blk_drewN ?_ _ | refine blk_drew ?_ | refine blk_alloc ?_ _)); exact BK168.out)) : gb168 ≠ gb171)); have n7_ := Aside0.mk ((by rw [hg]; exact Nat.ne_of_gt (blk_lt (g := gb168) (o := .cells #[.int .i64 a0_0, .int .i64 a0_1, .int .i64 a0_2, .int .i64 a0_3, .int .i64 a0_4, .int .i64 a0_5, .slice (some ad170) l0_6.length c0_6] 101 (0, 0)) (by (with_reducible repeat (first | refine blk_drewN ?_ _ | refine blk_drew ?_ | refine blk_alloc ?_ _)); exact BK168.out)) : gb171 ≠ gb168)); have n8_ := Aside0.mk ((by rw [hg]; exact Nat.ne_of_lt (blk_lt (g := gb169) (o := .cells #[.int .i64 a0_2, .int .i64 a0_3, .int .i64 a0_4, .int .i64 a0_5, .slice (some ad170) l0_6.length c0_6] 45 (0, 0)) (by (with_reducible repeat (first | refine blk_drewN ?_ _ | refine blk_drew ?_ | refine blk_alloc ?_ _)); exact BK169.out)) : gb169 ≠ gb171)); have n9_ := Aside0.mk ((by rw [hg]; exact Nat.ne_of_gt (blk_lt (g := gb169) (o := .cells #[.int .i64 a0_2, .int .i64 a0_3, .int .i64 a0_4, .int .i64 a0_5, .slice (some ad170) l0_6.length c0_6] 45 (0, 0)) (by (with_reducible repeat (first | refine blk_drewN ?_ _ | refine blk_drew ?_ | refine blk_alloc ?_ _)); exact BK169.out)) : gb171 ≠ gb169)); clear BK168; clear BK169; clear HB; have BK168 := n0_; have BK169 := n1_; have HB := n2_; have BK171 := n3_; have GW171 := n4_; have GE171 := n5_; have NB168_171 := n6_; have NB171_168 := n7_; have NB169_171 := n8_; have NB171_169 := n9_; clear n0_ n1_ n2_ n3_ n4_ n5_ n6_ n7_ n8_ n9_; clear hb hbox hg; have hnb52 := NB171_168.out; have hnc52 := NB168_171.out; have hnb53 := NB171_169.out; have hnc53 := NB169_171.out; have hcz54_0 : w51.cell? ⟨gb171, 0, none⟩ = some (.int .i64 0) := (blk_cell BK171.out 0).trans rfl; have hcz54_1 : w51.cell? ⟨gb171, 1, none⟩ = some (.int .i64 0) := (blk_cell BK171.out 1).trans rfl; have hfz54_0 := blk_frozen BK171.out 0; have hfz54_1 := blk_frozen BK171.out 1; have hnb55 := NB169_168.out; have hnc55 := NB168_169.out; have hcz56_0 : w51.cell? ⟨gb169, 0, none⟩ = some (.int .i64 a0_2) := (blk_cell BK169.out 0).trans rfl; have hcz56_1 : w51.cell? ⟨gb169, 1, none⟩ = some (.int .i64 a0_3) := (blk_cell BK169.out 1).trans rfl; have hcz56_2 : w51.cell? ⟨gb169, 2, none⟩ = some (.int .i64 a0_4) := (blk_cell BK169.out 2).trans rfl; have hcz56_3 : w51.cell? ⟨gb169, 3, none⟩ = some (.int .i64 a0_5) := (blk_cell BK169.out 3).trans rfl; have hcz56_4 : w51.cell? ⟨gb169, 4, none⟩ = some (.slice (some ad170) l0_6.length c0_6) := (blk_cell BK169.out 4).trans rfl; have hfz56_0 := blk_frozen BK169.out 0; have hfz56_1 := blk_frozen BK169.out 1; have hfz56_2 := blk_frozen BK169.out 2; have hfz56_3 := blk_frozen BK169.out 3; have hfz56_4 := blk_frozen BK169.out 4)); try go_wp2_with (first | ((with_reducible refine gate_dst (N := 5) rfl ?_); (try (refine gate_guard (by rfl) ?_; dsimp only)); refine box_event ?hg (N := 5) ?hd (cs := #[.int .i64 0, .int .i64 0]) (t := 79) ?hr ?_; (case hd => rfl); (case hg => rfl); (case hr => first | (go_simp; done) | (go_simp; rfl)); intro gb171 hg w51 hbox hb; have n0_ := Aside0.mk (blk_below (g := gb168) (o := .cells #[.int .i64 a0_0, .int .i64 a0_1, .int .i64 a0_2, .int .i64 a0_3, .int .i64 a0_4, .int .i64 a0_5, .slice (some ad170) l0_6.length c0_6] 101 (0, 0)) (by (with_reducible repeat (first | refine blk_drewN ?_ _ | refine blk_drew ?_ | refine blk_alloc ?_ _)); exact BK168.out) hb); have n1_ := Aside0.mk (blk_below (g := gb169) (o := .cells #[.int .i64 a0_2, .int .i64 a0_3, .int .i64 a0_4, .int .i64 a0_5, .slice (some ad170) l0_6.length c0_6] 45 (0, 0)) (by (with_reducible repeat (first | refine blk_drewN ?_ _ | refine blk_drew ?_ | refine blk_alloc ?_ _)); exact BK169.out) hb); have n2_ := Aside0.mk (below_step (by repeat (first | (with_reducible first | exact HB.out | apply below_alloc | apply pw_below_drewN | apply below_drew1 | refine below_set ?_ GE168.out | refine below_set ?_ GE169.out) | exact HB.out)) hb); have n3_ := Aside0.mk (hbox); have n4_ := Aside0.mk ((by rw [hg]; exact (below_size (by repeat (first | (with_reducible first | exact HB.out | apply below_alloc | apply pw_below_drewN | apply below_drew1 | refine below_set ?_ GE168.out | refine below_set ?_ GE169.out) | exact HB.out))) : w.heap.size ≤ gb171)); have n5_ := Aside0.mk ((by rw [hg]; exact (below_size (by repeat (first | (with_reducible first | exact HB.out | apply below_alloc | apply pw_below_drewN | apply below_drew1 | refine below_set ?_ GE168.out | refine below_set ?_ GE169.out) | exact HB.out))) : w.heap.size ≤ gb171)); have n6_ := Aside0.mk ((by rw [hg]; exact Nat.ne_of_lt (blk_lt (g := gb168) (o := .cells #[.int .i64 a0_0, .int .i64 a0_1, .int .i64 a0_2, .int .i64 a0_3, .int .i64 a0_4, .int .i64 a0_5, .slice (some ad170) l0_6.length c0_6] 101 (0, 0)) (by (with_reducible repeat (first | refine blk_drewN ?_ _ | refine blk_drew ?_ | refine blk_alloc ?_ _)); exact BK168.out)) : gb168 ≠ gb171)); have n7_ := Aside0.mk ((by rw [hg]; exact Nat.ne_of_gt (blk_lt (g := gb168) (o := .cells #[.int .i64 a0_0, .int .i64 a0_1, .int .i64 a0_2, .int .i64 a0_3, .int .i64 a0_4, .int .i64 a0_5, .slice (some ad170) l0_6.length c0_6] 101 (0, 0)) (by (with_reducible repeat (first | refine blk_drewN ?_ _ | refine blk_drew ?_ | refine blk_alloc ?_ _)); exact BK168.out)) : gb171 ≠ gb168)); have n8_ := Aside0.mk ((by rw [hg]; exact Nat.ne_of_lt (blk_lt (g := gb169) (o := .cells #[.int .i64 a0_2, .int .i64 a0_3, .int .i64 a0_4, .int .i64 a0_5, .slice (some ad170) l0_6.length c0_6] 45 (0, 0)) (by (with_reducible repeat (first | refine blk_drewN ?_ _ | refine blk_drew ?_ | refine blk_alloc ?_ _)); exact BK169.out)) : gb169 ≠ gb171)); have n9_ := Aside0.mk ((by rw [hg]; exact Nat.ne_of_gt (blk_lt (g := gb169) (o := .cells #[.int .i64 a0_2, .int .i64 a0_3, .int .i64 a0_4, .int .i64 a0_5, .slice (some ad170) l0_6.length c0_6] 45 (0, 0)) (by (with_reducible repeat (first | refine blk_drewN ?_ _ | refine blk_drew ?_ | refine blk_alloc ?_ _)); exact BK169.out)) : gb171 ≠ gb169)); clear BK168; clear BK169; clear HB; have BK168 := n0_; have BK169 := n1_; have HB := n2_; have BK171 := n3_; have GW171 := n4_; have GE171 := n5_; have NB168_171 := n6_; have NB171_168 := n7_; have NB169_171 := n8_; have NB171_169 := n9_; clear n0_ n1_ n2_ n3_ n4_ n5_ n6_ n7_ n8_ n9_; clear hb hbox hg; have hnb52 := NB171_168.out; have hnc52 := NB168_171.out; have hnb53 := NB171_169.out; have hnc53 := NB169_171.out; have hcz54_0 : w51.cell? ⟨gb171, 0, none⟩ = some (.int .i64 0) := (blk_cell BK171.out 0).trans rfl; have hcz54_1 : w51.cell? ⟨gb171, 1, none⟩ = some (.int .i64 0) := (blk_cell BK171.out 1).trans rfl; have hfz54_0 := blk_frozen BK171.out 0; have hfz54_1 := blk_frozen BK171.out 1; have hnb55 := NB169_168.out; have hnc55 := NB168_169.out; have hcz56_0 : w51.cell? ⟨gb169, 0, none⟩ = some (.int .i64 a0_2) := (blk_cell BK169.out 0).trans rfl; have hcz56_1 : w51.cell? ⟨gb169, 1, none⟩ = some (.int .i64 a0_3) := (blk_cell BK169.out 1).trans rfl; have hcz56_2 : w51.cell? ⟨gb169, 2, none⟩ = some (.int .i64 a0_4) := (blk_cell BK169.out 2).trans rfl; have hcz56_3 : w51.cell? ⟨gb169, 3, none⟩ = some (.int .i64 a0_5) := (blk_cell BK169.out 3).trans rfl; have hcz56_4 : w51.cell? ⟨gb169, 4, none⟩ = some (.slice (some ad170) l0_6.length c0_6) := (blk_cell BK169.out 4).trans rfl; have hfz56_0 := blk_frozen BK169.out 0; have hfz56_1 := blk_frozen BK169.out 1; have hfz56_2 := blk_frozen BK169.out 2; have hfz56_3 := blk_frozen BK169.out 3; have hfz56_4 := blk_frozen BK169.out 4)))
                                  go_ret
                                  exact ⟨by first | rfl | (simp [errW_none, errW_some] <;> rfl) | (simp [*, errW_none, errW_some] <;> rfl), by repeat (first | (with_reducible first | exact HB.out | apply below_alloc | apply pw_below_drewN | apply below_drew1 | refine below_set ?_ GE168.out | refine below_set ?_ GE169.out | refine below_set ?_ GE171.out) | exact HB.out)⟩
                                · rw [if_neg c50] at H
                                  have c50b0 : decide (a0_4 ≤ ((rd_T79 l0_6 x59_4).f0)) = false := decide_eq_false c50
                                  clear c50
                                  by_cases c57 : ((rd_T79 l0_6 x59_4).f1) < 2
                                  · rw [if_pos c57] at H
                                    have c57b0 : decide (((rd_T79 l0_6 x59_4).f1) < 2) = true := decide_eq_true c57
                                    clear c57
                                    obtain rfl := Option.some.inj H
                                    have p170 : 0 ≤ (x59_4 : Int) := of_decide_eq_true (by first | (with_reducible assumption) | assumption)
                                    have q170 : x59_4 < (l0_6.length : Int) := of_decide_eq_true (by first | (with_reducible assumption) | assumption)
                                    obtain ⟨ad170, e170, hx170_0, hx170_1⟩ := at_T79 HR0_6.out x59_4 p170 q170
                                    cases e170
                                    replace hx170_0 := (HB.out.cell (World.block_lt_of_cell? w _ hx170_0)).trans hx170_0
                                    replace hx170_1 := (HB.out.cell (World.block_lt_of_cell? w _ hx170_1)).trans hx170_1
                                    replace p170 := eq_true p170
                                    replace q170 := eq_true q170
                                    go_wp2_with (first | ((with_reducible refine gate_dst (N := 5) rfl ?_); (try (refine gate_guard (by rfl) ?_; dsimp only)); refine box_event ?hg (N := 5) ?hd (cs := #[.int .i64 0, .int .i64 0]) (t := 79) ?hr ?_; (case hd => rfl); (case hg => rfl); (case hr => first | (go_simp; done) | (go_simp; rfl)); intro gb171 hg w58 hbox hb; have n0_ := Aside0.mk (blk_below (g := gb168) (o := .cells #[.int .i64 a0_0, .int .i64 a0_1, .int .i64 a0_2, .int .i64 a0_3, .int .i64 a0_4, .int .i64 a0_5, .slice (some ad170) l0_6.length c0_6] 101 (0, 0)) (by (with_reducible repeat (first | refine blk_drewN ?_ _ | refine blk_drew ?_ | refine blk_alloc ?_ _)); exact BK168.out) hb); have n1_ := Aside0.mk (blk_below (g := gb169) (o := .cells #[.int .i64 a0_2, .int .i64 a0_3, .int .i64 a0_4, .int .i64 a0_5, .slice (some ad170) l0_6.length c0_6] 45 (0, 0)) (by (with_reducible repeat (first | refine blk_drewN ?_ _ | refine blk_drew ?_ | refine blk_alloc ?_ _)); exact BK169.out) hb); have n2_ := Aside0.mk (below_step (by repeat (first | (with_reducible first | exact HB.out | apply below_alloc | apply pw_below_drewN | apply below_drew1 | refine below_set ?_ GE168.out | refine below_set ?_ GE169.out) | exact HB.out)) hb); have n3_ := Aside0.mk (hbox); have n4_ := Aside0.mk ((by rw [hg]; exact (below_size (by repeat (first | (with_reducible first | exact HB.out | apply below_alloc | apply pw_below_drewN | apply below_drew1 | refine below_set ?_ GE168.out | refine below_set ?_ GE169.out) | exact HB.out))) : w.heap.size ≤ gb171)); have n5_ := Aside0.mk ((by rw [hg]; exact (below_size (by repeat (first | (with_reducible first | exact HB.out | apply below_alloc | apply pw_below_drewN | apply below_drew1 | refine below_set ?_ GE168.out | refine below_set ?_ GE169.out) | exact HB.out))) : w.heap.size ≤ gb171)); have n6_ := Aside0.mk ((by rw [hg]; exact Nat.ne_of_lt (blk_lt (g := gb168) (o := .cells #[.int .i64 a0_0, .int .i64 a0_1, .int .i64 a0_2, .int .i64 a0_3, .int .i64 a0_4, .int .i64 a0_5, .slice (some ad170) l0_6.length c0_6] 101 (0, 0)) (by (with_reducible repeat (first | refine blk_drewN ?_ _ | refine blk_drew ?_ | refine blk_alloc ?_ _)); exact BK168.out)) : gb168 ≠ gb171)); have n7_ := Aside0.mk ((by rw [hg]; exact Nat.ne_of_gt (blk_lt (g := gb168) (o := .cells #[.int .i64 a0_0, .int .i64 a0_1, .int .i64 a0_2, .int .i64 a0_3, .int .i64 a0_4, .int .i64 a0_5, .slice (some ad170) l0_6.length c0_6] 101 (0, 0)) (by (with_reducible repeat (first | refine blk_drewN ?_ _ | refine blk_drew ?_ | refine blk_alloc ?_ _)); exact BK168.out)) : gb171 ≠ gb168)); have n8_ := Aside0.mk ((by rw [hg]; exact Nat.ne_of_lt (blk_lt (g := gb169) (o := .cells #[.int .i64 a0_2, .int .i64 a0_3, .int .i64 a0_4, .int .i64 a0_5, .slice (some ad170) l0_6.length c0_6] 45 (0, 0)) (by (with_reducible repeat (first | refine blk_drewN ?_ _ | refine blk_drew ?_ | refine blk_alloc ?_ _)); exact BK169.out)) : gb169 ≠ gb171)); have n9_ := Aside0.mk ((by rw [hg]; exact Nat.ne_of_gt (blk_lt (g := gb169) (o := .cells #[.int .i64 a0_2, .int .i64 a0_3, .int .i64 a0_4, .int .i64 a0_5, .slice (some ad170) l0_6.length c0_6] 45 (0, 0)) (by (with_reducible repeat (first | refine blk_drewN ?_ _ | refine blk_drew ?_ | refine blk_alloc ?_ _)); exact BK169.out)) : gb171 ≠ gb169)); clear BK168; clear BK169; clear HB; have BK168 := n0_; have BK169 := n1_; have HB := n2_; have BK171 := n3_; have GW171 := n4_; have GE171 := n5_; have NB168_171 := n6_; have NB171_168 := n7_; have NB169_171 := n8_; have NB171_169 := n9_; clear n0_ n1_ n2_ n3_ n4_ n5_ n6_ n7_ n8_ n9_; clear hb hbox hg; have hnb59 := NB171_168.out; have hnc59 := NB168_171.out; have hnb60 := NB171_169.out; have hnc60 := NB169_171.out; have hcz61_0 : w58.cell? ⟨gb171, 0, none⟩ = some (.int .i64 0) := (blk_cell BK171.out 0).trans rfl; have hcz61_1 : w58.cell? ⟨gb171, 1, none⟩ = some (.int .i64 0) := (blk_cell BK171.out 1).trans rfl; have hfz61_0 := blk_frozen BK171.out 0; have hfz61_1 := blk_frozen BK171.out 1; have hnb62 := NB169_168.out; have hnc62 := NB168_169.out; have hcz63_0 : w58.cell? ⟨gb169, 0, none⟩ = some (.int .i64 a0_2) := (blk_cell BK169.out 0).trans rfl; have hcz63_1 : w58.cell? ⟨gb169, 1, none⟩ = some (.int .i64 a0_3) := (blk_cell BK169.out 1).trans rfl; have hcz63_2 : w58.cell? ⟨gb169, 2, none⟩ = some (.int .i64 a0_4) := (blk_cell BK169.out 2).trans rfl; have hcz63_3 : w58.cell? ⟨gb169, 3, none⟩ = some (.int .i64 a0_5) := (blk_cell BK169.out 3).trans rfl; have hcz63_4 : w58.cell? ⟨gb169, 4, none⟩ = some (.slice (some ad170) l0_6.length c0_6) := (blk_cell BK169.out 4).trans rfl; have hfz63_0 := blk_frozen BK169.out 0; have hfz63_1 := blk_frozen BK169.out 1; have hfz63_2 := blk_frozen BK169.out 2; have hfz63_3 := blk_frozen BK169.out 3; have hfz63_4 := blk_frozen BK169.out 4))
                                    repeat (go_quiet (first | ((with_reducible refine gate_dst (N := 5) rfl ?_); (try (refine gate_guard (by rfl) ?_; dsimp only)); refine box_event ?hg (N := 5) ?hd (cs := #[.int .i64 0, .int .i64 0]) (t := 79) ?hr ?_; (case hd => rfl); (case hg => rfl); (case hr => first | (go_simp; done) | (go_simp; rfl)); intro gb171 hg w58 hbox hb; have n0_ := Aside0.mk (blk_below (g := gb168) (o := .cells #[.int .i64 a0_0, .int .i64 a0_1, .int .i64 a0_2, .int .i64 a0_3, .int .i64 a0_4, .int .i64 a0_5, .slice (some ad170) l0_6.length c0_6] 101 (0, 0)) (by (with_reducible repeat (first | refine blk_drewN ?_ _ | refine blk_drew ?_ | refine blk_alloc ?_ _)); exact BK168.out) hb); have n1_ := Aside0.mk (blk_below (g := gb169) (o := .cells #[.int .i64 a0_2, .int .i64 a0_3, .int .i64 a0_4, .int .i64 a0_5, .slice (some ad170) l0_6.length c0_6] 45 (0, 0)) (by (with_reducible repeat (first | refine blk_drewN ?_ _ | refine blk_drew ?_ | refine blk_alloc ?_ _)); exact BK169.out) hb); have n2_ := Aside0.mk (below_step (by repeat (first | (with_reducible first | exact HB.out | apply below_alloc | apply pw_below_drewN | apply below_drew1 | refine below_set ?_ GE168.out | refine below_set ?_ GE169.out) | exact HB.out)) hb); have n3_ := Aside0.mk (hbox); have n4_ := Aside0.mk ((by rw [hg]; exact (below_size (by repeat (first | (with_reducible first | exact HB.out | apply below_alloc | apply pw_below_drewN | apply below_drew1 | refine below_set ?_ GE168.out | refine below_set ?_ GE169.out) | exact HB.out))) : w.heap.size ≤ gb171)); have n5_ := Aside0.mk ((by rw [hg]; exact (below_size (by repeat (first | (with_reducible first | exact HB.out | apply below_alloc | apply pw_below_drewN | apply below_drew1 | refine below_set ?_ GE168.out | refine below_set ?_ GE169.out) | exact HB.out))) : w.heap.size ≤ gb171)); have n6_ := Aside0.mk ((by rw [hg]; exact Nat.ne_of_lt (blk_lt (g := gb168) (o := .cells #[.int .i64 a0_0, .int .i64 a0_1, .int .i64 a0_2, .int .i64 a0_3, .int .i64 a0_4, .int .i64 a0_5, .slice (some ad170) l0_6.length c0_6] 101 (0, 0)) (by (with_reducible repeat (first | refine blk_drewN ?_ _ | refine blk_drew ?_ | refine blk_alloc ?_ _)); exact BK168.out)) : gb168 ≠ gb171)); have n7_ := Aside0.mk ((by rw [hg]; exact Nat.ne_of_gt (blk_lt (g := gb168) (o := .cells #[.int .i64 a0_0, .int .i64 a0_1, .int .i64 a0_2, .int .i64 a0_3, .int .i64 a0_4, .int .i64 a0_5, .slice (some ad170) l0_6.length c0_6] 101 (0, 0)) (by (with_reducible repeat (first | refine blk_drewN ?_ _ | refine blk_drew ?_ | refine blk_alloc ?_ _)); exact BK168.out)) : gb171 ≠ gb168)); have n8_ := Aside0.mk ((by rw [hg]; exact Nat.ne_of_lt (blk_lt (g := gb169) (o := .cells #[.int .i64 a0_2, .int .i64 a0_3, .int .i64 a0_4, .int .i64 a0_5, .slice (some ad170) l0_6.length c0_6] 45 (0, 0)) (by (with_reducible repeat (first | refine blk_drewN ?_ _ | refine blk_drew ?_ | refine blk_alloc ?_ _)); exact BK169.out)) : gb169 ≠ gb171)); have n9_ := Aside0.mk ((by rw [hg]; exact Nat.ne_of_gt (blk_lt (g := gb169) (o := .cells #[.int .i64 a0_2, .int .i64 a0_3, .int .i64 a0_4, .int .i64 a0_5, .slice (some ad170) l0_6.length c0_6] 45 (0, 0)) (by (with_reducible repeat (first | refine blk_drewN ?_ _ | refine blk_drew ?_ | refine blk_alloc ?_ _)); exact BK169.out)) : gb171 ≠ gb169)); clear BK168; clear BK169; clear HB; have BK168 := n0_; have BK169 := n1_; have HB := n2_; have BK171 := n3_; have GW171 := n4_; have GE171 := n5_; have NB168_171 := n6_; have NB171_168 := n7_; have NB169_171 := n8_; have NB171_169 := n9_; clear n0_ n1_ n2_ n3_ n4_ n5_ n6_ n7_ n8_ n9_; clear hb hbox hg; have hnb59 := NB171_168.out; have hnc59 := NB168_171.out; have hnb60 := NB171_169.out; have hnc60 := NB169_171.out; have hcz61_0 : w58.cell? ⟨gb171, 0, none⟩ = some (.int .i64 0) := (blk_cell BK171.out 0).trans rfl; have hcz61_1 : w58.cell? ⟨gb171, 1, none⟩ = some (.int .i64 0) := (blk_cell BK171.out 1).trans rfl; have hfz61_0 := blk_frozen BK171.out 0; have hfz61_1 := blk_frozen BK171.out 1; have hnb62 := NB169_168.out; have hnc62 := NB168_169.out; have hcz63_0 : w58.cell? ⟨gb169, 0, none⟩ = some (.int .i64 a0_2) := (blk_cell BK169.out 0).trans rfl; have hcz63_1 : w58.cell? ⟨gb169, 1, none⟩ = some (.int .i64 a0_3) := (blk_cell BK169.out 1).trans rfl; have hcz63_2 : w58.cell? ⟨gb169, 2, none⟩ = some (.int .i64 a0_4) := (blk_cell BK169.out 2).trans rfl; have hcz63_3 : w58.cell? ⟨gb169, 3, none⟩ = some (.int .i64 a0_5) := (blk_cell BK169.out 3).trans rfl; have hcz63_4 : w58.cell? ⟨gb169, 4, none⟩ = some (.slice (some ad170) l0_6.length c0_6) := (blk_cell BK169.out 4).trans rfl; have hfz63_0 := blk_frozen BK169.out 0; have hfz63_1 := blk_frozen BK169.out 1; have hfz63_2 := blk_frozen BK169.out 2; have hfz63_3 := blk_frozen BK169.out 3; have hfz63_4 := blk_frozen BK169.out 4)); try go_wp2_with (first | ((with_reducible refine gate_dst (N := 5) rfl ?_); (try (refine gate_guard (by rfl) ?_; dsimp only)); refine box_event ?hg (N := 5) ?hd (cs := #[.int .i64 0, .int .i64 0]) (t := 79) ?hr ?_; (case hd => rfl); (case hg => rfl); (case hr => first | (go_simp; done) | (go_simp; rfl)); intro gb171 hg w58 hbox hb; have n0_ := Aside0.mk (blk_below (g := gb168) (o := .cells #[.int .i64 a0_0, .int .i64 a0_1, .int .i64 a0_2, .int .i64 a0_3, .int .i64 a0_4, .int .i64 a0_5, .slice (some ad170) l0_6.length c0_6] 101 (0, 0)) (by (with_reducible repeat (first | refine blk_drewN ?_ _ | refine blk_drew ?_ | refine blk_alloc ?_ _)); exact BK168.out) hb); have n1_ := Aside0.mk (blk_below (g := gb169) (o := .cells #[.int .i64 a0_2, .int .i64 a0_3, .int .i64 a0_4, .int .i64 a0_5, .slice (some ad170) l0_6.length c0_6] 45 (0, 0)) (by (with_reducible repeat (first | refine blk_drewN ?_ _ | refine blk_drew ?_ | refine blk_alloc ?_ _)); exact BK169.out) hb); have n2_ := Aside0.mk (below_step (by repeat (first | (with_reducible first | exact HB.out | apply below_alloc | apply pw_below_drewN | apply below_drew1 | refine below_set ?_ GE168.out | refine below_set ?_ GE169.out) | exact HB.out)) hb); have n3_ := Aside0.mk (hbox); have n4_ := Aside0.mk ((by rw [hg]; exact (below_size (by repeat (first | (with_reducible first | exact HB.out | apply below_alloc | apply pw_below_drewN | apply below_drew1 | refine below_set ?_ GE168.out | refine below_set ?_ GE169.out) | exact HB.out))) : w.heap.size ≤ gb171)); have n5_ := Aside0.mk ((by rw [hg]; exact (below_size (by repeat (first | (with_reducible first | exact HB.out | apply below_alloc | apply pw_below_drewN | apply below_drew1 | refine below_set ?_ GE168.out | refine below_set ?_ GE169.out) | exact HB.out))) : w.heap.size ≤ gb171)); have n6_ := Aside0.mk ((by rw [hg]; exact Nat.ne_of_lt (blk_lt (g := gb168) (o := .cells #[.int .i64 a0_0, .int .i64 a0_1, .int .i64 a0_2, .int .i64 a0_3, .int .i64 a0_4, .int .i64 a0_5, .slice (some ad170) l0_6.length c0_6] 101 (0, 0)) (by (with_reducible repeat (first | refine blk_drewN ?_ _ | refine blk_drew ?_ | refine blk_alloc ?_ _)); exact BK168.out)) : gb168 ≠ gb171)); have n7_ := Aside0.mk ((by rw [hg]; exact Nat.ne_of_gt (blk_lt (g := gb168) (o := .cells #[.int .i64 a0_0, .int .i64 a0_1, .int .i64 a0_2, .int .i64 a0_3, .int .i64 a0_4, .int .i64 a0_5, .slice (some ad170) l0_6.length c0_6] 101 (0, 0)) (by (with_reducible repeat (first | refine blk_drewN ?_ _ | refine blk_drew ?_ | refine blk_alloc ?_ _)); exact BK168.out)) : gb171 ≠ gb168)); have n8_ := Aside0.mk ((by rw [hg]; exact Nat.ne_of_lt (blk_lt (g := gb169) (o := .cells #[.int .i64 a0_2, .int .i64 a0_3, .int .i64 a0_4, .int .i64 a0_5, .slice (some ad170) l0_6.length c0_6] 45 (0, 0)) (by (with_reducible repeat (first | refine blk_drewN ?_ _ | refine blk_drew ?_ | refine blk_alloc ?_ _)); exact BK169.out)) : gb169 ≠ gb171)); have n9_ := Aside0.mk ((by rw [hg]; exact Nat.ne_of_gt (blk_lt (g := gb169) (o := .cells #[.int .i64 a0_2, .int .i64 a0_3, .int .i64 a0_4, .int .i64 a0_5, .slice (some ad170) l0_6.length c0_6] 45 (0, 0)) (by (with_reducible repeat (first | refine blk_drewN ?_ _ | refine blk_drew ?_ | refine blk_alloc ?_ _)); exact BK169.out)) : gb171 ≠ gb169)); clear BK168; clear BK169; clear HB; have BK168 := n0_; have BK169 := n1_; have HB := n2_; have BK171 := n3_; have GW171 := n4_; have GE171 := n5_; have NB168_171 := n6_; have NB171_168 := n7_; have NB169_171 := n8_; have NB171_169 := n9_; clear n0_ n1_ n2_ n3_ n4_ n5_ n6_ n7_ n8_ n9_; clear hb hbox hg; have hnb59 := NB171_168.out; have hnc59 := NB168_171.out; have hnb60 := NB171_169.out; have hnc60 := NB169_171.out; have hcz61_0 : w58.cell? ⟨gb171, 0, none⟩ = some (.int .i64 0) := (blk_cell BK171.out 0).trans rfl; have hcz61_1 : w58.cell? ⟨gb171, 1, none⟩ = some (.int .i64 0) := (blk_cell BK171.out 1).trans rfl; have hfz61_0 := blk_frozen BK171.out 0; have hfz61_1 := blk_frozen BK171.out 1; have hnb62 := NB169_168.out; have hnc62 := NB168_169.out; have hcz63_0 : w58.cell? ⟨gb169, 0, none⟩ = some (.int .i64 a0_2) := (blk_cell BK169.out 0).trans rfl; have hcz63_1 : w58.cell? ⟨gb169, 1, none⟩ = some (.int .i64 a0_3) := (blk_cell BK169.out 1).trans rfl; have hcz63_2 : w58.cell? ⟨gb169, 2, none⟩ = some (.int .i64 a0_4) := (blk_cell BK169.out 2).trans rfl; have hcz63_3 : w58.cell? ⟨gb169, 3, none⟩ = some (.int .i64 a0_5) := (blk_cell BK169.out 3).trans rfl; have hcz63_4 : w58.cell? ⟨gb169, 4, none⟩ = some (.slice (some ad170) l0_6.length c0_6) := (blk_cell BK169.out 4).trans rfl; have hfz63_0 := blk_frozen BK169.out 0; have hfz63_1 := blk_frozen BK169.out 1; have hfz63_2 := blk_frozen BK169.out 2; have hfz63_3 := blk_frozen BK169.out 3; have hfz63_4 := blk_frozen BK169.out 4)))
                                    go_ret
                                    exact ⟨by first | rfl | (simp [errW_none, errW_some] <;> rfl) | (simp [*, errW_none, errW_some] <;> rfl), by repeat (first | (with_reducible first | exact HB.out | apply below_alloc | apply pw_below_drewN | apply below_drew1 | refine below_set ?_ GE168.out | refine below_set ?_ GE169.out | refine below_set ?_ GE171.out) | exact HB.out)⟩
                                  · rw [if_neg c57] at H
                                    have c57b0 : decide (((rd_T79 l0_6 x59_4).f1) < 2) = false := decide_eq_false c57
                                    clear c57
                                    by_cases c64 : ((rd_T79 l0_6 x59_4).f1) ≥ a0_2
                                    · rw [if_pos c64] at H
                                      have c64b0 : decide (a0_2 ≤ ((rd_T79 l0_6 x59_4).f1)) = true := decide_eq_true c64
                                      clear c64
                                      obtain rfl := Option.some.inj H
                                      have p170 : 0 ≤ (x59_4 : Int) := of_decide_eq_true (by first | (with_reducible assumption) | assumption)
                                      have q170 : x59_4 < (l0_6.length : Int) := of_decide_eq_true (by first | (with_reducible assumption) | assumption)
                                      obtain ⟨ad170, e170, hx170_0, hx170_1⟩ := at_T79 HR0_6.out x59_4 p170 q170
                                      cases e170
                                      replace hx170_0 := (HB.out.cell (World.block_lt_of_cell? w _ hx170_0)).trans hx170_0
                                      replace hx170_1 := (HB.out.cell (World.block_lt_of_cell? w _ hx170_1)).trans hx170_1
                                      replace p170 := eq_true p170
                                      replace q170 := eq_true q170
                                      go_wp2_with (first | ((with_reducible refine gate_dst (N := 5) rfl ?_); (try (refine gate_guard (by rfl) ?_; dsimp only)); refine box_event ?hg (N := 5) ?hd (cs := #[.int .i64 0, .int .i64 0]) (t := 79) ?hr ?_; (case hd => rfl); (case hg => rfl); (case hr => first | (go_simp; done) | (go_simp; rfl)); intro gb171 hg w65 hbox hb; have n0_ := Aside0.mk (blk_below (g := gb168) (o := .cells #[.int .i64 a0_0, .int .i64 a0_1, .int .i64 a0_2, .int .i64 a0_3, .int .i64 a0_4, .int .i64 a0_5, .slice (some ad170) l0_6.length c0_6] 101 (0, 0)) (by (with_reducible repeat (first | refine blk_drewN ?_ _ | refine blk_drew ?_ | refine blk_alloc ?_ _)); exact BK168.out) hb); have n1_ := Aside0.mk (blk_below (g := gb169) (o := .cells #[.int .i64 a0_2, .int .i64 a0_3, .int .i64 a0_4, .int .i64 a0_5, .slice (some ad170) l0_6.length c0_6] 45 (0, 0)) (by (with_reducible repeat (first | refine blk_drewN ?_ _ | refine blk_drew ?_ | refine blk_alloc ?_ _)); exact BK169.out) hb); have n2_ := Aside0.mk (below_step (by repeat (first | (with_reducible first | exact HB.out | apply below_alloc | apply pw_below_drewN | apply below_drew1 | refine below_set ?_ GE168.out | refine below_set ?_ GE169.out) | exact HB.out)) hb); have n3_ := Aside0.mk (hbox); have n4_ := Aside0.mk ((by rw [hg]; exact (below_size (by repeat (first | (with_reducible first | exact HB.out | apply below_alloc | apply pw_below_drewN | apply below_drew1 | refine below_set ?_ GE168.out | refine below_set ?_ GE169.out) | exact HB.out))) : w.heap.size ≤ gb171)); have n5_ := Aside0.mk ((by rw [hg]; exact (below_size (by repeat (first | (with_reducible first | exact HB.out | apply below_alloc | apply pw_below_drewN | apply below_drew1 | refine below_set ?_ GE168.out | refine below_set ?_ GE169.out) | exact HB.out))) : w.heap.size ≤ gb171)); have n6_ := Aside0.mk ((by rw [hg]; exact Nat.ne_of_lt (blk_lt (g := gb168) (o := .cells #[.int .i64 a0_0, .int .i64 a0_1, .int .i64 a0_2, .int .i64 a0_3, .int .i64 a0_4, .int .i64 a0_5, .slice (some ad170) l0_6.length c0_6] 101 (0, 0)) (by (with_reducible repeat (first | refine blk_drewN ?_ _ | refine blk_drew ?_ | refine blk_alloc ?_ _)); exact BK168.out)) : gb168 ≠ gb171)); have n7_ := Aside0.mk ((by rw [hg]; exact Nat.ne_of_gt (blk_lt (g := gb168) (o := .cells #[.int .i64 a0_0, .int .i64 a0_1, .int .i64 a0_2, .int .i64 a0_3, .int .i64 a0_4, .int .i64 a0_5, .slice (some ad170) l0_6.length c0_6] 101 (0, 0)) (by (with_reducible repeat (first | refine blk_drewN ?_ _ | refine blk_drew ?_ | refine blk_alloc ?_ _)); exact BK168.out)) : gb171 ≠ gb168)); have n8_ := Aside0.mk ((by rw [hg]; exact Nat.ne_of_lt (blk_lt (g := gb169) (o := .cells #[.int .i64 a0_2, .int .i64 a0_3, .int .i64 a0_4, .int .i64 a0_5, .slice (some ad170) l0_6.length c0_6] 45 (0, 0)) (by (with_reducible repeat (first | refine blk_drewN ?_ _ | refine blk_drew ?_ | refine blk_alloc ?_ _)); exact BK169.out)) : gb169 ≠ gb171)); have n9_ := Aside0.mk ((by rw [hg]; exact Nat.ne_of_gt (blk_lt (g := gb169) (o := .cells #[.int .i64 a0_2, .int .i64 a0_3, .int .i64 a0_4, .int .i64 a0_5, .slice (some ad170) l0_6.length c0_6] 45 (0, 0)) (by (with_reducible repeat (first | refine blk_drewN ?_ _ | refine blk_drew ?_ | refine blk_alloc ?_ _)); exact BK169.out)) : gb171 ≠ gb169)); clear BK168; clear BK169; clear HB; have BK168 := n0_; have BK169 := n1_; have HB := n2_; have BK171 := n3_; have GW171 := n4_; have GE171 := n5_; have NB168_171 := n6_; have NB171_168 := n7_; have NB169_171 := n8_; have NB171_169 := n9_; clear n0_ n1_ n2_ n3_ n4_ n5_ n6_ n7_ n8_ n9_; clear hb hbox hg; have hnb66 := NB171_168.out; have hnc66 := NB168_171.out; have hnb67 := NB171_169.out; have hnc67 := NB169_171.out; have hcz68_0 : w65.cell? ⟨gb171, 0, none⟩ = some (.int .i64 0) := (blk_cell BK171.out 0).trans rfl; have hcz68_1 : w65.cell? ⟨gb171, 1, none⟩ = some (.int .i64 0) := (blk_cell BK171.out 1).trans rfl; have hfz68_0 := blk_frozen BK171.out 0; have hfz68_1 := blk_frozen BK171.out 1; have hnb69 := NB169_168.out; have hnc69 := NB168_169.out; have hcz70_0 : w65.cell? ⟨gb169, 0, none⟩ = some (.int .i64 a0_2) := (blk_cell BK169.out 0).trans rfl; have hcz70_1 : w65.cell? ⟨gb169, 1, none⟩ = some (.int .i64 a0_3) := (blk_cell BK169.out 1).trans rfl; have hcz70_2 : w65.cell? ⟨gb169, 2, none⟩ = some (.int .i64 a0_4) := (blk_cell BK169.out 2).trans rfl; have hcz70_3 : w65.cell? ⟨gb169, 3, none⟩ = some (.int .i64 a0_5) := (blk_cell BK169.out 3).trans rfl; have hcz70_4 : w65.cell? ⟨gb169, 4, none⟩ = some (.slice (some ad170) l0_6.length c0_6) := (blk_cell BK169.out 4).trans rfl; have hfz70_0 := blk_frozen BK169.out 0; have hfz70_1 := blk_frozen BK169.out 1; have hfz70_2 := blk_frozen BK169.out 2; have hfz70_3 := blk_frozen BK169.out 3; have hfz70_4 := blk_frozen BK169.out 4))
                                      repeat (go_quiet (first | ((with_reducible refine gate_dst (N := 5) rfl ?_); (try (refine gate_guard (by rfl) ?_; dsimp only)); refine box_event ?hg (N := 5) ?hd (cs := #[.int .i64 0, .int .i64 0]) (t := 79) ?hr ?_; (case hd => rfl); (case hg => rfl); (case hr => first | (go_simp; done) | (go_simp; rfl)); intro gb171 hg w65 hbox hb; have n0_ := Aside0.mk (blk_below (g := gb168) (o := .cells #[.int .i64 a0_0, .int .i64 a0_1, .int .i64 a0_2, .int .i64 a0_3, .int .i64 a0_4, .int .i64 a0_5, .slice (some ad170) l0_6.length c0_6] 101 (0, 0)) (by (with_reducible repeat (first | refine blk_drewN ?_ _ | refine blk_drew ?_ | refine blk_alloc ?_ _)); exact BK168.out) hb); have n1_ := Aside0.mk (blk_below (g := gb169) (o := .cells #[.int .i64 a0_2, .int .i64 a0_3, .int .i64 a0_4, .int .i64 a0_5, .slice (some ad170) l0_6.length c0_6] 45 (0, 0)) (by (with_reducible repeat (first | refine blk_drewN ?_ _ | refine blk_drew ?_ | refine blk_alloc ?_ _)); exact BK169.out) hb); have n2_ := Aside0.mk (below_step (by repeat (first | (with_reducible first | exact HB.out | apply below_alloc | apply pw_below_drewN | apply below_drew1 | refine below_set ?_ GE168.out | refine below_set ?_ GE169.out) | exact HB.out)) hb); have n3_ := Aside0.mk (hbox); have n4_ := Aside0.mk ((by rw [hg]; exact (below_size (by repeat (first | (with_reducible first | exact HB.out | apply below_alloc | apply pw_below_drewN | apply below_drew1 | refine below_set ?_ GE168.out | refine below_set ?_ GE169.out) | exact HB.out))) : w.heap.size ≤ gb171)); have n5_ := Aside0.mk ((by rw [hg]; exact (below_size (by repeat (first | (with_reducible first | exact HB.out | apply below_alloc | apply pw_below_drewN | apply below_drew1 | refine below_set ?_ GE168.out | refine below_set ?_ GE169.out) | exact HB.out))) : w.heap.size ≤ gb171)); have n6_ := Aside0.mk ((by rw [hg]; exact Nat.ne_of_lt (blk_lt (g := gb168) (o := .cells #[.int .i64 a0_0, .int .i64 a0_1, .int .i64 a0_2, .int .i64 a0_3, .int .i64 a0_4, .int .i64 a0_5, .slice (some ad170) l0_6.length c0_6] 101 (0, 0)) (by (with_reducible repeat (first | refine blk_drewN ?_ _ | refine blk_drew ?_ | refine blk_alloc ?_ _)); exact BK168.out)) : gb168 ≠ gb171)); have n7_ := Aside0.mk ((by rw [hg]; exact Nat.ne_of_gt (blk_lt (g := gb168) (o := .cells #[.int .i64 a0_0, .int .i64 a0_1, .int .i64 a0_2, .int .i64 a0_3, .int .i64 a0_4, .int .i64 a0_5, .slice (some ad170) l0_6.length c0_6] 101 (0, 0)) (by (with_reducible repeat (first | refine blk_drewN ?_ _ | refine blk_drew ?_ | refine blk_alloc ?_ _)); exact BK168.out)) : gb171 ≠ gb168)); have n8_ := Aside0.mk ((by rw [hg]; exact Nat.ne_of_lt (blk_lt (g := gb169) (o := .cells #[.int .i64 a0_2, .int .i64 a0_3, .int .i64 a0_4, .int .i64 a0_5, .slice (some ad170) l0_6.length c0_6] 45 (0, 0)) (by (with_reducible repeat (first | refine blk_drewN ?_ _ | refine blk_drew ?_ | refine blk_alloc ?_ _)); exact BK169.out)) : gb169 ≠ gb171)); have n9_ := Aside0.mk ((by rw [hg]; exact Nat.ne_of_gt (blk_lt (g := gb169) (o := .cells #[.int .i64 a0_2, .int .i64 a0_3, .int .i64 a0_4, .int .i64 a0_5, .slice (some ad170) l0_6.length c0_6] 45 (0, 0)) (by (with_reducible repeat (first | refine blk_drewN ?_ _ | refine blk_drew ?_ | refine blk_alloc ?_ _)); exact BK169.out)) : gb171 ≠ gb169)); clear BK168; clear BK169; clear HB; have BK168 := n0_; have BK169 := n1_; have HB := n2_; have BK171 := n3_; have GW171 := n4_; have GE171 := n5_; have NB168_171 := n6_; have NB171_168 := n7_; have NB169_171 := n8_; have NB171_169 := n9_; clear n0_ n1_ n2_ n3_ n4_ n5_ n6_ n7_ n8_ n9_; clear hb hbox hg; have hnb66 := NB171_168.out; have hnc66 := NB168_171.out; have hnb67 := NB171_169.out; have hnc67 := NB169_171.out; have hcz68_0 : w65.cell? ⟨gb171, 0, none⟩ = some (.int .i64 0) := (blk_cell BK171.out 0).trans rfl; have hcz68_1 : w65.cell? ⟨gb171, 1, none⟩ = some (.int .i64 0) := (blk_cell BK171.out 1).trans rfl; have hfz68_0 := blk_frozen BK171.out 0; have hfz68_1 := blk_frozen BK171.out 1; have hnb69 := NB169_168.out; have hnc69 := NB168_169.out; have hcz70_0 : w65.cell? ⟨gb169, 0, none⟩ = some (.int .i64 a0_2) := (blk_cell BK169.out 0).trans rfl; have hcz70_1 : w65.cell? ⟨gb169, 1, none⟩ = some (.int .i64 a0_3) := (blk_cell BK169.out 1).trans rfl; have hcz70_2 : w65.cell? ⟨gb169, 2, none⟩ = some (.int .i64 a0_4) := (blk_cell BK169.out 2).trans rfl; have hcz70_3 : w65.cell? ⟨gb169, 3, none⟩ = some (.int .i64 a0_5) := (blk_cell BK169.out 3).trans rfl; have hcz70_4 : w65.cell? ⟨gb169, 4, none⟩ = some (.slice (some ad170) l0_6.length c0_6) := (blk_cell BK169.out 4).trans rfl; have hfz70_0 := blk_frozen BK169.out 0; have hfz70_1 := blk_frozen BK169.out 1; have hfz70_2 := blk_frozen BK169.out 2; have hfz70_3 := blk_frozen BK169.out 3; have hfz70_4 := blk_frozen BK169.out 4)); try go_wp2_with (first | ((with_reducible refine gate_dst (N := 5) rfl ?_); (try (refine gate_guard (by rfl) ?_; dsimp only)); refine box_event ?hg (N := 5) ?hd (cs := #[.int .i64 0, .int .i64 0]) (t := 79) ?hr ?_; (case hd => rfl); (case hg => rfl); (case hr => first | (go_simp; done) | (go_simp; rfl)); intro gb171 hg w65 hbox hb; have n0_ := Aside0.mk (blk_below (g := gb168) (o := .cells #[.int .i64 a0_0, .int .i64 a0_1, .int .i64 a0_2, .int .i64 a0_3, .int .i64 a0_4, .int .i64 a0_5, .slice (some ad170) l0_6.length c0_6] 101 (0, 0)) (by (with_reducible repeat (first | refine blk_drewN ?_ _ | refine blk_drew ?_ | refine blk_alloc ?_ _)); exact BK168.out) hb); have n1_ := Aside0.mk (blk_below (g := gb169) (o := .cells #[.int .i64 a0_2, .int .i64 a0_3, .int .i64 a0_4, .int .i64 a0_5, .slice (some ad170) l0_6.length c0_6] 45 (0, 0)) (by (with_reducible repeat (first | refine blk_drewN ?_ _ | refine blk_drew ?_ | refine blk_alloc ?_ _)); exact BK169.out) hb); have n2_ := Aside0.mk (below_step (by repeat (first | (with_reducible first | exact HB.out | apply below_alloc | apply pw_below_drewN | apply below_drew1 | refine below_set ?_ GE168.out | refine below_set ?_ GE169.out) | exact HB.out)) hb); have n3_ := Aside0.mk (hbox); have n4_ := Aside0.mk ((by rw [hg]; exact (below_size (by repeat (first | (with_reducible first | exact HB.out | apply below_alloc | apply pw_below_drewN | apply below_drew1 | refine below_set ?_ GE168.out | refine below_set ?_ GE169.out) | exact HB.out))) : w.heap.size ≤ gb171)); have n5_ := Aside0.mk ((by rw [hg]; exact (below_size (by repeat (first | (with_reducible first | exact HB.out | apply below_alloc | apply pw_below_drewN | apply below_drew1 | refine below_set ?_ GE168.out | refine below_set ?_ GE169.out) | exact HB.out))) : w.heap.size ≤ gb171)); have n6_ := Aside0.mk ((by rw [hg]; exact Nat.ne_of_lt (blk_lt (g := gb168) (o := .cells #[.int .i64 a0_0, .int .i64 a0_1, .int .i64 a0_2, .int .i64 a0_3, .int .i64 a0_4, .int .i64 a0_5, .slice (some ad170) l0_6.length c0_6] 101 (0, 0)) (by (with_reducible repeat (first | refine blk_drewN ?_ _ | refine blk_drew ?_ | refine blk_alloc ?_ _)); exact BK168.out)) : gb168 ≠ gb171)); have n7_ := Aside0.mk ((by rw [hg]; exact Nat.ne_of_gt (blk_lt (g := gb168) (o := .cells #[.int .i64 a0_0, .int .i64 a0_1, .int .i64 a0_2, .int .i64 a0_3, .int .i64 a0_4, .int .i64 a0_5, .slice (some ad170) l0_6.length c0_6] 101 (0, 0)) (by (with_reducible repeat (first | refine blk_drewN ?_ _ | refine blk_drew ?_ | refine blk_alloc ?_ _)); exact BK168.out)) : gb171 ≠ gb168)); have n8_ := Aside0.mk ((by rw [hg]; exact Nat.ne_of_lt (blk_lt (g := gb169) (o := .cells #[.int .i64 a0_2, .int .i64 a0_3, .int .i64 a0_4, .int .i64 a0_5, .slice (some ad170) l0_6.length c0_6] 45 (0, 0)) (by (with_reducible repeat (first | refine blk_drewN ?_ _ | refine blk_drew ?_ | refine blk_alloc ?_ _)); exact BK169.out)) : gb169 ≠ gb171)); have n9_ := Aside0.mk ((by rw [hg]; exact Nat.ne_of_gt (blk_lt (g := gb169) (o := .cells #[.int .i64 a0_2, .int .i64 a0_3, .int .i64 a0_4, .int .i64 a0_5, .slice (some ad170) l0_6.length c0_6] 45 (0, 0)) (by (with_reducible repeat (first | refine blk_drewN ?_ _ | refine blk_drew ?_ | refine blk_alloc ?_ _)); exact BK169.out)) : gb171 ≠ gb169)); clear BK168; clear BK169; clear HB; have BK168 := n0_; have BK169 := n1_; have HB := n2_; have BK171 := n3_; have GW171 := n4_; have GE171 := n5_; have NB168_171 := n6_; have NB171_168 := n7_; have NB169_171 := n8_; have NB171_169 := n9_; clear n0_ n1_ n2_ n3_ n4_ n5_ n6_ n7_ n8_ n9_; clear hb hbox hg; have hnb66 := NB171_168.out; have hnc66 := NB168_171.out; have hnb67 := NB171_169.out; have hnc67 := NB169_171.out; have hcz68_0 : w65.cell? ⟨gb171, 0, none⟩ = some (.int .i64 0) := (blk_cell BK171.out 0).trans rfl; have hcz68_1 : w65.cell? ⟨gb171, 1, none⟩ = some (.int .i64 0) := (blk_cell BK171.out 1).trans rfl; have hfz68_0 := blk_frozen BK171.out 0; have hfz68_1 := blk_frozen BK171.out 1; have hnb69 := NB169_168.out; have hnc69 := NB168_169.out; have hcz70_0 : w65.cell? ⟨gb169, 0, none⟩ = some (.int .i64 a0_2) := (blk_cell BK169.out 0).trans rfl; have hcz70_1 : w65.cell? ⟨gb169, 1, none⟩ = some (.int .i64 a0_3) := (blk_cell BK169.out 1).trans rfl; have hcz70_2 : w65.cell? ⟨gb169, 2, none⟩ = some (.int .i64 a0_4) := (blk_cell BK169.out 2).trans rfl; have hcz70_3 : w65.cell? ⟨gb169, 3, none⟩ = some (.int .i64 a0_5) := (blk_cell BK169.out 3).trans rfl; have hcz70_4 : w65.cell? ⟨gb169, 4, none⟩ = some (.slice (some ad170) l0_6.length c0_6) := (blk_cell BK169.out 4).trans rfl; have hfz70_0 := blk_frozen BK169.out 0; have hfz70_1 := blk_frozen BK169.out 1; have hfz70_2 := blk_frozen BK169.out 2; have hfz70_3 := blk_frozen BK169.out 3; have hfz70_4 := blk_frozen BK169.out 4)))
                                      go_ret
                                      exact ⟨by first | rfl | (simp [errW_none, errW_some] <;> rfl) | (simp [*, errW_none, errW_some] <;> rfl), by repeat (first | (with_reducible first | exact HB.out | apply below_alloc | apply pw_below_drewN | apply below_drew1 | refine below_set ?_ GE168.out | refine below_set ?_ GE169.out | refine below_set ?_ GE171.out) | exact HB.out)⟩
                                    · rw [if_neg c64] at H
                                      have c64b0 : decide (a0_2 ≤ ((rd_T79 l0_6 x59_4).f1)) = false := decide_eq_false c64
                                      clear c64
                                      by_cases c71 : x59_4 > 0
                                      · rw [if_pos c71] at H
                                        have c71b0 : decide (0 < x59_4) = true := decide_eq_true c71
                                        clear c71
                                        obtain ⟨ji72, hji72⟩ : ∃ j_ : Int, (wrap64 (x59_4 - 1)) = j_ := ⟨_, rfl⟩
                                        replace H : (if 0 ≤ (ji72) then (if (ji72) < (l0_6.length : Int) then (if ((rd_T79 l0_6 (ji72)).f0) ≥ ((rd_T79 l0_6 x59_4).f0) then (some false) else (impl_superForm_sound.l0 k4 l0_6 (l0_6.length : Int) (wrap64 (x59_4 + 1)) a0_2 a0_3 a0_4 a0_5 l0_6)) else (none)) else (none)) = some r := by first | (rw [hji72] at H; exact H) | (simp only [hji72] at H ⊢; exact H)
                                        have hji72w : (IntKind.i64.wrap (x59_4 - 1)) = ji72 := (i64_w _).trans hji72
                                        by_cases c73 : 0 ≤ (ji72)
                                        · rw [if_pos c73] at H
                                          have c73b0 : decide (0 ≤ (ji72)) = true := decide_eq_true c73
                                          clear c73
                                          by_cases c74 : (ji72) < (l0_6.length : Int)
                                          · rw [if_pos c74] at H
                                            have c74b0 : decide ((ji72) < (l0_6.length : Int)) = true := decide_eq_true c74
                                            clear c74
                                            by_cases c75 : ((rd_T79 l0_6 (ji72)).f0) ≥ ((rd_T79 l0_6 x59_4).f0)
                                            · rw [if_pos c75] at H
                                              have c75b0 : decide (((rd_T79 l0_6 x59_4).f0) ≤ ((rd_T79 l0_6 (ji72)).f0)) = true := decide_eq_true c75
                                              clear c75
                                              obtain rfl := Option.some.inj H
                                              have p170 : 0 ≤ (x59_4 : Int) := of_decide_eq_true (by first | (with_reducible assumption) | assumption)
                                              have q170 : x59_4 < (l0_6.length : Int) := of_decide_eq_true (by first | (with_reducible assumption) | assumption)
                                              obtain ⟨ad170, e170, hx170_0, hx170_1⟩ := at_T79 HR0_6.out x59_4 p170 q170
                                              cases e170
                                              replace hx170_0 := (HB.out.cell (World.block_lt_of_cell? w _ hx170_0)).trans hx170_0
                                              replace hx170_1 := (HB.out.cell (World.block_lt_of_cell? w _ hx170_1)).trans hx170_1
                                              replace p170 := eq_true p170
                                              replace q170 := eq_true q170
                                              go_wp2_with (first | ((with_reducible refine gate_dst (N := 5) rfl ?_); (try (refine gate_guard (by rfl) ?_; dsimp only)); refine box_event ?hg (N := 5) ?hd (cs := #[.int .i64 0, .int .i64 0]) (t := 79) ?hr ?_; (case hd => rfl); (case hg => rfl); (case hr => first | (go_simp; done) | (go_simp; rfl)); intro gb171 hg w76 hbox hb; have n0_ := Aside0.mk (blk_below (g := gb168) (o := .cells #[.int .i64 a0_0, .int .i64 a0_1, .int .i64 a0_2, .int .i64 a0_3, .int .i64 a0_4, .int .i64 a0_5, .slice (some ad170) l0_6.length c0_6] 101 (0, 0)) (by (with_reducible repeat (first | refine blk_drewN ?_ _ | refine blk_drew ?_ | refine blk_alloc ?_ _)); exact BK168.out) hb); have n1_ := Aside0.mk (blk_below (g := gb169) (o := .cells #[.int .i64 a0_2, .int .i64 a0_3, .int .i64 a0_4, .int .i64 a0_5, .slice (some ad170) l0_6.length c0_6] 45 (0, 0)) (by (with_reducible repeat (first | refine blk_drewN ?_ _ | refine blk_drew ?_ | refine blk_alloc ?_ _)); exact BK169.out) hb); have n2_ := Aside0.mk (below_step (by repeat (first | (with_reducible first | exact HB.out | apply below_alloc | apply pw_below_drewN | apply below_drew1 | refine below_set ?_ GE168.out | refine below_set ?_ GE169.out) | exact HB.out)) hb); have n3_ := Aside0.mk (hbox); have n4_ := Aside0.mk ((by rw [hg]; exact (below_size (by repeat (first | (with_reducible first | exact HB.out | apply below_alloc | apply pw_below_drewN | apply below_drew1 | refine below_set ?_ GE168.out | refine below_set ?_ GE169.out) | exact HB.out))) : w.heap.size ≤ gb171)); have n5_ := Aside0.mk ((by rw [hg]; exact (below_size (by repeat (first | (with_reducible first | exact HB.out | apply below_alloc | apply pw_below_drewN | apply below_drew1 | refine below_set ?_ GE168.out | refine below_set ?_ GE169.out) | exact HB.out))) : w.heap.size ≤ gb171)); have n6_ := Aside0.mk ((by rw [hg]; exact Nat.ne_of_lt (blk_lt (g := gb168) (o := .cells #[.int .i64 a0_0, .int .i64 a0_1, .int .i64 a0_2, .int .i64 a0_3, .int .i64 a0_4, .int .i64 a0_5, .slice (some ad170) l0_6.length c0_6] 101 (0, 0)) (by (with_reducible repeat (first | refine blk_drewN ?_ _ | refine blk_drew ?_ | refine blk_alloc ?_ _)); exact BK168.out)) : gb168 ≠ gb171)); have n7_ := Aside0.mk ((by rw [hg]; exact Nat.ne_of_gt (blk_lt (g := gb168) (o := .cells #[.int .i64 a0_0, .int .i64 a0_1, .int .i64 a0_2, .int .i64 a0_3, .int .i64 a0_4, .int .i64 a0_5, .slice (some ad170) l0_6.length c0_6] 101 (0, 0)) (by (with_reducible repeat (first | refine blk_drewN ?_ _ | refine blk_drew ?_ | refine blk_alloc ?_ _)); exact BK168.out)) : gb171 ≠ gb168)); have n8_ := Aside0.mk ((by rw [hg]; exact Nat.ne_of_lt (blk_lt (g := gb169) (o := .cells #[.int .i64 a0_2, .int .i64 a0_3, .int .i64 a0_4, .int .i64 a0_5, .slice (some ad170) l0_6.length c0_6] 45 (0, 0)) (by (with_reducible repeat (first | refine blk_drewN ?_ _ | refine blk_drew ?_ | refine blk_alloc ?_ _)); exact BK169.out)) : gb169 ≠ gb171)); have n9_ := Aside0.mk ((by rw [hg]; exact Nat.ne_of_gt (blk_lt (g := gb169) (o := .cells #[.int .i64 a0_2, .int .i64 a0_3, .int .i64 a0_4, .int .i64 a0_5, .slice (some ad170) l0_6.length c0_6] 45 (0, 0)) (by (with_reducible repeat (first | refine blk_drewN ?_ _ | refine blk_drew ?_ | refine blk_alloc ?_ _)); exact BK169.out)) : gb171 ≠ gb169)); clear BK168; clear BK169; clear HB; have BK168 := n0_; have BK169 := n1_; have HB := n2_; have BK171 := n3_; have GW171 := n4_; have GE171 := n5_; have NB168_171 := n6_; have NB171_168 := n7_; have NB169_171 := n8_; have NB171_169 := n9_; clear n0_ n1_ n2_ n3_ n4_ n5_ n6_ n7_ n8_ n9_; clear hb hbox hg; have hnb77 := NB171_168.out; have hnc77 := NB168_171.out; have hnb78 := NB171_169.out; have hnc78 := NB169_171.out; have hcz79_0 : w76.cell? ⟨gb171, 0, none⟩ = some (.int .i64 0) := (blk_cell BK171.out 0).trans rfl; have hcz79_1 : w76.cell? ⟨gb171, 1, none⟩ = some (.int .i64 0) := (blk_cell BK171.out 1).trans rfl; have hfz79_0 := blk_frozen BK171.out 0; have hfz79_1 := blk_frozen BK171.out 1; have hnb80 := NB169_168.out; have hnc80 := NB168_169.out; have hcz81_0 : w76.cell? ⟨gb169, 0, none⟩ = some (.int .i64 a0_2) := (blk_cell BK169.out 0).trans rfl; have hcz81_1 : w76.cell? ⟨gb169, 1, none⟩ = some (.int .i64 a0_3) := (blk_cell BK169.out 1).trans rfl; have hcz81_2 : w76.cell? ⟨gb169, 2, none⟩ = some (.int .i64 a0_4) := (blk_cell BK169.out 2).trans rfl; have hcz81_3 : w76.cell? ⟨gb169, 3, none⟩ = some (.int .i64 a0_5) := (blk_cell BK169.out 3).trans rfl; have hcz81_4 : w76.cell? ⟨gb169, 4, none⟩ = some (.slice (some ad170) l0_6.length c0_6) := (blk_cell BK169.out 4).trans rfl; have hfz81_0 := blk_frozen BK169.out 0; have hfz81_1 := blk_frozen BK169.out 1; have hfz81_2 := blk_frozen BK169.out 2; have hfz81_3 := blk_frozen BK169.out 3; have hfz81_4 := blk_frozen BK169.out 4; have p172 : 0 ≤ ((ji72) : Int) := of_decide_eq_true (by first | (with_reducible assumption) | assumption); have q172 : (ji72) < (l0_6.length : Int) := of_decide_eq_true (by first | (with_reducible assumption) | assumption); obtain ⟨ad172, e172, hx172_0, hx172_1⟩ := at_T79 HR0_6.out (ji72) p172 q172; obtain rfl : ad170 = ad172 := (by injection e172); have hn172_0 : ad170.block ≠ gb171 := Nat.ne_of_lt (Nat.lt_of_lt_of_le (by have := World.block_lt_of_cell? _ _ hx172_0; first | rwa [add_block] at this | exact this) GW171.out); have hn172_1 : ad170.block ≠ gb171 := Nat.ne_of_lt (Nat.lt_of_lt_of_le (by have := World.block_lt_of_cell? _ _ hx172_0; first | rwa [add_block] at this | exact this) GW171.out); replace hx172_0 := (HB.out.cell (World.block_lt_of_cell? w _ hx172_0)).trans hx172_0; replace hx172_1 := (HB.out.cell (World.block_lt_of_cell? w _ hx172_1)).trans hx172_1; replace hx172_0 := (cell_far (p := ⟨gb171, 0, none⟩) (by first | (rw [add_block]; exact hn172_0) | (show (Addr.add _ _).block ≠ _; rw [add_block]; exact hn172_0) | exact hn172_0) (.int .i64 ((rd_T79 l0_6 x59_4).f0))).trans hx172_0; replace hx172_1 := (cell_far (p := ⟨gb171, 0, none⟩) (by first | (rw [add_block]; exact hn172_0) | (show (Addr.add _ _).block ≠ _; rw [add_block]; exact hn172_0) | exact hn172_0) (.int .i64 ((rd_T79 l0_6 x59_4).f0))).trans hx172_1; replace hx172_0 := (cell_far (p := ⟨gb171, 1, none⟩) (by first | (rw [add_block]; exact hn172_1) | (show (Addr.add _ _).block ≠ _; rw [add_block]; exact hn172_1) | exact hn172_1) (.int .i64 ((rd_T79 l0_6 x59_4).f1))).trans hx172_0; replace hx172_1 := (cell_far (p := ⟨gb171, 1, none⟩) (by first | (rw [add_block]; exact hn172_1) | (show (Addr.add _ _).block ≠ _; rw [add_block]; exact hn172_1) | exact hn172_1) (.int .i64 ((rd_T79 l0_6 x59_4).f1))).trans hx172_1; (try have hy172_0 := fun (n_ : Nat) => (show ((((w76.drewN n_).setCell ⟨gb171, 0, none⟩ (.int .i64 ((rd_T79 l0_6 x59_4).f0))).setCell ⟨gb171, 1, none⟩ (.int .i64 ((rd_T79 l0_6 x59_4).f1)))).cell? _ = some _ from hx172_0)); (try have hy172_1 := fun (n_ : Nat) => (show ((((w76.drewN n_).setCell ⟨gb171, 0, none⟩ (.int .i64 ((rd_T79 l0_6 x59_4).f0))).setCell ⟨gb171, 1, none⟩ (.int .i64 ((rd_T79 l0_6 x59_4).f1)))).cell? _ = some _ from hx172_1)); clear hn172_0; clear hn172_1; replace p172 := eq_true p172; replace q172 := eq_true q172))
                                              repeat (go_quiet (first | ((with_reducible refine gate_dst (N := 5) rfl ?_); (try (refine gate_guard (by rfl) ?_; dsimp only)); refine box_event ?hg (N := 5) ?hd (cs := #[.int .i64 0, .int .i64 0]) (t := 79) ?hr ?_; (case hd => rfl); (case hg => rfl); (case hr => first | (go_simp; done) | (go_simp; rfl)); intro gb171 hg w76 hbox hb; have n0_ := Aside0.mk (blk_below (g := gb168) (o := .cells #[.int .i64 a0_0, .int .i64 a0_1, .int .i64 a0_2, .int .i64 a0_3, .int .i64 a0_4, .int .i64 a0_5, .slice (some ad170) l0_6.length c0_6] 101 (0, 0)) (by (with_reducible repeat (first | refine blk_drewN ?_ _ | refine blk_drew ?_ | refine blk_alloc ?_ _)); exact BK168.out) hb); have n1_ := Aside0.mk (blk_below (g := gb169) (o := .cells #[.int .i64 a0_2, .int .i64 a0_3, .int .i64 a0_4, .int .i64 a0_5, .slice (some ad170) l0_6.length c0_6] 45 (0, 0)) (by (with_reducible repeat (first | refine blk_drewN ?_ _ | refine blk_drew ?_ | refine blk_alloc ?_ _)); exact BK169.out) hb); have n2_ := Aside0.mk (below_step (by repeat (first | (with_reducible first | exact HB.out | apply below_alloc | apply pw_below_drewN | apply below_drew1 | refine below_set ?_ GE168.out | refine below_set ?_ GE169.out) | exact HB.out)) hb); have n3_ := Aside0.mk (hbox); have n4_ := Aside0.mk ((by rw [hg]; exact (below_size (by repeat (first | (with_reducible first | exact HB.out | apply below_alloc | apply pw_below_drewN | apply below_drew1 | refine below_set ?_ GE168.out | refine below_set ?_ GE169.out) | exact HB.out))) : w.heap.size ≤ gb171)); have n5_ := Aside0.mk ((by rw [hg]; exact (below_size (by repeat (first | (with_reducible first | exact HB.out | apply below_alloc | apply pw_below_drewN | apply below_drew1 | refine below_set ?_ GE168.out | refine below_set ?_ GE169.out) | exact HB.out))) : w.heap.size ≤ gb171)); have n6_ := Aside0.mk ((by rw [hg]; exact Nat.ne_of_lt (blk_lt (g := gb168) (o := .cells #[.int .i64 a0_0, .int .i64 a0_1, .int .i64 a0_2, .int .i64 a0_3, .int .i64 a0_4, .int .i64 a0_5, .slice (some ad170) l0_6.length c0_6] 101 (0, 0)) (by (with_reducible repeat (first | refine blk_drewN ?_ _ | refine blk_drew ?_ | refine blk_alloc ?_ _)); exact BK168.out)) : gb168 ≠ gb171)); have n7_ := Aside0.mk ((by rw [hg]; exact Nat.ne_of_gt (blk_lt (g := gb168) (o := .cells #[.int .i64 a0_0, .int .i64 a0_1, .int .i64 a0_2, .int .i64 a0_3, .int .i64 a0_4, .int .i64 a0_5, .slice (some ad170) l0_6.length c0_6] 101 (0, 0)) (by (with_reducible repeat (first | refine blk_drewN ?_ _ | refine blk_drew ?_ | refine blk_alloc ?_ _)); exact BK168.out)) : gb171 ≠ gb168)); have n8_ := Aside0.mk ((by rw [hg]; exact Nat.ne_of_lt (blk_lt (g := gb169) (o := .cells #[.int .i64 a0_2, .int .i64 a0_3, .int .i64 a0_4, .int .i64 a0_5, .slice (some ad170) l0_6.length c0_6] 45 (0, 0)) (by (with_reducible repeat (first | refine blk_drewN ?_ _ | refine blk_drew ?_ | refine blk_alloc ?_ _)); exact BK169.out)) : gb169 ≠ gb171)); have n9_ := Aside0.mk ((by rw [hg]; exact Nat.ne_of_gt (blk_lt (g := gb169) (o := .cells #[.int .i64 a0_2, .int .i64 a0_3, .int .i64 a0_4, .int .i64 a0_5, .slice (some ad170) l0_6.length c0_6] 45 (0, 0)) (by (with_reducible repeat (first | refine blk_drewN ?_ _ | refine blk_drew ?_ | refine blk_alloc ?_ _)); exact BK169.out)) : gb171 ≠ gb169)); clear BK168; clear BK169; clear HB; have BK168 := n0_; have BK169 := n1_; have HB := n2_; have BK171 := n3_; have GW171 := n4_; have GE171 := n5_; have NB168_171 := n6_; have NB171_168 := n7_; have NB169_171 := n8_; have NB171_169 := n9_; clear n0_ n1_ n2_ n3_ n4_ n5_ n6_ n7_ n8_ n9_; clear hb hbox hg; have hnb77 := NB171_168.out; have hnc77 := NB168_171.out; have hnb78 := NB171_169.out; have hnc78 := NB169_171.out; have hcz79_0 : w76.cell? ⟨gb171, 0, none⟩ = some (.int .i64 0) := (blk_cell BK171.out 0).trans rfl; have hcz79_1 : w76.cell? ⟨gb171, 1, none⟩ = some (.int .i64 0) := (blk_cell BK171.out 1).trans rfl; have hfz79_0 := blk_frozen BK171.out 0; have hfz79_1 := blk_frozen BK171.out 1; have hnb80 := NB169_168.out; have hnc80 := NB168_169.out; have hcz81_0 : w76.cell? ⟨gb169, 0, none⟩ = some (.int .i64 a0_2) := (blk_cell BK169.out 0).trans rfl; have hcz81_1 : w76.cell? ⟨gb169, 1, none⟩ = some (.int .i64 a0_3) := (blk_cell BK169.out 1).trans rfl; have hcz81_2 : w76.cell? ⟨gb169, 2, none⟩ = some (.int .i64 a0_4) := (blk_cell BK169.out 2).trans rfl; have hcz81_3 : w76.cell? ⟨gb169, 3, none⟩ = some (.int .i64 a0_5) := (blk_cell BK169.out 3).trans rfl; have hcz81_4 : w76.cell? ⟨gb169, 4, none⟩ = some (.slice (some ad170) l0_6.length c0_6) := (blk_cell BK169.out 4).trans rfl; have hfz81_0 := blk_frozen BK169.out 0; have hfz81_1 := blk_frozen BK169.out 1; have hfz81_2 := blk_frozen BK169.out 2; have hfz81_3 := blk_frozen BK169.out 3; have hfz81_4 := blk_frozen BK169.out 4; have p172 : 0 ≤ ((ji72) : Int) := of_decide_eq_true (by first | (with_reducible assumption) | assumption); have q172 : (ji72) < (l0_6.length : Int) := of_decide_eq_true (by first | (with_reducible assumption) | assumption); obtain ⟨ad172, e172, hx172_0, hx172_1⟩ := at_T79 HR0_6.out (ji72) p172 q172; obtain rfl : ad170 = ad172 := (by injection e172); have hn172_0 : ad170.block ≠ gb171 := Nat.ne_of_lt (Nat.lt_of_lt_of_le (by have := World.block_lt_of_cell? _ _ hx172_0; first | rwa [add_block] at this | exact this) GW171.out); have hn172_1 : ad170.block ≠ gb171 := Nat.ne_of_lt (Nat.lt_of_lt_of_le (by have := World.block_lt_of_cell? _ _ hx172_0; first | rwa [add_block] at this | exact this) GW171.out); replace hx172_0 := (HB.out.cell (World.block_lt_of_cell? w _ hx172_0)).trans hx172_0; replace hx172_1 := (HB.out.cell (World.block_lt_of_cell? w _ hx172_1)).trans hx172_1; replace hx172_0 := (cell_far (p := ⟨gb171, 0, none⟩) (by first | (rw [add_block]; exact hn172_0) | (show (Addr.add _ _).block ≠ _; rw [add_block]; exact hn172_0) | exact hn172_0) (.int .i64 ((rd_T79 l0_6 x59_4).f0))).trans hx172_0; replace hx172_1 := (cell_far (p := ⟨gb171, 0, none⟩) (by first | (rw [add_block]; exact hn172_0) | (show (Addr.add _ _).block ≠ _; rw [add_block]; exact hn172_0) | exact hn172_0) (.int .i64 ((rd_T79 l0_6 x59_4).f0))).trans hx172_1; replace hx172_0 := (cell_far (p := ⟨gb171, 1, none⟩) (by first | (rw [add_block]; exact hn172_1) | (show (Addr.add _ _).block ≠ _; rw [add_block]; exact hn172_1) | exact hn172_1) (.int .i64 ((rd_T79 l0_6 x59_4).f1))).trans hx172_0; replace hx172_1 := (cell_far (p := ⟨gb171, 1, none⟩) (by first | (rw [add_block]; exact hn172_1) | (show (Addr.add _ _).block ≠ _; rw [add_block]; exact hn172_1) | exact hn172_1) (.int .i64 ((rd_T79 l0_6 x59_4).f1))).trans hx172_1; (try have hy172_0 := fun (n_ : Nat) => (show ((((w76.drewN n_).setCell ⟨gb171, 0, none⟩ (.int .i64 ((rd_T79 l0_6 x59_4).f0))).setCell ⟨gb171, 1, none⟩ (.int .i64 ((rd_T79 l0_6 x59_4).f1)))).cell? _ = some _ from hx172_0)); (try have hy172_1 := fun (n_ : Nat) => (show ((((w76.drewN n_).setCell ⟨gb171, 0, none⟩ (.int .i64 ((rd_T79 l0_6 x59_4).f0))).setCell ⟨gb171, 1, none⟩ (.int .i64 ((rd_T79 l0_6 x59_4).f1)))).cell? _ = some _ from hx172_1)); clear hn172_0; clear hn172_1; replace p172 := eq_true p172; replace q172 := eq_true q172)); try go_wp2_with (first | ((with_reducible refine gate_dst (N := 5) rfl ?_); (try (refine gate_guard (by rfl) ?_; dsimp only)); refine box_event ?hg (N := 5) ?hd (cs := #[.int .i64 0, .int .i64 0]) (t := 79) ?hr ?_; (case hd => rfl); (case hg => rfl); (case hr => first | (go_simp; done) | (go_simp; rfl)); intro gb171 hg w76 hbox hb; have n0_ := Aside0.mk (blk_below (g := gb168) (o := .cells #[.int .i64 a0_0, .int .i64 a0_1, .int .i64 a0_2, .int .i64 a0_3, .int .i64 a0_4, .int .i64 a0_5, .slice (some ad170) l0_6.length c0_6] 101 (0, 0)) (by (with_reducible repeat (first | refine blk_drewN ?_ _ | refine blk_drew ?_ | refine blk_alloc ?_ _)); exact BK168.out) hb); have n1_ := Aside0.mk (blk_below (g := gb169) (o := .cells #[.int .i64 a0_2, .int .i64 a0_3, .int .i64 a0_4, .int .i64 a0_5, .slice (some ad170) l0_6.length c0_6] 45 (0, 0)) (by (with_reducible repeat (first | refine blk_drewN ?_ _ | refine blk_drew ?_ | refine blk_alloc ?_ _)); exact BK169.out) hb); have n2_ := Aside0.mk (below_step (by repeat (first | (with_reducible first | exact HB.out | apply below_alloc | apply pw_below_drewN | apply below_drew1 | refine below_set ?_ GE168.out | refine below_set ?_ GE169.out) | exact HB.out)) hb); have n3_ := Aside0.mk (hbox); have n4_ := Aside0.mk ((by rw [hg]; exact (below_size (by repeat (first | (with_reducible first | exact HB.out | apply below_alloc | apply pw_below_drewN | apply below_drew1 | refine below_set ?_ GE168.out | refine below_set ?_ GE169.out) | exact HB.out))) : w.heap.size ≤ gb171)); have n5_ := Aside0.mk ((by rw [hg]; exact (below_size (by repeat (first | (with_reducible first | exact HB.out | apply below_alloc | apply pw_below_drewN | apply below_drew1 | refine below_set ?_ GE168.out | refine below_set ?_ GE169.out) | exact HB.out))) : w.heap.size ≤ gb171)); have n6_ := Aside0.mk ((by rw [hg]; exact Nat.ne_of_lt (blk_lt (g := gb168) (o := .cells #[.int .i64 a0_0, .int .i64 a0_1, .int .i64 a0_2, .int .i64 a0_3, .int .i64 a0_4, .int .i64 a0_5, .slice (some ad170) l0_6.length c0_6] 101 (0, 0)) (by (with_reducible repeat (first | refine blk_drewN ?_ _ | refine blk_drew ?_ | refine blk_alloc ?_ _)); exact BK168.out)) : gb168 ≠ gb171)); have n7_ := Aside0.mk ((by rw [hg]; exact Nat.ne_of_gt (blk_lt (g := gb168) (o := .cells #[.int .i64 a0_0, .int .i64 a0_1, .int .i64 a0_2, .int .i64 a0_3, .int .i64 a0_4, .int .i64 a0_5, .slice (some ad170) l0_6.length c0_6] 101 (0, 0)) (by (with_reducible repeat (first | refine blk_drewN ?_ _ | refine blk_drew ?_ | refine blk_alloc ?_ _)); exact BK168.out)) : gb171 ≠ gb168)); have n8_ := Aside0.mk ((by rw [hg]; exact Nat.ne_of_lt (blk_lt (g := gb169) (o := .cells #[.int .i64 a0_2, .int .i64 a0_3, .int .i64 a0_4, .int .i64 a0_5, .slice (some ad170) l0_6.length c0_6] 45 (0, 0)) (by (with_reducible repeat (first | refine blk_drewN ?_ _ | refine blk_drew ?_ | refine blk_alloc ?_ _)); exact BK169.out)) : gb169 ≠ gb171)); have n9_ := Aside0.mk ((by rw [hg]; exact Nat.ne_of_gt (blk_lt (g := gb169) (o := .cells #[.int .i64 a0_2, .int .i64 a0_3, .int .i64 a0_4, .int .i64 a0_5, .slice (some ad170) l0_6.length c0_6] 45 (0, 0)) (by (with_reducible repeat (first | refine blk_drewN ?_ _ | refine blk_drew ?_ | refine blk_alloc ?_ _)); exact BK169.out)) : gb171 ≠ gb169)); clear BK168; clear BK169; clear HB; have BK168 := n0_; have BK169 := n1_; have HB := n2_; have BK171 := n3_; have GW171 := n4_; have GE171 := n5_; have NB168_171 := n6_; have NB171_168 := n7_; have NB169_171 := n8_; have NB171_169 := n9_; clear n0_ n1_ n2_ n3_ n4_ n5_ n6_ n7_ n8_ n9_; clear hb hbox hg; have hnb77 := NB171_168.out; have hnc77 := NB168_171.out; have hnb78 := NB171_169.out; have hnc78 := NB169_171.out; have hcz79_0 : w76.cell? ⟨gb171, 0, none⟩ = some (.int .i64 0) := (blk_cell BK171.out 0).trans rfl; have hcz79_1 : w76.cell? ⟨gb171, 1, none⟩ = some (.int .i64 0) := (blk_cell BK171.out 1).trans rfl; have hfz79_0 := blk_frozen BK171.out 0; have hfz79_1 := blk_frozen BK171.out 1; have hnb80 := NB169_168.out; have hnc80 := NB168_169.out; have hcz81_0 : w76.cell? ⟨gb169, 0, none⟩ = some (.int .i64 a0_2) := (blk_cell BK169.out 0).trans rfl; have hcz81_1 : w76.cell? ⟨gb169, 1, none⟩ = some (.int .i64 a0_3) := (blk_cell BK169.out 1).trans rfl; have hcz81_2 : w76.cell? ⟨gb169, 2, none⟩ = some (.int .i64 a0_4) := (blk_cell BK169.out 2).trans rfl; have hcz81_3 : w76.cell? ⟨gb169, 3, none⟩ = some (.int .i64 a0_5) := (blk_cell BK169.out 3).trans rfl; have hcz81_4 : w76.cell? ⟨gb169, 4, none⟩ = some (.slice (some ad170) l0_6.length c0_6) := (blk_cell BK169.out 4).trans rfl; have hfz81_0 := blk_frozen BK169.out 0; have hfz81_1 := blk_frozen BK169.out 1; have hfz81_2 := blk_frozen BK169.out 2; have hfz81_3 := blk_frozen BK169.out 3; have hfz81_4 := blk_frozen BK169.out 4; have p172 : 0 ≤ ((ji72) : Int) := of_decide_eq_true (by first | (with_reducible assumption) | assumption); have q172 : (ji72) < (l0_6.length : Int) := of_decide_eq_true (by first | (with_reducible assumption) | assumption); obtain ⟨ad172, e172, hx172_0, hx172_1⟩ := at_T79 HR0_6.out (ji72) p172 q172; obtain rfl : ad170 = ad172 := (by injection e172); have hn172_0 : ad170.block ≠ gb171 := Nat.ne_of_lt (Nat.lt_of_lt_of_le (by have := World.block_lt_of_cell? _ _ hx172_0; first | rwa [add_block] at this | exact this) GW171.out); have hn172_1 : ad170.block ≠ gb171 := Nat.ne_of_lt (Nat.lt_of_lt_of_le (by have := World.block_lt_of_cell? _ _ hx172_0; first | rwa [add_block] at this | exact this) GW171.out); replace hx172_0 := (HB.out.cell (World.block_lt_of_cell? w _ hx172_0)).trans hx172_0; replace hx172_1 := (HB.out.cell (World.block_lt_of_cell? w _ hx172_1)).trans hx172_1; replace hx172_0 := (cell_far (p := ⟨gb171, 0, none⟩) (by first | (rw [add_block]; exact hn172_0) | (show (Addr.add _ _).block ≠ _; rw [add_block]; exact hn172_0) | exact hn172_0) (.int .i64 ((rd_T79 l0_6 x59_4).f0))).trans hx172_0; replace hx172_1 := (cell_far (p := ⟨gb171, 0, none⟩) (by first | (rw [add_block]; exact hn172_0) | (show (Addr.add _ _).block ≠ _; rw [add_block]; exact hn172_0) | exact hn172_0) (.int .i64 ((rd_T79 l0_6 x59_4).f0))).trans hx172_1; replace hx172_0 := (cell_far (p := ⟨gb171, 1, none⟩) (by first | (rw [add_block]; exact hn172_1) | (show (Addr.add _ _).block ≠ _; rw [add_block]; exact hn172_1) | exact hn172_1) (.int .i64 ((rd_T79 l0_6 x59_4).f1))).trans hx172_0; replace hx172_1 := (cell_far (p := ⟨gb171, 1, none⟩) (by first | (rw [add_block]; exact hn172_1) | (show (Addr.add _ _).block ≠ _; rw [add_block]; exact hn172_1) | exact hn172_1) (.int .i64 ((rd_T79 l0_6 x59_4).f1))).trans hx172_1; (try have hy172_0 := fun (n_ : Nat) => (show ((((w76.drewN n_).setCell ⟨gb171, 0, none⟩ (.int .i64 ((rd_T79 l0_6 x59_4).f0))).setCell ⟨gb171, 1, none⟩ (.int .i64 ((rd_T79 l0_6 x59_4).f1)))).cell? _ = some _ from hx172_0)); (try have hy172_1 := fun (n_ : Nat) => (show ((((w76.drewN n_).setCell ⟨gb171, 0, none⟩ (.int .i64 ((rd_T79 l0_6 x59_4).f0))).setCell ⟨gb171, 1, none⟩ (.int .i64 ((rd_T79 l0_6 x59_4).f1)))).cell? _ = some _ from hx172_1)); clear hn172_0; clear hn172_1; replace p172 := eq_true p172; replace q172 := eq_true q172)))
                                              go_ret
                                              exact ⟨by first | rfl | (simp [errW_none, errW_some] <;> rfl) | (simp only [← hji72]; first | rfl | (simp [errW_none, errW_some] <;> rfl)) | (simp [*, errW_none, errW_some] <;> rfl), by repeat (first | (with_reducible first | exact HB.out | apply below_alloc | apply pw_below_drewN | apply below_drew1 | refine below_set ?_ GE168.out | refine below_set ?_ GE169.out | refine below_set ?_ GE171.out) | exact HB.out)⟩
                                            · rw [if_neg c75] at H
                                              have c75b0 : decide (((rd_T79 l0_6 x59_4).f0) ≤ ((rd_T79 l0_6 (ji72)).f0)) = false := decide_eq_false c75
                                              clear c75
                                              have H' := Aside0.mk H
                                              clear H
                                              have p170 : 0 ≤ (x59_4 : Int) := of_decide_eq_true (by first | (with_reducible assumption) | assumption)
                                              have q170 : x59_4 < (l0_6.length : Int) := of_decide_eq_true (by first | (with_reducible assumption) | assumption)
                                              obtain ⟨ad170, e170, hx170_0, hx170_1⟩ := at_T79 HR0_6.out x59_4 p170 q170
                                              cases e170
                                              replace hx170_0 := (HB.out.cell (World.block_lt_of_cell? w _ hx170_0)).trans hx170_0
                                              replace hx170_1 := (HB.out.cell (World.block_lt_of_cell? w _ hx170_1)).trans hx170_1
                                              replace p170 := eq_true p170
                                              replace q170 := eq_true q170
                                              go_wp2_with (first | ((with_reducible refine gate_dst (N := 5) rfl ?_); (try (refine gate_guard (by rfl) ?_; dsimp only)); refine box_event ?hg (N := 5) ?hd (cs := #[.int .i64 0, .int .i64 0]) (t := 79) ?hr ?_; (case hd => rfl); (case hg => rfl); (case hr => first | (go_simp; done) | (go_simp; rfl)); intro gb171 hg w82 hbox hb; have n0_ := Aside0.mk (blk_below (g := gb168) (o := .cells #[.int .i64 a0_0, .int .i64 a0_1, .int .i64 a0_2, .int .i64 a0_3, .int .i64 a0_4, .int .i64 a0_5, .slice (some ad170) l0_6.length c0_6] 101 (0, 0)) (by (with_reducible repeat (first | refine blk_drewN ?_ _ | refine blk_drew ?_ | refine blk_alloc ?_ _)); exact BK168.out) hb); have n1_ := Aside0.mk (blk_below (g := gb169) (o := .cells #[.int .i64 a0_2, .int .i64 a0_3, .int .i64 a0_4, .int .i64 a0_5, .slice (some ad170) l0_6.length c0_6] 45 (0, 0)) (by (with_reducible repeat (first | refine blk_drewN ?_ _ | refine blk_drew ?_ | refine blk_alloc ?_ _)); exact BK169.out) hb); have n2_ := Aside0.mk (below_step (by repeat (first | (with_reducible first | exact HB.out | apply below_alloc | apply pw_below_drewN | apply below_drew1 | refine below_set ?_ GE168.out | refine below_set ?_ GE169.out) | exact HB.out)) hb); have n3_ := Aside0.mk (hbox); have n4_ := Aside0.mk ((by rw [hg]; exact (below_size (by repeat (first | (with_reducible first | exact HB.out | apply below_alloc | apply pw_below_drewN | apply below_drew1 | refine below_set ?_ GE168.out | refine below_set ?_ GE169.out) | exact HB.out))) : w.heap.size ≤ gb171)); have n5_ := Aside0.mk ((by rw [hg]; exact (below_size (by repeat (first | (with_reducible first | exact HB.out | apply below_alloc | apply pw_below_drewN | apply below_drew1 | refine below_set ?_ GE168.out | refine below_set ?_ GE169.out) | exact HB.out))) : w.heap.size ≤ gb171)); have n6_ := Aside0.mk ((by rw [hg]; exact Nat.ne_of_lt (blk_lt (g := gb168) (o := .cells #[.int .i64 a0_0, .int .i64 a0_1, .int .i64 a0_2, .int .i64 a0_3, .int .i64 a0_4, .int .i64 a0_5, .slice (some ad170) l0_6.length c0_6] 101 (0, 0)) (by (with_reducible repeat (first | refine blk_drewN ?_ _ | refine blk_drew ?_ | refine blk_alloc ?_ _)); exact BK168.out)) : gb168 ≠ gb171)); have n7_ := Aside0.mk ((by rw [hg]; exact Nat.ne_of_gt (blk_lt (g := gb168) (o := .cells #[.int .i64 a0_0, .int .i64 a0_1, .int .i64 a0_2, .int .i64 a0_3, .int .i64 a0_4, .int .i64 a0_5, .slice (some ad170) l0_6.length c0_6] 101 (0, 0)) (by (with_reducible repeat (first | refine blk_drewN ?_ _ | refine blk_drew ?_ | refine blk_alloc ?_ _)); exact BK168.out)) : gb171 ≠ gb168)); have n8_ := Aside0.mk ((by rw [hg]; exact Nat.ne_of_lt (blk_lt (g := gb169) (o := .cells #[.int .i64 a0_2, .int .i64 a0_3, .int .i64 a0_4, .int .i64 a0_5, .slice (some ad170) l0_6.length c0_6] 45 (0, 0)) (by (with_reducible repeat (first | refine blk_drewN ?_ _ | refine blk_drew ?_ | refine blk_alloc ?_ _)); exact BK169.out)) : gb169 ≠ gb171)); have n9_ := Aside0.mk ((by rw [hg]; exact Nat.ne_of_gt (blk_lt (g := gb169) (o := .cells #[.int .i64 a0_2, .int .i64 a0_3, .int .i64 a0_4, .int .i64 a0_5, .slice (some ad170) l0_6.length c0_6] 45 (0, 0)) (by (with_reducible repeat (first | refine blk_drewN ?_ _ | refine blk_drew ?_ | refine blk_alloc ?_ _)); exact BK169.out)) : gb171 ≠ gb169)); clear BK168; clear BK169; clear HB; have BK168 := n0_; have BK169 := n1_; have HB := n2_; have BK171 := n3_; have GW171 := n4_; have GE171 := n5_; have NB168_171 := n6_; have NB171_168 := n7_; have NB169_171 := n8_; have NB171_169 := n9_; clear n0_ n1_ n2_ n3_ n4_ n5_ n6_ n7_ n8_ n9_; clear hb hbox hg; have hnb83 := NB171_168.out; have hnc83 := NB168_171.out; have hnb84 := NB171_169.out; have hnc84 := NB169_171.out; have hcz85_0 : w82.cell? ⟨gb171, 0, none⟩ = some (.int .i64 0) := (blk_cell BK171.out 0).trans rfl; have hcz85_1 : w82.cell? ⟨gb171, 1, none⟩ = some (.int .i64 0) := (blk_cell BK171.out 1).trans rfl; have hfz85_0 := blk_frozen BK171.out 0; have hfz85_1 := blk_frozen BK171.out 1; have hnb86 := NB169_168.out; have hnc86 := NB168_169.out; have hcz87_0 : w82.cell? ⟨gb169, 0, none⟩ = some (.int .i64 a0_2) := (blk_cell BK169.out 0).trans rfl; have hcz87_1 : w82.cell? ⟨gb169, 1, none⟩ = some (.int .i64 a0_3) := (blk_cell BK169.out 1).trans rfl; have hcz87_2 : w82.cell? ⟨gb169, 2, none⟩ = some (.int .i64 a0_4) := (blk_cell BK169.out 2).trans rfl; have hcz87_3 : w82.cell? ⟨gb169, 3, none⟩ = some (.int .i64 a0_5) := (blk_cell BK169.out 3).trans rfl; have hcz87_4 : w82.cell? ⟨gb169, 4, none⟩ = some (.slice (some ad170) l0_6.length c0_6) := (blk_cell BK169.out 4).trans rfl; have hfz87_0 := blk_frozen BK169.out 0; have hfz87_1 := blk_frozen BK169.out 1; have hfz87_2 := blk_frozen BK169.out 2; have hfz87_3 := blk_frozen BK169.out 3; have hfz87_4 := blk_frozen BK169.out 4; have p172 : 0 ≤ ((ji72) : Int) := of_decide_eq_true (by first | (with_reducible assumption) | assumption); have q172 : (ji72) < (l0_6.length : Int) := of_decide_eq_true (by first | (with_reducible assumption) | assumption); obtain ⟨ad172, e172, hx172_0, hx172_1⟩ := at_T79 HR0_6.out (ji72) p172 q172; obtain rfl : ad170 = ad172 := (by injection e172); have hn172_0 : ad170.block ≠ gb171 := Nat.ne_of_lt (Nat.lt_of_lt_of_le (by have := World.block_lt_of_cell? _ _ hx172_0; first | rwa [add_block] at this | exact this) GW171.out); have hn172_1 : ad170.block ≠ gb171 := Nat.ne_of_lt (Nat.lt_of_lt_of_le (by have := World.block_lt_of_cell? _ _ hx172_0; first | rwa [add_block] at this | exact this) GW171.out); replace hx172_0 := (HB.out.cell (World.block_lt_of_cell? w _ hx172_0)).trans hx172_0; replace hx172_1 := (HB.out.cell (World.block_lt_of_cell? w _ hx172_1)).trans hx172_1; replace hx172_0 := (cell_far (p := ⟨gb171, 0, none⟩) (by first | (rw [add_block]; exact hn172_0) | (show (Addr.add _ _).block ≠ _; rw [add_block]; exact hn172_0) | exact hn172_0) (.int .i64 ((rd_T79 l0_6 x59_4).f0))).trans hx172_0; replace hx172_1 := (cell_far (p := ⟨gb171, 0, none⟩) (by first | (rw [add_block]; exact hn172_0) | (show (Addr.add _ _).block ≠ _; rw [add_block]; exact hn172_0) | exact hn172_0) (.int .i64 ((rd_T79 l0_6 x59_4).f0))).trans hx172_1; replace hx172_0 := (cell_far (p := ⟨gb171, 1, none⟩) (by first | (rw [add_block]; exact hn172_1) | (show (Addr.add _ _).block ≠ _; rw [add_block]; exact hn172_1) | exact hn172_1) (.int .i64 ((rd_T79 l0_6 x59_4).f1))).trans hx172_0; replace hx172_1 := (cell_far (p := ⟨gb171, 1, none⟩) (by first | (rw [add_block]; exact hn172_1) | (show (Addr.add _ _).block ≠ _; rw [add_block]; exact hn172_1) | exact hn172_1) (.int .i64 ((rd_T79 l0_6 x59_4).f1))).trans hx172_1; (try have hy172_0 := fun (n_ : Nat) => (show ((((w82.drewN n_).setCell ⟨gb171, 0, none⟩ (.int .i64 ((rd_T79 l0_6 x59_4).f0))).setCell ⟨gb171, 1, none⟩ (.int .i64 ((rd_T79 l0_6 x59_4).f1)))).cell? _ = some _ from hx172_0)); (try have hy172_1 := fun (n_ : Nat) => (show ((((w82.drewN n_).setCell ⟨gb171, 0, none⟩ (.int .i64 ((rd_T79 l0_6 x59_4).f0))).setCell ⟨gb171, 1, none⟩ (.int .i64 ((rd_T79 l0_6 x59_4).f1)))).cell? _ = some _ from hx172_1)); clear hn172_0; clear hn172_1; replace p172 := eq_true p172; replace q172 := eq_true q172))
                                              repeat (go_quiet (first | ((with_reducible refine gate_dst (N := 5) rfl ?_); (try (refine gate_guard (by rfl) ?_; dsimp only)); refine box_event ?hg (N := 5) ?hd (cs := #[.int .i64 0, .int .i64 0]) (t := 79) ?hr ?_; (case hd => rfl); (case hg => rfl); (case hr => first | (go_simp; done) | (go_simp; rfl)); intro gb171 hg w82 hbox hb; have n0_ := Aside0.mk (blk_below (g := gb168) (o := .cells #[.int .i64 a0_0, .int .i64 a0_1, .int .i64 a0_2, .int .i64 a0_3, .int .i64 a0_4, .int .i64 a0_5, .slice (some ad170) l0_6.length c0_6] 101 (0, 0)) (by (with_reducible repeat (first | refine blk_drewN ?_ _ | refine blk_drew ?_ | refine blk_alloc ?_ _)); exact BK168.out) hb); have n1_ := Aside0.mk (blk_below (g := gb169) (o := .cells #[.int .i64 a0_2, .int .i64 a0_3, .int .i64 a0_4, .int .i64 a0_5, .slice (some ad170) l0_6.length c0_6] 45 (0, 0)) (by (with_reducible repeat (first | refine blk_drewN ?_ _ | refine blk_drew ?_ | refine blk_alloc ?_ _)); exact BK169.out) hb); have n2_ := Aside0.mk (below_step (by repeat (first | (with_reducible first | exact HB.out | apply below_alloc | apply pw_below_drewN | apply below_drew1 | refine below_set ?_ GE168.out | refine below_set ?_ GE169.out) | exact HB.out)) hb); have n3_ := Aside0.mk (hbox); have n4_ := Aside0.mk ((by rw [hg]; exact (below_size (by repeat (first | (with_reducible first | exact HB.out | apply below_alloc | apply pw_below_drewN | apply below_drew1 | refine below_set ?_ GE168.out | refine below_set ?_ GE169.out) | exact HB.out))) : w.heap.size ≤ gb171)); have n5_ := Aside0.mk ((by rw [hg]; exact (below_size (by repeat (first | (with_reducible first | exact HB.out | apply below_alloc | apply pw_below_drewN | apply below_drew1 | refine below_set ?_ GE168.out | refine below_set ?_ GE169.out) | exact HB.out))) : w.heap.size ≤ gb171)); have n6_ := Aside0.mk ((by rw [hg]; exact Nat.ne_of_lt (blk_lt (g := gb168) (o := .cells #[.int .i64 a0_0, .int .i64 a0_1, .int .i64 a0_2, .int .i64 a0_3, .int .i64 a0_4, .int .i64 a0_5, .slice (some ad170) l0_6.length c0_6] 101 (0, 0)) (by (with_reducible repeat (first | refine blk_drewN ?_ _ | refine blk_drew ?_ | refine blk_alloc ?_ _)); exact BK168.out)) : gb168 ≠ gb171)); have n7_ := Aside0.mk ((by rw [hg]; exact Nat.ne_of_gt (blk_lt (g := gb168) (o := .cells #[.int .i64 a0_0, .int .i64 a0_1, .int .i64 a0_2, .int .i64 a0_3, .int .i64 a0_4, .int .i64 a0_5, .slice (some ad170) l0_6.length c0_6] 101 (0, 0)) (by (with_reducible repeat (first | refine blk_drewN ?_ _ | refine blk_drew ?_ | refine blk_alloc ?_ _)); exact BK168.out)) : gb171 ≠ gb168)); have n8_ := Aside0.mk ((by rw [hg]; exact Nat.ne_of_lt (blk_lt (g := gb169) (o := .cells #[.int .i64 a0_2, .int .i64 a0_3, .int .i64 a0_4, .int .i64 a0_5, .slice (some ad170) l0_6.length c0_6] 45 (0, 0)) (by (with_reducible repeat (first | refine blk_drewN ?_ _ | refine blk_drew ?_ | refine blk_alloc ?_ _)); exact BK169.out)) : gb169 ≠ gb171)); have n9_ := Aside0.mk ((by rw [hg]; exact Nat.ne_of_gt (blk_lt (g := gb169) (o := .cells #[.int .i64 a0_2, .int .i64 a0_3, .int .i64 a0_4, .int .i64 a0_5, .slice (some ad170) l0_6.length c0_6] 45 (0, 0)) (by (with_reducible repeat (first | refine blk_drewN ?_ _ | refine blk_drew ?_ | refine blk_alloc ?_ _)); exact BK169.out)) : gb171 ≠ gb169)); clear BK168; clear BK169; clear HB; have BK168 := n0_; have BK169 := n1_; have HB := n2_; have BK171 := n3_; have GW171 := n4_; have GE171 := n5_; have NB168_171 := n6_; have NB171_168 := n7_; have NB169_171 := n8_; have NB171_169 := n9_; clear n0_ n1_ n2_ n3_ n4_ n5_ n6_ n7_ n8_ n9_; clear hb hbox hg; have hnb83 := NB171_168.out; have hnc83 := NB168_171.out; have hnb84 := NB171_169.out; have hnc84 := NB169_171.out; have hcz85_0 : w82.cell? ⟨gb171, 0, none⟩ = some (.int .i64 0) := (blk_cell BK171.out 0).trans rfl; have hcz85_1 : w82.cell? ⟨gb171, 1, none⟩ = some (.int .i64 0) := (blk_cell BK171.out 1).trans rfl; have hfz85_0 := blk_frozen BK171.out 0; have hfz85_1 := blk_frozen BK171.out 1; have hnb86 := NB169_168.out; have hnc86 := NB168_169.out; have hcz87_0 : w82.cell? ⟨gb169, 0, none⟩ = some (.int .i64 a0_2) := (blk_cell BK169.out 0).trans rfl; have hcz87_1 : w82.cell? ⟨gb169, 1, none⟩ = some (.int .i64 a0_3) := (blk_cell BK169.out 1).trans rfl; have hcz87_2 : w82.cell? ⟨gb169, 2, none⟩ = some (.int .i64 a0_4) := (blk_cell BK169.out 2).trans rfl; have hcz87_3 : w82.cell? ⟨gb169, 3, none⟩ = some (.int .i64 a0_5) := (blk_cell BK169.out 3).trans rfl; have hcz87_4 : w82.cell? ⟨gb169, 4, none⟩ = some (.slice (some ad170) l0_6.length c0_6) := (blk_cell BK169.out 4).trans rfl; have hfz87_0 := blk_frozen BK169.out 0; have hfz87_1 := blk_frozen BK169.out 1; have hfz87_2 := blk_frozen BK169.out 2; have hfz87_3 := blk_frozen BK169.out 3; have hfz87_4 := blk_frozen BK169.out 4; have p172 : 0 ≤ ((ji72) : Int) := of_decide_eq_true (by first | (with_reducible assumption) | assumption); have q172 : (ji72) < (l0_6.length : Int) := of_decide_eq_true (by first | (with_reducible assumption) | assumption); obtain ⟨ad172, e172, hx172_0, hx172_1⟩ := at_T79 HR0_6.out (ji72) p172 q172; obtain rfl : ad170 = ad172 := (by injection e172); have hn172_0 : ad170.block ≠ gb171 := Nat.ne_of_lt (Nat.lt_of_lt_of_le (by have := World.block_lt_of_cell? _ _ hx172_0; first | rwa [add_block] at this | exact this) GW171.out); have hn172_1 : ad170.block ≠ gb171 := Nat.ne_of_lt (Nat.lt_of_lt_of_le (by have := World.block_lt_of_cell? _ _ hx172_0; first | rwa [add_block] at this | exact this) GW171.out); replace hx172_0 := (HB.out.cell (World.block_lt_of_cell? w _ hx172_0)).trans hx172_0; replace hx172_1 := (HB.out.cell (World.block_lt_of_cell? w _ hx172_1)).trans hx172_1; replace hx172_0 := (cell_far (p := ⟨gb171, 0, none⟩) (by first | (rw [add_block]; exact hn172_0) | (show (Addr.add _ _).block ≠ _; rw [add_block]; exact hn172_0) | exact hn172_0) (.int .i64 ((rd_T79 l0_6 x59_4).f0))).trans hx172_0; replace hx172_1 := (cell_far (p := ⟨gb171, 0, none⟩) (by first | (rw [add_block]; exact hn172_0) | (show (Addr.add _ _).block ≠ _; rw [add_block]; exact hn172_0) | exact hn172_0) (.int .i64 ((rd_T79 l0_6 x59_4).f0))).trans hx172_1; replace hx172_0 := (cell_far (p := ⟨gb171, 1, none⟩) (by first | (rw [add_block]; exact hn172_1) | (show (Addr.add _ _).block ≠ _; rw [add_block]; exact hn172_1) | exact hn172_1) (.int .i64 ((rd_T79 l0_6 x59_4).f1))).trans hx172_0; replace hx172_1 := (cell_far (p := ⟨gb171, 1, none⟩) (by first | (rw [add_block]; exact hn172_1) | (show (Addr.add _ _).block ≠ _; rw [add_block]; exact hn172_1) | exact hn172_1) (.int .i64 ((rd_T79 l0_6 x59_4).f1))).trans hx172_1; (try have hy172_0 := fun (n_ : Nat) => (show ((((w82.drewN n_).setCell ⟨gb171, 0, none⟩ (.int .i64 ((rd_T79 l0_6 x59_4).f0))).setCell ⟨gb171, 1, none⟩ (.int .i64 ((rd_T79 l0_6 x59_4).f1)))).cell? _ = some _ from hx172_0)); (try have hy172_1 := fun (n_ : Nat) => (show ((((w82.drewN n_).setCell ⟨gb171, 0, none⟩ (.int .i64 ((rd_T79 l0_6 x59_4).f0))).setCell ⟨gb171, 1, none⟩ (.int .i64 ((rd_T79 l0_6 x59_4).f1)))).cell? _ = some _ from hx172_1)); clear hn172_0; clear hn172_1; replace p172 := eq_true p172; replace q172 := eq_true q172)); try go_wp2_with (first | ((with_reducible refine gate_dst (N := 5) rfl ?_); (try (refine gate_guard (by rfl) ?_; dsimp only)); refine box_event ?hg (N := 5) ?hd (cs := #[.int .i64 0, .int .i64 0]) (t := 79) ?hr ?_; (case hd => rfl); (case hg => rfl); (case hr => first | (go_simp; done) | (go_simp; rfl)); intro gb171 hg w82 hbox hb; have n0_ := Aside0.mk (blk_below (g := gb168) (o := .cells #[.int .i64 a0_0, .int .i64 a0_1, .int .i64 a0_2, .int .i64 a0_3, .int .i64 a0_4, .int .i64 a0_5, .slice (some ad170) l0_6.length c0_6] 101 (0, 0)) (by (with_reducible repeat (first | refine blk_drewN ?_ _ | refine blk_drew ?_ | refine blk_alloc ?_ _)); exact BK168.out) hb); have n1_ := Aside0.mk (blk_below (g := gb169) (o := .cells #[.int .i64 a0_2, .int .i64 a0_3, .int .i64 a0_4, .int .i64 a0_5, .slice (some ad170) l0_6.length c0_6] 45 (0, 0)) (by (with_reducible repeat (first | refine blk_drewN ?_ _ | refine blk_drew ?_ | refine blk_alloc ?_ _)); exact BK169.out) hb); have n2_ := Aside0.mk (below_step (by repeat (first | (with_reducible first | exact HB.out | apply below_alloc | apply pw_below_drewN | apply below_drew1 | refine below_set ?_ GE168.out | refine below_set ?_ GE169.out) | exact HB.out)) hb); have n3_ := Aside0.mk (hbox); have n4_ := Aside0.mk ((by rw [hg]; exact (below_size (by repeat (first | (with_reducible first | exact HB.out | apply below_alloc | apply pw_below_drewN | apply below_drew1 | refine below_set ?_ GE168.out | refine below_set ?_ GE169.out) | exact HB.out))) : w.heap.size ≤ gb171)); have n5_ := Aside0.mk ((by rw [hg]; exact (below_size (by repeat (first | (with_reducible first | exact HB.out | apply below_alloc | apply pw_below_drewN | apply below_drew1 | refine below_set ?_ GE168.out | refine below_set ?_ GE169.out) | exact HB.out))) : w.heap.size ≤ gb171)); have n6_ := Aside0.mk ((by rw [hg]; exact Nat.ne_of_lt (blk_lt (g := gb168) (o := .cells #[.int .i64 a0_0, .int .i64 a0_1, .int .i64 a0_2, .int .i64 a0_3, .int .i64 a0_4, .int .i64 a0_5, .slice (some ad170) l0_6.length c0_6] 101 (0, 0)) (by (with_reducible repeat (first | refine blk_drewN ?_ _ | refine blk_drew ?_ | refine blk_alloc ?_ _)); exact BK168.out)) : gb168 ≠ gb171)); have n7_ := Aside0.mk ((by rw [hg]; exact Nat.ne_of_gt (blk_lt (g := gb168) (o := .cells #[.int .i64 a0_0, .int .i64 a0_1, .int .i64 a0_2, .int .i64 a0_3, .int .i64 a0_4, .int .i64 a0_5, .slice (some ad170) l0_6.length c0_6] 101 (0, 0)) (by (with_reducible repeat (first | refine blk_drewN ?_ _ | refine blk_drew ?_ | refine blk_alloc ?_ _)); exact BK168.out)) : gb171 ≠ gb168)); have n8_ := Aside0.mk ((by rw [hg]; exact Nat.ne_of_lt (blk_lt (g := gb169) (o := .cells #[.int .i64 a0_2, .int .i64 a0_3, .int .i64 a0_4, .int .i64 a0_5, .slice (some ad170) l0_6.length c0_6] 45 (0, 0)) (by (with_reducible repeat (first | refine blk_drewN ?_ _ | refine blk_drew ?_ | refine blk_alloc ?_ _)); exact BK169.out)) : gb169 ≠ gb171)); have n9_ := Aside0.mk ((by rw [hg]; exact Nat.ne_of_gt (blk_lt (g := gb169) (o := .cells #[.int .i64 a0_2, .int .i64 a0_3, .int .i64 a0_4, .int .i64 a0_5, .slice (some ad170) l0_6.length c0_6] 45 (0, 0)) (by (with_reducible repeat (first | refine blk_drewN ?_ _ | refine blk_drew ?_ | refine blk_alloc ?_ _)); exact BK169.out)) : gb171 ≠ gb169)); clear BK168; clear BK169; clear HB; have BK168 := n0_; have BK169 := n1_; have HB := n2_; have BK171 := n3_; have GW171 := n4_; have GE171 := n5_; have NB168_171 := n6_; have NB171_168 := n7_; have NB169_171 := n8_; have NB171_169 := n9_; clear n0_ n1_ n2_ n3_ n4_ n5_ n6_ n7_ n8_ n9_; clear hb hbox hg; have hnb83 := NB171_168.out; have hnc83 := NB168_171.out; have hnb84 := NB171_169.out; have hnc84 := NB169_171.out; have hcz85_0 : w82.cell? ⟨gb171, 0, none⟩ = some (.int .i64 0) := (blk_cell BK171.out 0).trans rfl; have hcz85_1 : w82.cell? ⟨gb171, 1, none⟩ = some (.int .i64 0) := (blk_cell BK171.out 1).trans rfl; have hfz85_0 := blk_frozen BK171.out 0; have hfz85_1 := blk_frozen BK171.out 1; have hnb86 := NB169_168.out; have hnc86 := NB168_169.out; have hcz87_0 : w82.cell? ⟨gb169, 0, none⟩ = some (.int .i64 a0_2) := (blk_cell BK169.out 0).trans rfl; have hcz87_1 : w82.cell? ⟨gb169, 1, none⟩ = some (.int .i64 a0_3) := (blk_cell BK169.out 1).trans rfl; have hcz87_2 : w82.cell? ⟨gb169, 2, none⟩ = some (.int .i64 a0_4) := (blk_cell BK169.out 2).trans rfl; have hcz87_3 : w82.cell? ⟨gb169, 3, none⟩ = some (.int .i64 a0_5) := (blk_cell BK169.out 3).trans rfl; have hcz87_4 : w82.cell? ⟨gb169, 4, none⟩ = some (.slice (some ad170) l0_6.length c0_6) := (blk_cell BK169.out 4).trans rfl; have hfz87_0 := blk_frozen BK169.out 0; have hfz87_1 := blk_frozen BK169.out 1; have hfz87_2 := blk_frozen BK169.out 2; have hfz87_3 := blk_frozen BK169.out 3; have hfz87_4 := blk_frozen BK169.out 4; have p172 : 0 ≤ ((ji72) : Int) := of_decide_eq_true (by first | (with_reducible assumption) | assumption); have q172 : (ji72) < (l0_6.length : Int) := of_decide_eq_true (by first | (with_reducible assumption) | assumption); obtain ⟨ad172, e172, hx172_0, hx172_1⟩ := at_T79 HR0_6.out (ji72) p172 q172; obtain rfl : ad170 = ad172 := (by injection e172); have hn172_0 : ad170.block ≠ gb171 := Nat.ne_of_lt (Nat.lt_of_lt_of_le (by have := World.block_lt_of_cell? _ _ hx172_0; first | rwa [add_block] at this | exact this) GW171.out); have hn172_1 : ad170.block ≠ gb171 := Nat.ne_of_lt (Nat.lt_of_lt_of_le (by have := World.block_lt_of_cell? _ _ hx172_0; first | rwa [add_block] at this | exact this) GW171.out); replace hx172_0 := (HB.out.cell (World.block_lt_of_cell? w _ hx172_0)).trans hx172_0; replace hx172_1 := (HB.out.cell (World.block_lt_of_cell? w _ hx172_1)).trans hx172_1; replace hx172_0 := (cell_far (p := ⟨gb171, 0, none⟩) (by first | (rw [add_block]; exact hn172_0) | (show (Addr.add _ _).block ≠ _; rw [add_block]; exact hn172_0) | exact hn172_0) (.int .i64 ((rd_T79 l0_6 x59_4).f0))).trans hx172_0; replace hx172_1 := (cell_far (p := ⟨gb171, 0, none⟩) (by first | (rw [add_block]; exact hn172_0) | (show (Addr.add _ _).block ≠ _; rw [add_block]; exact hn172_0) | exact hn172_0) (.int .i64 ((rd_T79 l0_6 x59_4).f0))).trans hx172_1; replace hx172_0 := (cell_far (p := ⟨gb171, 1, none⟩) (by first | (rw [add_block]; exact hn172_1) | (show (Addr.add _ _).block ≠ _; rw [add_block]; exact hn172_1) | exact hn172_1) (.int .i64 ((rd_T79 l0_6 x59_4).f1))).trans hx172_0; replace hx172_1 := (cell_far (p := ⟨gb171, 1, none⟩) (by first | (rw [add_block]; exact hn172_1) | (show (Addr.add _ _).block ≠ _; rw [add_block]; exact hn172_1) | exact hn172_1) (.int .i64 ((rd_T79 l0_6 x59_4).f1))).trans hx172_1; (try have hy172_0 := fun (n_ : Nat) => (show ((((w82.drewN n_).setCell ⟨gb171, 0, none⟩ (.int .i64 ((rd_T79 l0_6 x59_4).f0))).setCell ⟨gb171, 1, none⟩ (.int .i64 ((rd_T79 l0_6 x59_4).f1)))).cell? _ = some _ from hx172_0)); (try have hy172_1 := fun (n_ : Nat) => (show ((((w82.drewN n_).setCell ⟨gb171, 0, none⟩ (.int .i64 ((rd_T79 l0_6 x59_4).f0))).setCell ⟨gb171, 1, none⟩ (.int .i64 ((rd_T79 l0_6 x59_4).f1)))).cell? _ = some _ from hx172_1)); clear hn172_0; clear hn172_1; replace p172 := eq_true p172; replace q172 := eq_true q172)))
                                              go_roundg k4
                                              case measure => have := HJ1.out; have := HJ19.out; have := HJ32.out; have := HK4.out; omega
                                              case rel => exact ⟨(wrap64 (x59_4 + 1)), (by first | rfl | (simp; done) | (simp [*]; done)), H', ⟨by have := HJ1.out; have := HJ19.out; have := HJ32.out; have := HK4.out; omega⟩, ⟨by (with_reducible repeat (first | refine blk_drewN ?_ _ | refine blk_drew ?_ | refine blk_alloc ?_ _)); refine blk_far ?_ NB168_171.out _; (with_reducible repeat (first | refine blk_drewN ?_ _ | refine blk_drew ?_ | refine blk_alloc ?_ _)); refine blk_far ?_ NB168_171.out _; (with_reducible repeat (first | refine blk_drewN ?_ _ | refine blk_drew ?_ | refine blk_alloc ?_ _)); exact BK168.out⟩, ⟨by (with_reducible repeat (first | refine blk_drewN ?_ _ | refine blk_drew ?_ | refine blk_alloc ?_ _)); refine blk_far ?_ NB169_171.out _; (with_reducible repeat (first | refine blk_drewN ?_ _ | refine blk_drew ?_ | refine blk_alloc ?_ _)); refine blk_far ?_ NB169_171.out _; (with_reducible repeat (first | refine blk_drewN ?_ _ | refine blk_drew ?_ | refine blk_alloc ?_ _)); exact BK169.out⟩, ⟨by repeat (first | (with_reducible first | exact HB.out | apply below_alloc | apply pw_below_drewN | apply below_drew1 | refine below_set ?_ GE168.out | refine below_set ?_ GE169.out | refine below_set ?_ GE171.out) | exact HB.out)⟩⟩
                                          · rw [if_neg c74] at H
                                            exact absurd H (by simp)
                                        · rw [if_neg c73] at H
                                          exact absurd H (by simp)
                                      · rw [if_neg c71] at H
                                        have c71b0 : decide (0 < x59_4) = false := decide_eq_false c71
                                        clear c71
                                        have H' := Aside0.mk H
                                        clear H
                                        have p170 : 0 ≤ (x59_4 : Int) := of_decide_eq_true (by first | (with_reducible assumption) | assumption)
                                        have q170 : x59_4 < (l0_6.length : Int) := of_decide_eq_true (by first | (with_reducible assumption) | assumption)
                                        obtain ⟨ad170, e170, hx170_0, hx170_1⟩ := at_T79 HR0_6.out x59_4 p170 q170
                                        cases e170
                                        replace hx170_0 := (HB.out.cell (World.block_lt_of_cell? w _ hx170_0)).trans hx170_0
                                        replace hx170_1 := (HB.out.cell (World.block_lt_of_cell? w _ hx170_1)).trans hx170_1
                                        replace p170 := eq_true p170
                                        replace q170 := eq_true q170
                                        go_wp2_with (first | ((with_reducible refine gate_dst (N := 5) rfl ?_); (try (refine gate_guard (by rfl) ?_; dsimp only)); refine box_event ?hg (N := 5) ?hd (cs := #[.int .i64 0, .int .i64 0]) (t := 79) ?hr ?_; (case hd => rfl); (case hg => rfl); (case hr => first | (go_simp; done) | (go_simp; rfl)); intro gb171 hg w88 hbox hb; have n0_ := Aside0.mk (blk_below (g := gb168) (o := .cells #[.int .i64 a0_0, .int .i64 a0_1, .int .i64 a0_2, .int .i64 a0_3, .int .i64 a0_4, .int .i64 a0_5, .slice (some ad170) l0_6.length c0_6] 101 (0, 0)) (by (with_reducible repeat (first | refine blk_drewN ?_ _ | refine blk_drew ?_ | refine blk_alloc ?_ _)); exact BK168.out) hb); have n1_ := Aside0.mk (blk_below (g := gb169) (o := .cells #[.int .i64 a0_2, .int .i64 a0_3, .int .i64 a0_4, .int .i64 a0_5, .slice (some ad170) l0_6.length c0_6] 45 (0, 0)) (by (with_reducible repeat (first | refine blk_drewN ?_ _ | refine blk_drew ?_ | refine blk_alloc ?_ _)); exact BK169.out) hb); have n2_ := Aside0.mk (below_step (by repeat (first | (with_reducible first | exact HB.out | apply below_alloc | apply pw_below_drewN | apply below_drew1 | refine below_set ?_ GE168.out | refine below_set ?_ GE169.out) | exact HB.out)) hb); have n3_ := Aside0.mk (hbox); have n4_ := Aside0.mk ((by rw [hg]; exact (below_size (by repeat (first | (with_reducible first | exact HB.out | apply below_alloc | apply pw_below_drewN | apply below_drew1 | refine below_set ?_ GE168.out | refine below_set ?_ GE169.out) | exact HB.out))) : w.heap.size ≤ gb171)); have n5_ := Aside0.mk ((by rw [hg]; exact (below_size (by repeat (first | (with_reducible first | exact HB.out | apply below_alloc | apply pw_below_drewN | apply below_drew1 | refine below_set ?_ GE168.out | refine below_set ?_ GE169.out) | exact HB.out))) : w.heap.size ≤ gb171)); have n6_ := Aside0.mk ((by rw [hg]; exact Nat.ne_of_lt (blk_lt (g := gb168) (o := .cells #[.int .i64 a0_0, .int .i64 a0_1, .int .i64 a0_2, .int .i64 a0_3, .int .i64 a0_4, .int .i64 a0_5, .slice (some ad170) l0_6.length c0_6] 101 (0, 0)) (by (with_reducible repeat (first | refine blk_drewN ?_ _ | refine blk_drew ?_ | refine blk_alloc ?_ _)); exact BK168.out)) : gb168 ≠ gb171)); have n7_ := Aside0.mk ((by rw [hg]; exact Nat.ne_of_gt (blk_lt (g := gb168) (o := .cells #[.int .i64 a0_0, .int .i64 a0_1, .int .i64 a0_2, .int .i64 a0_3, .int .i64 a0_4, .int .i64 a0_5, .slice (some ad170) l0_6.length c0_6] 101 (0, 0)) (by (with_reducible repeat (first | refine blk_drewN ?_ _ | refine blk_drew ?_ | refine blk_alloc ?_ _)); exact BK168.out)) : gb171 ≠ gb168)); have n8_ := Aside0.mk ((by rw [hg]; exact Nat.ne_of_lt (blk_lt (g := gb169) (o := .cells #[.int .i64 a0_2, .int .i64 a0_3, .int .i64 a0_4, .int .i64 a0_5, .slice (some ad170) l0_6.length c0_6] 45 (0, 0)) (by (with_reducible repeat (first | refine blk_drewN ?_ _ | refine blk_drew ?_ | refine blk_alloc ?_ _)); exact BK169.out)) : gb169 ≠ gb171)); have n9_ := Aside0.mk ((by rw [hg]; exact Nat.ne_of_gt (blk_lt (g := gb169) (o := .cells #[.int .i64 a0_2, .int .i64 a0_3, .int .i64 a0_4, .int .i64 a0_5, .slice (some ad170) l0_6.length c0_6] 45 (0, 0)) (by (with_reducible repeat (first | refine blk_drewN ?_ _ | refine blk_drew ?_ | refine blk_alloc ?_ _)); exact BK169.out)) : gb171 ≠ gb169)); clear BK168; clear BK169; clear HB; have BK168 := n0_; have BK169 := n1_; have HB := n2_; have BK171 := n3_; have GW171 := n4_; have GE171 := n5_; have NB168_171 := n6_; have NB171_168 := n7_; have NB169_171 := n8_; have NB171_169 := n9_; clear n0_ n1_ n2_ n3_ n4_ n5_ n6_ n7_ n8_ n9_; clear hb hbox hg; have hnb89 := NB171_168.out; have hnc89 := NB168_171.out; have hnb90 := NB171_169.out; have hnc90 := NB169_171.out; have hcz91_0 : w88.cell? ⟨gb171, 0, none⟩ = some (.int .i64 0) := (blk_cell BK171.out 0).trans rfl; have hcz91_1 : w88.cell? ⟨gb171, 1, none⟩ = some (.int .i64 0) := (blk_cell BK171.out 1).trans rfl; have hfz91_0 := blk_frozen BK171.out 0; have hfz91_1 := blk_frozen BK171.out 1; have hnb92 := NB169_168.out; have hnc92 := NB168_169.out; have hcz93_0 : w88.cell? ⟨gb169, 0, none⟩ = some (.int .i64 a0_2) := (blk_cell BK169.out 0).trans rfl; have hcz93_1 : w88.cell? ⟨gb169, 1, none⟩ = some (.int .i64 a0_3) := (blk_cell BK169.out 1).trans rfl; have hcz93_2 : w88.cell? ⟨gb169, 2, none⟩ = some (.int .i64 a0_4) := (blk_cell BK169.out 2).trans rfl; have hcz93_3 : w88.cell? ⟨gb169, 3, none⟩ = some (.int .i64 a0_5) := (blk_cell BK169.out 3).trans rfl; have hcz93_4 : w88.cell? ⟨gb169, 4, none⟩ = some (.slice (some ad170) l0_6.length c0_6) := (blk_cell BK169.out 4).trans rfl; have hfz93_0 := blk_frozen BK169.out 0; have hfz93_1 := blk_frozen BK169.out 1; have hfz93_2 := blk_frozen BK169.out 2; have hfz93_3 := blk_frozen BK169.out 3; have hfz93_4 := blk_frozen BK169.out 4))
                                        repeat (go_quiet (first | ((with_reducible refine gate_dst (N := 5) rfl ?_); (try (refine gate_guard (by rfl) ?_; dsimp only)); refine box_event ?hg (N := 5) ?hd (cs := #[.int .i64 0, .int .i64 0]) (t := 79) ?hr ?_; (case hd => rfl); (case hg => rfl); (case hr => first | (go_simp; done) | (go_simp; rfl)); intro gb171 hg w88 hbox hb; have n0_ := Aside0.mk (blk_below (g := gb168) (o := .cells #[.int .i64 a0_0, .int .i64 a0_1, .int .i64 a0_2, .int .i64 a0_3, .int .i64 a0_4, .int .i64 a0_5, .slice (some ad170) l0_6.length c0_6] 101 (0, 0)) (by (with_reducible repeat (first | refine blk_drewN ?_ _ | refine blk_drew ?_ | refine blk_alloc ?_ _)); exact BK168.out) hb); have n1_ := Aside0.mk (blk_below (g := gb169) (o := .cells #[.int .i64 a0_2, .int .i64 a0_3, .int .i64 a0_4, .int .i64 a0_5, .slice (some ad170) l0_6.length c0_6] 45 (0, 0)) (by (with_reducible repeat (first | refine blk_drewN ?_ _ | refine blk_drew ?_ | refine blk_alloc ?_ _)); exact BK169.out) hb); have n2_ := Aside0.mk (below_step (by repeat (first | (with_reducible first | exact HB.out | apply below_alloc | apply pw_below_drewN | apply below_drew1 | refine below_set ?_ GE168.out | refine below_set ?_ GE169.out) | exact HB.out)) hb); have n3_ := Aside0.mk (hbox); have n4_ := Aside0.mk ((by rw [hg]; exact (below_size (by repeat (first | (with_reducible first | exact HB.out | apply below_alloc | apply pw_below_drewN | apply below_drew1 | refine below_set ?_ GE168.out | refine below_set ?_ GE169.out) | exact HB.out))) : w.heap.size ≤ gb171)); have n5_ := Aside0.mk ((by rw [hg]; exact (below_size (by repeat (first | (with_reducible first | exact HB.out | apply below_alloc | apply pw_below_drewN | apply below_drew1 | refine below_set ?_ GE168.out | refine below_set ?_ GE169.out) | exact HB.out))) : w.heap.size ≤ gb171)); have n6_ := Aside0.mk ((by rw [hg]; exact Nat.ne_of_lt (blk_lt (g := gb168) (o := .cells #[.int .i64 a0_0, .int .i64 a0_1, .int .i64 a0_2, .int .i64 a0_3, .int .i64 a0_4, .int .i64 a0_5, .slice (some ad170) l0_6.length c0_6] 101 (0, 0)) (by (with_reducible repeat (first | refine blk_drewN ?_ _ | refine blk_drew ?_ | refine blk_alloc ?_ _)); exact BK168.out)) : gb168 ≠ gb171)); have n7_ := Aside0.mk ((by rw [hg]; exact Nat.ne_of_gt (blk_lt (g := gb168) (o := .cells #[.int .i64 a0_0, .int .i64 a0_1, .int .i64 a0_2, .int .i64 a0_3, .int .i64 a0_4, .int .i64 a0_5, .slice (some ad170) l0_6.length c0_6] 101 (0, 0)) (by (with_reducible repeat (first | refine blk_drewN ?_ _ | refine blk_drew ?_ | refine blk_alloc ?_ _)); exact BK168.out)) : gb171 ≠ gb168)); have n8_ := Aside0.mk ((by rw [hg]; exact Nat.ne_of_lt (blk_lt (g := gb169) (o := .cells #[.int .i64 a0_2, .int .i64 a0_3, .int .i64 a0_4, .int .i64 a0_5, .slice (some ad170) l0_6.length c0_6] 45 (0, 0)) (by (with_reducible repeat (first | refine blk_drewN ?_ _ | refine blk_drew ?_ | refine blk_alloc ?_ _)); exact BK169.out)) : gb169 ≠ gb171)); have n9_ := Aside0.mk ((by rw [hg]; exact Nat.ne_of_gt (blk_lt (g := gb169) (o := .cells #[.int .i64 a0_2, .int .i64 a0_3, .int .i64 a0_4, .int .i64 a0_5, .slice (some ad170) l0_6.length c0_6] 45 (0, 0)) (by (with_reducible repeat (first | refine blk_drewN ?_ _ | refine blk_drew ?_ | refine blk_alloc ?_ _)); exact BK169.out)) : gb171 ≠ gb169)); clear BK168; clear BK169; clear HB; have BK168 := n0_; have BK169 := n1_; have HB := n2_; have BK171 := n3_; have GW171 := n4_; have GE171 := n5_; have NB168_171 := n6_; have NB171_168 := n7_; have NB169_171 := n8_; have NB171_169 := n9_; clear n0_ n1_ n2_ n3_ n4_ n5_ n6_ n7_ n8_ n9_; clear hb hbox hg; have hnb89 := NB171_168.out; have hnc89 := NB168_171.out; have hnb90 := NB171_169.out; have hnc90 := NB169_171.out; have hcz91_0 : w88.cell? ⟨gb171, 0, none⟩ = some (.int .i64 0) := (blk_cell BK171.out 0).trans rfl; have hcz91_1 : w88.cell? ⟨gb171, 1, none⟩ = some (.int .i64 0) := (blk_cell BK171.out 1).trans rfl; have hfz91_0 := blk_frozen BK171.out 0; have hfz91_1 := blk_frozen BK171.out 1; have hnb92 := NB169_168.out; have hnc92 := NB168_169.out; have hcz93_0 : w88.cell? ⟨gb169, 0, none⟩ = some (.int .i64 a0_2) := (blk_cell BK169.out 0).trans rfl; have hcz93_1 : w88.cell? ⟨gb169, 1, none⟩ = some (.int .i64 a0_3) := (blk_cell BK169.out 1).trans rfl; have hcz93_2 : w88.cell? ⟨gb169, 2, none⟩ = some (.int .i64 a0_4) := (blk_cell BK169.out 2).trans rfl; have hcz93_3 : w88.cell? ⟨gb169, 3, none⟩ = some (.int .i64 a0_5) := (blk_cell BK169.out 3).trans rfl; have hcz93_4 : w88.cell? ⟨gb169, 4, none⟩ = some (.slice (some ad170) l0_6.length c0_6) := (blk_cell BK169.out 4).trans rfl; have hfz93_0 := blk_frozen BK169.out 0; have hfz93_1 := blk_frozen BK169.out 1; have hfz93_2 := blk_frozen BK169.out 2; have hfz93_3 := blk_frozen BK169.out 3; have hfz93_4 := blk_frozen BK169.out 4)); try go_wp2_with (first | ((with_reducible refine gate_dst (N := 5) rfl ?_); (try (refine gate_guard (by rfl) ?_; dsimp only)); refine box_event ?hg (N := 5) ?hd (cs := #[.int .i64 0, .int .i64 0]) (t := 79) ?hr ?_; (case hd => rfl); (case hg => rfl); (case hr => first | (go_simp; done) | (go_simp; rfl)); intro gb171 hg w88 hbox hb; have n0_ := Aside0.mk (blk_below (g := gb168) (o := .cells #[.int .i64 a0_0, .int .i64 a0_1, .int .i64 a0_2, .int .i64 a0_3, .int .i64 a0_4, .int .i64 a0_5, .slice (some ad170) l0_6.length c0_6] 101 (0, 0)) (by (with_reducible repeat (first | refine blk_drewN ?_ _ | refine blk_drew ?_ | refine blk_alloc ?_ _)); exact BK168.out) hb); have n1_ := Aside0.mk (blk_below (g := gb169) (o := .cells #[.int .i64 a0_2, .int .i64 a0_3, .int .i64 a0_4, .int .i64 a0_5, .slice (some ad170) l0_6.length c0_6] 45 (0, 0)) (by (with_reducible repeat (first | refine blk_drewN ?_ _ | refine blk_drew ?_ | refine blk_alloc ?_ _)); exact BK169.out) hb); have n2_ := Aside0.mk (below_step (by repeat (first | (with_reducible first | exact HB.out | apply below_alloc | apply pw_below_drewN | apply below_drew1 | refine below_set ?_ GE168.out | refine below_set ?_ GE169.out) | exact HB.out)) hb); have n3_ := Aside0.mk (hbox); have n4_ := Aside0.mk ((by rw [hg]; exact (below_size (by repeat (first | (with_reducible first | exact HB.out | apply below_alloc | apply pw_below_drewN | apply below_drew1 | refine below_set ?_ GE168.out | refine below_set ?_ GE169.out) | exact HB.out))) : w.heap.size ≤ gb171)); have n5_ := Aside0.mk ((by rw [hg]; exact (below_size (by repeat (first | (with_reducible first | exact HB.out | apply below_alloc | apply pw_below_drewN | apply below_drew1 | refine below_set ?_ GE168.out | refine below_set ?_ GE169.out) | exact HB.out))) : w.heap.size ≤ gb171)); have n6_ := Aside0.mk ((by rw [hg]; exact Nat.ne_of_lt (blk_lt (g := gb168) (o := .cells #[.int .i64 a0_0, .int .i64 a0_1, .int .i64 a0_2, .int .i64 a0_3, .int .i64 a0_4, .int .i64 a0_5, .slice (some ad170) l0_6.length c0_6] 101 (0, 0)) (by (with_reducible repeat (first | refine blk_drewN ?_ _ | refine blk_drew ?_ | refine blk_alloc ?_ _)); exact BK168.out)) : gb168 ≠ gb171)); have n7_ := Aside0.mk ((by rw [hg]; exact Nat.ne_of_gt (blk_lt (g := gb168) (o := .cells #[.int .i64 a0_0, .int .i64 a0_1, .int .i64 a0_2, .int .i64 a0_3, .int .i64 a0_4, .int .i64 a0_5, .slice (some ad170) l0_6.length c0_6] 101 (0, 0)) (by (with_reducible repeat (first | refine blk_drewN ?_ _ | refine blk_drew ?_ | refine blk_alloc ?_ _)); exact BK168.out)) : gb171 ≠ gb168)); have n8_ := Aside0.mk ((by rw [hg]; exact Nat.ne_of_lt (blk_lt (g := gb169) (o := .cells #[.int .i64 a0_2, .int .i64 a0_3, .int .i64 a0_4, .int .i64 a0_5, .slice (some ad170) l0_6.length c0_6] 45 (0, 0)) (by (with_reducible repeat (first | refine blk_drewN ?_ _ | refine blk_drew ?_ | refine blk_alloc ?_ _)); exact BK169.out)) : gb169 ≠ gb171)); have n9_ := Aside0.mk ((by rw [hg]; exact Nat.ne_of_gt (blk_lt (g := gb169) (o := .cells #[.int .i64 a0_2, .int .i64 a0_3, .int .i64 a0_4, .int .i64 a0_5, .slice (some ad170) l0_6.length c0_6] 45 (0, 0)) (by (with_reducible repeat (first | refine blk_drewN ?_ _ | refine blk_drew ?_ | refine blk_alloc ?_ _)); exact BK169.out)) : gb171 ≠ gb169)); clear BK168; clear BK169; clear HB; have BK168 := n0_; have BK169 := n1_; have HB := n2_; have BK171 := n3_; have GW171 := n4_; have GE171 := n5_; have NB168_171 := n6_; have NB171_168 := n7_; have NB169_171 := n8_; have NB171_169 := n9_; clear n0_ n1_ n2_ n3_ n4_ n5_ n6_ n7_ n8_ n9_; clear hb hbox hg; have hnb89 := NB171_168.out; have hnc89 := NB168_171.out; have hnb90 := NB171_169.out; have hnc90 := NB169_171.out; have hcz91_0 : w88.cell? ⟨gb171, 0, none⟩ = some (.int .i64 0) := (blk_cell BK171.out 0).trans rfl; have hcz91_1 : w88.cell? ⟨gb171, 1, none⟩ = some (.int .i64 0) := (blk_cell BK171.out 1).trans rfl; have hfz91_0 := blk_frozen BK171.out 0; have hfz91_1 := blk_frozen BK171.out 1; have hnb92 := NB169_168.out; have hnc92 := NB168_169.out; have hcz93_0 : w88.cell? ⟨gb169, 0, none⟩ = some (.int .i64 a0_2) := (blk_cell BK169.out 0).trans rfl; have hcz93_1 : w88.cell? ⟨gb169, 1, none⟩ = some (.int .i64 a0_3) := (blk_cell BK169.out 1).trans rfl; have hcz93_2 : w88.cell? ⟨gb169, 2, none⟩ = some (.int .i64 a0_4) := (blk_cell BK169.out 2).trans rfl; have hcz93_3 : w88.cell? ⟨gb169, 3, none⟩ = some (.int .i64 a0_5) := (blk_cell BK169.out 3).trans rfl; have hcz93_4 : w88.cell? ⟨gb169, 4, none⟩ = some (.slice (some ad170) l0_6.length c0_6) := (blk_cell BK169.out 4).trans rfl; have hfz93_0 := blk_frozen BK169.out 0; have hfz93_1 := blk_frozen BK169.out 1; have hfz93_2 := blk_frozen BK169.out 2; have hfz93_3 := blk_frozen BK169.out 3; have hfz93_4 := blk_frozen BK169.out 4)))
                                        go_roundg k4
                                        case measure => have := HJ1.out; have := HJ19.out; have := HJ32.out; have := HK4.out; omega
                                        case rel => exact ⟨(wrap64 (x59_4 + 1)), (by first | rfl | (simp; done) | (simp [*]; done)), H', ⟨by have := HJ1.out; have := HJ19.out; have := HJ32.out; have := HK4.out; omega⟩, ⟨by (with_reducible repeat (first | refine blk_drewN ?_ _ | refine blk_drew ?_ | refine blk_alloc ?_ _)); refine blk_far ?_ NB168_171.out _; (with_reducible repeat (first | refine blk_drewN ?_ _ | refine blk_drew ?_ | refine blk_alloc ?_ _)); refine blk_far ?_ NB168_171.out _; (with_reducible repeat (first | refine blk_drewN ?_ _ | refine blk_drew ?_ | refine blk_alloc ?_ _)); exact BK168.out⟩, ⟨by (with_reducible repeat (first | refine blk_drewN ?_ _ | refine blk_drew ?_ | refine blk_alloc ?_ _)); refine blk_far ?_ NB169_171.out _; (with_reducible repeat (first | refine blk_drewN ?_ _ | refine blk_drew ?_ | refine blk_alloc ?_ _)); refine blk_far ?_ NB169_171.out _; (with_reducible repeat (first | refine blk_drewN ?_ _ | refine blk_drew ?_ | refine blk_alloc ?_ _)); exact BK169.out⟩, ⟨by repeat (first | (with_reducible first | exact HB.out | apply below_alloc | apply pw_below_drewN | apply below_drew1 | refine below_set ?_ GE168.out | refine below_set ?_ GE169.out | refine below_set ?_ GE171.out) | exact HB.out)⟩⟩
                            · rw [if_neg c44] at H
                              exact absurd H (by simp)
                          · rw [if_neg c43] at H
                            exact absurd H (by simp)
                        · rw [if_neg c42] at H
                          have c42b0 : decide (x59_4 < (l0_6.length : Int)) = false := decide_eq_false c42
                          clear c42
                          obtain rfl := Option.some.inj H
                          go_wp2
                          repeat (go_quiet (fail); try go_wp2)
                          go_ret
                          exact ⟨by first | rfl | (simp [errW_none, errW_some] <;> rfl) | (simp [*, errW_none, errW_some] <;> rfl), by repeat (first | (with_reducible first | exact HB.out | apply below_alloc | apply pw_below_drewN | apply below_drew1 | refine below_set ?_ GE168.out | refine below_set ?_ GE169.out) | exact HB.out)⟩

end Go.Proofs.YtnkgclcmjojeiaaDoor.PFnExactEncodeSuper
