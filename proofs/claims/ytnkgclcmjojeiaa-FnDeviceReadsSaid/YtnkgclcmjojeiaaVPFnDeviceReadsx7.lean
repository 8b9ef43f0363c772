-- Written by a program of this session (after the kit's print) out of the translation. Nothing here is trusted: Lean checks it.
import Derived.Test.YtnkgclcmjojeiaaVPFnDeviceReadsx0
import Derived.Test.YtnkgclcmjojeiaaVPFnDeviceReadsx2
import Derived.Test.YtnkgclcmjojeiaaVPFnDeviceReadsx5
import Derived.Test.YtnkgclcmjojeiaaVPFnDeviceReadsx6
namespace Go.Proofs.Ytnkgclcmjojeiaa.PFnDeviceReads
open Go.RowKit Go.Proofs.YtnkgclcmjojeiaaW.PrintWords Go.Proofs.YtnkgclcmjojeiaaW.PrintLast Go.Proofs.YtnkgclcmjojeiaaW.PrintMore
attribute [local go_sem] max2_int min2_int max_two min_two max_three min_three max_four min_four   -- for this text's walks alone
set_option linter.unusedVariables false
set_option linter.unusedSimpArgs false

/-! ### spec_DevWrite: function 5 -/
def spec_DevWrite.j0 : Nat → Int → List Int → Bool → Int → List Int → List (S32) → Int → List Int → List (S32) → Option (Int × List Int × (List (S32)) × Int)
  | 0, _, _, _, _, _, _, _, _, _ => none
  | k + 1, x1, x2, x22, x309000, x309001, x309002, x319000, x319001, x319002 => if x22 = true then (some (x319000, x319001, x319002, 2)) else (if (x2.length : Int) = 128 then (if (x309002.length : Int) ≥ 2048 then (some (x319000, x319001, x319002, 4)) else ((spec_l1Copy.f k x2).bind fun t319 => (if x319002.length < 4398046511104 then (some (x319000, x319001, (x319002 ++ [(⟨x1, t319⟩ : S32)]), 0)) else (none)))) else (some (x319000, x319001, x319002, 3)))
def spec_DevWrite.f (k : Nat) (a0_0 : Int) (l0_1 : List Int) (l0_2 : List (S32)) (a1 : Int) (l2 : List Int) : Option (Int × List Int × (List (S32)) × Int) := (spec_l1Valid.f k a0_0 l0_1 l0_2).bind fun t310 => (if t310 = true then ((spec_l1CopyDevice.f k a0_0 l0_1 l0_2).bind fun bt311 => (if a1 < 0 then (spec_DevWrite.j0 k a1 l2 true a0_0 l0_1 l0_2 bt311.1 bt311.2.1 bt311.2.2) else (spec_DevWrite.j0 k a1 l2 (decide (a1 ≥ a0_0)) a0_0 l0_1 l0_2 bt311.1 bt311.2.1 bt311.2.2))) else (some (0, ([] : List Int), ([] : List (S32)), 1)))
theorem spec_DevWrite.mono_l : ∀ k, (∀ y0 y1 y2 y3 y4 y5 y6 y7 y8, LeO (spec_DevWrite.j0 k y0 y1 y2 y3 y4 y5 y6 y7 y8) (spec_DevWrite.j0 (k + 1) y0 y1 y2 y3 y4 y5 y6 y7 y8))
  | 0 => fun _ _ _ _ _ _ _ _ _ r h => by simp [spec_DevWrite.j0] at h
  | k + 1 => by
    have ih0 := spec_DevWrite.mono_l k
    · intro y0 y1 y2 y3 y4 y5 y6 y7 y8
      unfold spec_DevWrite.j0
      repeat' first
      | (with_reducible exact ih0 _ _ _ _ _ _ _ _ _)
      | (with_reducible exact spec_l1Copy.mono _ _)
      | (with_reducible exact spec_l1CopyDevice.mono _ _ _ _)
      | (with_reducible exact spec_l1Valid.mono _ _ _ _)
      | (with_reducible exact LeO.refl _)
      | (with_reducible exact LeO.none _)
      | (with_reducible refine LeO.ite ?_ ?_)
      | (with_reducible refine LeO.bind ?_ (fun _ => ?_))
      | exact ih0 _ _ _ _ _ _ _ _ _
      | exact spec_l1Copy.mono _ _
      | exact spec_l1CopyDevice.mono _ _ _ _
      | exact spec_l1Valid.mono _ _ _ _
      | exact LeO.none _
      | refine LeO.ite ?_ ?_
      | refine LeO.bind ?_ (fun _ => ?_)
theorem spec_DevWrite.mono : ∀ a0 a1 a2 a3 a4 k, LeO (spec_DevWrite.f k a0 a1 a2 a3 a4) (spec_DevWrite.f (k + 1) a0 a1 a2 a3 a4) := by
  intro a0 a1 a2 a3 a4 k
  have ih0 := spec_DevWrite.mono_l k
  unfold spec_DevWrite.f
  repeat' first
      | (with_reducible exact ih0 _ _ _ _ _ _ _ _ _)
      | (with_reducible exact spec_l1Copy.mono _ _)
      | (with_reducible exact spec_l1CopyDevice.mono _ _ _ _)
      | (with_reducible exact spec_l1Valid.mono _ _ _ _)
      | (with_reducible exact LeO.refl _)
      | (with_reducible exact LeO.none _)
      | (with_reducible refine LeO.ite ?_ ?_)
      | (with_reducible refine LeO.bind ?_ (fun _ => ?_))
      | exact ih0 _ _ _ _ _ _ _ _ _
      | exact spec_l1Copy.mono _ _
      | exact spec_l1CopyDevice.mono _ _ _ _
      | exact spec_l1Valid.mono _ _ _ _
      | exact LeO.none _
      | refine LeO.ite ?_ ?_
      | refine LeO.bind ?_ (fun _ => ?_)
def spec_DevWrite.T10 : Bool × List (List Nat × List Nat) := (true, [([], []), ([0], [0]), ([], []), ([], []), ([3], [3]), ([2, 4], [2, 4]), ([5], [5]), ([1, 6, 4], [1, 6]), ([0, 1, 2, 3, 4, 5, 6, 7], []), ([8, 7, 7, 0, 1, 2, 3, 4, 5, 6, 7], [7, 8])])
def spec_DevWrite.B10 : List Nat := [0, 1, 0, 0, 8, 28, 60, 127, 255, 511]
theorem spec_DevWrite.tab10 : rtab .any (opsOf Try.f5 10) = spec_DevWrite.T10 := by kernel_rfl
theorem spec_DevWrite.bits10 : waitsOk spec_DevWrite.T10.2 spec_DevWrite.B10 = true := by kernel_rfl
set_option maxHeartbeats 8000000 in
set_option maxRecDepth 100000 in
theorem spec_DevWrite.calls (k : Nat) (a0_0 : Int) (A0_1 : Option Addr) (c0_1 : Nat) (l0_1 : List Int) (A0_2 : Option Addr) (c0_2 : Nat) (l0_2 : List (S32)) (a1 : Int) (A2 : Option Addr) (c2 : Nat) (l2 : List Int) (r1 : Int) (r2 : List Int) (r3 : List (S32)) (r4 : Int) (w : World) (hr0_1 : Kd.C (Kd.int .u8) w A0_1 l0_1.length l0_1) (hc0_1 : l0_1.length ≤ c0_1) (hr0_2 : Kd.C k32 w A0_2 l0_2.length l0_2) (hc0_2 : l0_2.length ≤ c0_2) (hr2 : Kd.C (Kd.int .u8) w A2 l2.length l2) (hc2 : l2.length ≤ c2) (h : spec_DevWrite.f k a0_0 l0_1 l0_2 a1 l2 = some (r1, r2, r3, r4)) :
    Calls Try.prog 5 #[.agg #[.int .i64 a0_0, .slice A0_1 l0_1.length c0_1, .slice A0_2 l0_2.length c0_2], .int .i64 a1, .slice A2 l2.length c2] w fun e w' => ∃ v1_ v2_ : Value, e = .returned (.tuple #[.agg #[.int .i64 r1, v1_, v2_], .int .i64 r4]) ∧ Kd.R (Kd.int .u8) 5 w' w.heap.size (fun _ => True) v1_ r2 ∧ Kd.S k32 32 w' w.heap.size (fun k_ => some k_ ≠ (v1_ : Value).ownBlock) v2_ r3 ∧ Below w.heap.size w w' := by
  have hu25 := Try.underlying25
  have hu32 := Try.underlying32
  have HR0_1 := Aside0.mk hr0_1
  have HC0_1 := Aside0.mk hc0_1
  clear hr0_1 hc0_1
  have HR0_2 := Aside0.mk hr0_2
  have HC0_2 := Aside0.mk hc0_2
  clear hr0_2 hc0_2
  have HR2 := Aside0.mk hr2
  have HC2 := Aside0.mk hc2
  clear hr2 hc2
  have HB := Aside0.mk (Below.refl w.heap.size w)
  have H : ((spec_l1Valid.f k a0_0 l0_1 l0_2).bind fun t310 => (if t310 = true then ((spec_l1CopyDevice.f k a0_0 l0_1 l0_2).bind fun bt311 => (if a1 < 0 then (spec_DevWrite.j0 k a1 l2 true a0_0 l0_1 l0_2 bt311.1 bt311.2.1 bt311.2.2) else (spec_DevWrite.j0 k a1 l2 (decide (a1 ≥ a0_0)) a0_0 l0_1 l0_2 bt311.1 bt311.2.1 bt311.2.2))) else (some (0, ([] : List Int), ([] : List (S32)), 1)))) = some (r1, r2, r3, r4) := h
  clear h
  replace H := Option.bind_eq_some_iff.mp H
  obtain ⟨t310, A40, H⟩ := H
  replace H : (if t310 = true then ((spec_l1CopyDevice.f k a0_0 l0_1 l0_2).bind fun bt311 => (if a1 < 0 then (spec_DevWrite.j0 k a1 l2 true a0_0 l0_1 l0_2 bt311.1 bt311.2.1 bt311.2.2) else (spec_DevWrite.j0 k a1 l2 (decide (a1 ≥ a0_0)) a0_0 l0_1 l0_2 bt311.1 bt311.2.1 bt311.2.2))) else (some (0, ([] : List Int), ([] : List (S32)), 1))) = some (r1, r2, r3, r4) := H
  have A4 := Aside0.mk A40
  clear A40
  by_cases c5 : t310 = true
  · subst c5
    have H1 : ((spec_l1CopyDevice.f k a0_0 l0_1 l0_2).bind fun bt311 => (if a1 < 0 then (spec_DevWrite.j0 k a1 l2 true a0_0 l0_1 l0_2 bt311.1 bt311.2.1 bt311.2.2) else (spec_DevWrite.j0 k a1 l2 (decide (a1 ≥ a0_0)) a0_0 l0_1 l0_2 bt311.1 bt311.2.1 bt311.2.2))) = some (r1, r2, r3, r4) := by rw [if_pos rfl] at H; exact H
    clear H
    have H := H1
    clear H1
    replace H := Option.bind_eq_some_iff.mp H
    obtain ⟨⟨t311, t312, t315⟩, A60, H⟩ := H
    replace H : (if a1 < 0 then (spec_DevWrite.j0 k a1 l2 true a0_0 l0_1 l0_2 t311 t312 t315) else (spec_DevWrite.j0 k a1 l2 (decide (a1 ≥ a0_0)) a0_0 l0_1 l0_2 t311 t312 t315)) = some (r1, r2, r3, r4) := H
    have A6 := Aside0.mk A60
    clear A60
    have HC7 := Aside0.mk H
    clear H
    go_enter Try.func5, Try.ntmps5
    go_upto_region 4 with (first | ((with_reducible refine gate_dst (N := 3) rfl ?_); refine box_event ?hg (N := 3) ?hd (cs := #[.int .i64 a0_0, .slice A0_1 l0_1.length c0_1, .slice A0_2 l0_2.length c0_2]) (t := 25) ?hr ?_; (case hd => rfl); (case hg => rfl); (case hr => first | (go_simp; done) | (go_simp; rfl)); intro gb308 hg w8 hbox hb; have n0_ := Aside0.mk (below_step (by repeat (first | (with_reducible first | exact HB.out | apply below_alloc | apply pw_below_drewN | apply below_drew1) | exact HB.out)) hb); have n1_ := Aside0.mk (hbox); have n2_ := Aside0.mk ((by rw [hg]; exact (below_size (by repeat (first | (with_reducible first | exact HB.out | apply below_alloc | apply pw_below_drewN | apply below_drew1) | exact HB.out))) : w.heap.size ≤ gb308)); have n3_ := Aside0.mk ((by rw [hg]; exact (below_size (by repeat (first | (with_reducible first | exact HB.out | apply below_alloc | apply pw_below_drewN | apply below_drew1) | exact HB.out))) : w.heap.size ≤ gb308)); clear HB; have HB := n0_; have BK308 := n1_; have GW308 := n2_; have GE308 := n3_; clear n0_ n1_ n2_ n3_; clear hb hbox hg) | ((with_reducible refine gate_dst (N := 6) rfl ?_); refine box_event ?hg (N := 6) ?hd (cs := #[.int .i64 0, .slice none 0 0, .slice none 0 0]) (t := 25) ?hr ?_; (case hd => rfl); (case hg => rfl); (case hr => first | (go_simp; done) | (go_simp; rfl)); intro gb309 hg w9 hbox hb; have n0_ := Aside0.mk (blk_below (g := gb308) (o := .cells #[.int .i64 a0_0, .slice A0_1 l0_1.length c0_1, .slice A0_2 l0_2.length c0_2] 25 (0, 0)) (by (with_reducible repeat (first | refine blk_drewN ?_ _ | refine blk_drew ?_ | refine blk_alloc ?_ _)); exact BK308.out) hb); have n1_ := Aside0.mk (below_step (by repeat (first | (with_reducible first | exact HB.out | apply below_alloc | apply pw_below_drewN | apply below_drew1 | refine below_set ?_ GE308.out) | exact HB.out)) hb); have n2_ := Aside0.mk (hbox); have n3_ := Aside0.mk ((by rw [hg]; exact (below_size (by repeat (first | (with_reducible first | exact HB.out | apply below_alloc | apply pw_below_drewN | apply below_drew1 | refine below_set ?_ GE308.out) | exact HB.out))) : w.heap.size ≤ gb309)); have n4_ := Aside0.mk ((by rw [hg]; exact (below_size (by repeat (first | (with_reducible first | exact HB.out | apply below_alloc | apply pw_below_drewN | apply below_drew1 | refine below_set ?_ GE308.out) | exact HB.out))) : w.heap.size ≤ gb309)); have n5_ := Aside0.mk ((by rw [hg]; exact Nat.ne_of_lt (blk_lt (g := gb308) (o := .cells #[.int .i64 a0_0, .slice A0_1 l0_1.length c0_1, .slice A0_2 l0_2.length c0_2] 25 (0, 0)) (by (with_reducible repeat (first | refine blk_drewN ?_ _ | refine blk_drew ?_ | refine blk_alloc ?_ _)); exact BK308.out)) : gb308 ≠ gb309)); have n6_ := Aside0.mk ((by rw [hg]; exact Nat.ne_of_gt (blk_lt (g := gb308) (o := .cells #[.int .i64 a0_0, .slice A0_1 l0_1.length c0_1, .slice A0_2 l0_2.length c0_2] 25 (0, 0)) (by (with_reducible repeat (first | refine blk_drewN ?_ _ | refine blk_drew ?_ | refine blk_alloc ?_ _)); exact BK308.out)) : gb309 ≠ gb308)); clear BK308; clear HB; have BK308 := n0_; have HB := n1_; have BK309 := n2_; have GW309 := n3_; have GE309 := n4_; have NB308_309 := n5_; have NB309_308 := n6_; clear n0_ n1_ n2_ n3_ n4_ n5_ n6_; clear hb hbox hg; have hnb10 := NB308_309.out; have hnc10 := NB309_308.out; have hcz11_0 : w9.cell? ⟨gb308, 0, none⟩ = some (.int .i64 a0_0) := (blk_cell BK308.out 0).trans rfl; have hcz11_1 : w9.cell? ⟨gb308, 1, none⟩ = some (.slice A0_1 l0_1.length c0_1) := (blk_cell BK308.out 1).trans rfl; have hcz11_2 : w9.cell? ⟨gb308, 2, none⟩ = some (.slice A0_2 l0_2.length c0_2) := (blk_cell BK308.out 2).trans rfl; have hfz11_0 := blk_frozen BK308.out 0; have hfz11_1 := blk_frozen BK308.out 1; have hfz11_2 := blk_frozen BK308.out 2) | ((with_reducible refine gate_callee (f := 17) rfl ?_); refine goesL_ (some 10) rfl rfl Try.func17 (by kernel_rfl) rfl #[.agg #[.int .i64 a0_0, .slice A0_1 l0_1.length c0_1, .slice A0_2 l0_2.length c0_2]] rfl (by (try simp only [List.map_toArray, List.map_cons, List.map_nil]); first | done | rfl | (simp only [List.length_drop, List.length_take]; rfl)) ?_; (with_reducible refine (spec_l1Valid.calls k a0_0 _ _ l0_1 _ _ l0_2 true _ ?side1 ?side2 ?side3 ?side4 A4.out).mono ?_); (case side1 => repeat (first | exact (Kd.C_below HR0_1.out HB.out) | (with_reducible refine Kd.C_alloc ?_ _) | (with_reducible refine Kd.C_drewN ?_ _) | (with_reducible refine Kd.C_drew ?_))); (case side2 => exact HC0_1.out); (case side3 => repeat (first | exact (Kd.C_below HR0_2.out HB.out) | (with_reducible refine Kd.C_alloc ?_ _) | (with_reducible refine Kd.C_drewN ?_ _) | (with_reducible refine Kd.C_drew ?_))); (case side4 => exact HC0_2.out); rintro e w12 ⟨rfl, hb⟩; refine ⟨_, rfl, ?_⟩; have n0_ := Aside0.mk (blk_below (g := gb308) (o := .cells #[.int .i64 a0_0, .slice A0_1 l0_1.length c0_1, .slice A0_2 l0_2.length c0_2] 25 (0, 0)) (by (with_reducible repeat (first | refine blk_drewN ?_ _ | refine blk_drew ?_ | refine blk_alloc ?_ _)); exact BK308.out) hb); have n1_ := Aside0.mk (blk_below (g := gb309) (o := .cells #[.int .i64 0, .slice none 0 0, .slice none 0 0] 25 (0, 0)) (by (with_reducible repeat (first | refine blk_drewN ?_ _ | refine blk_drew ?_ | refine blk_alloc ?_ _)); exact BK309.out) hb); have n2_ := Aside0.mk (below_step (by repeat (first | (with_reducible first | exact HB.out | apply below_alloc | apply pw_below_drewN | apply below_drew1 | refine below_set ?_ GE308.out | refine below_set ?_ GE309.out) | exact HB.out)) hb); clear BK308; clear BK309; clear HB; have BK308 := n0_; have BK309 := n1_; have HB := n2_; clear n0_ n1_ n2_; (try clear hb); (try clear hb2); (try clear hk); (try clear hi); have hcz13_0 : w12.cell? ⟨gb308, 0, none⟩ = some (.int .i64 a0_0) := (blk_cell BK308.out 0).trans rfl; have hcz13_1 : w12.cell? ⟨gb308, 1, none⟩ = some (.slice A0_1 l0_1.length c0_1) := (blk_cell BK308.out 1).trans rfl; have hcz13_2 : w12.cell? ⟨gb308, 2, none⟩ = some (.slice A0_2 l0_2.length c0_2) := (blk_cell BK308.out 2).trans rfl; have hfz13_0 := blk_frozen BK308.out 0; have hfz13_1 := blk_frozen BK308.out 1; have hfz13_2 := blk_frozen BK308.out 2) | ((with_reducible refine gate_callee (f := 18) rfl ?_); refine goesL_ (some 14) rfl rfl Try.func18 (by kernel_rfl) rfl #[.agg #[.int .i64 a0_0, .slice A0_1 l0_1.length c0_1, .slice A0_2 l0_2.length c0_2]] rfl (by (try simp only [List.map_toArray, List.map_cons, List.map_nil]); first | done | rfl | (simp only [List.length_drop, List.length_take]; rfl)) ?_; (with_reducible refine (spec_l1CopyDevice.calls k a0_0 _ _ l0_1 _ _ l0_2 t311 t312 t315 _ ?side1 ?side2 ?side3 ?side4 A6.out).mono ?_); (case side1 => repeat (first | exact (Kd.C_below HR0_1.out HB.out) | (with_reducible refine Kd.C_alloc ?_ _) | (with_reducible refine Kd.C_drewN ?_ _) | (with_reducible refine Kd.C_drew ?_))); (case side2 => exact HC0_1.out); (case side3 => repeat (first | exact (Kd.C_below HR0_2.out HB.out) | (with_reducible refine Kd.C_alloc ?_ _) | (with_reducible refine Kd.C_drewN ?_ _) | (with_reducible refine Kd.C_drew ?_))); (case side4 => exact HC0_2.out); rintro e w14 ⟨v313, v316, rfl, ho0, ho1, hb⟩; refine ⟨_, rfl, ?_⟩; have n0_ := Aside0.mk (Kd.R_lower ho0 (below_size (by repeat (first | (with_reducible first | exact HB.out | apply below_alloc | apply pw_below_drewN | apply below_drew1 | refine below_set ?_ GE308.out | refine below_set ?_ GE309.out) | exact HB.out)))); have n1_ := Aside0.mk (Kd.S_lower ho1 (below_size (by repeat (first | (with_reducible first | exact HB.out | apply below_alloc | apply pw_below_drewN | apply below_drew1 | refine below_set ?_ GE308.out | refine below_set ?_ GE309.out) | exact HB.out)))); have n2_ := Aside0.mk (blk_below (g := gb308) (o := .cells #[.int .i64 a0_0, .slice A0_1 l0_1.length c0_1, .slice A0_2 l0_2.length c0_2] 25 (0, 0)) (by (with_reducible repeat (first | refine blk_drewN ?_ _ | refine blk_drew ?_ | refine blk_alloc ?_ _)); exact BK308.out) hb); have n3_ := Aside0.mk (blk_below (g := gb309) (o := .cells #[.int .i64 0, .slice none 0 0, .slice none 0 0] 25 (0, 0)) (by (with_reducible repeat (first | refine blk_drewN ?_ _ | refine blk_drew ?_ | refine blk_alloc ?_ _)); exact BK309.out) hb); have n4_ := Aside0.mk (below_step (by repeat (first | (with_reducible first | exact HB.out | apply below_alloc | apply pw_below_drewN | apply below_drew1 | refine below_set ?_ GE308.out | refine below_set ?_ GE309.out) | exact HB.out)) hb); clear BK308; clear BK309; clear HB; have HO314 := n0_; have HO317 := n1_; have BK308 := n2_; have BK309 := n3_; have HB := n4_; clear n0_ n1_ n2_ n3_ n4_; (try clear hb); (try clear hb2); (try clear hk); (try clear hi); (try clear ho0); (try clear ho1)) | ((with_reducible refine gate_dst (N := 8) rfl ?_); refine box_event ?hg (N := 8) ?hd (cs := #[.int .i64 0, .slice none 0 0, .slice none 0 0]) (t := 25) ?hr ?_; (case hd => rfl); (case hg => rfl); (case hr => first | (go_simp; done) | (go_simp; rfl)); intro gb318 hg w15 hbox hb; have n0_ := Aside0.mk (Kd.R_below (by (with_reducible repeat (first | apply Kd.R_alloc | apply Kd.R_drewN | apply Kd.R_drew)); exact HO314.out) hb); have n1_ := Aside0.mk (Kd.S_below (by (with_reducible repeat (first | apply Kd.S_alloc | apply Kd.S_drewN | apply Kd.S_drew)); exact HO317.out) hb); have n2_ := Aside0.mk (blk_below (g := gb308) (o := .cells #[.int .i64 a0_0, .slice A0_1 l0_1.length c0_1, .slice A0_2 l0_2.length c0_2] 25 (0, 0)) (by (with_reducible repeat (first | refine blk_drewN ?_ _ | refine blk_drew ?_ | refine blk_alloc ?_ _)); exact BK308.out) hb); have n3_ := Aside0.mk (blk_below (g := gb309) (o := .cells #[.int .i64 0, .slice none 0 0, .slice none 0 0] 25 (0, 0)) (by (with_reducible repeat (first | refine blk_drewN ?_ _ | refine blk_drew ?_ | refine blk_alloc ?_ _)); exact BK309.out) hb); have n4_ := Aside0.mk (below_step (by repeat (first | (with_reducible first | exact HB.out | apply below_alloc | apply pw_below_drewN | apply below_drew1 | refine below_set ?_ GE308.out | refine below_set ?_ GE309.out) | exact HB.out)) hb); have n5_ := Aside0.mk (hbox); have n6_ := Aside0.mk ((by rw [hg]; exact (below_size (by repeat (first | (with_reducible first | exact HB.out | apply below_alloc | apply pw_below_drewN | apply below_drew1 | refine below_set ?_ GE308.out | refine below_set ?_ GE309.out) | exact HB.out))) : w.heap.size ≤ gb318)); have n7_ := Aside0.mk ((by rw [hg]; exact (below_size (by repeat (first | (with_reducible first | exact HB.out | apply below_alloc | apply pw_below_drewN | apply below_drew1 | refine below_set ?_ GE308.out | refine below_set ?_ GE309.out) | exact HB.out))) : w.heap.size ≤ gb318)); have n8_ := Aside0.mk ((by rw [hg]; exact Nat.ne_of_lt (blk_lt (g := gb308) (o := .cells #[.int .i64 a0_0, .slice A0_1 l0_1.length c0_1, .slice A0_2 l0_2.length c0_2] 25 (0, 0)) (by (with_reducible repeat (first | refine blk_drewN ?_ _ | refine blk_drew ?_ | refine blk_alloc ?_ _)); exact BK308.out)) : gb308 ≠ gb318)); have n9_ := Aside0.mk ((by rw [hg]; exact Nat.ne_of_gt (blk_lt (g := gb308) (o := .cells #[.int .i64 a0_0, .slice A0_1 l0_1.length c0_1, .slice A0_2 l0_2.length c0_2] 25 (0, 0)) (by (with_reducible repeat (first | refine blk_drewN ?_ _ | refine blk_drew ?_ | refine blk_alloc ?_ _)); exact BK308.out)) : gb318 ≠ gb308)); have n10_ := Aside0.mk ((by rw [hg]; exact Nat.ne_of_lt (blk_lt (g := gb309) (o := .cells #[.int .i64 0, .slice none 0 0, .slice none 0 0] 25 (0, 0)) (by (with_reducible repeat (first | refine blk_drewN ?_ _ | refine blk_drew ?_ | refine blk_alloc ?_ _)); exact BK309.out)) : gb309 ≠ gb318)); have n11_ := Aside0.mk ((by rw [hg]; exact Nat.ne_of_gt (blk_lt (g := gb309) (o := .cells #[.int .i64 0, .slice none 0 0, .slice none 0 0] 25 (0, 0)) (by (with_reducible repeat (first | refine blk_drewN ?_ _ | refine blk_drew ?_ | refine blk_alloc ?_ _)); exact BK309.out)) : gb318 ≠ gb309)); clear HO314; clear HO317; clear BK308; clear BK309; clear HB; have HO314 := n0_; have HO317 := n1_; have BK308 := n2_; have BK309 := n3_; have HB := n4_; have BK318 := n5_; have GW318 := n6_; have GE318 := n7_; have NB308_318 := n8_; have NB318_308 := n9_; have NB309_318 := n10_; have NB318_309 := n11_; clear n0_ n1_ n2_ n3_ n4_ n5_ n6_ n7_ n8_ n9_ n10_ n11_; clear hb hbox hg; have hnb16 := NB318_308.out; have hnc16 := NB308_318.out; have hnb17 := NB318_309.out; have hnc17 := NB309_318.out; have hcz18_0 : w15.cell? ⟨gb318, 0, none⟩ = some (.int .i64 0) := (blk_cell BK318.out 0).trans rfl; have hcz18_1 : w15.cell? ⟨gb318, 1, none⟩ = some (.slice none 0 0) := (blk_cell BK318.out 1).trans rfl; have hcz18_2 : w15.cell? ⟨gb318, 2, none⟩ = some (.slice none 0 0) := (blk_cell BK318.out 2).trans rfl; have hfz18_0 := blk_frozen BK318.out 0; have hfz18_1 := blk_frozen BK318.out 1; have hfz18_2 := blk_frozen BK318.out 2; obtain ⟨Ao19, co19, eo19⟩ := Kd.R_slice HO314.out; subst eo19; obtain ⟨Ao20, co20, eo20⟩ := Kd.S_slice HO317.out; subst eo20))
    (try simp only [Act.put, List.setIfInBounds_toArray, List.set_cons_zero, List.set_cons_succ])
    go_cut [22] (fun v22 wc => ∃ (kq : Nat) (x22_6 : Bool), v22 = .bool x22_6 ∧ Aside0 (spec_DevWrite.j0 kq a1 l2 x22_6 a0_0 l0_1 l0_2 t311 t312 t315 = some (r1, r2, r3, r4)) ∧ Aside0 (kq ≤ k) ∧ Aside0 (Kd.R (Kd.int .u8) 5 wc w.heap.size (fun _ => True) (.slice Ao19 t312.length co19) t312) ∧ Aside0 (Kd.S k32 32 wc w.heap.size (fun k_ => some k_ ≠ ((.slice Ao19 t312.length co19) : Value).ownBlock) (.slice Ao20 t315.length co20) t315) ∧ Aside0 (wc.heap[gb308]? = some (.cells #[.int .i64 a0_0, (.slice A0_1 l0_1.length c0_1), (.slice A0_2 l0_2.length c0_2)] 25 (0, 0))) ∧ Aside0 (wc.heap[gb309]? = some (.cells #[.int .i64 0, (.slice none 0 0), (.slice none 0 0)] 25 (0, 0))) ∧ Aside0 (wc.heap[gb318]? = some (.cells #[.int .i64 t311, (.slice Ao19 t312.length co19), (.slice Ao20 t315.length co20)] 25 (0, 0))) ∧ Aside0 (Below w.heap.size w wc))
    case first =>
      have H := HC7.out
      clear HC7
      by_cases c21 : a1 < 0
      · rw [if_pos c21] at H
        have c21b0 : decide (a1 < 0) = true := decide_eq_true c21
        clear c21
        (first | rw [c21b0] | (simp only [i64_w, i32_w]; rw [c21b0]) | skip)
        have H' := Aside0.mk H
        clear H
        go_wp2
        go_meet
        case rel => exact ⟨_, (true), (by first | rfl | (simp; done) | (simp [*]; done)), H', ⟨by first | omega | exact Nat.le_refl _⟩, ⟨by (with_reducible repeat (first | apply Kd.R_alloc | apply Kd.R_drewN | apply Kd.R_drew)); exact Kd.R_mono (Kd.R_far (p := ⟨gb318, 2, none⟩) (Kd.R_far (p := ⟨gb318, 1, none⟩) (Kd.R_far (p := ⟨gb318, 0, none⟩) (Kd.R_types HO314.out BK318.out (by decide)) (fun _ hk => hk.2) (.int .i64 t311)) (fun _ hk => hk.2) (.slice Ao19 t312.length co19)) (fun _ hk => hk.2) (.slice Ao20 t315.length co20)) (fun _ hk => trivial)⟩, ⟨by (with_reducible repeat (first | apply Kd.S_alloc | apply Kd.S_drewN | apply Kd.S_drew)); exact Kd.S_mono (Kd.S_far (p := ⟨gb318, 2, none⟩) (Kd.S_far (p := ⟨gb318, 1, none⟩) (Kd.S_far (p := ⟨gb318, 0, none⟩) (Kd.S_types HO317.out BK318.out (by decide)) (fun _ hk => hk.2) (.int .i64 t311)) (fun _ hk => hk.2) (.slice Ao19 t312.length co19)) (fun _ hk => hk.2) (.slice Ao20 t315.length co20)) (fun _ hk => hk.1)⟩, ⟨by (with_reducible repeat (first | refine blk_drewN ?_ _ | refine blk_drew ?_ | refine blk_alloc ?_ _)); refine blk_far ?_ NB308_318.out _; (with_reducible repeat (first | refine blk_drewN ?_ _ | refine blk_drew ?_ | refine blk_alloc ?_ _)); refine blk_far ?_ NB308_318.out _; (with_reducible repeat (first | refine blk_drewN ?_ _ | refine blk_drew ?_ | refine blk_alloc ?_ _)); refine blk_far ?_ NB308_318.out _; (with_reducible repeat (first | refine blk_drewN ?_ _ | refine blk_drew ?_ | refine blk_alloc ?_ _)); exact BK308.out⟩, ⟨by (with_reducible repeat (first | refine blk_drewN ?_ _ | refine blk_drew ?_ | refine blk_alloc ?_ _)); refine blk_far ?_ NB309_318.out _; (with_reducible repeat (first | refine blk_drewN ?_ _ | refine blk_drew ?_ | refine blk_alloc ?_ _)); refine blk_far ?_ NB309_318.out _; (with_reducible repeat (first | refine blk_drewN ?_ _ | refine blk_drew ?_ | refine blk_alloc ?_ _)); refine blk_far ?_ NB309_318.out _; (with_reducible repeat (first | refine blk_drewN ?_ _ | refine blk_drew ?_ | refine blk_alloc ?_ _)); exact BK309.out⟩, ⟨by (with_reducible repeat (first | refine blk_drewN ?_ _ | refine blk_drew ?_ | refine blk_alloc ?_ _)); refine blk_put (cs := #[.int .i64 t311, .slice Ao19 t312.length co19, .slice none 0 0]) ?_ 2 _ rfl; (with_reducible repeat (first | refine blk_drewN ?_ _ | refine blk_drew ?_ | refine blk_alloc ?_ _)); refine blk_put (cs := #[.int .i64 t311, .slice none 0 0, .slice none 0 0]) ?_ 1 _ rfl; (with_reducible repeat (first | refine blk_drewN ?_ _ | refine blk_drew ?_ | refine blk_alloc ?_ _)); refine blk_put (cs := #[.int .i64 0, .slice none 0 0, .slice none 0 0]) ?_ 0 _ rfl; (with_reducible repeat (first | refine blk_drewN ?_ _ | refine blk_drew ?_ | refine blk_alloc ?_ _)); exact BK318.out⟩, ⟨by repeat (first | (with_reducible first | exact HB.out | apply below_alloc | apply pw_below_drewN | apply below_drew1 | refine below_set ?_ GE308.out | refine below_set ?_ GE309.out | refine below_set ?_ GE318.out) | exact HB.out)⟩⟩
      · rw [if_neg c21] at H
        have c21b0 : decide (a1 < 0) = false := decide_eq_false c21
        clear c21
        (first | rw [c21b0] | (simp only [i64_w, i32_w]; rw [c21b0]) | skip)
        have H' := Aside0.mk H
        clear H
        have hnb22 := NB308_309.out
        have hnc22 := NB309_308.out
        have hnb23 := NB308_318.out
        have hnc23 := NB318_308.out
        have hcz24_0 : w15.cell? ⟨gb308, 0, none⟩ = some (.int .i64 a0_0) := (blk_cell BK308.out 0).trans rfl
        have hcz24_1 : w15.cell? ⟨gb308, 1, none⟩ = some (.slice A0_1 l0_1.length c0_1) := (blk_cell BK308.out 1).trans rfl
        have hcz24_2 : w15.cell? ⟨gb308, 2, none⟩ = some (.slice A0_2 l0_2.length c0_2) := (blk_cell BK308.out 2).trans rfl
        have hfz24_0 := blk_frozen BK308.out 0
        have hfz24_1 := blk_frozen BK308.out 1
        have hfz24_2 := blk_frozen BK308.out 2
        go_wp2
        go_meet
        case rel => exact ⟨_, (decide (a1 ≥ a0_0)), (by first | rfl | (simp; done) | (simp [*]; done)), H', ⟨by first | omega | exact Nat.le_refl _⟩, ⟨by (with_reducible repeat (first | apply Kd.R_alloc | apply Kd.R_drewN | apply Kd.R_drew)); exact Kd.R_mono (Kd.R_far (p := ⟨gb318, 2, none⟩) (Kd.R_far (p := ⟨gb318, 1, none⟩) (Kd.R_far (p := ⟨gb318, 0, none⟩) (Kd.R_types HO314.out BK318.out (by decide)) (fun _ hk => hk.2) (.int .i64 t311)) (fun _ hk => hk.2) (.slice Ao19 t312.length co19)) (fun _ hk => hk.2) (.slice Ao20 t315.length co20)) (fun _ hk => trivial)⟩, ⟨by (with_reducible repeat (first | apply Kd.S_alloc | apply Kd.S_drewN | apply Kd.S_drew)); exact Kd.S_mono (Kd.S_far (p := ⟨gb318, 2, none⟩) (Kd.S_far (p := ⟨gb318, 1, none⟩) (Kd.S_far (p := ⟨gb318, 0, none⟩) (Kd.S_types HO317.out BK318.out (by decide)) (fun _ hk => hk.2) (.int .i64 t311)) (fun _ hk => hk.2) (.slice Ao19 t312.length co19)) (fun _ hk => hk.2) (.slice Ao20 t315.length co20)) (fun _ hk => hk.1)⟩, ⟨by (with_reducible repeat (first | refine blk_drewN ?_ _ | refine blk_drew ?_ | refine blk_alloc ?_ _)); refine blk_far ?_ NB308_318.out _; (with_reducible repeat (first | refine blk_drewN ?_ _ | refine blk_drew ?_ | refine blk_alloc ?_ _)); refine blk_far ?_ NB308_318.out _; (with_reducible repeat (first | refine blk_drewN ?_ _ | refine blk_drew ?_ | refine blk_alloc ?_ _)); refine blk_far ?_ NB308_318.out _; (with_reducible repeat (first | refine blk_drewN ?_ _ | refine blk_drew ?_ | refine blk_alloc ?_ _)); exact BK308.out⟩, ⟨by (with_reducible repeat (first | refine blk_drewN ?_ _ | refine blk_drew ?_ | refine blk_alloc ?_ _)); refine blk_far ?_ NB309_318.out _; (with_reducible repeat (first | refine blk_drewN ?_ _ | refine blk_drew ?_ | refine blk_alloc ?_ _)); refine blk_far ?_ NB309_318.out _; (with_reducible repeat (first | refine blk_drewN ?_ _ | refine blk_drew ?_ | refine blk_alloc ?_ _)); refine blk_far ?_ NB309_318.out _; (with_reducible repeat (first | refine blk_drewN ?_ _ | refine blk_drew ?_ | refine blk_alloc ?_ _)); exact BK309.out⟩, ⟨by (with_reducible repeat (first | refine blk_drewN ?_ _ | refine blk_drew ?_ | refine blk_alloc ?_ _)); refine blk_put (cs := #[.int .i64 t311, .slice Ao19 t312.length co19, .slice none 0 0]) ?_ 2 _ rfl; (with_reducible repeat (first | refine blk_drewN ?_ _ | refine blk_drew ?_ | refine blk_alloc ?_ _)); refine blk_put (cs := #[.int .i64 t311, .slice none 0 0, .slice none 0 0]) ?_ 1 _ rfl; (with_reducible repeat (first | refine blk_drewN ?_ _ | refine blk_drew ?_ | refine blk_alloc ?_ _)); refine blk_put (cs := #[.int .i64 0, .slice none 0 0, .slice none 0 0]) ?_ 0 _ rfl; (with_reducible repeat (first | refine blk_drewN ?_ _ | refine blk_drew ?_ | refine blk_alloc ?_ _)); exact BK318.out⟩, ⟨by repeat (first | (with_reducible first | exact HB.out | apply below_alloc | apply pw_below_drewN | apply below_drew1 | refine below_set ?_ GE308.out | refine below_set ?_ GE309.out | refine below_set ?_ GE318.out) | exact HB.out)⟩⟩
    case rest =>
      clear HC7
      try clear c1
      try clear c2
      try clear p2
      try clear c5
      try clear c10
      try clear c16
      try clear c17
      try clear c18
      try clear c21
      try clear c21b0
      try clear c22
      try clear c23
      try clear hcz11_0
      try clear hcz11_1
      try clear hcz11_2
      try clear hcz13_0
      try clear hcz13_1
      try clear hcz13_2
      try clear hcz18_0
      try clear hcz18_1
      try clear hcz18_2
      try clear hcz24_0
      try clear hcz24_1
      try clear hcz24_2
      try clear hfz11_0
      try clear hfz11_1
      try clear hfz11_2
      try clear hfz13_0
      try clear hfz13_1
      try clear hfz13_2
      try clear hfz18_0
      try clear hfz18_1
      try clear hfz18_2
      try clear hfz24_0
      try clear hfz24_1
      try clear hfz24_2
      obtain ⟨kq, x22_6, rfl, HA, HJ6, HO_319001, HO_319002, BK308, BK309, BK318, HB⟩ := hcut
      cases kq with
      | zero => exact absurd HA.out (by simp [spec_DevWrite.j0])
      | succ kj6 =>
        have H := HA.out
        clear HA
        simp only [spec_DevWrite.j0] at H
        by_cases c25 : x22_6 = true
        · subst c25
          have H1 : (some (t311, t312, t315, 2)) = some (r1, r2, r3, r4) := by rw [if_pos rfl] at H; exact H
          clear H
          have H := H1
          clear H1
          simp only [Option.some.injEq, Prod.mk.injEq] at H
          obtain ⟨rfl, rfl, rfl, rfl⟩ := H
          have hnb26 := NB318_308.out
          have hnc26 := NB308_318.out
          have hnb27 := NB318_309.out
          have hnc27 := NB309_318.out
          have hcz28_0 : wc.cell? ⟨gb318, 0, none⟩ = some (.int .i64 t311) := (blk_cell BK318.out 0).trans rfl
          have hcz28_1 : wc.cell? ⟨gb318, 1, none⟩ = some (.slice Ao19 t312.length co19) := (blk_cell BK318.out 1).trans rfl
          have hcz28_2 : wc.cell? ⟨gb318, 2, none⟩ = some (.slice Ao20 t315.length co20) := (blk_cell BK318.out 2).trans rfl
          have hfz28_0 := blk_frozen BK318.out 0
          have hfz28_1 := blk_frozen BK318.out 1
          have hfz28_2 := blk_frozen BK318.out 2
          have hnb29 := NB309_308.out
          have hnc29 := NB308_309.out
          have hcz30_0 : wc.cell? ⟨gb309, 0, none⟩ = some (.int .i64 0) := (blk_cell BK309.out 0).trans rfl
          have hcz30_1 : wc.cell? ⟨gb309, 1, none⟩ = some (.slice none 0 0) := (blk_cell BK309.out 1).trans rfl
          have hcz30_2 : wc.cell? ⟨gb309, 2, none⟩ = some (.slice none 0 0) := (blk_cell BK309.out 2).trans rfl
          have hfz30_0 := blk_frozen BK309.out 0
          have hfz30_1 := blk_frozen BK309.out 1
          have hfz30_2 := blk_frozen BK309.out 2
          go_wp2
          refine bodyPost_ret (results_ct rfl _ _ gb309 25 #[.int .i64 t311, .slice Ao19 t312.length co19, .slice Ao20 t315.length co20] (0, 0) _ rfl (by (with_reducible repeat (first | refine blk_drewN ?_ _ | refine blk_drew ?_ | refine blk_alloc ?_ _)); refine blk_put (cs := #[.int .i64 t311, .slice Ao19 t312.length co19, .slice none 0 0]) ?_ 2 _ rfl; (with_reducible repeat (first | refine blk_drewN ?_ _ | refine blk_drew ?_ | refine blk_alloc ?_ _)); refine blk_put (cs := #[.int .i64 t311, .slice none 0 0, .slice none 0 0]) ?_ 1 _ rfl; (with_reducible repeat (first | refine blk_drewN ?_ _ | refine blk_drew ?_ | refine blk_alloc ?_ _)); refine blk_put (cs := #[.int .i64 0, .slice none 0 0, .slice none 0 0]) ?_ 0 _ rfl; (with_reducible repeat (first | refine blk_drewN ?_ _ | refine blk_drew ?_ | refine blk_alloc ?_ _)); exact BK309.out) Try.underlying25 rfl (by kernel_rfl)) rfl ?_
          exact ⟨_, _, by first | rfl | (simp [errW_none, errW_some] <;> rfl) | (simp [*, errW_none, errW_some] <;> rfl), by (with_reducible repeat (first | apply Kd.R_alloc | apply Kd.R_drewN | apply Kd.R_drew)); exact Kd.R_mono (Kd.R_far (p := ⟨gb309, 2, none⟩) (Kd.R_far (p := ⟨gb309, 1, none⟩) (Kd.R_far (p := ⟨gb309, 0, none⟩) (Kd.R_types HO_319001.out BK309.out (by decide)) (fun _ hk => hk.2) (.int .i64 t311)) (fun _ hk => hk.2) (.slice Ao19 t312.length co19)) (fun _ hk => hk.2) (.slice Ao20 t315.length co20)) (fun _ hk => trivial), by (with_reducible repeat (first | apply Kd.S_alloc | apply Kd.S_drewN | apply Kd.S_drew)); exact Kd.S_mono (Kd.S_far (p := ⟨gb309, 2, none⟩) (Kd.S_far (p := ⟨gb309, 1, none⟩) (Kd.S_far (p := ⟨gb309, 0, none⟩) (Kd.S_types HO_319002.out BK309.out (by decide)) (fun _ hk => hk.2) (.int .i64 t311)) (fun _ hk => hk.2) (.slice Ao19 t312.length co19)) (fun _ hk => hk.2) (.slice Ao20 t315.length co20)) (fun _ hk => hk.1), by repeat (first | (with_reducible first | exact HB.out | apply below_alloc | apply pw_below_drewN | apply below_drew1 | refine below_set ?_ GE308.out | refine below_set ?_ GE309.out | refine below_set ?_ GE318.out) | exact HB.out)⟩
        · replace c25 := Bool.eq_false_iff.mpr c25
          subst c25
          have H1 : (if (l2.length : Int) = 128 then (if (l0_2.length : Int) ≥ 2048 then (some (t311, t312, t315, 4)) else ((spec_l1Copy.f kj6 l2).bind fun t319 => (if t315.length < 4398046511104 then (some (t311, t312, (t315 ++ [(⟨a1, t319⟩ : S32)]), 0)) else (none)))) else (some (t311, t312, t315, 3))) = some (r1, r2, r3, r4) := by rw [if_neg (show ¬ (false = true) by decide)] at H; exact H
          clear H
          have H := H1
          clear H1
          by_cases c31 : (l2.length : Int) = 128
          · rw [if_pos c31] at H
            have c31b0 : ((l2.length : Int) == 128) = true := beq_iff_eq.mpr c31
            have c31b1 : ((l2.length : Int) != 128) = false := bne_eq_false_iff_eq.mpr c31
            clear c31
            by_cases c32 : (l0_2.length : Int) ≥ 2048
            · rw [if_pos c32] at H
              have c32b0 : decide (2048 ≤ (l0_2.length : Int)) = true := decide_eq_true c32
              have c32b1 : decide (2048 ≤ l0_2.length) = true := decide_eq_true (by omega)
              clear c32
              simp only [Option.some.injEq, Prod.mk.injEq] at H
              obtain ⟨rfl, rfl, rfl, rfl⟩ := H
              have hnb33 := NB308_309.out
              have hnc33 := NB309_308.out
              have hnb34 := NB308_318.out
              have hnc34 := NB318_308.out
              have hcz35_0 : wc.cell? ⟨gb308, 0, none⟩ = some (.int .i64 a0_0) := (blk_cell BK308.out 0).trans rfl
              have hcz35_1 : wc.cell? ⟨gb308, 1, none⟩ = some (.slice A0_1 l0_1.length c0_1) := (blk_cell BK308.out 1).trans rfl
              have hcz35_2 : wc.cell? ⟨gb308, 2, none⟩ = some (.slice A0_2 l0_2.length c0_2) := (blk_cell BK308.out 2).trans rfl
              have hfz35_0 := blk_frozen BK308.out 0
              have hfz35_1 := blk_frozen BK308.out 1
              have hfz35_2 := blk_frozen BK308.out 2
              have hnb36 := NB318_309.out
              have hnc36 := NB309_318.out
              have hcz37_0 : wc.cell? ⟨gb318, 0, none⟩ = some (.int .i64 t311) := (blk_cell BK318.out 0).trans rfl
              have hcz37_1 : wc.cell? ⟨gb318, 1, none⟩ = some (.slice Ao19 t312.length co19) := (blk_cell BK318.out 1).trans rfl
              have hcz37_2 : wc.cell? ⟨gb318, 2, none⟩ = some (.slice Ao20 t315.length co20) := (blk_cell BK318.out 2).trans rfl
              have hfz37_0 := blk_frozen BK318.out 0
              have hfz37_1 := blk_frozen BK318.out 1
              have hfz37_2 := blk_frozen BK318.out 2
              have hcz38_0 : wc.cell? ⟨gb309, 0, none⟩ = some (.int .i64 0) := (blk_cell BK309.out 0).trans rfl
              have hcz38_1 : wc.cell? ⟨gb309, 1, none⟩ = some (.slice none 0 0) := (blk_cell BK309.out 1).trans rfl
              have hcz38_2 : wc.cell? ⟨gb309, 2, none⟩ = some (.slice none 0 0) := (blk_cell BK309.out 2).trans rfl
              have hfz38_0 := blk_frozen BK309.out 0
              have hfz38_1 := blk_frozen BK309.out 1
              have hfz38_2 := blk_frozen BK309.out 2
              go_wp2
              refine bodyPost_ret (results_ct rfl _ _ gb309 25 #[.int .i64 t311, .slice Ao19 t312.length co19, .slice Ao20 t315.length co20] (0, 0) _ rfl (by (with_reducible repeat (first | refine blk_drewN ?_ _ | refine blk_drew ?_ | refine blk_alloc ?_ _)); refine blk_put (cs := #[.int .i64 t311, .slice Ao19 t312.length co19, .slice none 0 0]) ?_ 2 _ rfl; (with_reducible repeat (first | refine blk_drewN ?_ _ | refine blk_drew ?_ | refine blk_alloc ?_ _)); refine blk_put (cs := #[.int .i64 t311, .slice none 0 0, .slice none 0 0]) ?_ 1 _ rfl; (with_reducible repeat (first | refine blk_drewN ?_ _ | refine blk_drew ?_ | refine blk_alloc ?_ _)); refine blk_put (cs := #[.int .i64 0, .slice none 0 0, .slice none 0 0]) ?_ 0 _ rfl; (with_reducible repeat (first | refine blk_drewN ?_ _ | refine blk_drew ?_ | refine blk_alloc ?_ _)); exact BK309.out) Try.underlying25 rfl (by kernel_rfl)) rfl ?_
              exact ⟨_, _, by first | rfl | (simp [errW_none, errW_some] <;> rfl) | (simp [*, errW_none, errW_some] <;> rfl), by (with_reducible repeat (first | apply Kd.R_alloc | apply Kd.R_drewN | apply Kd.R_drew)); exact Kd.R_mono (Kd.R_far (p := ⟨gb309, 2, none⟩) (Kd.R_far (p := ⟨gb309, 1, none⟩) (Kd.R_far (p := ⟨gb309, 0, none⟩) (Kd.R_types HO_319001.out BK309.out (by decide)) (fun _ hk => hk.2) (.int .i64 t311)) (fun _ hk => hk.2) (.slice Ao19 t312.length co19)) (fun _ hk => hk.2) (.slice Ao20 t315.length co20)) (fun _ hk => trivial), by (with_reducible repeat (first | apply Kd.S_alloc | apply Kd.S_drewN | apply Kd.S_drew)); exact Kd.S_mono (Kd.S_far (p := ⟨gb309, 2, none⟩) (Kd.S_far (p := ⟨gb309, 1, none⟩) (Kd.S_far (p := ⟨gb309, 0, none⟩) (Kd.S_types HO_319002.out BK309.out (by decide)) (fun _ hk => hk.2) (.int .i64 t311)) (fun _ hk => hk.2) (.slice Ao19 t312.length co19)) (fun _ hk => hk.2) (.slice Ao20 t315.length co20)) (fun _ hk => hk.1), by repeat (first | (with_reducible first | exact HB.out | apply below_alloc | apply pw_below_drewN | apply below_drew1 | refine below_set ?_ GE308.out | refine below_set ?_ GE309.out | refine below_set ?_ GE318.out) | exact HB.out)⟩
            · rw [if_neg c32] at H
              have c32b0 : decide (2048 ≤ (l0_2.length : Int)) = false := decide_eq_false c32
              have c32b1 : decide (2048 ≤ l0_2.length) = false := decide_eq_false (by omega)
              clear c32
              replace H := Option.bind_eq_some_iff.mp H
              obtain ⟨t319, A390, H⟩ := H
              replace H : (if t315.length < 4398046511104 then (some (t311, t312, (t315 ++ [(⟨a1, t319⟩ : S32)]), 0)) else (none)) = some (r1, r2, r3, r4) := H
              have A39 := Aside0.mk A390
              clear A390
              by_cases c40 : t315.length < 4398046511104
              · rw [if_pos c40] at H
                have LMc40 := Aside0.mk c40
                clear c40
                obtain ⟨y322, hy322⟩ : ∃ y_ : List (S32), y_ = (t315 ++ [(⟨a1, t319⟩ : S32)]) := ⟨_, rfl⟩
                replace H : (some (t311, t312, y322, 0)) = some (r1, r2, r3, r4) := by first | (rw [hy322]; with_reducible exact H) | (have H2_ := (Option.bind_some _ _).symm.trans H; rw [hy322]; with_reducible exact H2_) | (have H2_ := (Option.bind_some _ _).symm.trans H; with_reducible exact H2_) | with_reducible exact H | (rw [hy322]; exact H) | exact H
                have Ny322 := Aside0.mk hy322
                clear hy322
                simp only [Option.some.injEq, Prod.mk.injEq] at H
                obtain ⟨rfl, rfl, rfl, rfl⟩ := H
                have hnb41 := NB308_309.out
                have hnc41 := NB309_308.out
                have hnb42 := NB308_318.out
                have hnc42 := NB318_308.out
                have hcz43_0 : wc.cell? ⟨gb308, 0, none⟩ = some (.int .i64 a0_0) := (blk_cell BK308.out 0).trans rfl
                have hcz43_1 : wc.cell? ⟨gb308, 1, none⟩ = some (.slice A0_1 l0_1.length c0_1) := (blk_cell BK308.out 1).trans rfl
                have hcz43_2 : wc.cell? ⟨gb308, 2, none⟩ = some (.slice A0_2 l0_2.length c0_2) := (blk_cell BK308.out 2).trans rfl
                have hfz43_0 := blk_frozen BK308.out 0
                have hfz43_1 := blk_frozen BK308.out 1
                have hfz43_2 := blk_frozen BK308.out 2
                try go_wp2
                have n0_ := Aside0.mk (Kd.R_drew HO_319001.out)
                have n1_ := Aside0.mk (Kd.S_drew HO_319002.out)
                have n2_ := Aside0.mk (blk_drew BK308.out)
                have n3_ := Aside0.mk (blk_drew BK309.out)
                have n4_ := Aside0.mk (blk_drew BK318.out)
                have n5_ := Aside0.mk (below_drew1 HB.out)
                clear HO_319001
                clear HO_319002
                clear BK308
                clear BK309
                clear BK318
                clear HB
                have HO_319001 := n0_
                have HO_319002 := n1_
                have BK308 := n2_
                have BK309 := n3_
                have BK318 := n4_
                have HB := n5_
                clear n0_ n1_ n2_ n3_ n4_ n5_
                refine start_ (n := 10) (S := fun w' => w'.cell? ⟨gb318, 0, none⟩ = some (.int .i64 t311) ∧ w'.cell? ⟨gb318, 1, none⟩ = some (.slice Ao19 t312.length co19) ∧ w'.cell? ⟨gb318, 2, none⟩ = some (.slice Ao20 t315.length co20)) (ds := [9]) #[false, false, false, false, false, false, false, false, false, false] (by kernel_rfl) rfl rfl ⟨(blk_cell BK318.out 0).trans rfl, (blk_cell BK318.out 1).trans rfl, (blk_cell BK318.out 2).trans rfl⟩ (fun hHeld => ?_); refine with_tabW spec_DevWrite.tab10 spec_DevWrite.bits10 (fun HT_ HW_ => ?_)
                generalize wc.drew = w44 at HO_319001 HO_319002 BK308 BK309 BK318 HB hHeld ⊢
                refine pure_ (i := 0) (N := some 33) (v := ?_) (a' := ?_) #[true, false, false, false, false, false, false, false, false, false] rfl rfl (any_of HT_.out (by kernel_rfl)) (fun _ _ _ h => h) (Or.inl ⟨by rfl, ?_⟩) ?_ ?_
                rotate_left
                · intro w'
                  go_simp
                  with_reducible rfl
                rotate_left
                · simp only [Act.put, List.setIfInBounds_toArray, List.set_cons_zero, List.set_cons_succ, i64_w, i32_w]
                  rfl
                refine pure_ (i := 2) (N := some 35) (v := ?_) (a' := ?_) #[true, false, true, false, false, false, false, false, false, false] rfl rfl (any_of HT_.out (by kernel_rfl)) (fun _ _ _ h => h) (Or.inl ⟨by rfl, ?_⟩) ?_ ?_
                rotate_left
                · intro w'
                  go_simp
                  with_reducible rfl
                rotate_left
                · simp only [Act.put, List.setIfInBounds_toArray, List.set_cons_zero, List.set_cons_succ, i64_w, i32_w]
                  rfl
                refine pure_ (i := 3) (N := some 36) (v := ?_) (a' := ?_) #[true, false, true, true, false, false, false, false, false, false] rfl rfl (any_of HT_.out (by kernel_rfl)) (fun _ _ _ h => h) (Or.inl ⟨by rfl, ?_⟩) ?_ ?_
                rotate_left
                · intro w'
                  go_simp
                  with_reducible rfl
                rotate_left
                · simp only [Act.put, List.setIfInBounds_toArray, List.set_cons_zero, List.set_cons_succ, i64_w, i32_w]
                  rfl
                refine take_ (i := 1) (N := some 34) (v := ?_) (a' := ?_) #[true, true, true, true, false, false, false, false, false, false] rfl rfl (take_ofW HT_.out HW_.out (by kernel_rfl)) (fun _ _ _ h => h) (Or.inl ⟨by rfl, ?_⟩) hHeld ?_ ?_
                rotate_left
                · rintro w' ⟨s0, s1, s2⟩
                  go_simp
                  with_reducible rfl
                rotate_left
                · simp only [Act.put, List.setIfInBounds_toArray, List.set_cons_zero, List.set_cons_succ, i64_w, i32_w]
                  rfl
                refine one_ (i := 4) (N := some 37) #[true, true, true, true, true, false, false, false, false, false] rfl rfl (one_of HT_.out (by kernel_rfl)) (by decide) (fun K hK => ?_)
                refine goes_ Try.func19 (by kernel_rfl) rfl #[.slice A2 l2.length c2] (by rfl) rfl rfl (by (try simp only [List.map_toArray, List.map_cons, List.map_nil]); first | done | rfl | (simp only [List.length_drop, List.length_take]; rfl)) ?_
                with_reducible refine (spec_l1Copy.calls kj6 _ _ l2 t319 _ ?side1 ?side2 A39.out).mono ?_
                (case side1 => repeat (first | exact (Kd.C_below HR2.out HB.out) | (with_reducible refine Kd.C_alloc ?_ _) | (with_reducible refine Kd.C_drewN ?_ _) | (with_reducible refine Kd.C_drew ?_)))
                (case side2 => exact HC2.out)
                rintro e w45 ⟨v320, rfl, ho0, hb⟩
                refine ⟨_, rfl, ?_⟩
                have n0_ := Aside0.mk (Kd.R_elder' (by (with_reducible repeat (first | apply Kd.R_alloc | apply Kd.R_drewN | apply Kd.R_drew)); exact HO_319001.out) (Kd.R_base ho0) hb)
                have n1_ := Aside0.mk (Kd.S_elder' (by (with_reducible repeat (first | apply Kd.S_alloc | apply Kd.S_drewN | apply Kd.S_drew)); exact HO_319002.out) (Kd.R_base ho0) hb)
                have n2_ := Aside0.mk (Kd.R_lower (Kd.R_new' ho0 (Kd.R_lt (by (with_reducible repeat (first | apply Kd.R_alloc | apply Kd.R_drewN | apply Kd.R_drew)); exact HO_319001.out))) (below_size (by repeat (first | (with_reducible first | exact HB.out | apply below_alloc | apply pw_below_drewN | apply below_drew1 | refine below_set ?_ GE308.out | refine below_set ?_ GE309.out | refine below_set ?_ GE318.out) | exact HB.out))))
                have n3_ := Aside0.mk (blk_below (g := gb308) (o := .cells #[.int .i64 a0_0, .slice A0_1 l0_1.length c0_1, .slice A0_2 l0_2.length c0_2] 25 (0, 0)) (by (with_reducible repeat (first | refine blk_drewN ?_ _ | refine blk_drew ?_ | refine blk_alloc ?_ _)); exact BK308.out) hb)
                have n4_ := Aside0.mk (blk_below (g := gb309) (o := .cells #[.int .i64 0, .slice none 0 0, .slice none 0 0] 25 (0, 0)) (by (with_reducible repeat (first | refine blk_drewN ?_ _ | refine blk_drew ?_ | refine blk_alloc ?_ _)); exact BK309.out) hb)
                have n5_ := Aside0.mk (blk_below (g := gb318) (o := .cells #[.int .i64 t311, .slice Ao19 t312.length co19, .slice Ao20 t315.length co20] 25 (0, 0)) (by (with_reducible repeat (first | refine blk_drewN ?_ _ | refine blk_drew ?_ | refine blk_alloc ?_ _)); exact BK318.out) hb)
                have n6_ := Aside0.mk (below_step (by repeat (first | (with_reducible first | exact HB.out | apply below_alloc | apply pw_below_drewN | apply below_drew1 | refine below_set ?_ GE308.out | refine below_set ?_ GE309.out | refine below_set ?_ GE318.out) | exact HB.out)) hb)
                clear HO_319001
                clear HO_319002
                clear BK308
                clear BK309
                clear BK318
                clear HB
                have HO_319001 := n0_
                have HO_319002 := n1_
                have HO321 := n2_
                have BK308 := n3_
                have BK309 := n4_
                have BK318 := n5_
                have HB := n6_
                clear n0_ n1_ n2_ n3_ n4_ n5_ n6_
                (try clear hb)
                (try clear hb2)
                (try clear hk)
                (try clear hi)
                (try clear ho0)
                obtain ⟨Ao46, co46, eo46⟩ := Kd.R_slice HO321.out
                (first | subst eo46 | (injection eo46 with f1_ f2_ f3_; have f4_ := f1_.symm; have f5_ := f3_.symm; clear f1_ f2_ f3_; subst f4_; subst f5_))
                refine hK.out _ _ ⟨(blk_cell BK318.out 0).trans rfl, (blk_cell BK318.out 1).trans rfl, (blk_cell BK318.out 2).trans rfl⟩ (fun hHeld => ?_)
                clear hK K
                refine norm_ (a' := ?_) ?_ ?_
                rotate_left
                · show Act.put _ (some 37) _ = _
                  simp only [Act.put, List.setIfInBounds_toArray, List.set_cons_zero, List.set_cons_succ, i64_w, i32_w]
                  rfl
                refine pure_ (i := 5) (N := some 38) (v := ?_) (a' := ?_) #[true, true, true, true, true, true, false, false, false, false] rfl rfl (any_of HT_.out (by kernel_rfl)) (fun _ _ _ h => h) (Or.inl ⟨by rfl, ?_⟩) ?_ ?_
                rotate_left
                · intro w'
                  go_simp
                  with_reducible rfl
                rotate_left
                · simp only [Act.put, List.setIfInBounds_toArray, List.set_cons_zero, List.set_cons_succ, i64_w, i32_w]
                  rfl
                refine one_ (i := 6) (N := some 39) #[true, true, true, true, true, true, true, false, false, false] rfl rfl (one_of HT_.out (by kernel_rfl)) (by decide) (fun K hK => ?_)
                refine value_ (w1 := ?_) (v := ?_) (by rfl) rfl ?_ ?_
                rotate_left 2
                · go_simp
                  constructor
                  · rfl
                  · rfl
                refine hK.out _ _ ⟨(blk_cell (blk_alloc BK318.out _) 0).trans rfl, (blk_cell (blk_alloc BK318.out _) 1).trans rfl, (blk_cell (blk_alloc BK318.out _) 2).trans rfl⟩ (fun hHeld => ?_)
                clear hK K
                refine norm_ (a' := ?_) ?_ ?_
                rotate_left
                · show Act.put _ (some 39) _ = _
                  simp only [Act.put, List.setIfInBounds_toArray, List.set_cons_zero, List.set_cons_succ, i64_w, i32_w]
                  rfl
                refine one_ (i := 7) (N := some 40) #[true, true, true, true, true, true, true, true, false, false] rfl rfl (one_of HT_.out (by kernel_rfl)) (by decide) (fun K hK => ?_)
                refine Kd.S_append_step k32 (w0 := w) w.heap.size (by rfl) (.tmp 34) (.tmp 39) 23 32 (.agg #[(.int .i64 0), (.slice none 0 0)]) 32 rfl Try.underlying23 info32 rfl (by decide) (by omega) (.slice Ao20 t315.length co20) t315 (⟨a1, t319⟩ : S32) [.int .i64 a1, .slice Ao46 t319.length co46] (fun k_ => some k_ ≠ (.slice Ao19 t312.length co19 : Value).ownBlock) (fun k_ => some k_ = (.slice Ao46 t319.length co46 : Value).ownBlock) rfl rfl ?aP (fun k_ hk_ => ((Kd.R_mono (ok' := fun k_ => ((fun k_ => some k_ ≠ (.slice Ao19 t312.length co19 : Value).ownBlock)) k_ ∧ some k_ ≠ (.slice Ao20 t315.length co20 : Value).ownBlock) (Kd.R_apart' (HO321.out) (Kd.S_typed HO_319002.out) (by decide)) (fun k_ hk => ⟨hk.1.2, hk.2⟩))).1 k_ hk_.symm) ?aF ?aO ?aB ?aS ?aL ?_
                (case aP => exact k32_mkM _ _ _ (⟨a1, t319⟩ : S32) (Kd.R_mono (Kd.R_tight rfl (Kd.R_mono (ok' := fun k_ => ((fun k_ => some k_ ≠ (.slice Ao19 t312.length co19 : Value).ownBlock)) k_ ∧ some k_ ≠ (.slice Ao20 t315.length co20 : Value).ownBlock) (Kd.R_apart' (HO321.out) (Kd.S_typed HO_319002.out) (by decide)) (fun k_ hk => ⟨hk.1.2, hk.2⟩))) (fun _ h_ => h_)))
                (case aB => exact (by repeat (first | (with_reducible first | exact HB.out | apply below_alloc | apply pw_below_drewN | apply below_drew1 | refine below_set ?_ GE308.out | refine below_set ?_ GE309.out | refine below_set ?_ GE318.out) | exact HB.out)))
                (case aF => exact (fun k_ hk => Kd.fresh' (Kd.R_lt (by (with_reducible repeat (first | apply Kd.R_alloc | apply Kd.R_drewN | apply Kd.R_drew)); exact HO_319001.out)) k_ hk))
                (case aO => exact (by (with_reducible repeat (first | apply Kd.S_alloc | apply Kd.S_drewN | apply Kd.S_drew)); exact Kd.S_mono HO_319002.out (fun k_ hk => ⟨hk.1, fun e_ => hk.2 e_⟩)))
                (case aS => exact (below_size (by repeat (first | (with_reducible first | exact HB.out | apply below_alloc | apply pw_below_drewN | apply below_drew1 | refine below_set ?_ GE308.out | refine below_set ?_ GE309.out | refine below_set ?_ GE318.out) | exact HB.out))))
                (case aL => have := LMc40.out; omega)
                intro v323 w47 ho hb hg hat
                rw [← Ny322.out] at ho
                have n0_ := Aside0.mk (Kd.R_over' (by (with_reducible repeat (first | apply Kd.R_alloc | apply Kd.R_drewN | apply Kd.R_drew)); exact HO_319001.out) (Kd.S_typed (by (with_reducible repeat (first | apply Kd.S_alloc | apply Kd.S_drewN | apply Kd.S_drew)); exact HO_319002.out)) (by decide) hg)
                have n1_ := Aside0.mk (blk_grown (g := gb308) (o := .cells #[.int .i64 a0_0, .slice A0_1 l0_1.length c0_1, .slice A0_2 l0_2.length c0_2] 25 (0, 0)) (by (with_reducible repeat (first | refine blk_drewN ?_ _ | refine blk_drew ?_ | refine blk_alloc ?_ _)); exact BK308.out) hg (Kd.S_ne HO_319002.out BK308.out (by decide)))
                have n2_ := Aside0.mk (blk_grown (g := gb309) (o := .cells #[.int .i64 0, .slice none 0 0, .slice none 0 0] 25 (0, 0)) (by (with_reducible repeat (first | refine blk_drewN ?_ _ | refine blk_drew ?_ | refine blk_alloc ?_ _)); exact BK309.out) hg (Kd.S_ne HO_319002.out BK309.out (by decide)))
                have n3_ := Aside0.mk (blk_grown (g := gb318) (o := .cells #[.int .i64 t311, .slice Ao19 t312.length co19, .slice Ao20 t315.length co20] 25 (0, 0)) (by (with_reducible repeat (first | refine blk_drewN ?_ _ | refine blk_drew ?_ | refine blk_alloc ?_ _)); exact BK318.out) hg (Kd.S_ne HO_319002.out BK318.out (by decide)))
                have n4_ := Aside0.mk (hb)
                have n5_ := Aside0.mk (ho)
                clear HO_319001
                clear BK308
                clear BK309
                clear BK318
                clear HB
                clear HO_319002
                clear HO321
                have HO_319001 := n0_
                have BK308 := n1_
                have BK309 := n2_
                have BK318 := n3_
                have HB := n4_
                have HO324 := n5_
                clear n0_ n1_ n2_ n3_ n4_ n5_
                clear ho hb hg hat
                obtain ⟨Ao48, co48, eo48⟩ := Kd.S_slice HO324.out
                (first | subst eo48 | (injection eo48 with f1_ f2_ f3_; have f4_ := f1_.symm; have f5_ := f3_.symm; clear f1_ f2_ f3_; subst f4_; subst f5_))
                refine hK.out _ _ ⟨(blk_cell BK318.out 0).trans rfl, (blk_cell BK318.out 1).trans rfl, (blk_cell BK318.out 2).trans rfl⟩ (fun hHeld => ?_)
                clear hK K
                refine norm_ (a' := ?_) ?_ ?_
                rotate_left
                · show Act.put _ (some 40) _ = _
                  simp only [Act.put, List.setIfInBounds_toArray, List.set_cons_zero, List.set_cons_succ, i64_w, i32_w]
                  rfl
                refine pure_ (i := 8) (N := some 41) (v := ?_) (a' := ?_) #[true, true, true, true, true, true, true, true, true, false] rfl rfl (any_of HT_.out (by kernel_rfl)) (fun _ _ _ h => h) (Or.inl ⟨by rfl, ?_⟩) ?_ ?_
                rotate_left
                · intro w'
                  go_simp
                  with_reducible rfl
                rotate_left
                · simp only [Act.put, List.setIfInBounds_toArray, List.set_cons_zero, List.set_cons_succ, i64_w, i32_w]
                  rfl
                refine last_ (i := 9) (N := none) #[true, true, true, true, true, true, true, true, true, true] rfl rfl (one_of HT_.out (by kernel_rfl)) (by decide) (fun K hK => ?_)
                have hs49 : w47.cell? ⟨gb318, 2, none⟩ = some (.slice Ao20 t315.length co20) := (blk_cell BK318.out 2).trans rfl
                have hfs49 := blk_frozen BK318.out 2
                have hns49_0 := NB308_318.out
                have hns49_1 := NB309_318.out
                have hms49_0 := NB318_308.out
                have hms49_1 := NB318_309.out
                refine skip_ (w1 := ?_) (by rfl) rfl ?_ ?_
                rotate_left
                · go_simp
                  rfl
                refine hK.out _ _ ?_
                clear hK K
                refine done_ (done_of HT_.out (by kernel_rfl)) ?_
                have hnb50 := NB318_309.out
                have hnc50 := NB309_318.out
                have hcz51_0 : w47.cell? ⟨gb318, 0, none⟩ = some (.int .i64 t311) := (blk_cell BK318.out 0).trans rfl
                have hcz51_1 : w47.cell? ⟨gb318, 1, none⟩ = some (.slice Ao19 t312.length co19) := (blk_cell BK318.out 1).trans rfl
                have hcz51_2 : w47.cell? ⟨gb318, 2, none⟩ = some (.slice Ao20 t315.length co20) := (blk_cell BK318.out 2).trans rfl
                have hfz51_0 := blk_frozen BK318.out 0
                have hfz51_1 := blk_frozen BK318.out 1
                have hfz51_2 := blk_frozen BK318.out 2
                have hcz52_0 : w47.cell? ⟨gb309, 0, none⟩ = some (.int .i64 0) := (blk_cell BK309.out 0).trans rfl
                have hcz52_1 : w47.cell? ⟨gb309, 1, none⟩ = some (.slice none 0 0) := (blk_cell BK309.out 1).trans rfl
                have hcz52_2 : w47.cell? ⟨gb309, 2, none⟩ = some (.slice none 0 0) := (blk_cell BK309.out 2).trans rfl
                have hfz52_0 := blk_frozen BK309.out 0
                have hfz52_1 := blk_frozen BK309.out 1
                have hfz52_2 := blk_frozen BK309.out 2
                try go_wp2
                refine bodyPost_ret (results_ct rfl _ _ gb309 25 #[.int .i64 t311, .slice Ao19 t312.length co19, .slice Ao48 y322.length co48] (0, 0) _ rfl (by (with_reducible repeat (first | refine blk_drewN ?_ _ | refine blk_drew ?_ | refine blk_alloc ?_ _)); refine blk_put (cs := #[.int .i64 t311, .slice Ao19 t312.length co19, .slice none 0 0]) ?_ 2 _ rfl; (with_reducible repeat (first | refine blk_drewN ?_ _ | refine blk_drew ?_ | refine blk_alloc ?_ _)); refine blk_put (cs := #[.int .i64 t311, .slice none 0 0, .slice none 0 0]) ?_ 1 _ rfl; (with_reducible repeat (first | refine blk_drewN ?_ _ | refine blk_drew ?_ | refine blk_alloc ?_ _)); refine blk_put (cs := #[.int .i64 0, .slice none 0 0, .slice none 0 0]) ?_ 0 _ rfl; (with_reducible repeat (first | refine blk_drewN ?_ _ | refine blk_drew ?_ | refine blk_alloc ?_ _)); refine blk_far ?_ NB309_318.out _; (with_reducible repeat (first | refine blk_drewN ?_ _ | refine blk_drew ?_ | refine blk_alloc ?_ _)); exact BK309.out) Try.underlying25 rfl (by kernel_rfl)) rfl ?_
                exact ⟨_, _, by first | rfl | (simp [errW_none, errW_some] <;> rfl) | (simp [*, errW_none, errW_some] <;> rfl), by (with_reducible repeat (first | apply Kd.R_alloc | apply Kd.R_drewN | apply Kd.R_drew)); exact Kd.R_mono (Kd.R_far (p := ⟨gb309, 2, none⟩) (Kd.R_far (p := ⟨gb309, 1, none⟩) (Kd.R_far (p := ⟨gb309, 0, none⟩) (Kd.R_far (p := ⟨gb318, 2, none⟩) (Kd.R_types (Kd.R_types HO_319001.out BK318.out (by decide)) BK309.out (by decide)) (fun _ hk => hk.1.2) (.slice Ao48 y322.length co48)) (fun _ hk => hk.2) (.int .i64 t311)) (fun _ hk => hk.2) (.slice Ao19 t312.length co19)) (fun _ hk => hk.2) (.slice Ao48 y322.length co48)) (fun _ hk => trivial), by (with_reducible repeat (first | apply Kd.S_alloc | apply Kd.S_drewN | apply Kd.S_drew)); exact Kd.S_mono (Kd.S_far (p := ⟨gb309, 2, none⟩) (Kd.S_far (p := ⟨gb309, 1, none⟩) (Kd.S_far (p := ⟨gb309, 0, none⟩) (Kd.S_far (p := ⟨gb318, 2, none⟩) (Kd.S_types (Kd.S_types HO324.out BK318.out (by decide)) BK309.out (by decide)) (fun _ hk => hk.1.2) (.slice Ao48 y322.length co48)) (fun _ hk => hk.2) (.int .i64 t311)) (fun _ hk => hk.2) (.slice Ao19 t312.length co19)) (fun _ hk => hk.2) (.slice Ao48 y322.length co48)) (fun _ hk => hk.1.1), by repeat (first | (with_reducible first | exact HB.out | apply below_alloc | apply pw_below_drewN | apply below_drew1 | refine below_set ?_ GE308.out | refine below_set ?_ GE309.out | refine below_set ?_ GE318.out) | exact HB.out)⟩
              · rw [if_neg c40] at H
                exact absurd H (by simp)
          · rw [if_neg c31] at H
            have c31b0 : ((l2.length : Int) == 128) = false := beq_eq_false_iff_ne.mpr c31
            have c31b1 : ((l2.length : Int) != 128) = true := bne_iff_ne.mpr c31
            simp only [Option.some.injEq, Prod.mk.injEq] at H
            obtain ⟨rfl, rfl, rfl, rfl⟩ := H
            have hnb53 := NB318_308.out
            have hnc53 := NB308_318.out
            have hnb54 := NB318_309.out
            have hnc54 := NB309_318.out
            have hcz55_0 : wc.cell? ⟨gb318, 0, none⟩ = some (.int .i64 t311) := (blk_cell BK318.out 0).trans rfl
            have hcz55_1 : wc.cell? ⟨gb318, 1, none⟩ = some (.slice Ao19 t312.length co19) := (blk_cell BK318.out 1).trans rfl
            have hcz55_2 : wc.cell? ⟨gb318, 2, none⟩ = some (.slice Ao20 t315.length co20) := (blk_cell BK318.out 2).trans rfl
            have hfz55_0 := blk_frozen BK318.out 0
            have hfz55_1 := blk_frozen BK318.out 1
            have hfz55_2 := blk_frozen BK318.out 2
            have hnb56 := NB309_308.out
            have hnc56 := NB308_309.out
            have hcz57_0 : wc.cell? ⟨gb309, 0, none⟩ = some (.int .i64 0) := (blk_cell BK309.out 0).trans rfl
            have hcz57_1 : wc.cell? ⟨gb309, 1, none⟩ = some (.slice none 0 0) := (blk_cell BK309.out 1).trans rfl
            have hcz57_2 : wc.cell? ⟨gb309, 2, none⟩ = some (.slice none 0 0) := (blk_cell BK309.out 2).trans rfl
            have hfz57_0 := blk_frozen BK309.out 0
            have hfz57_1 := blk_frozen BK309.out 1
            have hfz57_2 := blk_frozen BK309.out 2
            go_wp2
            refine bodyPost_ret (results_ct rfl _ _ gb309 25 #[.int .i64 t311, .slice Ao19 t312.length co19, .slice Ao20 t315.length co20] (0, 0) _ rfl (by (with_reducible repeat (first | refine blk_drewN ?_ _ | refine blk_drew ?_ | refine blk_alloc ?_ _)); refine blk_put (cs := #[.int .i64 t311, .slice Ao19 t312.length co19, .slice none 0 0]) ?_ 2 _ rfl; (with_reducible repeat (first | refine blk_drewN ?_ _ | refine blk_drew ?_ | refine blk_alloc ?_ _)); refine blk_put (cs := #[.int .i64 t311, .slice none 0 0, .slice none 0 0]) ?_ 1 _ rfl; (with_reducible repeat (first | refine blk_drewN ?_ _ | refine blk_drew ?_ | refine blk_alloc ?_ _)); refine blk_put (cs := #[.int .i64 0, .slice none 0 0, .slice none 0 0]) ?_ 0 _ rfl; (with_reducible repeat (first | refine blk_drewN ?_ _ | refine blk_drew ?_ | refine blk_alloc ?_ _)); exact BK309.out) Try.underlying25 rfl (by kernel_rfl)) rfl ?_
            exact ⟨_, _, by first | rfl | (simp [errW_none, errW_some] <;> rfl) | (simp [*, errW_none, errW_some] <;> rfl), by (with_reducible repeat (first | apply Kd.R_alloc | apply Kd.R_drewN | apply Kd.R_drew)); exact Kd.R_mono (Kd.R_far (p := ⟨gb309, 2, none⟩) (Kd.R_far (p := ⟨gb309, 1, none⟩) (Kd.R_far (p := ⟨gb309, 0, none⟩) (Kd.R_types HO_319001.out BK309.out (by decide)) (fun _ hk => hk.2) (.int .i64 t311)) (fun _ hk => hk.2) (.slice Ao19 t312.length co19)) (fun _ hk => hk.2) (.slice Ao20 t315.length co20)) (fun _ hk => trivial), by (with_reducible repeat (first | apply Kd.S_alloc | apply Kd.S_drewN | apply Kd.S_drew)); exact Kd.S_mono (Kd.S_far (p := ⟨gb309, 2, none⟩) (Kd.S_far (p := ⟨gb309, 1, none⟩) (Kd.S_far (p := ⟨gb309, 0, none⟩) (Kd.S_types HO_319002.out BK309.out (by decide)) (fun _ hk => hk.2) (.int .i64 t311)) (fun _ hk => hk.2) (.slice Ao19 t312.length co19)) (fun _ hk => hk.2) (.slice Ao20 t315.length co20)) (fun _ hk => hk.1), by repeat (first | (with_reducible first | exact HB.out | apply below_alloc | apply pw_below_drewN | apply below_drew1 | refine below_set ?_ GE308.out | refine below_set ?_ GE309.out | refine below_set ?_ GE318.out) | exact HB.out)⟩
  · replace c5 := Bool.eq_false_iff.mpr c5
    subst c5
    have H1 : (some (0, ([] : List Int), ([] : List (S32)), 1)) = some (r1, r2, r3, r4) := by rw [if_neg (show ¬ (false = true) by decide)] at H; exact H
    clear H
    have H := H1
    clear H1
    simp only [Option.some.injEq, Prod.mk.injEq] at H
    obtain ⟨rfl, rfl, rfl, rfl⟩ := H
    go_enter Try.func5, Try.ntmps5
    go_wp2_with (first | ((with_reducible refine gate_dst (N := 3) rfl ?_); refine box_event ?hg (N := 3) ?hd (cs := #[.int .i64 a0_0, .slice A0_1 l0_1.length c0_1, .slice A0_2 l0_2.length c0_2]) (t := 25) ?hr ?_; (case hd => rfl); (case hg => rfl); (case hr => first | (go_simp; done) | (go_simp; rfl)); intro gb308 hg w58 hbox hb; have n0_ := Aside0.mk (below_step (by repeat (first | (with_reducible first | exact HB.out | apply below_alloc | apply pw_below_drewN | apply below_drew1) | exact HB.out)) hb); have n1_ := Aside0.mk (hbox); have n2_ := Aside0.mk ((by rw [hg]; exact (below_size (by repeat (first | (with_reducible first | exact HB.out | apply below_alloc | apply pw_below_drewN | apply below_drew1) | exact HB.out))) : w.heap.size ≤ gb308)); have n3_ := Aside0.mk ((by rw [hg]; exact (below_size (by repeat (first | (with_reducible first | exact HB.out | apply below_alloc | apply pw_below_drewN | apply below_drew1) | exact HB.out))) : w.heap.size ≤ gb308)); clear HB; have HB := n0_; have BK308 := n1_; have GW308 := n2_; have GE308 := n3_; clear n0_ n1_ n2_ n3_; clear hb hbox hg) | ((with_reducible refine gate_dst (N := 6) rfl ?_); refine box_event ?hg (N := 6) ?hd (cs := #[.int .i64 0, .slice none 0 0, .slice none 0 0]) (t := 25) ?hr ?_; (case hd => rfl); (case hg => rfl); (case hr => first | (go_simp; done) | (go_simp; rfl)); intro gb309 hg w59 hbox hb; have n0_ := Aside0.mk (blk_below (g := gb308) (o := .cells #[.int .i64 a0_0, .slice A0_1 l0_1.length c0_1, .slice A0_2 l0_2.length c0_2] 25 (0, 0)) (by (with_reducible repeat (first | refine blk_drewN ?_ _ | refine blk_drew ?_ | refine blk_alloc ?_ _)); exact BK308.out) hb); have n1_ := Aside0.mk (below_step (by repeat (first | (with_reducible first | exact HB.out | apply below_alloc | apply pw_below_drewN | apply below_drew1 | refine below_set ?_ GE308.out) | exact HB.out)) hb); have n2_ := Aside0.mk (hbox); have n3_ := Aside0.mk ((by rw [hg]; exact (below_size (by repeat (first | (with_reducible first | exact HB.out | apply below_alloc | apply pw_below_drewN | apply below_drew1 | refine below_set ?_ GE308.out) | exact HB.out))) : w.heap.size ≤ gb309)); have n4_ := Aside0.mk ((by rw [hg]; exact (below_size (by repeat (first | (with_reducible first | exact HB.out | apply below_alloc | apply pw_below_drewN | apply below_drew1 | refine below_set ?_ GE308.out) | exact HB.out))) : w.heap.size ≤ gb309)); have n5_ := Aside0.mk ((by rw [hg]; exact Nat.ne_of_lt (blk_lt (g := gb308) (o := .cells #[.int .i64 a0_0, .slice A0_1 l0_1.length c0_1, .slice A0_2 l0_2.length c0_2] 25 (0, 0)) (by (with_reducible repeat (first | refine blk_drewN ?_ _ | refine blk_drew ?_ | refine blk_alloc ?_ _)); exact BK308.out)) : gb308 ≠ gb309)); have n6_ := Aside0.mk ((by rw [hg]; exact Nat.ne_of_gt (blk_lt (g := gb308) (o := .cells #[.int .i64 a0_0, .slice A0_1 l0_1.length c0_1, .slice A0_2 l0_2.length c0_2] 25 (0, 0)) (by (with_reducible repeat (first | refine blk_drewN ?_ _ | refine blk_drew ?_ | refine blk_alloc ?_ _)); exact BK308.out)) : gb309 ≠ gb308)); clear BK308; clear HB; have BK308 := n0_; have HB := n1_; have BK309 := n2_; have GW309 := n3_; have GE309 := n4_; have NB308_309 := n5_; have NB309_308 := n6_; clear n0_ n1_ n2_ n3_ n4_ n5_ n6_; clear hb hbox hg; have hnb60 := NB308_309.out; have hnc60 := NB309_308.out; have hcz61_0 : w59.cell? ⟨gb308, 0, none⟩ = some (.int .i64 a0_0) := (blk_cell BK308.out 0).trans rfl; have hcz61_1 : w59.cell? ⟨gb308, 1, none⟩ = some (.slice A0_1 l0_1.length c0_1) := (blk_cell BK308.out 1).trans rfl; have hcz61_2 : w59.cell? ⟨gb308, 2, none⟩ = some (.slice A0_2 l0_2.length c0_2) := (blk_cell BK308.out 2).trans rfl; have hfz61_0 := blk_frozen BK308.out 0; have hfz61_1 := blk_frozen BK308.out 1; have hfz61_2 := blk_frozen BK308.out 2) | ((with_reducible refine gate_callee (f := 17) rfl ?_); refine goesL_ (some 10) rfl rfl Try.func17 (by kernel_rfl) rfl #[.agg #[.int .i64 a0_0, .slice A0_1 l0_1.length c0_1, .slice A0_2 l0_2.length c0_2]] rfl (by (try simp only [List.map_toArray, List.map_cons, List.map_nil]); first | done | rfl | (simp only [List.length_drop, List.length_take]; rfl)) ?_; (with_reducible refine (spec_l1Valid.calls k a0_0 _ _ l0_1 _ _ l0_2 false _ ?side1 ?side2 ?side3 ?side4 A4.out).mono ?_); (case side1 => repeat (first | exact (Kd.C_below HR0_1.out HB.out) | (with_reducible refine Kd.C_alloc ?_ _) | (with_reducible refine Kd.C_drewN ?_ _) | (with_reducible refine Kd.C_drew ?_))); (case side2 => exact HC0_1.out); (case side3 => repeat (first | exact (Kd.C_below HR0_2.out HB.out) | (with_reducible refine Kd.C_alloc ?_ _) | (with_reducible refine Kd.C_drewN ?_ _) | (with_reducible refine Kd.C_drew ?_))); (case side4 => exact HC0_2.out); rintro e w62 ⟨rfl, hb⟩; refine ⟨_, rfl, ?_⟩; have n0_ := Aside0.mk (blk_below (g := gb308) (o := .cells #[.int .i64 a0_0, .slice A0_1 l0_1.length c0_1, .slice A0_2 l0_2.length c0_2] 25 (0, 0)) (by (with_reducible repeat (first | refine blk_drewN ?_ _ | refine blk_drew ?_ | refine blk_alloc ?_ _)); exact BK308.out) hb); have n1_ := Aside0.mk (blk_below (g := gb309) (o := .cells #[.int .i64 0, .slice none 0 0, .slice none 0 0] 25 (0, 0)) (by (with_reducible repeat (first | refine blk_drewN ?_ _ | refine blk_drew ?_ | refine blk_alloc ?_ _)); exact BK309.out) hb); have n2_ := Aside0.mk (below_step (by repeat (first | (with_reducible first | exact HB.out | apply below_alloc | apply pw_below_drewN | apply below_drew1 | refine below_set ?_ GE308.out | refine below_set ?_ GE309.out) | exact HB.out)) hb); clear BK308; clear BK309; clear HB; have BK308 := n0_; have BK309 := n1_; have HB := n2_; clear n0_ n1_ n2_; (try clear hb); (try clear hb2); (try clear hk); (try clear hi); have hcz63_0 : w62.cell? ⟨gb309, 0, none⟩ = some (.int .i64 0) := (blk_cell BK309.out 0).trans rfl; have hcz63_1 : w62.cell? ⟨gb309, 1, none⟩ = some (.slice none 0 0) := (blk_cell BK309.out 1).trans rfl; have hcz63_2 : w62.cell? ⟨gb309, 2, none⟩ = some (.slice none 0 0) := (blk_cell BK309.out 2).trans rfl; have hfz63_0 := blk_frozen BK309.out 0; have hfz63_1 := blk_frozen BK309.out 1; have hfz63_2 := blk_frozen BK309.out 2))
    refine bodyPost_ret (results_ct rfl _ _ gb309 25 #[.int .i64 0, .slice none 0 0, .slice none 0 0] (0, 0) _ rfl (by (with_reducible repeat (first | refine blk_drewN ?_ _ | refine blk_drew ?_ | refine blk_alloc ?_ _)); refine blk_put (cs := #[.int .i64 0, .slice none 0 0, .slice none 0 0]) ?_ 2 _ rfl; (with_reducible repeat (first | refine blk_drewN ?_ _ | refine blk_drew ?_ | refine blk_alloc ?_ _)); refine blk_put (cs := #[.int .i64 0, .slice none 0 0, .slice none 0 0]) ?_ 1 _ rfl; (with_reducible repeat (first | refine blk_drewN ?_ _ | refine blk_drew ?_ | refine blk_alloc ?_ _)); refine blk_put (cs := #[.int .i64 0, .slice none 0 0, .slice none 0 0]) ?_ 0 _ rfl; (with_reducible repeat (first | refine blk_drewN ?_ _ | refine blk_drew ?_ | refine blk_alloc ?_ _)); exact BK309.out) Try.underlying25 rfl (by kernel_rfl)) rfl ?_
    exact ⟨_, _, by first | rfl | (simp [errW_none, errW_some] <;> rfl) | (simp [*, errW_none, errW_some] <;> rfl), by first | exact Kd.R_nil _ _ _ _ _ | exact Kd.N_nil _ _ _ _ _ | exact Kd.V_nil _ _ _ _ _ | exact Kd.Q_nil _ _ _ _ _ | exact Kd.S_nil _ _ _ _ _, by first | exact Kd.S_nil _ _ _ _ _ | exact Kd.N_nil _ _ _ _ _ | exact Kd.V_nil _ _ _ _ _ | exact Kd.Q_nil _ _ _ _ _ | exact Kd.R_nil _ _ _ _ _, by repeat (first | (with_reducible first | exact HB.out | apply below_alloc | apply pw_below_drewN | apply below_drew1 | refine below_set ?_ GE308.out | refine below_set ?_ GE309.out) | exact HB.out)⟩

/-! ### impl_validDevice: function 20 -/
mutual
def impl_validDevice.j0 : Nat → Bool → Int → List Int → List (S32) → Option (Bool)
  | 0, _, _, _, _ => none
  | k + 1, x21, x326000, x326001, x326002 => if x21 = true then (some false) else (if (x326002.length : Int) > 2048 then (some false) else (impl_validDevice.l0 k x326002 (x326002.length : Int) 0 x326000 x326001 x326002))
def impl_validDevice.l0 : Nat → List (S32) → Int → Int → Int → List Int → List (S32) → Option (Bool)
  | 0, _, _, _, _, _, _ => none
  | k + 1, x27, x28, x29, x326000, x326001, x326002 => if x29 < x28 then (if 0 ≤ x29 then (if x29 < (x27.length : Int) then (if ((rd_T32 x27 x29).f0) < 0 then (some false) else (if ((rd_T32 x27 x29).f0) ≥ x326000 then (some false) else (if (((rd_T32 x27 x29).f1).length : Int) = 128 then (impl_validDevice.l0 k x27 x28 (wrap64 (x29 + 1)) x326000 x326001 x326002) else (some false)))) else (none)) else (none)) else (some true)
end
def impl_validDevice.f (k : Nat) (a0_0 : Int) (l0_1 : List Int) (l0_2 : List (S32)) : Option (Bool) := if a0_0 < 8 then (impl_validDevice.j0 k true a0_0 l0_1 l0_2) else (if a0_0 > 512 then (impl_validDevice.j0 k true a0_0 l0_1 l0_2) else (impl_validDevice.j0 k ((l0_1.length : Int) != (wrap64 (a0_0 * 128))) a0_0 l0_1 l0_2))
theorem impl_validDevice.mono_l : ∀ k, (∀ y0 y1 y2 y3, LeO (impl_validDevice.j0 k y0 y1 y2 y3) (impl_validDevice.j0 (k + 1) y0 y1 y2 y3)) ∧ (∀ y0 y1 y2 y3 y4 y5, LeO (impl_validDevice.l0 k y0 y1 y2 y3 y4 y5) (impl_validDevice.l0 (k + 1) y0 y1 y2 y3 y4 y5))
  | 0 => ⟨fun _ _ _ _ r h => by simp [impl_validDevice.j0] at h, fun _ _ _ _ _ _ r h => by simp [impl_validDevice.l0] at h⟩
  | k + 1 => by
    obtain ⟨ih0, ih1⟩ := impl_validDevice.mono_l k
    refine ⟨?_, ?_⟩
    · intro y0 y1 y2 y3
      unfold impl_validDevice.j0
      repeat' first
      | (with_reducible exact ih0 _ _ _ _)
      | (with_reducible exact ih1 _ _ _ _ _ _)
      | (with_reducible exact LeO.refl _)
      | (with_reducible exact LeO.none _)
      | (with_reducible refine LeO.ite ?_ ?_)
      | (with_reducible refine LeO.bind ?_ (fun _ => ?_))
      | exact ih0 _ _ _ _
      | exact ih1 _ _ _ _ _ _
      | exact LeO.none _
      | refine LeO.ite ?_ ?_
      | refine LeO.bind ?_ (fun _ => ?_)
    · intro y0 y1 y2 y3 y4 y5
      unfold impl_validDevice.l0
      repeat' first
      | (with_reducible exact ih0 _ _ _ _)
      | (with_reducible exact ih1 _ _ _ _ _ _)
      | (with_reducible exact LeO.refl _)
      | (with_reducible exact LeO.none _)
      | (with_reducible refine LeO.ite ?_ ?_)
      | (with_reducible refine LeO.bind ?_ (fun _ => ?_))
      | exact ih0 _ _ _ _
      | exact ih1 _ _ _ _ _ _
      | exact LeO.none _
      | refine LeO.ite ?_ ?_
      | refine LeO.bind ?_ (fun _ => ?_)
theorem impl_validDevice.mono : ∀ a0 a1 a2 k, LeO (impl_validDevice.f k a0 a1 a2) (impl_validDevice.f (k + 1) a0 a1 a2) := by
  intro a0 a1 a2 k
  obtain ⟨ih0, ih1⟩ := impl_validDevice.mono_l k
  unfold impl_validDevice.f
  repeat' first
      | (with_reducible exact ih0 _ _ _ _)
      | (with_reducible exact ih1 _ _ _ _ _ _)
      | (with_reducible exact LeO.refl _)
      | (with_reducible exact LeO.none _)
      | (with_reducible refine LeO.ite ?_ ?_)
      | (with_reducible refine LeO.bind ?_ (fun _ => ?_))
      | exact ih0 _ _ _ _
      | exact ih1 _ _ _ _ _ _
      | exact LeO.none _
      | refine LeO.ite ?_ ?_
      | refine LeO.bind ?_ (fun _ => ?_)
set_option maxHeartbeats 8000000 in
set_option maxRecDepth 100000 in
theorem impl_validDevice.calls (k : Nat) (a0_0 : Int) (A0_1 : Option Addr) (c0_1 : Nat) (l0_1 : List Int) (A0_2 : Option Addr) (c0_2 : Nat) (l0_2 : List (S32)) (r : Bool) (w : World) (hr0_1 : Kd.C (Kd.int .u8) w A0_1 l0_1.length l0_1) (hc0_1 : l0_1.length ≤ c0_1) (hr0_2 : Kd.C k32 w A0_2 l0_2.length l0_2) (hc0_2 : l0_2.length ≤ c0_2) (h : impl_validDevice.f k a0_0 l0_1 l0_2 = some r) :
    Calls Try.prog 20 #[.agg #[.int .i64 a0_0, .slice A0_1 l0_1.length c0_1, .slice A0_2 l0_2.length c0_2]] w fun e w' => e = .returned (.bool r) ∧ Below w.heap.size w w' := by
  have hu25 := Try.underlying25
  have hu32 := Try.underlying32
  have HR0_1 := Aside0.mk hr0_1
  have HC0_1 := Aside0.mk hc0_1
  clear hr0_1 hc0_1
  have HR0_2 := Aside0.mk hr0_2
  have HC0_2 := Aside0.mk hc0_2
  clear hr0_2 hc0_2
  have HB := Aside0.mk (Below.refl w.heap.size w)
  have H : (if a0_0 < 8 then (impl_validDevice.j0 k true a0_0 l0_1 l0_2) else (if a0_0 > 512 then (impl_validDevice.j0 k true a0_0 l0_1 l0_2) else (impl_validDevice.j0 k ((l0_1.length : Int) != (wrap64 (a0_0 * 128))) a0_0 l0_1 l0_2))) = some r := h
  clear h
  have HC2 := Aside0.mk H
  clear H
  go_enter Try.func20, Try.ntmps20
  go_upto_region 1 with (first | ((with_reducible refine gate_dst (N := 1) rfl ?_); (try (refine gate_guard (by rfl) ?_; dsimp only)); refine box_event ?hg (N := 1) ?hd (cs := #[.int .i64 a0_0, .slice A0_1 l0_1.length c0_1, .slice A0_2 l0_2.length c0_2]) (t := 25) ?hr ?_; (case hd => rfl); (case hg => rfl); (case hr => first | (go_simp; done) | (go_simp; rfl)); intro gb325 hg w3 hbox hb; have n0_ := Aside0.mk (below_step (by repeat (first | (with_reducible first | exact HB.out | apply below_alloc | apply pw_below_drewN | apply below_drew1) | exact HB.out)) hb); have n1_ := Aside0.mk (hbox); have n2_ := Aside0.mk ((by rw [hg]; exact (below_size (by repeat (first | (with_reducible first | exact HB.out | apply below_alloc | apply pw_below_drewN | apply below_drew1) | exact HB.out))) : w.heap.size ≤ gb325)); have n3_ := Aside0.mk ((by rw [hg]; exact (below_size (by repeat (first | (with_reducible first | exact HB.out | apply below_alloc | apply pw_below_drewN | apply below_drew1) | exact HB.out))) : w.heap.size ≤ gb325)); clear HB; have HB := n0_; have BK325 := n1_; have GW325 := n2_; have GE325 := n3_; clear n0_ n1_ n2_ n3_; clear hb hbox hg))
  (try simp only [Act.put, List.setIfInBounds_toArray, List.set_cons_zero, List.set_cons_succ])
  go_cut [21] (fun v21 wc => ∃ (kq : Nat) (x21_1 : Bool), v21 = .bool x21_1 ∧ Aside0 (impl_validDevice.j0 kq x21_1 a0_0 l0_1 l0_2 = some r) ∧ Aside0 (kq ≤ k) ∧ Aside0 (wc.heap[gb325]? = some (.cells #[.int .i64 a0_0, (.slice A0_1 l0_1.length c0_1), (.slice A0_2 l0_2.length c0_2)] 25 (0, 0))) ∧ Aside0 (Below w.heap.size w wc))
  case first =>
    have H := HC2.out
    clear HC2
    by_cases c4 : a0_0 < 8
    · rw [if_pos c4] at H
      have c4b0 : decide (a0_0 < 8) = true := decide_eq_true c4
      clear c4
      (first | rw [c4b0] | (simp only [i64_w, i32_w]; rw [c4b0]) | skip)
      have H' := Aside0.mk H
      clear H
      have hcz5_0 : w3.cell? ⟨gb325, 0, none⟩ = some (.int .i64 a0_0) := (blk_cell BK325.out 0).trans rfl
      have hcz5_1 : w3.cell? ⟨gb325, 1, none⟩ = some (.slice A0_1 l0_1.length c0_1) := (blk_cell BK325.out 1).trans rfl
      have hcz5_2 : w3.cell? ⟨gb325, 2, none⟩ = some (.slice A0_2 l0_2.length c0_2) := (blk_cell BK325.out 2).trans rfl
      have hfz5_0 := blk_frozen BK325.out 0
      have hfz5_1 := blk_frozen BK325.out 1
      have hfz5_2 := blk_frozen BK325.out 2
      go_wp2
      go_meet
      case rel => exact ⟨_, (true), (by first | rfl | (simp; done) | (simp [*]; done)), H', ⟨by first | omega | exact Nat.le_refl _⟩, ⟨by (with_reducible repeat (first | refine blk_drewN ?_ _ | refine blk_drew ?_ | refine blk_alloc ?_ _)); exact BK325.out⟩, ⟨by repeat (first | (with_reducible first | exact HB.out | apply below_alloc | apply pw_below_drewN | apply below_drew1 | refine below_set ?_ GE325.out) | exact HB.out)⟩⟩
    · rw [if_neg c4] at H
      have c4b0 : decide (a0_0 < 8) = false := decide_eq_false c4
      clear c4
      (first | rw [c4b0] | (simp only [i64_w, i32_w]; rw [c4b0]) | skip)
      by_cases c6 : a0_0 > 512
      · rw [if_pos c6] at H
        have c6b0 : decide (512 < a0_0) = true := decide_eq_true c6
        clear c6
        have H' := Aside0.mk H
        clear H
        have hcz7_0 : w3.cell? ⟨gb325, 0, none⟩ = some (.int .i64 a0_0) := (blk_cell BK325.out 0).trans rfl
        have hcz7_1 : w3.cell? ⟨gb325, 1, none⟩ = some (.slice A0_1 l0_1.length c0_1) := (blk_cell BK325.out 1).trans rfl
        have hcz7_2 : w3.cell? ⟨gb325, 2, none⟩ = some (.slice A0_2 l0_2.length c0_2) := (blk_cell BK325.out 2).trans rfl
        have hfz7_0 := blk_frozen BK325.out 0
        have hfz7_1 := blk_frozen BK325.out 1
        have hfz7_2 := blk_frozen BK325.out 2
        go_wp2
        go_meet
        case rel => exact ⟨_, (true), (by first | rfl | (simp; done) | (simp [*]; done)), H', ⟨by first | omega | exact Nat.le_refl _⟩, ⟨by (with_reducible repeat (first | refine blk_drewN ?_ _ | refine blk_drew ?_ | refine blk_alloc ?_ _)); exact BK325.out⟩, ⟨by repeat (first | (with_reducible first | exact HB.out | apply below_alloc | apply pw_below_drewN | apply below_drew1 | refine below_set ?_ GE325.out) | exact HB.out)⟩⟩
      · rw [if_neg c6] at H
        have c6b0 : decide (512 < a0_0) = false := decide_eq_false c6
        clear c6
        have H' := Aside0.mk H
        clear H
        have hcz8_0 : w3.cell? ⟨gb325, 0, none⟩ = some (.int .i64 a0_0) := (blk_cell BK325.out 0).trans rfl
        have hcz8_1 : w3.cell? ⟨gb325, 1, none⟩ = some (.slice A0_1 l0_1.length c0_1) := (blk_cell BK325.out 1).trans rfl
        have hcz8_2 : w3.cell? ⟨gb325, 2, none⟩ = some (.slice A0_2 l0_2.length c0_2) := (blk_cell BK325.out 2).trans rfl
        have hfz8_0 := blk_frozen BK325.out 0
        have hfz8_1 := blk_frozen BK325.out 1
        have hfz8_2 := blk_frozen BK325.out 2
        go_wp2
        go_meet
        case rel => exact ⟨_, (((l0_1.length : Int) != (wrap64 (a0_0 * 128)))), (by first | rfl | (simp; done) | (simp [*]; done)), H', ⟨by first | omega | exact Nat.le_refl _⟩, ⟨by (with_reducible repeat (first | refine blk_drewN ?_ _ | refine blk_drew ?_ | refine blk_alloc ?_ _)); exact BK325.out⟩, ⟨by repeat (first | (with_reducible first | exact HB.out | apply below_alloc | apply pw_below_drewN | apply below_drew1 | refine below_set ?_ GE325.out) | exact HB.out)⟩⟩
  case rest =>
    clear HC2
    try clear c2
    try clear p2
    try clear c4
    try clear c4b0
    try clear c6
    try clear c6b0
    try clear p6
    try clear hcz5_0
    try clear hcz5_1
    try clear hcz5_2
    try clear hcz7_0
    try clear hcz7_1
    try clear hcz7_2
    try clear hcz8_0
    try clear hcz8_1
    try clear hcz8_2
    try clear hfz5_0
    try clear hfz5_1
    try clear hfz5_2
    try clear hfz7_0
    try clear hfz7_1
    try clear hfz7_2
    try clear hfz8_0
    try clear hfz8_1
    try clear hfz8_2
    obtain ⟨kq, x21_1, rfl, HA, HJ1, BK325, HB⟩ := hcut
    cases kq with
    | zero => exact absurd HA.out (by simp [impl_validDevice.j0])
    | succ kj1 =>
      have H := HA.out
      clear HA
      simp only [impl_validDevice.j0] at H
      by_cases c9 : x21_1 = true
      · subst c9
        have H1 : (some false) = some r := by rw [if_pos rfl] at H; exact H
        clear H
        have H := H1
        clear H1
        obtain rfl := Option.some.inj H
        go_wp2
        go_ret
        exact ⟨by first | rfl | (simp [errW_none, errW_some] <;> rfl) | (simp [*, errW_none, errW_some] <;> rfl), by repeat (first | (with_reducible first | exact HB.out | apply below_alloc | apply pw_below_drewN | apply below_drew1 | refine below_set ?_ GE325.out) | exact HB.out)⟩
      · replace c9 := Bool.eq_false_iff.mpr c9
        subst c9
        have H1 : (if (l0_2.length : Int) > 2048 then (some false) else (impl_validDevice.l0 kj1 l0_2 (l0_2.length : Int) 0 a0_0 l0_1 l0_2)) = some r := by rw [if_neg (show ¬ (false = true) by decide)] at H; exact H
        clear H
        have H := H1
        clear H1
        by_cases c10 : (l0_2.length : Int) > 2048
        · rw [if_pos c10] at H
          have c10b0 : decide (2048 < (l0_2.length : Int)) = true := decide_eq_true c10
          have c10b1 : decide (2048 < l0_2.length) = true := decide_eq_true (by omega)
          clear c10
          obtain rfl := Option.some.inj H
          have hcz11_0 : wc.cell? ⟨gb325, 0, none⟩ = some (.int .i64 a0_0) := (blk_cell BK325.out 0).trans rfl
          have hcz11_1 : wc.cell? ⟨gb325, 1, none⟩ = some (.slice A0_1 l0_1.length c0_1) := (blk_cell BK325.out 1).trans rfl
          have hcz11_2 : wc.cell? ⟨gb325, 2, none⟩ = some (.slice A0_2 l0_2.length c0_2) := (blk_cell BK325.out 2).trans rfl
          have hfz11_0 := blk_frozen BK325.out 0
          have hfz11_1 := blk_frozen BK325.out 1
          have hfz11_2 := blk_frozen BK325.out 2
          go_wp2
          go_ret
          exact ⟨by first | rfl | (simp [errW_none, errW_some] <;> rfl) | (simp [*, errW_none, errW_some] <;> rfl), by repeat (first | (with_reducible first | exact HB.out | apply below_alloc | apply pw_below_drewN | apply below_drew1 | refine below_set ?_ GE325.out) | exact HB.out)⟩
        · rw [if_neg c10] at H
          have c10b0 : decide (2048 < (l0_2.length : Int)) = false := decide_eq_false c10
          have c10b1 : decide (2048 < l0_2.length) = false := decide_eq_false (by omega)
          clear c10
          have H' := Aside0.mk H
          clear H
          have hcz12_0 : wc.cell? ⟨gb325, 0, none⟩ = some (.int .i64 a0_0) := (blk_cell BK325.out 0).trans rfl
          have hcz12_1 : wc.cell? ⟨gb325, 1, none⟩ = some (.slice A0_1 l0_1.length c0_1) := (blk_cell BK325.out 1).trans rfl
          have hcz12_2 : wc.cell? ⟨gb325, 2, none⟩ = some (.slice A0_2 l0_2.length c0_2) := (blk_cell BK325.out 2).trans rfl
          have hfz12_0 := blk_frozen BK325.out 0
          have hfz12_1 := blk_frozen BK325.out 1
          have hfz12_2 := blk_frozen BK325.out 2
          go_wp2
          go_loopg [29] kj1 (fun kq v29 w' => ∃ (x29_2 : Int), v29 = .int .i64 x29_2 ∧ Aside0 (impl_validDevice.l0 kq l0_2 (l0_2.length : Int) x29_2 a0_0 l0_1 l0_2 = some r) ∧ Aside0 (kq ≤ kj1) ∧ Aside0 (w'.heap[gb325]? = some (.cells #[.int .i64 a0_0, (.slice A0_1 l0_1.length c0_1), (.slice A0_2 l0_2.length c0_2)] 25 (0, 0))) ∧ Aside0 (Below w.heap.size w w'))
          case atStart => exact ⟨(0), (by first | rfl | (simp; done) | (simp [*]; done)), H', ⟨Nat.le_refl _⟩, ⟨by (with_reducible repeat (first | refine blk_drewN ?_ _ | refine blk_drew ?_ | refine blk_alloc ?_ _)); exact BK325.out⟩, ⟨by repeat (first | (with_reducible first | exact HB.out | apply below_alloc | apply pw_below_drewN | apply below_drew1 | refine below_set ?_ GE325.out) | exact HB.out)⟩⟩
          case round =>
            clear H'
            try clear c1
            try clear c2
            try clear p2
            try clear c4
            try clear c4b0
            try clear c6
            try clear c6b0
            try clear p6
            try clear c9
            try clear c10
            try clear c10b0
            try clear c10b1
            try clear hcz11_0
            try clear hcz11_1
            try clear hcz11_2
            try clear hcz12_0
            try clear hcz12_1
            try clear hcz12_2
            try clear hcz5_0
            try clear hcz5_1
            try clear hcz5_2
            try clear hcz7_0
            try clear hcz7_1
            try clear hcz7_2
            try clear hcz8_0
            try clear hcz8_1
            try clear hcz8_2
            try clear hfz11_0
            try clear hfz11_1
            try clear hfz11_2
            try clear hfz12_0
            try clear hfz12_1
            try clear hfz12_2
            try clear hfz5_0
            try clear hfz5_1
            try clear hfz5_2
            try clear hfz7_0
            try clear hfz7_1
            try clear hfz7_2
            try clear hfz8_0
            try clear hfz8_1
            try clear hfz8_2
            try clear p2
            try clear p6
            obtain ⟨x29_2, rfl, HA, HK2, BK325, HB⟩ := hrel
            cases gk with
            | zero => exact absurd HA.out (by simp [impl_validDevice.l0])
            | succ k2 =>
              have H := HA.out
              clear HA
              simp only [impl_validDevice.l0] at H
              by_cases c13 : x29_2 < (l0_2.length : Int)
              · rw [if_pos c13] at H
                have c13b0 : decide (x29_2 < (l0_2.length : Int)) = true := decide_eq_true c13
                clear c13
                by_cases c14 : 0 ≤ x29_2
                · rw [if_pos c14] at H
                  have c14b0 : decide (0 ≤ x29_2) = true := decide_eq_true c14
                  clear c14
                  by_cases c15 : x29_2 < (l0_2.length : Int)
                  · rw [if_pos c15] at H
                    have c15b0 : decide (x29_2 < (l0_2.length : Int)) = true := decide_eq_true c15
                    clear c15
                    by_cases c16 : ((rd_T32 l0_2 x29_2).f0) < 0
                    · rw [if_pos c16] at H
                      have c16b0 : decide (((rd_T32 l0_2 x29_2).f0) < 0) = true := decide_eq_true c16
                      clear c16
                      obtain rfl := Option.some.inj H
                      have p326 : 0 ≤ (x29_2 : Int) := of_decide_eq_true (by first | (with_reducible assumption) | assumption)
                      have q326 : x29_2 < (l0_2.length : Int) := of_decide_eq_true (by first | (with_reducible assumption) | assumption)
                      obtain ⟨ad326, A326_1, c326_1, e326, hx326_0, hx326_1, hl326_1, hi326_1⟩ := at_T32 HR0_2.out x29_2 p326 q326
                      cases e326
                      replace hx326_0 := (HB.out.cell (World.block_lt_of_cell? w _ hx326_0)).trans hx326_0
                      replace hx326_1 := (HB.out.cell (World.block_lt_of_cell? w _ hx326_1)).trans hx326_1
                      have HR326_1 := Aside0.mk hi326_1
                      have HC326_1 := Aside0.mk hl326_1
                      clear hi326_1 hl326_1
                      replace p326 := eq_true p326
                      replace q326 := eq_true q326
                      go_wp2_with (first | ((with_reducible refine gate_dst (N := 4) rfl ?_); (try (refine gate_guard (by rfl) ?_; dsimp only)); refine box_event ?hg (N := 4) ?hd (cs := #[.int .i64 0, .slice none 0 0]) (t := 32) ?hr ?_; (case hd => rfl); (case hg => rfl); (case hr => first | (go_simp; done) | (go_simp; rfl)); intro gb327 hg w17 hbox hb; have n0_ := Aside0.mk (blk_below (g := gb325) (o := .cells #[.int .i64 a0_0, .slice A0_1 l0_1.length c0_1, .slice (some ad326) l0_2.length c0_2] 25 (0, 0)) (by (with_reducible repeat (first | refine blk_drewN ?_ _ | refine blk_drew ?_ | refine blk_alloc ?_ _)); exact BK325.out) hb); have n1_ := Aside0.mk (below_step (by repeat (first | (with_reducible first | exact HB.out | apply below_alloc | apply pw_below_drewN | apply below_drew1 | refine below_set ?_ GE325.out) | exact HB.out)) hb); have n2_ := Aside0.mk (hbox); have n3_ := Aside0.mk ((by rw [hg]; exact (below_size (by repeat (first | (with_reducible first | exact HB.out | apply below_alloc | apply pw_below_drewN | apply below_drew1 | refine below_set ?_ GE325.out) | exact HB.out))) : w.heap.size ≤ gb327)); have n4_ := Aside0.mk ((by rw [hg]; exact (below_size (by repeat (first | (with_reducible first | exact HB.out | apply below_alloc | apply pw_below_drewN | apply below_drew1 | refine below_set ?_ GE325.out) | exact HB.out))) : w.heap.size ≤ gb327)); have n5_ := Aside0.mk ((by rw [hg]; exact Nat.ne_of_lt (blk_lt (g := gb325) (o := .cells #[.int .i64 a0_0, .slice A0_1 l0_1.length c0_1, .slice (some ad326) l0_2.length c0_2] 25 (0, 0)) (by (with_reducible repeat (first | refine blk_drewN ?_ _ | refine blk_drew ?_ | refine blk_alloc ?_ _)); exact BK325.out)) : gb325 ≠ gb327)); have n6_ := Aside0.mk ((by rw [hg]; exact Nat.ne_of_gt (blk_lt (g := gb325) (o := .cells #[.int .i64 a0_0, .slice A0_1 l0_1.length c0_1, .slice (some ad326) l0_2.length c0_2] 25 (0, 0)) (by (with_reducible repeat (first | refine blk_drewN ?_ _ | refine blk_drew ?_ | refine blk_alloc ?_ _)); exact BK325.out)) : gb327 ≠ gb325)); clear BK325; clear HB; have BK325 := n0_; have HB := n1_; have BK327 := n2_; have GW327 := n3_; have GE327 := n4_; have NB325_327 := n5_; have NB327_325 := n6_; clear n0_ n1_ n2_ n3_ n4_ n5_ n6_; clear hb hbox hg; have hnb18 := NB327_325.out; have hnc18 := NB325_327.out; have hcz19_0 : w17.cell? ⟨gb327, 0, none⟩ = some (.int .i64 0) := (blk_cell BK327.out 0).trans rfl; have hcz19_1 : w17.cell? ⟨gb327, 1, none⟩ = some (.slice none 0 0) := (blk_cell BK327.out 1).trans rfl; have hfz19_0 := blk_frozen BK327.out 0; have hfz19_1 := blk_frozen BK327.out 1))
                      go_ret
                      exact ⟨by first | rfl | (simp [errW_none, errW_some] <;> rfl) | (simp [*, errW_none, errW_some] <;> rfl), by repeat (first | (with_reducible first | exact HB.out | apply below_alloc | apply pw_below_drewN | apply below_drew1 | refine below_set ?_ GE325.out | refine below_set ?_ GE327.out) | exact HB.out)⟩
                    · rw [if_neg c16] at H
                      have c16b0 : decide (((rd_T32 l0_2 x29_2).f0) < 0) = false := decide_eq_false c16
                      clear c16
                      by_cases c20 : ((rd_T32 l0_2 x29_2).f0) ≥ a0_0
                      · rw [if_pos c20] at H
                        have c20b0 : decide (a0_0 ≤ ((rd_T32 l0_2 x29_2).f0)) = true := decide_eq_true c20
                        clear c20
                        obtain rfl := Option.some.inj H
                        have p326 : 0 ≤ (x29_2 : Int) := of_decide_eq_true (by first | (with_reducible assumption) | assumption)
                        have q326 : x29_2 < (l0_2.length : Int) := of_decide_eq_true (by first | (with_reducible assumption) | assumption)
                        obtain ⟨ad326, A326_1, c326_1, e326, hx326_0, hx326_1, hl326_1, hi326_1⟩ := at_T32 HR0_2.out x29_2 p326 q326
                        cases e326
                        replace hx326_0 := (HB.out.cell (World.block_lt_of_cell? w _ hx326_0)).trans hx326_0
                        replace hx326_1 := (HB.out.cell (World.block_lt_of_cell? w _ hx326_1)).trans hx326_1
                        have HR326_1 := Aside0.mk hi326_1
                        have HC326_1 := Aside0.mk hl326_1
                        clear hi326_1 hl326_1
                        replace p326 := eq_true p326
                        replace q326 := eq_true q326
                        go_wp2_with (first | ((with_reducible refine gate_dst (N := 4) rfl ?_); (try (refine gate_guard (by rfl) ?_; dsimp only)); refine box_event ?hg (N := 4) ?hd (cs := #[.int .i64 0, .slice none 0 0]) (t := 32) ?hr ?_; (case hd => rfl); (case hg => rfl); (case hr => first | (go_simp; done) | (go_simp; rfl)); intro gb327 hg w21 hbox hb; have n0_ := Aside0.mk (blk_below (g := gb325) (o := .cells #[.int .i64 a0_0, .slice A0_1 l0_1.length c0_1, .slice (some ad326) l0_2.length c0_2] 25 (0, 0)) (by (with_reducible repeat (first | refine blk_drewN ?_ _ | refine blk_drew ?_ | refine blk_alloc ?_ _)); exact BK325.out) hb); have n1_ := Aside0.mk (below_step (by repeat (first | (with_reducible first | exact HB.out | apply below_alloc | apply pw_below_drewN | apply below_drew1 | refine below_set ?_ GE325.out) | exact HB.out)) hb); have n2_ := Aside0.mk (hbox); have n3_ := Aside0.mk ((by rw [hg]; exact (below_size (by repeat (first | (with_reducible first | exact HB.out | apply below_alloc | apply pw_below_drewN | apply below_drew1 | refine below_set ?_ GE325.out) | exact HB.out))) : w.heap.size ≤ gb327)); have n4_ := Aside0.mk ((by rw [hg]; exact (below_size (by repeat (first | (with_reducible first | exact HB.out | apply below_alloc | apply pw_below_drewN | apply below_drew1 | refine below_set ?_ GE325.out) | exact HB.out))) : w.heap.size ≤ gb327)); have n5_ := Aside0.mk ((by rw [hg]; exact Nat.ne_of_lt (blk_lt (g := gb325) (o := .cells #[.int .i64 a0_0, .slice A0_1 l0_1.length c0_1, .slice (some ad326) l0_2.length c0_2] 25 (0, 0)) (by (with_reducible repeat (first | refine blk_drewN ?_ _ | refine blk_drew ?_ | refine blk_alloc ?_ _)); exact BK325.out)) : gb325 ≠ gb327)); have n6_ := Aside0.mk ((by rw [hg]; exact Nat.ne_of_gt (blk_lt (g := gb325) (o := .cells #[.int .i64 a0_0, .slice A0_1 l0_1.length c0_1, .slice (some ad326) l0_2.length c0_2] 25 (0, 0)) (by (with_reducible repeat (first | refine blk_drewN ?_ _ | refine blk_drew ?_ | refine blk_alloc ?_ _)); exact BK325.out)) : gb327 ≠ gb325)); clear BK325; clear HB; have BK325 := n0_; have HB := n1_; have BK327 := n2_; have GW327 := n3_; have GE327 := n4_; have NB325_327 := n5_; have NB327_325 := n6_; clear n0_ n1_ n2_ n3_ n4_ n5_ n6_; clear hb hbox hg; have hnb22 := NB327_325.out; have hnc22 := NB325_327.out; have hcz23_0 : w21.cell? ⟨gb327, 0, none⟩ = some (.int .i64 0) := (blk_cell BK327.out 0).trans rfl; have hcz23_1 : w21.cell? ⟨gb327, 1, none⟩ = some (.slice none 0 0) := (blk_cell BK327.out 1).trans rfl; have hfz23_0 := blk_frozen BK327.out 0; have hfz23_1 := blk_frozen BK327.out 1; have hcz24_0 : w21.cell? ⟨gb325, 0, none⟩ = some (.int .i64 a0_0) := (blk_cell BK325.out 0).trans rfl; have hcz24_1 : w21.cell? ⟨gb325, 1, none⟩ = some (.slice A0_1 l0_1.length c0_1) := (blk_cell BK325.out 1).trans rfl; have hcz24_2 : w21.cell? ⟨gb325, 2, none⟩ = some (.slice (some ad326) l0_2.length c0_2) := (blk_cell BK325.out 2).trans rfl; have hfz24_0 := blk_frozen BK325.out 0; have hfz24_1 := blk_frozen BK325.out 1; have hfz24_2 := blk_frozen BK325.out 2))
                        go_ret
                        exact ⟨by first | rfl | (simp [errW_none, errW_some] <;> rfl) | (simp [*, errW_none, errW_some] <;> rfl), by repeat (first | (with_reducible first | exact HB.out | apply below_alloc | apply pw_below_drewN | apply below_drew1 | refine below_set ?_ GE325.out | refine below_set ?_ GE327.out) | exact HB.out)⟩
                      · rw [if_neg c20] at H
                        have c20b0 : decide (a0_0 ≤ ((rd_T32 l0_2 x29_2).f0)) = false := decide_eq_false c20
                        clear c20
                        by_cases c25 : (((rd_T32 l0_2 x29_2).f1).length : Int) = 128
                        · rw [if_pos c25] at H
                          have c25b0 : ((((rd_T32 l0_2 x29_2).f1).length : Int) == 128) = true := beq_iff_eq.mpr c25
                          have c25b1 : ((((rd_T32 l0_2 x29_2).f1).length : Int) != 128) = false := bne_eq_false_iff_eq.mpr c25
                          clear c25
                          have H' := Aside0.mk H
                          clear H
                          have p326 : 0 ≤ (x29_2 : Int) := of_decide_eq_true (by first | (with_reducible assumption) | assumption)
                          have q326 : x29_2 < (l0_2.length : Int) := of_decide_eq_true (by first | (with_reducible assumption) | assumption)
                          obtain ⟨ad326, A326_1, c326_1, e326, hx326_0, hx326_1, hl326_1, hi326_1⟩ := at_T32 HR0_2.out x29_2 p326 q326
                          cases e326
                          replace hx326_0 := (HB.out.cell (World.block_lt_of_cell? w _ hx326_0)).trans hx326_0
                          replace hx326_1 := (HB.out.cell (World.block_lt_of_cell? w _ hx326_1)).trans hx326_1
                          have HR326_1 := Aside0.mk hi326_1
                          have HC326_1 := Aside0.mk hl326_1
                          clear hi326_1 hl326_1
                          replace p326 := eq_true p326
                          replace q326 := eq_true q326
                          go_wp2_with (first | ((with_reducible refine gate_dst (N := 4) rfl ?_); (try (refine gate_guard (by rfl) ?_; dsimp only)); refine box_event ?hg (N := 4) ?hd (cs := #[.int .i64 0, .slice none 0 0]) (t := 32) ?hr ?_; (case hd => rfl); (case hg => rfl); (case hr => first | (go_simp; done) | (go_simp; rfl)); intro gb327 hg w26 hbox hb; have n0_ := Aside0.mk (blk_below (g := gb325) (o := .cells #[.int .i64 a0_0, .slice A0_1 l0_1.length c0_1, .slice (some ad326) l0_2.length c0_2] 25 (0, 0)) (by (with_reducible repeat (first | refine blk_drewN ?_ _ | refine blk_drew ?_ | refine blk_alloc ?_ _)); exact BK325.out) hb); have n1_ := Aside0.mk (below_step (by repeat (first | (with_reducible first | exact HB.out | apply below_alloc | apply pw_below_drewN | apply below_drew1 | refine below_set ?_ GE325.out) | exact HB.out)) hb); have n2_ := Aside0.mk (hbox); have n3_ := Aside0.mk ((by rw [hg]; exact (below_size (by repeat (first | (with_reducible first | exact HB.out | apply below_alloc | apply pw_below_drewN | apply below_drew1 | refine below_set ?_ GE325.out) | exact HB.out))) : w.heap.size ≤ gb327)); have n4_ := Aside0.mk ((by rw [hg]; exact (below_size (by repeat (first | (with_reducible first | exact HB.out | apply below_alloc | apply pw_below_drewN | apply below_drew1 | refine below_set ?_ GE325.out) | exact HB.out))) : w.heap.size ≤ gb327)); have n5_ := Aside0.mk ((by rw [hg]; exact Nat.ne_of_lt (blk_lt (g := gb325) (o := .cells #[.int .i64 a0_0, .slice A0_1 l0_1.length c0_1, .slice (some ad326) l0_2.length c0_2] 25 (0, 0)) (by (with_reducible repeat (first | refine blk_drewN ?_ _ | refine blk_drew ?_ | refine blk_alloc ?_ _)); exact BK325.out)) : gb325 ≠ gb327)); have n6_ := Aside0.mk ((by rw [hg]; exact Nat.ne_of_gt (blk_lt (g := gb325) (o := .cells #[.int .i64 a0_0, .slice A0_1 l0_1.length c0_1, .slice (some ad326) l0_2.length c0_2] 25 (0, 0)) (by (with_reducible repeat (first | refine blk_drewN ?_ _ | refine blk_drew ?_ | refine blk_alloc ?_ _)); exact BK325.out)) : gb327 ≠ gb325)); clear BK325; clear HB; have BK325 := n0_; have HB := n1_; have BK327 := n2_; have GW327 := n3_; have GE327 := n4_; have NB325_327 := n5_; have NB327_325 := n6_; clear n0_ n1_ n2_ n3_ n4_ n5_ n6_; clear hb hbox hg; have hnb27 := NB327_325.out; have hnc27 := NB325_327.out; have hcz28_0 : w26.cell? ⟨gb327, 0, none⟩ = some (.int .i64 0) := (blk_cell BK327.out 0).trans rfl; have hcz28_1 : w26.cell? ⟨gb327, 1, none⟩ = some (.slice none 0 0) := (blk_cell BK327.out 1).trans rfl; have hfz28_0 := blk_frozen BK327.out 0; have hfz28_1 := blk_frozen BK327.out 1; have hcz29_0 : w26.cell? ⟨gb325, 0, none⟩ = some (.int .i64 a0_0) := (blk_cell BK325.out 0).trans rfl; have hcz29_1 : w26.cell? ⟨gb325, 1, none⟩ = some (.slice A0_1 l0_1.length c0_1) := (blk_cell BK325.out 1).trans rfl; have hcz29_2 : w26.cell? ⟨gb325, 2, none⟩ = some (.slice (some ad326) l0_2.length c0_2) := (blk_cell BK325.out 2).trans rfl; have hfz29_0 := blk_frozen BK325.out 0; have hfz29_1 := blk_frozen BK325.out 1; have hfz29_2 := blk_frozen BK325.out 2))
                          go_roundg k2
                          case measure => have := HJ1.out; have := HK2.out; omega
                          case rel => exact ⟨(wrap64 (x29_2 + 1)), (by first | rfl | (simp; done) | (simp [*]; done)), H', ⟨by have := HJ1.out; have := HK2.out; omega⟩, ⟨by (with_reducible repeat (first | refine blk_drewN ?_ _ | refine blk_drew ?_ | refine blk_alloc ?_ _)); refine blk_far ?_ NB325_327.out _; (with_reducible repeat (first | refine blk_drewN ?_ _ | refine blk_drew ?_ | refine blk_alloc ?_ _)); refine blk_far ?_ NB325_327.out _; (with_reducible repeat (first | refine blk_drewN ?_ _ | refine blk_drew ?_ | refine blk_alloc ?_ _)); exact BK325.out⟩, ⟨by repeat (first | (with_reducible first | exact HB.out | apply below_alloc | apply pw_below_drewN | apply below_drew1 | refine below_set ?_ GE325.out | refine below_set ?_ GE327.out) | exact HB.out)⟩⟩
                        · rw [if_neg c25] at H
                          have c25b0 : ((((rd_T32 l0_2 x29_2).f1).length : Int) == 128) = false := beq_eq_false_iff_ne.mpr c25
                          have c25b1 : ((((rd_T32 l0_2 x29_2).f1).length : Int) != 128) = true := bne_iff_ne.mpr c25
                          obtain rfl := Option.some.inj H
                          have p326 : 0 ≤ (x29_2 : Int) := of_decide_eq_true (by first | (with_reducible assumption) | assumption)
                          have q326 : x29_2 < (l0_2.length : Int) := of_decide_eq_true (by first | (with_reducible assumption) | assumption)
                          obtain ⟨ad326, A326_1, c326_1, e326, hx326_0, hx326_1, hl326_1, hi326_1⟩ := at_T32 HR0_2.out x29_2 p326 q326
                          cases e326
                          replace hx326_0 := (HB.out.cell (World.block_lt_of_cell? w _ hx326_0)).trans hx326_0
                          replace hx326_1 := (HB.out.cell (World.block_lt_of_cell? w _ hx326_1)).trans hx326_1
                          have HR326_1 := Aside0.mk hi326_1
                          have HC326_1 := Aside0.mk hl326_1
                          clear hi326_1 hl326_1
                          replace p326 := eq_true p326
                          replace q326 := eq_true q326
                          go_wp2_with (first | ((with_reducible refine gate_dst (N := 4) rfl ?_); (try (refine gate_guard (by rfl) ?_; dsimp only)); refine box_event ?hg (N := 4) ?hd (cs := #[.int .i64 0, .slice none 0 0]) (t := 32) ?hr ?_; (case hd => rfl); (case hg => rfl); (case hr => first | (go_simp; done) | (go_simp; rfl)); intro gb327 hg w30 hbox hb; have n0_ := Aside0.mk (blk_below (g := gb325) (o := .cells #[.int .i64 a0_0, .slice A0_1 l0_1.length c0_1, .slice (some ad326) l0_2.length c0_2] 25 (0, 0)) (by (with_reducible repeat (first | refine blk_drewN ?_ _ | refine blk_drew ?_ | refine blk_alloc ?_ _)); exact BK325.out) hb); have n1_ := Aside0.mk (below_step (by repeat (first | (with_reducible first | exact HB.out | apply below_alloc | apply pw_below_drewN | apply below_drew1 | refine below_set ?_ GE325.out) | exact HB.out)) hb); have n2_ := Aside0.mk (hbox); have n3_ := Aside0.mk ((by rw [hg]; exact (below_size (by repeat (first | (with_reducible first | exact HB.out | apply below_alloc | apply pw_below_drewN | apply below_drew1 | refine below_set ?_ GE325.out) | exact HB.out))) : w.heap.size ≤ gb327)); have n4_ := Aside0.mk ((by rw [hg]; exact (below_size (by repeat (first | (with_reducible first | exact HB.out | apply below_alloc | apply pw_below_drewN | apply below_drew1 | refine below_set ?_ GE325.out) | exact HB.out))) : w.heap.size ≤ gb327)); have n5_ := Aside0.mk ((by rw [hg]; exact Nat.ne_of_lt (blk_lt (g := gb325) (o := .cells #[.int .i64 a0_0, .slice A0_1 l0_1.length c0_1, .slice (some ad326) l0_2.length c0_2] 25 (0, 0)) (by (with_reducible repeat (first | refine blk_drewN ?_ _ | refine blk_drew ?_ | refine blk_alloc ?_ _)); exact BK325.out)) : gb325 ≠ gb327)); have n6_ := Aside0.mk ((by rw [hg]; exact Nat.ne_of_gt (blk_lt (g := gb325) (o := .cells #[.int .i64 a0_0, .slice A0_1 l0_1.length c0_1, .slice (some ad326) l0_2.length c0_2] 25 (0, 0)) (by (with_reducible repeat (first | refine blk_drewN ?_ _ | refine blk_drew ?_ | refine blk_alloc ?_ _)); exact BK325.out)) : gb327 ≠ gb325)); clear BK325; clear HB; have BK325 := n0_; have HB := n1_; have BK327 := n2_; have GW327 := n3_; have GE327 := n4_; have NB325_327 := n5_; have NB327_325 := n6_; clear n0_ n1_ n2_ n3_ n4_ n5_ n6_; clear hb hbox hg; have hnb31 := NB327_325.out; have hnc31 := NB325_327.out; have hcz32_0 : w30.cell? ⟨gb327, 0, none⟩ = some (.int .i64 0) := (blk_cell BK327.out 0).trans rfl; have hcz32_1 : w30.cell? ⟨gb327, 1, none⟩ = some (.slice none 0 0) := (blk_cell BK327.out 1).trans rfl; have hfz32_0 := blk_frozen BK327.out 0; have hfz32_1 := blk_frozen BK327.out 1; have hcz33_0 : w30.cell? ⟨gb325, 0, none⟩ = some (.int .i64 a0_0) := (blk_cell BK325.out 0).trans rfl; have hcz33_1 : w30.cell? ⟨gb325, 1, none⟩ = some (.slice A0_1 l0_1.length c0_1) := (blk_cell BK325.out 1).trans rfl; have hcz33_2 : w30.cell? ⟨gb325, 2, none⟩ = some (.slice (some ad326) l0_2.length c0_2) := (blk_cell BK325.out 2).trans rfl; have hfz33_0 := blk_frozen BK325.out 0; have hfz33_1 := blk_frozen BK325.out 1; have hfz33_2 := blk_frozen BK325.out 2))
                          go_ret
                          exact ⟨by first | rfl | (simp [errW_none, errW_some] <;> rfl) | (simp [*, errW_none, errW_some] <;> rfl), by repeat (first | (with_reducible first | exact HB.out | apply below_alloc | apply pw_below_drewN | apply below_drew1 | refine below_set ?_ GE325.out | refine below_set ?_ GE327.out) | exact HB.out)⟩
                  · rw [if_neg c15] at H
                    exact absurd H (by simp)
                · rw [if_neg c14] at H
                  exact absurd H (by simp)
              · rw [if_neg c13] at H
                have c13b0 : decide (x29_2 < (l0_2.length : Int)) = false := decide_eq_false c13
                clear c13
                obtain rfl := Option.some.inj H
                go_wp2
                go_ret
                exact ⟨by first | rfl | (simp [errW_none, errW_some] <;> rfl) | (simp [*, errW_none, errW_some] <;> rfl), by repeat (first | (with_reducible first | exact HB.out | apply below_alloc | apply pw_below_drewN | apply below_drew1 | refine below_set ?_ GE325.out) | exact HB.out)⟩

end Go.Proofs.Ytnkgclcmjojeiaa.PFnDeviceReads
