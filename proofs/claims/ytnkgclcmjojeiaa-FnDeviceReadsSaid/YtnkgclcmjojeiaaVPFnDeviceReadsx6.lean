-- Written by a program of this session (after the kit's print) out of the translation. Nothing here is trusted: Lean checks it.
import Derived.Test.YtnkgclcmjojeiaaVPFnDeviceReadsx0
import Derived.Test.YtnkgclcmjojeiaaVPFnDeviceReadsx2
namespace Go.Proofs.Ytnkgclcmjojeiaa.PFnDeviceReads
open Go.RowKit Go.Proofs.YtnkgclcmjojeiaaW.PrintWords Go.Proofs.YtnkgclcmjojeiaaW.PrintLast Go.Proofs.YtnkgclcmjojeiaaW.PrintMore
attribute [local go_sem] max2_int min2_int max_two min_two max_three min_three max_four min_four   -- for this text's walks alone
set_option linter.unusedVariables false
set_option linter.unusedSimpArgs false

/-! ### spec_l1CopyDevice: function 18 -/
def spec_l1CopyDevice.l0 : Nat → Int → Int → List Int → List (S32) → Int → List Int → List (S32) → Option (Int × List Int × (List (S32)))
  | 0, _, _, _, _, _, _, _ => none
  | k + 1, x4, x295000, x295001, x295002, x300000, x300001, x300002 => if x4 < (x295002.length : Int) then (if 0 ≤ x4 then ((spec_l1Copy.f k ((rd_T32 x295002 x4).f1)).bind fun t302 => (if x300002.length < 4398046511104 then (spec_l1CopyDevice.l0 k (wrap64 (x4 + 1)) x295000 x295001 x295002 x300000 x300001 (x300002 ++ [(⟨(rd_T32 x295002 x4).f0, t302⟩ : S32)])) else (none))) else (none)) else (some (x300000, x300001, x300002))
def spec_l1CopyDevice.f (k : Nat) (a0_0 : Int) (l0_1 : List Int) (l0_2 : List (S32)) : Option (Int × List Int × (List (S32))) := (spec_l1Copy.f k l0_1).bind fun t296 => (spec_l1CopyDevice.l0 k 0 a0_0 l0_1 l0_2 a0_0 t296 ([] : List (S32)))
theorem spec_l1CopyDevice.mono_l : ∀ k, (∀ y0 y1 y2 y3 y4 y5 y6, LeO (spec_l1CopyDevice.l0 k y0 y1 y2 y3 y4 y5 y6) (spec_l1CopyDevice.l0 (k + 1) y0 y1 y2 y3 y4 y5 y6))
  | 0 => fun _ _ _ _ _ _ _ r h => by simp [spec_l1CopyDevice.l0] at h
  | k + 1 => by
    have ih0 := spec_l1CopyDevice.mono_l k
    · intro y0 y1 y2 y3 y4 y5 y6
      unfold spec_l1CopyDevice.l0
      repeat' first
      | (with_reducible exact ih0 _ _ _ _ _ _ _)
      | (with_reducible exact spec_l1Copy.mono _ _)
      | (with_reducible exact LeO.refl _)
      | (with_reducible exact LeO.none _)
      | (with_reducible refine LeO.ite ?_ ?_)
      | (with_reducible refine LeO.bind ?_ (fun _ => ?_))
      | exact ih0 _ _ _ _ _ _ _
      | exact spec_l1Copy.mono _ _
      | exact LeO.none _
      | refine LeO.ite ?_ ?_
      | refine LeO.bind ?_ (fun _ => ?_)
theorem spec_l1CopyDevice.mono : ∀ a0 a1 a2 k, LeO (spec_l1CopyDevice.f k a0 a1 a2) (spec_l1CopyDevice.f (k + 1) a0 a1 a2) := by
  intro a0 a1 a2 k
  have ih0 := spec_l1CopyDevice.mono_l k
  unfold spec_l1CopyDevice.f
  repeat' first
      | (with_reducible exact ih0 _ _ _ _ _ _ _)
      | (with_reducible exact spec_l1Copy.mono _ _)
      | (with_reducible exact LeO.refl _)
      | (with_reducible exact LeO.none _)
      | (with_reducible refine LeO.ite ?_ ?_)
      | (with_reducible refine LeO.bind ?_ (fun _ => ?_))
      | exact ih0 _ _ _ _ _ _ _
      | exact spec_l1Copy.mono _ _
      | exact LeO.none _
      | refine LeO.ite ?_ ?_
      | refine LeO.bind ?_ (fun _ => ?_)
def spec_l1CopyDevice.T1 : Bool × List (List Nat × List Nat) := (true, [([], []), ([0], [0]), ([], []), ([2], [2]), ([3], [3]), ([1, 4], [1, 4]), ([], []), ([6, 5, 4, 0, 1, 2, 3, 4, 5, 6], [5, 6])])
def spec_l1CopyDevice.B1 : List Nat := [0, 1, 0, 4, 12, 31, 0, 127]
theorem spec_l1CopyDevice.tab1 : rtab .any (opsOf Try.f18 1) = spec_l1CopyDevice.T1 := by kernel_rfl
theorem spec_l1CopyDevice.bits1 : waitsOk spec_l1CopyDevice.T1.2 spec_l1CopyDevice.B1 = true := by kernel_rfl
def spec_l1CopyDevice.T5 : Bool × List (List Nat × List Nat) := (true, [([], []), ([0], [0]), ([], []), ([2], [2]), ([], []), ([3, 4], [3, 4]), ([5], [5]), ([6], [6]), ([], []), ([8], [8]), ([], []), ([9, 10], [9, 10]), ([11], [11]), ([12], [12]), ([13], [13]), ([7, 14], [7, 14]), ([15], [15]), ([1, 16, 14], [1, 16]), ([0, 1, 2, 3, 4, 5, 6, 7, 8, 9, 10, 11, 12, 13, 14, 15, 16, 17], []), ([18, 17, 17, 0, 1, 2, 3, 4, 5, 6, 7, 8, 9, 10, 11, 12, 13, 14, 15, 16, 17], [17, 18])])
def spec_l1CopyDevice.B5 : List Nat := [0, 1, 0, 4, 0, 28, 60, 124, 0, 256, 0, 1792, 3840, 7936, 16128, 32764, 65532, 131071, 262143, 524287]
theorem spec_l1CopyDevice.tab5 : rtab .any (opsOf Try.f18 5) = spec_l1CopyDevice.T5 := by kernel_rfl
theorem spec_l1CopyDevice.bits5 : waitsOk spec_l1CopyDevice.T5.2 spec_l1CopyDevice.B5 = true := by kernel_rfl
set_option maxHeartbeats 8000000 in
set_option maxRecDepth 100000 in
theorem spec_l1CopyDevice.calls (k : Nat) (a0_0 : Int) (A0_1 : Option Addr) (c0_1 : Nat) (l0_1 : List Int) (A0_2 : Option Addr) (c0_2 : Nat) (l0_2 : List (S32)) (r1 : Int) (r2 : List Int) (r3 : List (S32)) (w : World) (hr0_1 : Kd.C (Kd.int .u8) w A0_1 l0_1.length l0_1) (hc0_1 : l0_1.length ≤ c0_1) (hr0_2 : Kd.C k32 w A0_2 l0_2.length l0_2) (hc0_2 : l0_2.length ≤ c0_2) (h : spec_l1CopyDevice.f k a0_0 l0_1 l0_2 = some (r1, r2, r3)) :
    Calls Try.prog 18 #[.agg #[.int .i64 a0_0, .slice A0_1 l0_1.length c0_1, .slice A0_2 l0_2.length c0_2]] w fun e w' => ∃ v1_ v2_ : Value, e = .returned (.agg #[.int .i64 r1, v1_, v2_]) ∧ Kd.R (Kd.int .u8) 5 w' w.heap.size (fun _ => True) v1_ r2 ∧ Kd.S k32 32 w' w.heap.size (fun k_ => some k_ ≠ (v1_ : Value).ownBlock) v2_ r3 ∧ Below w.heap.size w w' := by
  have hu25 := Try.underlying25
  have hu32 := Try.underlying32
  have HR0_1 := Aside0.mk hr0_1
  have HC0_1 := Aside0.mk hc0_1
  clear hr0_1 hc0_1
  have HR0_2 := Aside0.mk hr0_2
  have HC0_2 := Aside0.mk hc0_2
  clear hr0_2 hc0_2
  have HB := Aside0.mk (Below.refl w.heap.size w)
  have H : ((spec_l1Copy.f k l0_1).bind fun t296 => (spec_l1CopyDevice.l0 k 0 a0_0 l0_1 l0_2 a0_0 t296 ([] : List (S32)))) = some (r1, r2, r3) := h
  clear h
  replace H := Option.bind_eq_some_iff.mp H
  obtain ⟨t296, A20, H⟩ := H
  replace H : (spec_l1CopyDevice.l0 k 0 a0_0 l0_1 l0_2 a0_0 t296 ([] : List (S32))) = some (r1, r2, r3) := H
  have A2 := Aside0.mk A20
  clear A20
  have H' := Aside0.mk H
  clear H
  go_enter Try.func18, Try.ntmps18
  try go_wp2_with (first | ((with_reducible refine gate_dst (N := 1) rfl ?_); refine box_event ?hg (N := 1) ?hd (cs := #[.int .i64 a0_0, .slice A0_1 l0_1.length c0_1, .slice A0_2 l0_2.length c0_2]) (t := 25) ?hr ?_; (case hd => rfl); (case hg => rfl); (case hr => first | (go_simp; done) | (go_simp; rfl)); intro gb294 hg w3 hbox hb; have n0_ := Aside0.mk (below_step (by repeat (first | (with_reducible first | exact HB.out | apply below_alloc | apply pw_below_drewN | apply below_drew1) | exact HB.out)) hb); have n1_ := Aside0.mk (hbox); have n2_ := Aside0.mk ((by rw [hg]; exact (below_size (by repeat (first | (with_reducible first | exact HB.out | apply below_alloc | apply pw_below_drewN | apply below_drew1) | exact HB.out))) : w.heap.size ≤ gb294)); have n3_ := Aside0.mk ((by rw [hg]; exact (below_size (by repeat (first | (with_reducible first | exact HB.out | apply below_alloc | apply pw_below_drewN | apply below_drew1) | exact HB.out))) : w.heap.size ≤ gb294)); clear HB; have HB := n0_; have BK294 := n1_; have GW294 := n2_; have GE294 := n3_; clear n0_ n1_ n2_ n3_; clear hb hbox hg) | ((with_reducible refine gate_dst (N := 2) rfl ?_); refine box_event ?hg (N := 2) ?hd (cs := #[.int .i64 0, .slice none 0 0, .slice none 0 0]) (t := 25) ?hr ?_; (case hd => rfl); (case hg => rfl); (case hr => first | (go_simp; done) | (go_simp; rfl)); intro gb295 hg w4 hbox hb; have n0_ := Aside0.mk (blk_below (g := gb294) (o := .cells #[.int .i64 a0_0, .slice A0_1 l0_1.length c0_1, .slice A0_2 l0_2.length c0_2] 25 (0, 0)) (by (with_reducible repeat (first | refine blk_drewN ?_ _ | refine blk_drew ?_ | refine blk_alloc ?_ _)); exact BK294.out) hb); have n1_ := Aside0.mk (below_step (by repeat (first | (with_reducible first | exact HB.out | apply below_alloc | apply pw_below_drewN | apply below_drew1 | refine below_set ?_ GE294.out) | exact HB.out)) hb); have n2_ := Aside0.mk (hbox); have n3_ := Aside0.mk ((by rw [hg]; exact (below_size (by repeat (first | (with_reducible first | exact HB.out | apply below_alloc | apply pw_below_drewN | apply below_drew1 | refine below_set ?_ GE294.out) | exact HB.out))) : w.heap.size ≤ gb295)); have n4_ := Aside0.mk ((by rw [hg]; exact (below_size (by repeat (first | (with_reducible first | exact HB.out | apply below_alloc | apply pw_below_drewN | apply below_drew1 | refine below_set ?_ GE294.out) | exact HB.out))) : w.heap.size ≤ gb295)); have n5_ := Aside0.mk ((by rw [hg]; exact Nat.ne_of_lt (blk_lt (g := gb294) (o := .cells #[.int .i64 a0_0, .slice A0_1 l0_1.length c0_1, .slice A0_2 l0_2.length c0_2] 25 (0, 0)) (by (with_reducible repeat (first | refine blk_drewN ?_ _ | refine blk_drew ?_ | refine blk_alloc ?_ _)); exact BK294.out)) : gb294 ≠ gb295)); have n6_ := Aside0.mk ((by rw [hg]; exact Nat.ne_of_gt (blk_lt (g := gb294) (o := .cells #[.int .i64 a0_0, .slice A0_1 l0_1.length c0_1, .slice A0_2 l0_2.length c0_2] 25 (0, 0)) (by (with_reducible repeat (first | refine blk_drewN ?_ _ | refine blk_drew ?_ | refine blk_alloc ?_ _)); exact BK294.out)) : gb295 ≠ gb294)); clear BK294; clear HB; have BK294 := n0_; have HB := n1_; have BK295 := n2_; have GW295 := n3_; have GE295 := n4_; have NB294_295 := n5_; have NB295_294 := n6_; clear n0_ n1_ n2_ n3_ n4_ n5_ n6_; clear hb hbox hg))
  have n0_ := Aside0.mk (blk_drew BK294.out)
  have n1_ := Aside0.mk (blk_drew BK295.out)
  have n2_ := Aside0.mk (below_drew1 HB.out)
  clear BK294
  clear BK295
  clear HB
  have BK294 := n0_
  have BK295 := n1_
  have HB := n2_
  clear n0_ n1_ n2_
  refine start_ (n := 8) (S := fun w' => w'.cell? ⟨gb294, 0, none⟩ = some (.int .i64 a0_0) ∧ w'.cell? ⟨gb294, 1, none⟩ = some (.slice A0_1 l0_1.length c0_1) ∧ w'.cell? ⟨gb294, 2, none⟩ = some (.slice A0_2 l0_2.length c0_2)) (ds := []) #[false, false, false, false, false, false, false, false] (by kernel_rfl) rfl rfl ⟨(blk_cell BK294.out 0).trans rfl, (blk_cell BK294.out 1).trans rfl, (blk_cell BK294.out 2).trans rfl⟩ (fun hHeld => ?_); refine with_tabW spec_l1CopyDevice.tab1 spec_l1CopyDevice.bits1 (fun HT_ HW_ => ?_)
  generalize w4.drew = w5 at BK294 BK295 HB hHeld ⊢
  refine pure_ (i := 0) (N := some 5) (v := ?_) (a' := ?_) #[true, false, false, false, false, false, false, false] rfl rfl (any_of HT_.out (by kernel_rfl)) (fun _ _ _ h => h) (Or.inl ⟨by rfl, ?_⟩) ?_ ?_
  rotate_left
  · intro w'
    go_simp
    with_reducible rfl
  rotate_left
  · simp only [Act.put, List.setIfInBounds_toArray, List.set_cons_zero, List.set_cons_succ, i64_w, i32_w]
    rfl
  refine pure_ (i := 2) (N := some 7) (v := ?_) (a' := ?_) #[true, false, true, false, false, false, false, false] rfl rfl (any_of HT_.out (by kernel_rfl)) (fun _ _ _ h => h) (Or.inl ⟨by rfl, ?_⟩) ?_ ?_
  rotate_left
  · intro w'
    go_simp
    with_reducible rfl
  rotate_left
  · simp only [Act.put, List.setIfInBounds_toArray, List.set_cons_zero, List.set_cons_succ, i64_w, i32_w]
    rfl
  refine take_ (i := 1) (N := some 6) (v := ?_) (a' := ?_) #[true, true, true, false, false, false, false, false] rfl rfl (take_ofW HT_.out HW_.out (by kernel_rfl)) (fun _ _ _ h => h) (Or.inl ⟨by rfl, ?_⟩) hHeld ?_ ?_
  rotate_left
  · rintro w' ⟨s0, s1, s2⟩
    go_simp
    with_reducible rfl
  rotate_left
  · simp only [Act.put, List.setIfInBounds_toArray, List.set_cons_zero, List.set_cons_succ, i64_w, i32_w]
    rfl
  refine take_ (i := 3) (N := some 8) (v := ?_) (a' := ?_) #[true, true, true, true, false, false, false, false] rfl rfl (take_ofW HT_.out HW_.out (by kernel_rfl)) (fun _ _ _ h => h) (Or.inl ⟨by rfl, ?_⟩) hHeld ?_ ?_
  rotate_left
  · rintro w' ⟨s0, s1, s2⟩
    go_simp
    with_reducible rfl
  rotate_left
  · simp only [Act.put, List.setIfInBounds_toArray, List.set_cons_zero, List.set_cons_succ, i64_w, i32_w]
    rfl
  refine join_ (σ := Value × Nat) 1 #[true, true, true, true, true, true, true, false] (fun s_ => [(9, s_.1), (3, .pointer (some ⟨s_.2, 0, none⟩)), (10, .agg #[.int .i64 a0_0, s_.1, .slice none 0 0])]) (fun s_ w' => (w'.cell? ⟨gb294, 0, none⟩ = some (.int .i64 a0_0) ∧ w'.cell? ⟨gb294, 1, none⟩ = some (.slice A0_1 l0_1.length c0_1) ∧ w'.cell? ⟨gb294, 2, none⟩ = some (.slice A0_2 l0_2.length c0_2)) ∧ (Kd.R (Kd.int .u8) 5 w' w.heap.size (fun _ => True) s_.1 t296) ∧ (w'.heap[gb294]? = some (.cells #[.int .i64 a0_0, .slice A0_1 l0_1.length c0_1, .slice A0_2 l0_2.length c0_2] 25 (0, 0))) ∧ (w'.heap[gb295]? = some (.cells #[.int .i64 0, .slice none 0 0, .slice none 0 0] 25 (0, 0))) ∧ (w'.heap[s_.2]? = some (.cells #[.int .i64 0, .slice none 0 0, .slice none 0 0] 25 (0, 0))) ∧ (w.heap.size ≤ s_.2) ∧ (w.heap.size ≤ s_.2) ∧ (gb294 ≠ s_.2) ∧ (s_.2 ≠ gb294) ∧ (gb295 ≠ s_.2) ∧ (s_.2 ≠ gb295) ∧ (Below w.heap.size w w')) ?_ ?_
  rotate_left
  · intro hCont
    refine two_ (i := 4) (j := 6) (Ni := some 9) (Nj := some 3) #[true, true, true, true, true, false, false, false] #[true, true, true, true, false, false, true, false] rfl rfl rfl rfl (two_of HT_.out (by kernel_rfl)) (by decide) (by decide) (fun K hK => ?_) (fun K hK => ?_)
    · skip
      refine goes_ Try.func19 (by kernel_rfl) rfl #[.slice A0_1 l0_1.length c0_1] (by rfl) rfl rfl (by (try simp only [List.map_toArray, List.map_cons, List.map_nil]); first | done | rfl | (simp only [List.length_drop, List.length_take]; rfl)) ?_
      with_reducible refine (spec_l1Copy.calls k _ _ l0_1 t296 _ ?side1 ?side2 A2.out).mono ?_
      (case side1 => repeat (first | exact (Kd.C_below HR0_1.out HB.out) | (with_reducible refine Kd.C_alloc ?_ _) | (with_reducible refine Kd.C_drewN ?_ _) | (with_reducible refine Kd.C_drew ?_)))
      (case side2 => exact HC0_1.out)
      rintro e w6 ⟨v297, rfl, ho0, hb⟩
      refine ⟨_, rfl, ?_⟩
      have n0_ := Aside0.mk (Kd.R_lower ho0 (below_size (by repeat (first | (with_reducible first | exact HB.out | apply below_alloc | apply pw_below_drewN | apply below_drew1 | refine below_set ?_ GE294.out | refine below_set ?_ GE295.out) | exact HB.out))))
      have n1_ := Aside0.mk (blk_below (g := gb294) (o := .cells #[.int .i64 a0_0, .slice A0_1 l0_1.length c0_1, .slice A0_2 l0_2.length c0_2] 25 (0, 0)) (by (with_reducible repeat (first | refine blk_drewN ?_ _ | refine blk_drew ?_ | refine blk_alloc ?_ _)); exact BK294.out) hb)
      have n2_ := Aside0.mk (blk_below (g := gb295) (o := .cells #[.int .i64 0, .slice none 0 0, .slice none 0 0] 25 (0, 0)) (by (with_reducible repeat (first | refine blk_drewN ?_ _ | refine blk_drew ?_ | refine blk_alloc ?_ _)); exact BK295.out) hb)
      have n3_ := Aside0.mk (below_step (by repeat (first | (with_reducible first | exact HB.out | apply below_alloc | apply pw_below_drewN | apply below_drew1 | refine below_set ?_ GE294.out | refine below_set ?_ GE295.out) | exact HB.out)) hb)
      clear BK294
      clear BK295
      clear HB
      have HO298 := n0_
      have BK294 := n1_
      have BK295 := n2_
      have HB := n3_
      clear n0_ n1_ n2_ n3_
      (try clear hb)
      (try clear hb2)
      (try clear hk)
      (try clear hi)
      (try clear ho0)
      obtain ⟨Ao7, co7, eo7⟩ := Kd.R_slice HO298.out
      (first | subst eo7 | (injection eo7 with f1_ f2_ f3_; have f4_ := f1_.symm; have f5_ := f3_.symm; clear f1_ f2_ f3_; subst f4_; subst f5_))
      refine hK.out _ _ ⟨(blk_cell BK294.out 0).trans rfl, (blk_cell BK294.out 1).trans rfl, (blk_cell BK294.out 2).trans rfl⟩ (fun hHeld => ?_)
      clear hK K
      refine norm_ (a' := ?_) ?_ ?_
      rotate_left
      · show Act.put _ (some 9) _ = _
        simp only [Act.put, List.setIfInBounds_toArray, List.set_cons_zero, List.set_cons_succ, i64_w, i32_w]
        rfl
      refine pure_ (i := 5) (N := some 10) (v := ?_) (a' := ?_) #[true, true, true, true, true, true, false, false] rfl rfl (any_of HT_.out (by kernel_rfl)) (fun _ _ _ h => h) (Or.inl ⟨by rfl, ?_⟩) ?_ ?_
      rotate_left
      · intro w'
        go_simp
        with_reducible rfl
      rotate_left
      · simp only [Act.put, List.setIfInBounds_toArray, List.set_cons_zero, List.set_cons_succ, i64_w, i32_w]
        rfl
      refine one_ (i := 6) (N := some 3) #[true, true, true, true, true, true, true, false] rfl rfl (one_of HT_.out (by kernel_rfl)) (by decide) (fun K hK => ?_)
      refine box_step ?hg (N := 3) ?hd (cs := #[.int .i64 0, .slice none 0 0, .slice none 0 0]) (t := 25) ?hr ?_; (case hd => rfl); (case hg => rfl); (case hr => first | (go_simp; done) | (go_simp; rfl))
      intro gb299 hg w8 hbox hb
      have n0_ := Aside0.mk (Kd.R_below (by (with_reducible repeat (first | apply Kd.R_alloc | apply Kd.R_drewN | apply Kd.R_drew)); exact HO298.out) hb)
      have n1_ := Aside0.mk (blk_below (g := gb294) (o := .cells #[.int .i64 a0_0, .slice A0_1 l0_1.length c0_1, .slice A0_2 l0_2.length c0_2] 25 (0, 0)) (by (with_reducible repeat (first | refine blk_drewN ?_ _ | refine blk_drew ?_ | refine blk_alloc ?_ _)); exact BK294.out) hb)
      have n2_ := Aside0.mk (blk_below (g := gb295) (o := .cells #[.int .i64 0, .slice none 0 0, .slice none 0 0] 25 (0, 0)) (by (with_reducible repeat (first | refine blk_drewN ?_ _ | refine blk_drew ?_ | refine blk_alloc ?_ _)); exact BK295.out) hb)
      have n3_ := Aside0.mk (below_step (by repeat (first | (with_reducible first | exact HB.out | apply below_alloc | apply pw_below_drewN | apply below_drew1 | refine below_set ?_ GE294.out | refine below_set ?_ GE295.out) | exact HB.out)) hb)
      have n4_ := Aside0.mk (hbox)
      have n5_ := Aside0.mk ((by rw [hg]; exact (below_size (by repeat (first | (with_reducible first | exact HB.out | apply below_alloc | apply pw_below_drewN | apply below_drew1 | refine below_set ?_ GE294.out | refine below_set ?_ GE295.out) | exact HB.out))) : w.heap.size ≤ gb299))
      have n6_ := Aside0.mk ((by rw [hg]; exact (below_size (by repeat (first | (with_reducible first | exact HB.out | apply below_alloc | apply pw_below_drewN | apply below_drew1 | refine below_set ?_ GE294.out | refine below_set ?_ GE295.out) | exact HB.out))) : w.heap.size ≤ gb299))
      have n7_ := Aside0.mk ((by rw [hg]; exact Nat.ne_of_lt (blk_lt (g := gb294) (o := .cells #[.int .i64 a0_0, .slice A0_1 l0_1.length c0_1, .slice A0_2 l0_2.length c0_2] 25 (0, 0)) (by (with_reducible repeat (first | refine blk_drewN ?_ _ | refine blk_drew ?_ | refine blk_alloc ?_ _)); exact BK294.out)) : gb294 ≠ gb299))
      have n8_ := Aside0.mk ((by rw [hg]; exact Nat.ne_of_gt (blk_lt (g := gb294) (o := .cells #[.int .i64 a0_0, .slice A0_1 l0_1.length c0_1, .slice A0_2 l0_2.length c0_2] 25 (0, 0)) (by (with_reducible repeat (first | refine blk_drewN ?_ _ | refine blk_drew ?_ | refine blk_alloc ?_ _)); exact BK294.out)) : gb299 ≠ gb294))
      have n9_ := Aside0.mk ((by rw [hg]; exact Nat.ne_of_lt (blk_lt (g := gb295) (o := .cells #[.int .i64 0, .slice none 0 0, .slice none 0 0] 25 (0, 0)) (by (with_reducible repeat (first | refine blk_drewN ?_ _ | refine blk_drew ?_ | refine blk_alloc ?_ _)); exact BK295.out)) : gb295 ≠ gb299))
      have n10_ := Aside0.mk ((by rw [hg]; exact Nat.ne_of_gt (blk_lt (g := gb295) (o := .cells #[.int .i64 0, .slice none 0 0, .slice none 0 0] 25 (0, 0)) (by (with_reducible repeat (first | refine blk_drewN ?_ _ | refine blk_drew ?_ | refine blk_alloc ?_ _)); exact BK295.out)) : gb299 ≠ gb295))
      clear HO298
      clear BK294
      clear BK295
      clear HB
      have HO298 := n0_
      have BK294 := n1_
      have BK295 := n2_
      have HB := n3_
      have BK299 := n4_
      have GW299 := n5_
      have GE299 := n6_
      have NB294_299 := n7_
      have NB299_294 := n8_
      have NB295_299 := n9_
      have NB299_295 := n10_
      clear n0_ n1_ n2_ n3_ n4_ n5_ n6_ n7_ n8_ n9_ n10_
      clear hb hbox hg
      refine hK.out _ _ ⟨(blk_cell BK294.out 0).trans rfl, (blk_cell BK294.out 1).trans rfl, (blk_cell BK294.out 2).trans rfl⟩ (fun hHeld => ?_)
      clear hK K
      refine norm_ (a' := ?_) ?_ ?_
      rotate_left
      · show Act.put _ (some 3) _ = _
        simp only [Act.put, List.setIfInBounds_toArray, List.set_cons_zero, List.set_cons_succ, i64_w, i32_w]
        rfl
      exact norm_ (by simp only [putAll, Act.put, List.setIfInBounds_toArray, List.set_cons_zero, List.set_cons_succ]) (hCont (.slice Ao7 t296.length co7, gb299) _ ⟨hHeld, (by (with_reducible repeat (first | apply Kd.R_alloc | apply Kd.R_drewN | apply Kd.R_drew)); exact HO298.out), (by (with_reducible repeat (first | refine blk_drewN ?_ _ | refine blk_drew ?_ | refine blk_alloc ?_ _)); exact BK294.out), (by (with_reducible repeat (first | refine blk_drewN ?_ _ | refine blk_drew ?_ | refine blk_alloc ?_ _)); exact BK295.out), (by (with_reducible repeat (first | refine blk_drewN ?_ _ | refine blk_drew ?_ | refine blk_alloc ?_ _)); exact BK299.out), GW299.out, GE299.out, NB294_299.out, NB299_294.out, NB295_299.out, NB299_295.out, (by repeat (first | (with_reducible first | exact HB.out | apply below_alloc | apply pw_below_drewN | apply below_drew1 | refine below_set ?_ GE294.out | refine below_set ?_ GE295.out | refine below_set ?_ GE299.out) | exact HB.out))⟩)
    · skip
      refine box_step ?hg (N := 3) ?hd (cs := #[.int .i64 0, .slice none 0 0, .slice none 0 0]) (t := 25) ?hr ?_; (case hd => rfl); (case hg => rfl); (case hr => first | (go_simp; done) | (go_simp; rfl))
      intro gb299 hg w6 hbox hb
      have n0_ := Aside0.mk (blk_below (g := gb294) (o := .cells #[.int .i64 a0_0, .slice A0_1 l0_1.length c0_1, .slice A0_2 l0_2.length c0_2] 25 (0, 0)) (by (with_reducible repeat (first | refine blk_drewN ?_ _ | refine blk_drew ?_ | refine blk_alloc ?_ _)); exact BK294.out) hb)
      have n1_ := Aside0.mk (blk_below (g := gb295) (o := .cells #[.int .i64 0, .slice none 0 0, .slice none 0 0] 25 (0, 0)) (by (with_reducible repeat (first | refine blk_drewN ?_ _ | refine blk_drew ?_ | refine blk_alloc ?_ _)); exact BK295.out) hb)
      have n2_ := Aside0.mk (below_step (by repeat (first | (with_reducible first | exact HB.out | apply below_alloc | apply pw_below_drewN | apply below_drew1 | refine below_set ?_ GE294.out | refine below_set ?_ GE295.out) | exact HB.out)) hb)
      have n3_ := Aside0.mk (hbox)
      have n4_ := Aside0.mk ((by rw [hg]; exact (below_size (by repeat (first | (with_reducible first | exact HB.out | apply below_alloc | apply pw_below_drewN | apply below_drew1 | refine below_set ?_ GE294.out | refine below_set ?_ GE295.out) | exact HB.out))) : w.heap.size ≤ gb299))
      have n5_ := Aside0.mk ((by rw [hg]; exact (below_size (by repeat (first | (with_reducible first | exact HB.out | apply below_alloc | apply pw_below_drewN | apply below_drew1 | refine below_set ?_ GE294.out | refine below_set ?_ GE295.out) | exact HB.out))) : w.heap.size ≤ gb299))
      have n6_ := Aside0.mk ((by rw [hg]; exact Nat.ne_of_lt (blk_lt (g := gb294) (o := .cells #[.int .i64 a0_0, .slice A0_1 l0_1.length c0_1, .slice A0_2 l0_2.length c0_2] 25 (0, 0)) (by (with_reducible repeat (first | refine blk_drewN ?_ _ | refine blk_drew ?_ | refine blk_alloc ?_ _)); exact BK294.out)) : gb294 ≠ gb299))
      have n7_ := Aside0.mk ((by rw [hg]; exact Nat.ne_of_gt (blk_lt (g := gb294) (o := .cells #[.int .i64 a0_0, .slice A0_1 l0_1.length c0_1, .slice A0_2 l0_2.length c0_2] 25 (0, 0)) (by (with_reducible repeat (first | refine blk_drewN ?_ _ | refine blk_drew ?_ | refine blk_alloc ?_ _)); exact BK294.out)) : gb299 ≠ gb294))
      have n8_ := Aside0.mk ((by rw [hg]; exact Nat.ne_of_lt (blk_lt (g := gb295) (o := .cells #[.int .i64 0, .slice none 0 0, .slice none 0 0] 25 (0, 0)) (by (with_reducible repeat (first | refine blk_drewN ?_ _ | refine blk_drew ?_ | refine blk_alloc ?_ _)); exact BK295.out)) : gb295 ≠ gb299))
      have n9_ := Aside0.mk ((by rw [hg]; exact Nat.ne_of_gt (blk_lt (g := gb295) (o := .cells #[.int .i64 0, .slice none 0 0, .slice none 0 0] 25 (0, 0)) (by (with_reducible repeat (first | refine blk_drewN ?_ _ | refine blk_drew ?_ | refine blk_alloc ?_ _)); exact BK295.out)) : gb299 ≠ gb295))
      clear BK294
      clear BK295
      clear HB
      have BK294 := n0_
      have BK295 := n1_
      have HB := n2_
      have BK299 := n3_
      have GW299 := n4_
      have GE299 := n5_
      have NB294_299 := n6_
      have NB299_294 := n7_
      have NB295_299 := n8_
      have NB299_295 := n9_
      clear n0_ n1_ n2_ n3_ n4_ n5_ n6_ n7_ n8_ n9_
      clear hb hbox hg
      refine hK.out _ _ ⟨(blk_cell BK294.out 0).trans rfl, (blk_cell BK294.out 1).trans rfl, (blk_cell BK294.out 2).trans rfl⟩ (fun hHeld => ?_)
      clear hK K
      refine norm_ (a' := ?_) ?_ ?_
      rotate_left
      · show Act.put _ (some 3) _ = _
        simp only [Act.put, List.setIfInBounds_toArray, List.set_cons_zero, List.set_cons_succ, i64_w, i32_w]
        rfl
      refine one_ (i := 4) (N := some 9) #[true, true, true, true, true, false, true, false] rfl rfl (one_of HT_.out (by kernel_rfl)) (by decide) (fun K hK => ?_)
      refine goes_ Try.func19 (by kernel_rfl) rfl #[.slice A0_1 l0_1.length c0_1] (by rfl) rfl rfl (by (try simp only [List.map_toArray, List.map_cons, List.map_nil]); first | done | rfl | (simp only [List.length_drop, List.length_take]; rfl)) ?_
      with_reducible refine (spec_l1Copy.calls k _ _ l0_1 t296 _ ?side1 ?side2 A2.out).mono ?_
      (case side1 => repeat (first | exact (Kd.C_below HR0_1.out HB.out) | (with_reducible refine Kd.C_alloc ?_ _) | (with_reducible refine Kd.C_drewN ?_ _) | (with_reducible refine Kd.C_drew ?_)))
      (case side2 => exact HC0_1.out)
      rintro e w7 ⟨v297, rfl, ho0, hb⟩
      refine ⟨_, rfl, ?_⟩
      have n0_ := Aside0.mk (Kd.R_lower ho0 (below_size (by repeat (first | (with_reducible first | exact HB.out | apply below_alloc | apply pw_below_drewN | apply below_drew1 | refine below_set ?_ GE294.out | refine below_set ?_ GE295.out | refine below_set ?_ GE299.out) | exact HB.out))))
      have n1_ := Aside0.mk (blk_below (g := gb294) (o := .cells #[.int .i64 a0_0, .slice A0_1 l0_1.length c0_1, .slice A0_2 l0_2.length c0_2] 25 (0, 0)) (by (with_reducible repeat (first | refine blk_drewN ?_ _ | refine blk_drew ?_ | refine blk_alloc ?_ _)); exact BK294.out) hb)
      have n2_ := Aside0.mk (blk_below (g := gb295) (o := .cells #[.int .i64 0, .slice none 0 0, .slice none 0 0] 25 (0, 0)) (by (with_reducible repeat (first | refine blk_drewN ?_ _ | refine blk_drew ?_ | refine blk_alloc ?_ _)); exact BK295.out) hb)
      have n3_ := Aside0.mk (blk_below (g := gb299) (o := .cells #[.int .i64 0, .slice none 0 0, .slice none 0 0] 25 (0, 0)) (by (with_reducible repeat (first | refine blk_drewN ?_ _ | refine blk_drew ?_ | refine blk_alloc ?_ _)); exact BK299.out) hb)
      have n4_ := Aside0.mk (below_step (by repeat (first | (with_reducible first | exact HB.out | apply below_alloc | apply pw_below_drewN | apply below_drew1 | refine below_set ?_ GE294.out | refine below_set ?_ GE295.out | refine below_set ?_ GE299.out) | exact HB.out)) hb)
      clear BK294
      clear BK295
      clear BK299
      clear HB
      have HO298 := n0_
      have BK294 := n1_
      have BK295 := n2_
      have BK299 := n3_
      have HB := n4_
      clear n0_ n1_ n2_ n3_ n4_
      (try clear hb)
      (try clear hb2)
      (try clear hk)
      (try clear hi)
      (try clear ho0)
      obtain ⟨Ao8, co8, eo8⟩ := Kd.R_slice HO298.out
      (first | subst eo8 | (injection eo8 with f1_ f2_ f3_; have f4_ := f1_.symm; have f5_ := f3_.symm; clear f1_ f2_ f3_; subst f4_; subst f5_))
      refine hK.out _ _ ⟨(blk_cell BK294.out 0).trans rfl, (blk_cell BK294.out 1).trans rfl, (blk_cell BK294.out 2).trans rfl⟩ (fun hHeld => ?_)
      clear hK K
      refine norm_ (a' := ?_) ?_ ?_
      rotate_left
      · show Act.put _ (some 9) _ = _
        simp only [Act.put, List.setIfInBounds_toArray, List.set_cons_zero, List.set_cons_succ, i64_w, i32_w]
        rfl
      refine pure_ (i := 5) (N := some 10) (v := ?_) (a' := ?_) #[true, true, true, true, true, true, true, false] rfl rfl (any_of HT_.out (by kernel_rfl)) (fun _ _ _ h => h) (Or.inl ⟨by rfl, ?_⟩) ?_ ?_
      rotate_left
      · intro w'
        go_simp
        with_reducible rfl
      rotate_left
      · simp only [Act.put, List.setIfInBounds_toArray, List.set_cons_zero, List.set_cons_succ, i64_w, i32_w]
        rfl
      exact norm_ (by simp only [putAll, Act.put, List.setIfInBounds_toArray, List.set_cons_zero, List.set_cons_succ]) (hCont (.slice Ao8 t296.length co8, gb299) _ ⟨hHeld, (by (with_reducible repeat (first | apply Kd.R_alloc | apply Kd.R_drewN | apply Kd.R_drew)); exact HO298.out), (by (with_reducible repeat (first | refine blk_drewN ?_ _ | refine blk_drew ?_ | refine blk_alloc ?_ _)); exact BK294.out), (by (with_reducible repeat (first | refine blk_drewN ?_ _ | refine blk_drew ?_ | refine blk_alloc ?_ _)); exact BK295.out), (by (with_reducible repeat (first | refine blk_drewN ?_ _ | refine blk_drew ?_ | refine blk_alloc ?_ _)); exact BK299.out), GW299.out, GE299.out, NB294_299.out, NB299_294.out, NB295_299.out, NB299_295.out, (by repeat (first | (with_reducible first | exact HB.out | apply below_alloc | apply pw_below_drewN | apply below_drew1 | refine below_set ?_ GE294.out | refine below_set ?_ GE295.out | refine below_set ?_ GE299.out) | exact HB.out))⟩)
  rintro ⟨v297, gb299⟩ w9 ⟨hS_, h0_, h1_, h2_, h3_, h4_, h5_, h6_, h7_, h8_, h9_, h10_⟩
  have n0_ : Aside0 (Kd.R (Kd.int .u8) 5 w9 w.heap.size (fun _ => True) v297 t296) := ⟨h0_⟩
  have n1_ : Aside0 (w9.heap[gb294]? = some (.cells #[.int .i64 a0_0, .slice A0_1 l0_1.length c0_1, .slice A0_2 l0_2.length c0_2] 25 (0, 0))) := ⟨h1_⟩
  have n2_ : Aside0 (w9.heap[gb295]? = some (.cells #[.int .i64 0, .slice none 0 0, .slice none 0 0] 25 (0, 0))) := ⟨h2_⟩
  have n3_ : Aside0 (w9.heap[gb299]? = some (.cells #[.int .i64 0, .slice none 0 0, .slice none 0 0] 25 (0, 0))) := ⟨h3_⟩
  have n4_ : Aside0 (w.heap.size ≤ gb299) := ⟨h4_⟩
  have n5_ : Aside0 (w.heap.size ≤ gb299) := ⟨h5_⟩
  have n6_ : Aside0 (gb294 ≠ gb299) := ⟨h6_⟩
  have n7_ : Aside0 (gb299 ≠ gb294) := ⟨h7_⟩
  have n8_ : Aside0 (gb295 ≠ gb299) := ⟨h8_⟩
  have n9_ : Aside0 (gb299 ≠ gb295) := ⟨h9_⟩
  have n10_ : Aside0 (Below w.heap.size w w9) := ⟨h10_⟩
  clear BK294
  clear BK295
  clear HB
  clear h0_ h1_ h2_ h3_ h4_ h5_ h6_ h7_ h8_ h9_ h10_
  have HO298 := n0_
  have BK294 := n1_
  have BK295 := n2_
  have BK299 := n3_
  have GW299 := n4_
  have GE299 := n5_
  have NB294_299 := n6_
  have NB299_294 := n7_
  have NB295_299 := n8_
  have NB299_295 := n9_
  have HB := n10_
  clear n0_ n1_ n2_ n3_ n4_ n5_ n6_ n7_ n8_ n9_ n10_
  have hHeld : w9.cell? ⟨gb294, 0, none⟩ = some (.int .i64 a0_0) ∧ w9.cell? ⟨gb294, 1, none⟩ = some (.slice A0_1 l0_1.length c0_1) ∧ w9.cell? ⟨gb294, 2, none⟩ = some (.slice A0_2 l0_2.length c0_2) := hS_
  obtain ⟨Ao10, co10, eo10⟩ := Kd.R_slice HO298.out
  (first | subst eo10 | (injection eo10 with f1_ f2_ f3_; have f4_ := f1_.symm; have f5_ := f3_.symm; clear f1_ f2_ f3_; subst f4_; subst f5_))
  refine norm_ (a' := ?_) ?_ ?_
  rotate_left
  · simp only [putAll, Act.put, List.setIfInBounds_toArray, List.set_cons_zero, List.set_cons_succ]
    rfl
  refine one_ (i := 7) (N := none) #[true, true, true, true, true, true, true, true] rfl rfl (one_of HT_.out (by kernel_rfl)) (by decide) (fun K hK => ?_)
  have hs11 : w9.cell? ⟨gb299, 0, none⟩ = some (.int .i64 0) := (blk_cell BK299.out 0).trans rfl
  have hfs11 := blk_frozen BK299.out 0
  have hns11_0 := NB294_299.out
  have hns11_1 := NB295_299.out
  have hms11_0 := NB299_294.out
  have hms11_1 := NB299_295.out
  have hs12 : w9.cell? ⟨gb299, 1, none⟩ = some (.slice none 0 0) := (blk_cell BK299.out 1).trans rfl
  have hfs12 := blk_frozen BK299.out 1
  have hns12_0 := NB294_299.out
  have hns12_1 := NB295_299.out
  have hms12_0 := NB299_294.out
  have hms12_1 := NB299_295.out
  have hs13 : w9.cell? ⟨gb299, 2, none⟩ = some (.slice none 0 0) := (blk_cell BK299.out 2).trans rfl
  have hfs13 := blk_frozen BK299.out 2
  have hns13_0 := NB294_299.out
  have hns13_1 := NB295_299.out
  have hms13_0 := NB299_294.out
  have hms13_1 := NB299_295.out
  refine skip_ (w1 := ?_) (by rfl) rfl ?_ ?_
  rotate_left
  · go_simp
    rfl
  refine hK.out _ _ ⟨((cell_far (p := ⟨gb299, _, none⟩) NB294_299.out _).trans (((cell_far (p := ⟨gb299, _, none⟩) NB294_299.out _).trans (((cell_far (p := ⟨gb299, _, none⟩) NB294_299.out _).trans (hHeld.1)))))), ((cell_far (p := ⟨gb299, _, none⟩) NB294_299.out _).trans (((cell_far (p := ⟨gb299, _, none⟩) NB294_299.out _).trans (((cell_far (p := ⟨gb299, _, none⟩) NB294_299.out _).trans (hHeld.2.1)))))), ((cell_far (p := ⟨gb299, _, none⟩) NB294_299.out _).trans (((cell_far (p := ⟨gb299, _, none⟩) NB294_299.out _).trans (((cell_far (p := ⟨gb299, _, none⟩) NB294_299.out _).trans (hHeld.2.2))))))⟩ (fun hHeld => ?_)
  clear hK K
  refine done_ (done_of HT_.out (by kernel_rfl)) ?_
  try go_wp2
  go_loopg [4] k (fun kq v4 w' => ∃ (x4_1 : Int) (x300002_1 : List (S32)) (u300002 : Value), v4 = .int .i64 x4_1 ∧ Aside0 (spec_l1CopyDevice.l0 kq x4_1 a0_0 l0_1 l0_2 a0_0 t296 x300002_1 = some (r1, r2, r3)) ∧ Aside0 (kq ≤ k) ∧ Aside0 (Kd.R (Kd.int .u8) 5 w' w.heap.size (fun _ => True) (.slice Ao10 t296.length co10) t296) ∧ Aside0 (Kd.S k32 32 w' w.heap.size (fun k_ => some k_ ≠ ((.slice Ao10 t296.length co10) : Value).ownBlock) u300002 x300002_1) ∧ Aside0 (w'.heap[gb294]? = some (.cells #[.int .i64 a0_0, (.slice A0_1 l0_1.length c0_1), (.slice A0_2 l0_2.length c0_2)] 25 (0, 0))) ∧ Aside0 (w'.heap[gb295]? = some (.cells #[.int .i64 0, (.slice none 0 0), (.slice none 0 0)] 25 (0, 0))) ∧ Aside0 (w'.heap[gb299]? = some (.cells #[.int .i64 a0_0, (.slice Ao10 t296.length co10), u300002] 25 (0, 0))) ∧ Aside0 (Below w.heap.size w w'))
  case atStart => exact ⟨(0), (([] : List (S32))), (.slice none 0 0), (by first | rfl | (simp; done) | (simp [*]; done)), H', ⟨Nat.le_refl _⟩, ⟨by (with_reducible repeat (first | apply Kd.R_alloc | apply Kd.R_drewN | apply Kd.R_drew)); exact Kd.R_mono (Kd.R_far (p := ⟨gb299, 2, none⟩) (Kd.R_far (p := ⟨gb299, 1, none⟩) (Kd.R_far (p := ⟨gb299, 0, none⟩) (Kd.R_types HO298.out BK299.out (by decide)) (fun _ hk => hk.2) (.int .i64 a0_0)) (fun _ hk => hk.2) (.slice Ao10 t296.length co10)) (fun _ hk => hk.2) (.slice none 0 0)) (fun _ hk => trivial)⟩, ⟨by first | exact Kd.S_nil _ _ _ _ _ | exact Kd.N_nil _ _ _ _ _ | exact Kd.V_nil _ _ _ _ _ | exact Kd.Q_nil _ _ _ _ _ | exact Kd.R_nil _ _ _ _ _⟩, ⟨by (with_reducible repeat (first | refine blk_drewN ?_ _ | refine blk_drew ?_ | refine blk_alloc ?_ _)); refine blk_far ?_ NB294_299.out _; (with_reducible repeat (first | refine blk_drewN ?_ _ | refine blk_drew ?_ | refine blk_alloc ?_ _)); refine blk_far ?_ NB294_299.out _; (with_reducible repeat (first | refine blk_drewN ?_ _ | refine blk_drew ?_ | refine blk_alloc ?_ _)); refine blk_far ?_ NB294_299.out _; (with_reducible repeat (first | refine blk_drewN ?_ _ | refine blk_drew ?_ | refine blk_alloc ?_ _)); exact BK294.out⟩, ⟨by (with_reducible repeat (first | refine blk_drewN ?_ _ | refine blk_drew ?_ | refine blk_alloc ?_ _)); refine blk_far ?_ NB295_299.out _; (with_reducible repeat (first | refine blk_drewN ?_ _ | refine blk_drew ?_ | refine blk_alloc ?_ _)); refine blk_far ?_ NB295_299.out _; (with_reducible repeat (first | refine blk_drewN ?_ _ | refine blk_drew ?_ | refine blk_alloc ?_ _)); refine blk_far ?_ NB295_299.out _; (with_reducible repeat (first | refine blk_drewN ?_ _ | refine blk_drew ?_ | refine blk_alloc ?_ _)); exact BK295.out⟩, ⟨by (with_reducible repeat (first | refine blk_drewN ?_ _ | refine blk_drew ?_ | refine blk_alloc ?_ _)); refine blk_put (cs := #[.int .i64 a0_0, .slice Ao10 t296.length co10, .slice none 0 0]) ?_ 2 _ rfl; (with_reducible repeat (first | refine blk_drewN ?_ _ | refine blk_drew ?_ | refine blk_alloc ?_ _)); refine blk_put (cs := #[.int .i64 a0_0, .slice none 0 0, .slice none 0 0]) ?_ 1 _ rfl; (with_reducible repeat (first | refine blk_drewN ?_ _ | refine blk_drew ?_ | refine blk_alloc ?_ _)); refine blk_put (cs := #[.int .i64 0, .slice none 0 0, .slice none 0 0]) ?_ 0 _ rfl; (with_reducible repeat (first | refine blk_drewN ?_ _ | refine blk_drew ?_ | refine blk_alloc ?_ _)); exact BK299.out⟩, ⟨by repeat (first | (with_reducible first | exact HB.out | apply below_alloc | apply pw_below_drewN | apply below_drew1 | refine below_set ?_ GE294.out | refine below_set ?_ GE295.out | refine below_set ?_ GE299.out) | exact HB.out)⟩⟩
  case round =>
    clear H'
    try clear c1
    try clear p2
    obtain ⟨x4_1, x300002_1, u300002, rfl, HA, HK1, HO_300001, HO_300002, BK294, BK295, BK299, HB⟩ := hrel
    cases gk with
    | zero => exact absurd HA.out (by simp [spec_l1CopyDevice.l0])
    | succ k1 =>
      have H := HA.out
      clear HA
      simp only [spec_l1CopyDevice.l0] at H
      by_cases c14 : x4_1 < (l0_2.length : Int)
      · rw [if_pos c14] at H
        have c14b0 : decide (x4_1 < (l0_2.length : Int)) = true := decide_eq_true c14
        clear c14
        by_cases c15 : 0 ≤ x4_1
        · rw [if_pos c15] at H
          have c15b0 : decide (0 ≤ x4_1) = true := decide_eq_true c15
          clear c15
          replace H := Option.bind_eq_some_iff.mp H
          obtain ⟨t302, A160, H⟩ := H
          replace H : (if x300002_1.length < 4398046511104 then (spec_l1CopyDevice.l0 k1 (wrap64 (x4_1 + 1)) a0_0 l0_1 l0_2 a0_0 t296 (x300002_1 ++ [(⟨(rd_T32 l0_2 x4_1).f0, t302⟩ : S32)])) else (none)) = some (r1, r2, r3) := H
          have A16 := Aside0.mk A160
          clear A160
          by_cases c17 : x300002_1.length < 4398046511104
          · rw [if_pos c17] at H
            have LMc17 := Aside0.mk c17
            clear c17
            obtain ⟨y305, hy305⟩ : ∃ y_ : List (S32), y_ = (x300002_1 ++ [(⟨(rd_T32 l0_2 x4_1).f0, t302⟩ : S32)]) := ⟨_, rfl⟩
            replace H : (spec_l1CopyDevice.l0 k1 (wrap64 (x4_1 + 1)) a0_0 l0_1 l0_2 a0_0 t296 y305) = some (r1, r2, r3) := by first | (rw [hy305]; with_reducible exact H) | (have H2_ := (Option.bind_some _ _).symm.trans H; rw [hy305]; with_reducible exact H2_) | (have H2_ := (Option.bind_some _ _).symm.trans H; with_reducible exact H2_) | with_reducible exact H | (rw [hy305]; exact H) | exact H
            have Ny305 := Aside0.mk hy305
            clear hy305
            have H' := Aside0.mk H
            clear H
            have hnb18 := NB294_295.out
            have hnc18 := NB295_294.out
            have hnb19 := NB294_299.out
            have hnc19 := NB299_294.out
            have hcz20_0 : wr.cell? ⟨gb294, 0, none⟩ = some (.int .i64 a0_0) := (blk_cell BK294.out 0).trans rfl
            have hcz20_1 : wr.cell? ⟨gb294, 1, none⟩ = some (.slice A0_1 l0_1.length c0_1) := (blk_cell BK294.out 1).trans rfl
            have hcz20_2 : wr.cell? ⟨gb294, 2, none⟩ = some (.slice A0_2 l0_2.length c0_2) := (blk_cell BK294.out 2).trans rfl
            have hfz20_0 := blk_frozen BK294.out 0
            have hfz20_1 := blk_frozen BK294.out 1
            have hfz20_2 := blk_frozen BK294.out 2
            try go_wp2
            have n0_ := Aside0.mk (Kd.R_drew HO_300001.out)
            have n1_ := Aside0.mk (Kd.S_drew HO_300002.out)
            have n2_ := Aside0.mk (blk_drew BK294.out)
            have n3_ := Aside0.mk (blk_drew BK295.out)
            have n4_ := Aside0.mk (blk_drew BK299.out)
            have n5_ := Aside0.mk (below_drew1 HB.out)
            clear HO_300001
            clear HO_300002
            clear BK294
            clear BK295
            clear BK299
            clear HB
            have HO_300001 := n0_
            have HO_300002 := n1_
            have BK294 := n2_
            have BK295 := n3_
            have BK299 := n4_
            have HB := n5_
            clear n0_ n1_ n2_ n3_ n4_ n5_
            have p300 : 0 ≤ (x4_1 : Int) := of_decide_eq_true (by first | (with_reducible assumption) | assumption)
            have q300 : x4_1 < (l0_2.length : Int) := of_decide_eq_true (by first | (with_reducible assumption) | assumption)
            obtain ⟨ad300, A300_1, c300_1, e300, hx300_0, hx300_1, hl300_1, hi300_1⟩ := at_T32 HR0_2.out x4_1 p300 q300
            have hw300_1 := hx300_1
            have hw300_0 := hx300_0
            cases e300
            replace hx300_0 := (HB.out.cell (World.block_lt_of_cell? w _ hx300_0)).trans hx300_0
            replace hx300_1 := (HB.out.cell (World.block_lt_of_cell? w _ hx300_1)).trans hx300_1
            have HR300_1 := Aside0.mk hi300_1
            have HC300_1 := Aside0.mk hl300_1
            clear hi300_1 hl300_1
            replace p300 := eq_true p300
            replace q300 := eq_true q300
            have p301 : 0 ≤ (x4_1 : Int) := of_decide_eq_true (by first | (with_reducible assumption) | assumption)
            have q301 : x4_1 < (l0_2.length : Int) := of_decide_eq_true (by first | (with_reducible assumption) | assumption)
            obtain ⟨ad301, A301_1, c301_1, e301, hx301_0, hx301_1, hl301_1, hi301_1⟩ := at_T32 HR0_2.out x4_1 p301 q301
            have hw301_1 := hx301_1
            have hw301_0 := hx301_0
            obtain rfl : ad300 = ad301 := (by injection e301)
            replace hx301_0 := (HB.out.cell (World.block_lt_of_cell? w _ hx301_0)).trans hx301_0
            replace hx301_1 := (HB.out.cell (World.block_lt_of_cell? w _ hx301_1)).trans hx301_1
            have HR301_1 := Aside0.mk hi301_1
            have HC301_1 := Aside0.mk hl301_1
            clear hi301_1 hl301_1
            replace p301 := eq_true p301
            replace q301 := eq_true q301
            have ea_ := Option.some.inj (hx300_1.symm.trans hx301_1)
            injection ea_ with ea_ en_ ec_
            subst ea_
            subst ec_
            clear en_
            refine start_ (n := 20) (S := fun w' => w'.cell? ⟨gb299, 0, none⟩ = some (.int .i64 a0_0) ∧ w'.cell? ⟨gb299, 1, none⟩ = some (.slice Ao10 t296.length co10) ∧ w'.cell? ⟨gb299, 2, none⟩ = some (u300002) ∧ w'.cell? ⟨gb294, 0, none⟩ = some (.int .i64 a0_0) ∧ w'.cell? ⟨gb294, 1, none⟩ = some (.slice A0_1 l0_1.length c0_1) ∧ w'.cell? ⟨gb294, 2, none⟩ = some (.slice (some ad300) l0_2.length c0_2) ∧ w'.cell? (ad300.add ((x4_1).toNat * 2)) = some (.int .i64 ((rd_T32 l0_2 x4_1).f0)) ∧ w'.cell? ⟨(ad300.add ((x4_1).toNat * 2)).block, (ad300.add ((x4_1).toNat * 2)).off + 1, none⟩ = some (.slice A300_1 ((rd_T32 l0_2 x4_1).f1).length c300_1) ∧ w'.cell? (ad300.add ((x4_1).toNat * 2)) = some (.int .i64 ((rd_T32 l0_2 x4_1).f0)) ∧ w'.cell? ⟨(ad300.add ((x4_1).toNat * 2)).block, (ad300.add ((x4_1).toNat * 2)).off + 1, none⟩ = some (.slice A300_1 ((rd_T32 l0_2 x4_1).f1).length c300_1)) (ds := [19]) #[false, false, false, false, false, false, false, false, false, false, false, false, false, false, false, false, false, false, false, false] (by kernel_rfl) rfl rfl ⟨(blk_cell BK299.out 0).trans rfl, (blk_cell BK299.out 1).trans rfl, (blk_cell BK299.out 2).trans rfl, (blk_cell BK294.out 0).trans rfl, (blk_cell BK294.out 1).trans rfl, (blk_cell BK294.out 2).trans rfl, ((HB.out.cell (World.block_lt_of_cell? w _ hw300_0)).trans hw300_0), ((HB.out.cell (World.block_lt_of_cell? w _ hw300_1)).trans hw300_1), ((HB.out.cell (World.block_lt_of_cell? w _ hw301_0)).trans hw301_0), ((HB.out.cell (World.block_lt_of_cell? w _ hw301_1)).trans hw301_1)⟩ (fun hHeld => ?_); refine with_tabW spec_l1CopyDevice.tab5 spec_l1CopyDevice.bits5 (fun HT_ HW_ => ?_)
            generalize wr.drew = w21 at HO_300001 HO_300002 BK294 BK295 BK299 HB HR300_1 HR301_1 hx300_0 hx300_1 hx301_0 hx301_1 hHeld ⊢
            refine pure_ (i := 0) (N := some 18) (v := ?_) (a' := ?_) #[true, false, false, false, false, false, false, false, false, false, false, false, false, false, false, false, false, false, false, false] rfl rfl (any_of HT_.out (by kernel_rfl)) (fun _ _ _ h => h) (Or.inl ⟨by rfl, ?_⟩) ?_ ?_
            rotate_left
            · intro w'
              go_simp
              with_reducible rfl
            rotate_left
            · simp only [Act.put, List.setIfInBounds_toArray, List.set_cons_zero, List.set_cons_succ, i64_w, i32_w]
              rfl
            refine pure_ (i := 2) (N := some 20) (v := ?_) (a' := ?_) #[true, false, true, false, false, false, false, false, false, false, false, false, false, false, false, false, false, false, false, false] rfl rfl (any_of HT_.out (by kernel_rfl)) (fun _ _ _ h => h) (Or.inl ⟨by rfl, ?_⟩) ?_ ?_
            rotate_left
            · intro w'
              go_simp
              with_reducible rfl
            rotate_left
            · simp only [Act.put, List.setIfInBounds_toArray, List.set_cons_zero, List.set_cons_succ, i64_w, i32_w]
              rfl
            refine pure_ (i := 4) (N := some 22) (v := ?_) (a' := ?_) #[true, false, true, false, true, false, false, false, false, false, false, false, false, false, false, false, false, false, false, false] rfl rfl (any_of HT_.out (by kernel_rfl)) (fun _ _ _ h => h) (Or.inl ⟨by rfl, ?_⟩) ?_ ?_
            rotate_left
            · intro w'
              go_simp
              with_reducible rfl
            rotate_left
            · simp only [Act.put, List.setIfInBounds_toArray, List.set_cons_zero, List.set_cons_succ, i64_w, i32_w]
              rfl
            refine pure_ (i := 8) (N := some 26) (v := ?_) (a' := ?_) #[true, false, true, false, true, false, false, false, true, false, false, false, false, false, false, false, false, false, false, false] rfl rfl (any_of HT_.out (by kernel_rfl)) (fun _ _ _ h => h) (Or.inl ⟨by rfl, ?_⟩) ?_ ?_
            rotate_left
            · intro w'
              go_simp
              with_reducible rfl
            rotate_left
            · simp only [Act.put, List.setIfInBounds_toArray, List.set_cons_zero, List.set_cons_succ, i64_w, i32_w]
              rfl
            refine pure_ (i := 10) (N := some 28) (v := ?_) (a' := ?_) #[true, false, true, false, true, false, false, false, true, false, true, false, false, false, false, false, false, false, false, false] rfl rfl (any_of HT_.out (by kernel_rfl)) (fun _ _ _ h => h) (Or.inl ⟨by rfl, ?_⟩) ?_ ?_
            rotate_left
            · intro w'
              go_simp
              with_reducible rfl
            rotate_left
            · simp only [Act.put, List.setIfInBounds_toArray, List.set_cons_zero, List.set_cons_succ, i64_w, i32_w]
              rfl
            refine take_ (i := 1) (N := some 19) (v := ?_) (a' := ?_) #[true, true, true, false, true, false, false, false, true, false, true, false, false, false, false, false, false, false, false, false] rfl rfl (take_ofW HT_.out HW_.out (by kernel_rfl)) (fun _ _ _ h => h) (Or.inl ⟨by rfl, ?_⟩) hHeld ?_ ?_
            rotate_left
            · rintro w' ⟨s0, s1, s2, s3, s4, s5, s6, s7, s8, s9⟩
              go_simp
              with_reducible rfl
            rotate_left
            · simp only [Act.put, List.setIfInBounds_toArray, List.set_cons_zero, List.set_cons_succ, i64_w, i32_w]
              rfl
            refine take_ (i := 3) (N := some 21) (v := ?_) (a' := ?_) #[true, true, true, true, true, false, false, false, true, false, true, false, false, false, false, false, false, false, false, false] rfl rfl (take_ofW HT_.out HW_.out (by kernel_rfl)) (fun _ _ _ h => h) (Or.inl ⟨by rfl, ?_⟩) hHeld ?_ ?_
            rotate_left
            · rintro w' ⟨s0, s1, s2, s3, s4, s5, s6, s7, s8, s9⟩
              go_simp
              with_reducible rfl
            rotate_left
            · simp only [Act.put, List.setIfInBounds_toArray, List.set_cons_zero, List.set_cons_succ, i64_w, i32_w]
              rfl
            refine pure_ (i := 5) (N := some 23) (v := ?_) (a' := ?_) #[true, true, true, true, true, true, false, false, true, false, true, false, false, false, false, false, false, false, false, false] rfl rfl (any_of HT_.out (by kernel_rfl)) (fun _ _ _ h => h) (Or.inl ⟨by rfl, ?_⟩) ?_ ?_
            rotate_left
            · intro w'
              go_simp
              with_reducible rfl
            rotate_left
            · simp only [Act.put, List.setIfInBounds_toArray, List.set_cons_zero, List.set_cons_succ, i64_w, i32_w]
              rfl
            refine pure_ (i := 6) (N := some 24) (v := ?_) (a' := ?_) #[true, true, true, true, true, true, true, false, true, false, true, false, false, false, false, false, false, false, false, false] rfl rfl (any_of HT_.out (by kernel_rfl)) (fun _ _ _ h => h) (Or.inl ⟨by rfl, ?_⟩) ?_ ?_
            rotate_left
            · intro w'
              go_simp
              with_reducible rfl
            rotate_left
            · simp only [Act.put, List.setIfInBounds_toArray, List.set_cons_zero, List.set_cons_succ, i64_w, i32_w]
              rfl
            refine take_ (i := 7) (N := some 25) (v := ?_) (a' := ?_) #[true, true, true, true, true, true, true, true, true, false, true, false, false, false, false, false, false, false, false, false] rfl rfl (take_ofW HT_.out HW_.out (by kernel_rfl)) (fun _ _ _ h => h) (Or.inl ⟨by rfl, ?_⟩) hHeld ?_ ?_
            rotate_left
            · rintro w' ⟨s0, s1, s2, s3, s4, s5, s6, s7, s8, s9⟩
              go_simp
              with_reducible rfl
            rotate_left
            · simp only [Act.put, List.setIfInBounds_toArray, List.set_cons_zero, List.set_cons_succ, i64_w, i32_w]
              rfl
            refine take_ (i := 9) (N := some 27) (v := ?_) (a' := ?_) #[true, true, true, true, true, true, true, true, true, true, true, false, false, false, false, false, false, false, false, false] rfl rfl (take_ofW HT_.out HW_.out (by kernel_rfl)) (fun _ _ _ h => h) (Or.inl ⟨by rfl, ?_⟩) hHeld ?_ ?_
            rotate_left
            · rintro w' ⟨s0, s1, s2, s3, s4, s5, s6, s7, s8, s9⟩
              go_simp
              with_reducible rfl
            rotate_left
            · simp only [Act.put, List.setIfInBounds_toArray, List.set_cons_zero, List.set_cons_succ, i64_w, i32_w]
              rfl
            refine pure_ (i := 11) (N := some 29) (v := ?_) (a' := ?_) #[true, true, true, true, true, true, true, true, true, true, true, true, false, false, false, false, false, false, false, false] rfl rfl (any_of HT_.out (by kernel_rfl)) (fun _ _ _ h => h) (Or.inl ⟨by rfl, ?_⟩) ?_ ?_
            rotate_left
            · intro w'
              go_simp
              with_reducible rfl
            rotate_left
            · simp only [Act.put, List.setIfInBounds_toArray, List.set_cons_zero, List.set_cons_succ, i64_w, i32_w]
              rfl
            refine pure_ (i := 12) (N := some 30) (v := ?_) (a' := ?_) #[true, true, true, true, true, true, true, true, true, true, true, true, true, false, false, false, false, false, false, false] rfl rfl (any_of HT_.out (by kernel_rfl)) (fun _ _ _ h => h) (Or.inl ⟨by rfl, ?_⟩) ?_ ?_
            rotate_left
            · intro w'
              go_simp
              with_reducible rfl
            rotate_left
            · simp only [Act.put, List.setIfInBounds_toArray, List.set_cons_zero, List.set_cons_succ, i64_w, i32_w]
              rfl
            refine take_ (i := 13) (N := some 31) (v := ?_) (a' := ?_) #[true, true, true, true, true, true, true, true, true, true, true, true, true, true, false, false, false, false, false, false] rfl rfl (take_ofW HT_.out HW_.out (by kernel_rfl)) (fun _ _ _ h => h) (Or.inl ⟨by rfl, ?_⟩) hHeld ?_ ?_
            rotate_left
            · rintro w' ⟨s0, s1, s2, s3, s4, s5, s6, s7, s8, s9⟩
              go_simp
              with_reducible rfl
            rotate_left
            · simp only [Act.put, List.setIfInBounds_toArray, List.set_cons_zero, List.set_cons_succ, i64_w, i32_w]
              rfl
            refine one_ (i := 14) (N := some 32) #[true, true, true, true, true, true, true, true, true, true, true, true, true, true, true, false, false, false, false, false] rfl rfl (one_of HT_.out (by kernel_rfl)) (by decide) (fun K hK => ?_)
            refine goes_ Try.func19 (by kernel_rfl) rfl #[.slice A300_1 ((rd_T32 l0_2 x4_1).f1).length c300_1] (by rfl) rfl rfl (by (try simp only [List.map_toArray, List.map_cons, List.map_nil]); first | done | rfl | (simp only [List.length_drop, List.length_take]; rfl)) ?_
            with_reducible refine (spec_l1Copy.calls k1 _ _ ((rd_T32 l0_2 x4_1).f1) t302 _ ?side1 ?side2 A16.out).mono ?_
            (case side1 => repeat (first | exact (Kd.C_below HR301_1.out HB.out) | (with_reducible refine Kd.C_alloc ?_ _) | (with_reducible refine Kd.C_drewN ?_ _) | (with_reducible refine Kd.C_drew ?_)))
            (case side2 => exact HC301_1.out)
            rintro e w22 ⟨v303, rfl, ho0, hb⟩
            refine ⟨_, rfl, ?_⟩
            have n0_ := Aside0.mk (Kd.R_elder' (by (with_reducible repeat (first | apply Kd.R_alloc | apply Kd.R_drewN | apply Kd.R_drew)); exact HO_300001.out) (Kd.R_base ho0) hb)
            have n1_ := Aside0.mk (Kd.S_elder' (by (with_reducible repeat (first | apply Kd.S_alloc | apply Kd.S_drewN | apply Kd.S_drew)); exact HO_300002.out) (Kd.R_base ho0) hb)
            have n2_ := Aside0.mk (Kd.R_lower (Kd.R_new' ho0 (Kd.R_lt (by (with_reducible repeat (first | apply Kd.R_alloc | apply Kd.R_drewN | apply Kd.R_drew)); exact HO_300001.out))) (below_size (by repeat (first | (with_reducible first | exact HB.out | apply below_alloc | apply pw_below_drewN | apply below_drew1 | refine below_set ?_ GE294.out | refine below_set ?_ GE295.out | refine below_set ?_ GE299.out) | exact HB.out))))
            have n3_ := Aside0.mk (blk_below (g := gb294) (o := .cells #[.int .i64 a0_0, .slice A0_1 l0_1.length c0_1, .slice (some ad300) l0_2.length c0_2] 25 (0, 0)) (by (with_reducible repeat (first | refine blk_drewN ?_ _ | refine blk_drew ?_ | refine blk_alloc ?_ _)); exact BK294.out) hb)
            have n4_ := Aside0.mk (blk_below (g := gb295) (o := .cells #[.int .i64 0, .slice none 0 0, .slice none 0 0] 25 (0, 0)) (by (with_reducible repeat (first | refine blk_drewN ?_ _ | refine blk_drew ?_ | refine blk_alloc ?_ _)); exact BK295.out) hb)
            have n5_ := Aside0.mk (blk_below (g := gb299) (o := .cells #[.int .i64 a0_0, .slice Ao10 t296.length co10, u300002] 25 (0, 0)) (by (with_reducible repeat (first | refine blk_drewN ?_ _ | refine blk_drew ?_ | refine blk_alloc ?_ _)); exact BK299.out) hb)
            have n6_ := Aside0.mk (below_step (by repeat (first | (with_reducible first | exact HB.out | apply below_alloc | apply pw_below_drewN | apply below_drew1 | refine below_set ?_ GE294.out | refine below_set ?_ GE295.out | refine below_set ?_ GE299.out) | exact HB.out)) hb)
            clear HO_300001
            clear HO_300002
            clear BK294
            clear BK295
            clear BK299
            clear HB
            have HO_300001 := n0_
            have HO_300002 := n1_
            have HO304 := n2_
            have BK294 := n3_
            have BK295 := n4_
            have BK299 := n5_
            have HB := n6_
            clear n0_ n1_ n2_ n3_ n4_ n5_ n6_
            (try clear hb)
            (try clear hb2)
            (try clear hk)
            (try clear hi)
            (try clear ho0)
            obtain ⟨Ao23, co23, eo23⟩ := Kd.R_slice HO304.out
            (first | subst eo23 | (injection eo23 with f1_ f2_ f3_; have f4_ := f1_.symm; have f5_ := f3_.symm; clear f1_ f2_ f3_; subst f4_; subst f5_))
            refine hK.out _ _ ⟨(blk_cell BK299.out 0).trans rfl, (blk_cell BK299.out 1).trans rfl, (blk_cell BK299.out 2).trans rfl, (blk_cell BK294.out 0).trans rfl, (blk_cell BK294.out 1).trans rfl, (blk_cell BK294.out 2).trans rfl, ((HB.out.cell (World.block_lt_of_cell? w _ hw300_0)).trans hw300_0), ((HB.out.cell (World.block_lt_of_cell? w _ hw300_1)).trans hw300_1), ((HB.out.cell (World.block_lt_of_cell? w _ hw301_0)).trans hw301_0), ((HB.out.cell (World.block_lt_of_cell? w _ hw301_1)).trans hw301_1)⟩ (fun hHeld => ?_)
            clear hK K
            refine norm_ (a' := ?_) ?_ ?_
            rotate_left
            · show Act.put _ (some 32) _ = _
              simp only [Act.put, List.setIfInBounds_toArray, List.set_cons_zero, List.set_cons_succ, i64_w, i32_w]
              rfl
            refine pure_ (i := 15) (N := some 33) (v := ?_) (a' := ?_) #[true, true, true, true, true, true, true, true, true, true, true, true, true, true, true, true, false, false, false, false] rfl rfl (any_of HT_.out (by kernel_rfl)) (fun _ _ _ h => h) (Or.inl ⟨by rfl, ?_⟩) ?_ ?_
            rotate_left
            · intro w'
              go_simp
              with_reducible rfl
            rotate_left
            · simp only [Act.put, List.setIfInBounds_toArray, List.set_cons_zero, List.set_cons_succ, i64_w, i32_w]
              rfl
            refine one_ (i := 16) (N := some 34) #[true, true, true, true, true, true, true, true, true, true, true, true, true, true, true, true, true, false, false, false] rfl rfl (one_of HT_.out (by kernel_rfl)) (by decide) (fun K hK => ?_)
            refine value_ (w1 := ?_) (v := ?_) (by rfl) rfl ?_ ?_
            rotate_left 2
            · go_simp
              constructor
              · rfl
              · rfl
            refine hK.out _ _ ⟨(blk_cell (blk_alloc BK299.out _) 0).trans rfl, (blk_cell (blk_alloc BK299.out _) 1).trans rfl, (blk_cell (blk_alloc BK299.out _) 2).trans rfl, (blk_cell (blk_alloc BK294.out _) 0).trans rfl, (blk_cell (blk_alloc BK294.out _) 1).trans rfl, (blk_cell (blk_alloc BK294.out _) 2).trans rfl, (World.cell?_alloc_lt _ _ _ (World.block_lt_of_cell? _ _ (((HB.out.cell (World.block_lt_of_cell? w _ hw300_0)).trans hw300_0)))).trans (((HB.out.cell (World.block_lt_of_cell? w _ hw300_0)).trans hw300_0)), (World.cell?_alloc_lt _ _ _ (World.block_lt_of_cell? _ _ (((HB.out.cell (World.block_lt_of_cell? w _ hw300_1)).trans hw300_1)))).trans (((HB.out.cell (World.block_lt_of_cell? w _ hw300_1)).trans hw300_1)), (World.cell?_alloc_lt _ _ _ (World.block_lt_of_cell? _ _ (((HB.out.cell (World.block_lt_of_cell? w _ hw301_0)).trans hw301_0)))).trans (((HB.out.cell (World.block_lt_of_cell? w _ hw301_0)).trans hw301_0)), (World.cell?_alloc_lt _ _ _ (World.block_lt_of_cell? _ _ (((HB.out.cell (World.block_lt_of_cell? w _ hw301_1)).trans hw301_1)))).trans (((HB.out.cell (World.block_lt_of_cell? w _ hw301_1)).trans hw301_1))⟩ (fun hHeld => ?_)
            clear hK K
            refine norm_ (a' := ?_) ?_ ?_
            rotate_left
            · show Act.put _ (some 34) _ = _
              simp only [Act.put, List.setIfInBounds_toArray, List.set_cons_zero, List.set_cons_succ, i64_w, i32_w]
              rfl
            refine one_ (i := 17) (N := some 35) #[true, true, true, true, true, true, true, true, true, true, true, true, true, true, true, true, true, true, false, false] rfl rfl (one_of HT_.out (by kernel_rfl)) (by decide) (fun K hK => ?_)
            refine Kd.S_append_step k32 (w0 := w) w.heap.size (by rfl) (.tmp 19) (.tmp 34) 23 32 (.agg #[(.int .i64 0), (.slice none 0 0)]) 32 rfl Try.underlying23 info32 rfl (by decide) (by omega) u300002 x300002_1 (⟨(rd_T32 l0_2 x4_1).f0, t302⟩ : S32) [.int .i64 ((rd_T32 l0_2 x4_1).f0), .slice Ao23 t302.length co23] (fun k_ => some k_ ≠ (.slice Ao10 t296.length co10 : Value).ownBlock) (fun k_ => some k_ = (.slice Ao23 t302.length co23 : Value).ownBlock) rfl rfl ?aP (fun k_ hk_ => ((Kd.R_mono (ok' := fun k_ => ((fun k_ => some k_ ≠ (.slice Ao10 t296.length co10 : Value).ownBlock)) k_ ∧ some k_ ≠ (u300002 : Value).ownBlock) (Kd.R_apart' (HO304.out) (Kd.S_typed HO_300002.out) (by decide)) (fun k_ hk => ⟨hk.1.2, hk.2⟩))).1 k_ hk_.symm) ?aF ?aO ?aB ?aS ?aL ?_
            (case aP => exact k32_mkM _ _ _ (⟨(rd_T32 l0_2 x4_1).f0, t302⟩ : S32) (Kd.R_mono (Kd.R_tight rfl (Kd.R_mono (ok' := fun k_ => ((fun k_ => some k_ ≠ (.slice Ao10 t296.length co10 : Value).ownBlock)) k_ ∧ some k_ ≠ (u300002 : Value).ownBlock) (Kd.R_apart' (HO304.out) (Kd.S_typed HO_300002.out) (by decide)) (fun k_ hk => ⟨hk.1.2, hk.2⟩))) (fun _ h_ => h_)))
            (case aB => exact (by repeat (first | (with_reducible first | exact HB.out | apply below_alloc | apply pw_below_drewN | apply below_drew1 | refine below_set ?_ GE294.out | refine below_set ?_ GE295.out | refine below_set ?_ GE299.out) | exact HB.out)))
            (case aF => exact (fun k_ hk => Kd.fresh' (Kd.R_lt (by (with_reducible repeat (first | apply Kd.R_alloc | apply Kd.R_drewN | apply Kd.R_drew)); exact HO_300001.out)) k_ hk))
            (case aO => exact (by (with_reducible repeat (first | apply Kd.S_alloc | apply Kd.S_drewN | apply Kd.S_drew)); exact Kd.S_mono HO_300002.out (fun k_ hk => ⟨hk.1, fun e_ => hk.2 e_⟩)))
            (case aS => exact (below_size (by repeat (first | (with_reducible first | exact HB.out | apply below_alloc | apply pw_below_drewN | apply below_drew1 | refine below_set ?_ GE294.out | refine below_set ?_ GE295.out | refine below_set ?_ GE299.out) | exact HB.out))))
            (case aL => have := LMc17.out; omega)
            intro v306 w24 ho hb hg hat
            rw [← Ny305.out] at ho
            have n0_ := Aside0.mk (Kd.R_over' (by (with_reducible repeat (first | apply Kd.R_alloc | apply Kd.R_drewN | apply Kd.R_drew)); exact HO_300001.out) (Kd.S_typed (by (with_reducible repeat (first | apply Kd.S_alloc | apply Kd.S_drewN | apply Kd.S_drew)); exact HO_300002.out)) (by decide) hg)
            have n1_ := Aside0.mk (blk_grown (g := gb294) (o := .cells #[.int .i64 a0_0, .slice A0_1 l0_1.length c0_1, .slice (some ad300) l0_2.length c0_2] 25 (0, 0)) (by (with_reducible repeat (first | refine blk_drewN ?_ _ | refine blk_drew ?_ | refine blk_alloc ?_ _)); exact BK294.out) hg (Kd.S_ne HO_300002.out BK294.out (by decide)))
            have n2_ := Aside0.mk (blk_grown (g := gb295) (o := .cells #[.int .i64 0, .slice none 0 0, .slice none 0 0] 25 (0, 0)) (by (with_reducible repeat (first | refine blk_drewN ?_ _ | refine blk_drew ?_ | refine blk_alloc ?_ _)); exact BK295.out) hg (Kd.S_ne HO_300002.out BK295.out (by decide)))
            have n3_ := Aside0.mk (blk_grown (g := gb299) (o := .cells #[.int .i64 a0_0, .slice Ao10 t296.length co10, u300002] 25 (0, 0)) (by (with_reducible repeat (first | refine blk_drewN ?_ _ | refine blk_drew ?_ | refine blk_alloc ?_ _)); exact BK299.out) hg (Kd.S_ne HO_300002.out BK299.out (by decide)))
            have n4_ := Aside0.mk (hb)
            have n5_ := Aside0.mk (ho)
            clear HO_300001
            clear BK294
            clear BK295
            clear BK299
            clear HB
            clear HO_300002
            clear HO304
            have HO_300001 := n0_
            have BK294 := n1_
            have BK295 := n2_
            have BK299 := n3_
            have HB := n4_
            have HO307 := n5_
            clear n0_ n1_ n2_ n3_ n4_ n5_
            clear ho hb hg hat
            obtain ⟨Ao25, co25, eo25⟩ := Kd.S_slice HO307.out
            (first | subst eo25 | (injection eo25 with f1_ f2_ f3_; have f4_ := f1_.symm; have f5_ := f3_.symm; clear f1_ f2_ f3_; subst f4_; subst f5_))
            refine hK.out _ _ ⟨(blk_cell BK299.out 0).trans rfl, (blk_cell BK299.out 1).trans rfl, (blk_cell BK299.out 2).trans rfl, (blk_cell BK294.out 0).trans rfl, (blk_cell BK294.out 1).trans rfl, (blk_cell BK294.out 2).trans rfl, ((HB.out.cell (World.block_lt_of_cell? w _ hw300_0)).trans hw300_0), ((HB.out.cell (World.block_lt_of_cell? w _ hw300_1)).trans hw300_1), ((HB.out.cell (World.block_lt_of_cell? w _ hw301_0)).trans hw301_0), ((HB.out.cell (World.block_lt_of_cell? w _ hw301_1)).trans hw301_1)⟩ (fun hHeld => ?_)
            clear hK K
            refine norm_ (a' := ?_) ?_ ?_
            rotate_left
            · show Act.put _ (some 35) _ = _
              simp only [Act.put, List.setIfInBounds_toArray, List.set_cons_zero, List.set_cons_succ, i64_w, i32_w]
              rfl
            refine pure_ (i := 18) (N := some 36) (v := ?_) (a' := ?_) #[true, true, true, true, true, true, true, true, true, true, true, true, true, true, true, true, true, true, true, false] rfl rfl (any_of HT_.out (by kernel_rfl)) (fun _ _ _ h => h) (Or.inl ⟨by rfl, ?_⟩) ?_ ?_
            rotate_left
            · intro w'
              go_simp
              with_reducible rfl
            rotate_left
            · simp only [Act.put, List.setIfInBounds_toArray, List.set_cons_zero, List.set_cons_succ, i64_w, i32_w]
              rfl
            refine last_ (i := 19) (N := none) #[true, true, true, true, true, true, true, true, true, true, true, true, true, true, true, true, true, true, true, true] rfl rfl (one_of HT_.out (by kernel_rfl)) (by decide) (fun K hK => ?_)
            have hs26 : w24.cell? ⟨gb299, 2, none⟩ = some (u300002) := (blk_cell BK299.out 2).trans rfl
            have hfs26 := blk_frozen BK299.out 2
            have hns26_0 := NB294_299.out
            have hns26_1 := NB295_299.out
            have hms26_0 := NB299_294.out
            have hms26_1 := NB299_295.out
            refine skip_ (w1 := ?_) (by rfl) rfl ?_ ?_
            rotate_left
            · go_simp
              rfl
            refine hK.out _ _ ?_
            clear hK K
            refine done_ (done_of HT_.out (by kernel_rfl)) ?_
            try go_wp2
            go_roundg k1
            case measure => have := HK1.out; omega
            case rel => exact ⟨(wrap64 (x4_1 + 1)), (y305), (.slice Ao25 y305.length co25), (by first | rfl | (simp; done) | (simp [*]; done)), H', ⟨by have := HK1.out; omega⟩, ⟨by (with_reducible repeat (first | apply Kd.R_alloc | apply Kd.R_drewN | apply Kd.R_drew)); exact Kd.R_mono (Kd.R_far (p := ⟨gb299, 2, none⟩) (Kd.R_types HO_300001.out BK299.out (by decide)) (fun _ hk => hk.2) (.slice Ao25 y305.length co25)) (fun _ hk => trivial)⟩, ⟨by (with_reducible repeat (first | apply Kd.S_alloc | apply Kd.S_drewN | apply Kd.S_drew)); exact Kd.S_mono (Kd.S_far (p := ⟨gb299, 2, none⟩) (Kd.S_types HO307.out BK299.out (by decide)) (fun _ hk => hk.2) (.slice Ao25 y305.length co25)) (fun _ hk => hk.1)⟩, ⟨by (with_reducible repeat (first | refine blk_drewN ?_ _ | refine blk_drew ?_ | refine blk_alloc ?_ _)); refine blk_far ?_ NB294_299.out _; (with_reducible repeat (first | refine blk_drewN ?_ _ | refine blk_drew ?_ | refine blk_alloc ?_ _)); exact BK294.out⟩, ⟨by (with_reducible repeat (first | refine blk_drewN ?_ _ | refine blk_drew ?_ | refine blk_alloc ?_ _)); refine blk_far ?_ NB295_299.out _; (with_reducible repeat (first | refine blk_drewN ?_ _ | refine blk_drew ?_ | refine blk_alloc ?_ _)); exact BK295.out⟩, ⟨by (with_reducible repeat (first | refine blk_drewN ?_ _ | refine blk_drew ?_ | refine blk_alloc ?_ _)); refine blk_put (cs := #[.int .i64 a0_0, .slice Ao10 t296.length co10, u300002]) ?_ 2 _ rfl; (with_reducible repeat (first | refine blk_drewN ?_ _ | refine blk_drew ?_ | refine blk_alloc ?_ _)); exact BK299.out⟩, ⟨by repeat (first | (with_reducible first | exact HB.out | apply below_alloc | apply pw_below_drewN | apply below_drew1 | refine below_set ?_ GE294.out | refine below_set ?_ GE295.out | refine below_set ?_ GE299.out) | exact HB.out)⟩⟩
          · rw [if_neg c17] at H
            exact absurd H (by simp)
        · rw [if_neg c15] at H
          exact absurd H (by simp)
      · rw [if_neg c14] at H
        have c14b0 : decide (x4_1 < (l0_2.length : Int)) = false := decide_eq_false c14
        clear c14
        simp only [Option.some.injEq, Prod.mk.injEq] at H
        obtain ⟨rfl, rfl, rfl⟩ := H
        have hnb27 := NB294_295.out
        have hnc27 := NB295_294.out
        have hnb28 := NB294_299.out
        have hnc28 := NB299_294.out
        have hcz29_0 : wr.cell? ⟨gb294, 0, none⟩ = some (.int .i64 a0_0) := (blk_cell BK294.out 0).trans rfl
        have hcz29_1 : wr.cell? ⟨gb294, 1, none⟩ = some (.slice A0_1 l0_1.length c0_1) := (blk_cell BK294.out 1).trans rfl
        have hcz29_2 : wr.cell? ⟨gb294, 2, none⟩ = some (.slice A0_2 l0_2.length c0_2) := (blk_cell BK294.out 2).trans rfl
        have hfz29_0 := blk_frozen BK294.out 0
        have hfz29_1 := blk_frozen BK294.out 1
        have hfz29_2 := blk_frozen BK294.out 2
        have hnb30 := NB299_295.out
        have hnc30 := NB295_299.out
        have hcz31_0 : wr.cell? ⟨gb299, 0, none⟩ = some (.int .i64 a0_0) := (blk_cell BK299.out 0).trans rfl
        have hcz31_1 : wr.cell? ⟨gb299, 1, none⟩ = some (.slice Ao10 t296.length co10) := (blk_cell BK299.out 1).trans rfl
        have hcz31_2 : wr.cell? ⟨gb299, 2, none⟩ = some (u300002) := (blk_cell BK299.out 2).trans rfl
        have hfz31_0 := blk_frozen BK299.out 0
        have hfz31_1 := blk_frozen BK299.out 1
        have hfz31_2 := blk_frozen BK299.out 2
        have hcz32_0 : wr.cell? ⟨gb295, 0, none⟩ = some (.int .i64 0) := (blk_cell BK295.out 0).trans rfl
        have hcz32_1 : wr.cell? ⟨gb295, 1, none⟩ = some (.slice none 0 0) := (blk_cell BK295.out 1).trans rfl
        have hcz32_2 : wr.cell? ⟨gb295, 2, none⟩ = some (.slice none 0 0) := (blk_cell BK295.out 2).trans rfl
        have hfz32_0 := blk_frozen BK295.out 0
        have hfz32_1 := blk_frozen BK295.out 1
        have hfz32_2 := blk_frozen BK295.out 2
        obtain ⟨Ao33, co33, eo33⟩ := Kd.S_slice HO_300002.out
        subst eo33
        go_wp2
        refine bodyPost_ret (results_cell_row rfl _ _ gb295 25 #[.int .i64 a0_0, .slice Ao10 t296.length co10, .slice Ao33 x300002_1.length co33] (0, 0) _ rfl (by (with_reducible repeat (first | refine blk_drewN ?_ _ | refine blk_drew ?_ | refine blk_alloc ?_ _)); refine blk_put (cs := #[.int .i64 a0_0, .slice Ao10 t296.length co10, .slice none 0 0]) ?_ 2 _ rfl; (with_reducible repeat (first | refine blk_drewN ?_ _ | refine blk_drew ?_ | refine blk_alloc ?_ _)); refine blk_put (cs := #[.int .i64 a0_0, .slice none 0 0, .slice none 0 0]) ?_ 1 _ rfl; (with_reducible repeat (first | refine blk_drewN ?_ _ | refine blk_drew ?_ | refine blk_alloc ?_ _)); refine blk_put (cs := #[.int .i64 0, .slice none 0 0, .slice none 0 0]) ?_ 0 _ rfl; (with_reducible repeat (first | refine blk_drewN ?_ _ | refine blk_drew ?_ | refine blk_alloc ?_ _)); exact BK295.out) Try.underlying25 rfl (by kernel_rfl)) rfl ?_
        exact ⟨_, _, by first | rfl | (simp [errW_none, errW_some] <;> rfl) | (simp [*, errW_none, errW_some] <;> rfl), by (with_reducible repeat (first | apply Kd.R_alloc | apply Kd.R_drewN | apply Kd.R_drew)); exact Kd.R_mono (Kd.R_far (p := ⟨gb295, 2, none⟩) (Kd.R_far (p := ⟨gb295, 1, none⟩) (Kd.R_far (p := ⟨gb295, 0, none⟩) (Kd.R_types HO_300001.out BK295.out (by decide)) (fun _ hk => hk.2) (.int .i64 a0_0)) (fun _ hk => hk.2) (.slice Ao10 t296.length co10)) (fun _ hk => hk.2) (.slice Ao33 x300002_1.length co33)) (fun _ hk => trivial), by (with_reducible repeat (first | apply Kd.S_alloc | apply Kd.S_drewN | apply Kd.S_drew)); exact Kd.S_mono (Kd.S_far (p := ⟨gb295, 2, none⟩) (Kd.S_far (p := ⟨gb295, 1, none⟩) (Kd.S_far (p := ⟨gb295, 0, none⟩) (Kd.S_types HO_300002.out BK295.out (by decide)) (fun _ hk => hk.2) (.int .i64 a0_0)) (fun _ hk => hk.2) (.slice Ao10 t296.length co10)) (fun _ hk => hk.2) (.slice Ao33 x300002_1.length co33)) (fun _ hk => hk.1), by repeat (first | (with_reducible first | exact HB.out | apply below_alloc | apply pw_below_drewN | apply below_drew1 | refine below_set ?_ GE294.out | refine below_set ?_ GE295.out | refine below_set ?_ GE299.out) | exact HB.out)⟩

end Go.Proofs.Ytnkgclcmjojeiaa.PFnDeviceReads
