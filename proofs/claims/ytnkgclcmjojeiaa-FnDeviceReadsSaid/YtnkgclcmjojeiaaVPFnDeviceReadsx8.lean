-- Written by a program of this session (after the kit's print) out of the translation. Nothing here is trusted: Lean checks it.
import Derived.Test.YtnkgclcmjojeiaaVPFnDeviceReadsx0
namespace Go.Proofs.Ytnkgclcmjojeiaa.PFnDeviceReads
open Go.RowKit Go.Proofs.YtnkgclcmjojeiaaW.PrintWords Go.Proofs.YtnkgclcmjojeiaaW.PrintLast Go.Proofs.YtnkgclcmjojeiaaW.PrintMore
attribute [local go_sem] max2_int min2_int max_two min_two max_three min_three max_four min_four   -- for this text's walks alone
set_option linter.unusedVariables false
set_option linter.unusedSimpArgs false

/-! ### impl_copyDevice: function 21 -/
def impl_copyDevice.l0 : Nat → List (S32) → Int → Int → Int → List Int → List (S32) → Option (Int × List Int × (List (S32)))
  | 0, _, _, _, _, _, _ => none
  | k + 1, x13, x14, x15, x334000, x334001, x334002 => if x15 < x14 then (if 0 ≤ x15 then (if x15 < (x13.length : Int) then (if ([] : List Int).length + ((rd_T32 x13 x15).f1).length < 140737488355328 then (if x334002.length < 4398046511104 then (impl_copyDevice.l0 k x13 x14 (wrap64 (x15 + 1)) x334000 x334001 (x334002 ++ [(⟨(rd_T32 x13 x15).f0, (([] : List Int) ++ ((rd_T32 x13 x15).f1))⟩ : S32)])) else (none)) else (none)) else (none)) else (none)) else (some (x334000, x334001, x334002))
def impl_copyDevice.f (k : Nat) (a0_0 : Int) (l0_1 : List Int) (l0_2 : List (S32)) : Option (Int × List Int × (List (S32))) := if ([] : List Int).length + l0_1.length < 140737488355328 then (impl_copyDevice.l0 k l0_2 (l0_2.length : Int) 0 a0_0 (([] : List Int) ++ l0_1) ([] : List (S32))) else (none)
theorem impl_copyDevice.mono_l : ∀ k, (∀ y0 y1 y2 y3 y4 y5, LeO (impl_copyDevice.l0 k y0 y1 y2 y3 y4 y5) (impl_copyDevice.l0 (k + 1) y0 y1 y2 y3 y4 y5))
  | 0 => fun _ _ _ _ _ _ r h => by simp [impl_copyDevice.l0] at h
  | k + 1 => by
    have ih0 := impl_copyDevice.mono_l k
    · intro y0 y1 y2 y3 y4 y5
      unfold impl_copyDevice.l0
      repeat' first
      | (with_reducible exact ih0 _ _ _ _ _ _)
      | (with_reducible exact LeO.refl _)
      | (with_reducible exact LeO.none _)
      | (with_reducible refine LeO.ite ?_ ?_)
      | (with_reducible refine LeO.bind ?_ (fun _ => ?_))
      | exact ih0 _ _ _ _ _ _
      | exact LeO.none _
      | refine LeO.ite ?_ ?_
      | refine LeO.bind ?_ (fun _ => ?_)
theorem impl_copyDevice.mono : ∀ a0 a1 a2 k, LeO (impl_copyDevice.f k a0 a1 a2) (impl_copyDevice.f (k + 1) a0 a1 a2) := by
  intro a0 a1 a2 k
  have ih0 := impl_copyDevice.mono_l k
  unfold impl_copyDevice.f
  repeat' first
      | (with_reducible exact ih0 _ _ _ _ _ _)
      | (with_reducible exact LeO.refl _)
      | (with_reducible exact LeO.none _)
      | (with_reducible refine LeO.ite ?_ ?_)
      | (with_reducible refine LeO.bind ?_ (fun _ => ?_))
      | exact ih0 _ _ _ _ _ _
      | exact LeO.none _
      | refine LeO.ite ?_ ?_
      | refine LeO.bind ?_ (fun _ => ?_)
def impl_copyDevice.T1 : Bool × List (List Nat × List Nat) := (true, [([], []), ([0], [0]), ([], []), ([2], [2]), ([3], [3]), ([1, 4], [1, 4]), ([], []), ([6, 5, 4, 0, 1, 2, 3, 4, 5, 6], [5, 6])])
def impl_copyDevice.B1 : List Nat := [0, 1, 0, 4, 12, 31, 0, 127]
theorem impl_copyDevice.tab1 : rtab .any (opsOf Try.f21 1) = impl_copyDevice.T1 := by kernel_rfl
theorem impl_copyDevice.bits1 : waitsOk impl_copyDevice.T1.2 impl_copyDevice.B1 = true := by kernel_rfl
def impl_copyDevice.T5 : Bool × List (List Nat × List Nat) := (true, [([], []), ([0], [0]), ([], []), ([2], [2]), ([], []), ([4], [4]), ([5], [5]), ([3, 6], [3, 6]), ([7], [7]), ([1, 8, 6], [1, 8]), ([0, 1, 2, 3, 4, 5, 6, 7, 8, 9], []), ([10, 9, 9, 0, 1, 2, 3, 4, 5, 6, 7, 8, 9], [9, 10])])
def impl_copyDevice.B5 : List Nat := [0, 1, 0, 4, 0, 16, 48, 124, 252, 511, 1023, 2047]
theorem impl_copyDevice.tab5 : rtab .any (opsOf Try.f21 5) = impl_copyDevice.T5 := by kernel_rfl
theorem impl_copyDevice.bits5 : waitsOk impl_copyDevice.T5.2 impl_copyDevice.B5 = true := by kernel_rfl
set_option maxHeartbeats 8000000 in
set_option maxRecDepth 100000 in
theorem impl_copyDevice.calls (k : Nat) (a0_0 : Int) (A0_1 : Option Addr) (c0_1 : Nat) (l0_1 : List Int) (A0_2 : Option Addr) (c0_2 : Nat) (l0_2 : List (S32)) (r1 : Int) (r2 : List Int) (r3 : List (S32)) (w : World) (hr0_1 : Kd.C (Kd.int .u8) w A0_1 l0_1.length l0_1) (hc0_1 : l0_1.length ≤ c0_1) (hr0_2 : Kd.C k32 w A0_2 l0_2.length l0_2) (hc0_2 : l0_2.length ≤ c0_2) (h : impl_copyDevice.f k a0_0 l0_1 l0_2 = some (r1, r2, r3)) :
    Calls Try.prog 21 #[.agg #[.int .i64 a0_0, .slice A0_1 l0_1.length c0_1, .slice A0_2 l0_2.length c0_2]] w fun e w' => ∃ v1_ v2_ : Value, e = .returned (.agg #[.int .i64 r1, v1_, v2_]) ∧ Kd.R (Kd.int .u8) 5 w' w.heap.size (fun _ => True) v1_ r2 ∧ Kd.S k32 32 w' w.heap.size (fun k_ => some k_ ≠ (v1_ : Value).ownBlock) v2_ r3 ∧ Below w.heap.size w w' := by
  have hu25 := Try.underlying25
  have hu32 := Try.underlying32
  have HR0_1 := Aside0.mk hr0_1
  have HC0_1 := Aside0.mk hc0_1
  clear hr0_1 hc0_1
  have HR0_2 := Aside0.mk hr0_2
  have HC0_2 := Aside0.mk hc0_2
  clear hr0_2 hc0_2
  have HB := Aside0.mk (Below.refl w.heap.size w)
  have H : (if ([] : List Int).length + l0_1.length < 140737488355328 then (impl_copyDevice.l0 k l0_2 (l0_2.length : Int) 0 a0_0 (([] : List Int) ++ l0_1) ([] : List (S32))) else (none)) = some (r1, r2, r3) := h
  clear h
  by_cases c2 : ([] : List Int).length + l0_1.length < 140737488355328
  · rw [if_pos c2] at H
    have LMc2 := Aside0.mk c2
    clear c2
    obtain ⟨y330, hy330⟩ : ∃ y_ : List Int, y_ = (([] : List Int) ++ l0_1) := ⟨_, rfl⟩
    replace H : (impl_copyDevice.l0 k l0_2 (l0_2.length : Int) 0 a0_0 y330 ([] : List (S32))) = some (r1, r2, r3) := by first | (rw [hy330]; with_reducible exact H) | (have H2_ := (Option.bind_some _ _).symm.trans H; rw [hy330]; with_reducible exact H2_) | (have H2_ := (Option.bind_some _ _).symm.trans H; with_reducible exact H2_) | with_reducible exact H | (rw [hy330]; exact H) | exact H
    have Ny330 := Aside0.mk hy330
    clear hy330
    have H' := Aside0.mk H
    clear H
    go_enter Try.func21, Try.ntmps21
    try go_wp2_with (first | ((with_reducible refine gate_dst (N := 1) rfl ?_); refine box_event ?hg (N := 1) ?hd (cs := #[.int .i64 a0_0, .slice A0_1 l0_1.length c0_1, .slice A0_2 l0_2.length c0_2]) (t := 25) ?hr ?_; (case hd => rfl); (case hg => rfl); (case hr => first | (go_simp; done) | (go_simp; rfl)); intro gb328 hg w3 hbox hb; have n0_ := Aside0.mk (below_step (by repeat (first | (with_reducible first | exact HB.out | apply below_alloc | apply pw_below_drewN | apply below_drew1) | exact HB.out)) hb); have n1_ := Aside0.mk (hbox); have n2_ := Aside0.mk ((by rw [hg]; exact (below_size (by repeat (first | (with_reducible first | exact HB.out | apply below_alloc | apply pw_below_drewN | apply below_drew1) | exact HB.out))) : w.heap.size ≤ gb328)); have n3_ := Aside0.mk ((by rw [hg]; exact (below_size (by repeat (first | (with_reducible first | exact HB.out | apply below_alloc | apply pw_below_drewN | apply below_drew1) | exact HB.out))) : w.heap.size ≤ gb328)); clear HB; have HB := n0_; have BK328 := n1_; have GW328 := n2_; have GE328 := n3_; clear n0_ n1_ n2_ n3_; clear hb hbox hg) | ((with_reducible refine gate_dst (N := 2) rfl ?_); refine box_event ?hg (N := 2) ?hd (cs := #[.int .i64 0, .slice none 0 0, .slice none 0 0]) (t := 25) ?hr ?_; (case hd => rfl); (case hg => rfl); (case hr => first | (go_simp; done) | (go_simp; rfl)); intro gb329 hg w4 hbox hb; have n0_ := Aside0.mk (blk_below (g := gb328) (o := .cells #[.int .i64 a0_0, .slice A0_1 l0_1.length c0_1, .slice A0_2 l0_2.length c0_2] 25 (0, 0)) (by (with_reducible repeat (first | refine blk_drewN ?_ _ | refine blk_drew ?_ | refine blk_alloc ?_ _)); exact BK328.out) hb); have n1_ := Aside0.mk (below_step (by repeat (first | (with_reducible first | exact HB.out | apply below_alloc | apply pw_below_drewN | apply below_drew1 | refine below_set ?_ GE328.out) | exact HB.out)) hb); have n2_ := Aside0.mk (hbox); have n3_ := Aside0.mk ((by rw [hg]; exact (below_size (by repeat (first | (with_reducible first | exact HB.out | apply below_alloc | apply pw_below_drewN | apply below_drew1 | refine below_set ?_ GE328.out) | exact HB.out))) : w.heap.size ≤ gb329)); have n4_ := Aside0.mk ((by rw [hg]; exact (below_size (by repeat (first | (with_reducible first | exact HB.out | apply below_alloc | apply pw_below_drewN | apply below_drew1 | refine below_set ?_ GE328.out) | exact HB.out))) : w.heap.size ≤ gb329)); have n5_ := Aside0.mk ((by rw [hg]; exact Nat.ne_of_lt (blk_lt (g := gb328) (o := .cells #[.int .i64 a0_0, .slice A0_1 l0_1.length c0_1, .slice A0_2 l0_2.length c0_2] 25 (0, 0)) (by (with_reducible repeat (first | refine blk_drewN ?_ _ | refine blk_drew ?_ | refine blk_alloc ?_ _)); exact BK328.out)) : gb328 ≠ gb329)); have n6_ := Aside0.mk ((by rw [hg]; exact Nat.ne_of_gt (blk_lt (g := gb328) (o := .cells #[.int .i64 a0_0, .slice A0_1 l0_1.length c0_1, .slice A0_2 l0_2.length c0_2] 25 (0, 0)) (by (with_reducible repeat (first | refine blk_drewN ?_ _ | refine blk_drew ?_ | refine blk_alloc ?_ _)); exact BK328.out)) : gb329 ≠ gb328)); clear BK328; clear HB; have BK328 := n0_; have HB := n1_; have BK329 := n2_; have GW329 := n3_; have GE329 := n4_; have NB328_329 := n5_; have NB329_328 := n6_; clear n0_ n1_ n2_ n3_ n4_ n5_ n6_; clear hb hbox hg))
    have n0_ := Aside0.mk (blk_drew BK328.out)
    have n1_ := Aside0.mk (blk_drew BK329.out)
    have n2_ := Aside0.mk (below_drew1 HB.out)
    clear BK328
    clear BK329
    clear HB
    have BK328 := n0_
    have BK329 := n1_
    have HB := n2_
    clear n0_ n1_ n2_
    refine start_ (n := 8) (S := fun w' => w'.cell? ⟨gb328, 0, none⟩ = some (.int .i64 a0_0) ∧ w'.cell? ⟨gb328, 1, none⟩ = some (.slice A0_1 l0_1.length c0_1) ∧ w'.cell? ⟨gb328, 2, none⟩ = some (.slice A0_2 l0_2.length c0_2)) (ds := []) #[false, false, false, false, false, false, false, false] (by kernel_rfl) rfl rfl ⟨(blk_cell BK328.out 0).trans rfl, (blk_cell BK328.out 1).trans rfl, (blk_cell BK328.out 2).trans rfl⟩ (fun hHeld => ?_); refine with_tabW impl_copyDevice.tab1 impl_copyDevice.bits1 (fun HT_ HW_ => ?_)
    generalize w4.drew = w5 at BK328 BK329 HB hHeld ⊢
    refine pure_ (i := 0) (N := some 6) (v := ?_) (a' := ?_) #[true, false, false, false, false, false, false, false] rfl rfl (any_of HT_.out (by kernel_rfl)) (fun _ _ _ h => h) (Or.inl ⟨by rfl, ?_⟩) ?_ ?_
    rotate_left
    · intro w'
      go_simp
      with_reducible rfl
    rotate_left
    · simp only [Act.put, List.setIfInBounds_toArray, List.set_cons_zero, List.set_cons_succ, i64_w, i32_w]
      rfl
    refine pure_ (i := 2) (N := some 8) (v := ?_) (a' := ?_) #[true, false, true, false, false, false, false, false] rfl rfl (any_of HT_.out (by kernel_rfl)) (fun _ _ _ h => h) (Or.inl ⟨by rfl, ?_⟩) ?_ ?_
    rotate_left
    · intro w'
      go_simp
      with_reducible rfl
    rotate_left
    · simp only [Act.put, List.setIfInBounds_toArray, List.set_cons_zero, List.set_cons_succ, i64_w, i32_w]
      rfl
    refine take_ (i := 1) (N := some 7) (v := ?_) (a' := ?_) #[true, true, true, false, false, false, false, false] rfl rfl (take_ofW HT_.out HW_.out (by kernel_rfl)) (fun _ _ _ h => h) (Or.inl ⟨by rfl, ?_⟩) hHeld ?_ ?_
    rotate_left
    · rintro w' ⟨s0, s1, s2⟩
      go_simp
      with_reducible rfl
    rotate_left
    · simp only [Act.put, List.setIfInBounds_toArray, List.set_cons_zero, List.set_cons_succ, i64_w, i32_w]
      rfl
    refine take_ (i := 3) (N := some 9) (v := ?_) (a' := ?_) #[true, true, true, true, false, false, false, false] rfl rfl (take_ofW HT_.out HW_.out (by kernel_rfl)) (fun _ _ _ h => h) (Or.inl ⟨by rfl, ?_⟩) hHeld ?_ ?_
    rotate_left
    · rintro w' ⟨s0, s1, s2⟩
      go_simp
      with_reducible rfl
    rotate_left
    · simp only [Act.put, List.setIfInBounds_toArray, List.set_cons_zero, List.set_cons_succ, i64_w, i32_w]
      rfl
    refine join_ (σ := Value × Nat) 1 #[true, true, true, true, true, true, true, false] (fun s_ => [(10, s_.1), (3, .pointer (some ⟨s_.2, 0, none⟩)), (11, .agg #[.int .i64 a0_0, s_.1, .slice none 0 0])]) (fun s_ w' => (w'.cell? ⟨gb328, 0, none⟩ = some (.int .i64 a0_0) ∧ w'.cell? ⟨gb328, 1, none⟩ = some (.slice A0_1 l0_1.length c0_1) ∧ w'.cell? ⟨gb328, 2, none⟩ = some (.slice A0_2 l0_2.length c0_2)) ∧ (Kd.R (Kd.int .u8) 5 w' w.heap.size (fun _ => True) s_.1 y330) ∧ (w'.heap[gb328]? = some (.cells #[.int .i64 a0_0, .slice A0_1 l0_1.length c0_1, .slice A0_2 l0_2.length c0_2] 25 (0, 0))) ∧ (w'.heap[gb329]? = some (.cells #[.int .i64 0, .slice none 0 0, .slice none 0 0] 25 (0, 0))) ∧ (w'.heap[s_.2]? = some (.cells #[.int .i64 0, .slice none 0 0, .slice none 0 0] 25 (0, 0))) ∧ (w.heap.size ≤ s_.2) ∧ (w.heap.size ≤ s_.2) ∧ (gb328 ≠ s_.2) ∧ (s_.2 ≠ gb328) ∧ (gb329 ≠ s_.2) ∧ (s_.2 ≠ gb329) ∧ (Below w.heap.size w w')) ?_ ?_
    rotate_left
    · intro hCont
      refine two_ (i := 4) (j := 6) (Ni := some 10) (Nj := some 3) #[true, true, true, true, true, false, false, false] #[true, true, true, true, false, false, true, false] rfl rfl rfl rfl (two_of HT_.out (by kernel_rfl)) (by decide) (by decide) (fun K hK => ?_) (fun K hK => ?_)
      · skip
        refine Kd.R_append_rows_step (Kd.int .u8) (w0 := w) w.heap.size (by rfl) (.const (.slice none 0 0)) (.tmp 9) 22 5 (.int .u8 0) 1 rfl Try.underlying22 info5 rfl (by decide) (by omega) (.slice none 0 0) ([] : List Int) l0_1 _ _ _ (fun _ => True) (fun _ => False) rfl rfl ?aO ?aR (fun _ _ h => h) (fun _ h => h.elim) ?aF ?aB ?aS ?aL ?_
        (case aR => repeat (first | exact (Kd.C_below HR0_1.out HB.out) | (with_reducible refine Kd.C_alloc ?_ _) | (with_reducible refine Kd.C_drewN ?_ _) | (with_reducible refine Kd.C_drew ?_)))
        (case aB => exact (by repeat (first | (with_reducible first | exact HB.out | apply below_alloc | apply pw_below_drewN | apply below_drew1 | refine below_set ?_ GE328.out | refine below_set ?_ GE329.out) | exact HB.out)))
        (case aF => exact (fun _ _ => trivial))
        (case aO => exact ((Kd.R_nil _ _ _ _ (fun _ => True))))
        (case aS => exact (below_size (by repeat (first | (with_reducible first | exact HB.out | apply below_alloc | apply pw_below_drewN | apply below_drew1 | refine below_set ?_ GE328.out | refine below_set ?_ GE329.out) | exact HB.out))))
        (case aL => have := LMc2.out; omega)
        intro v331 w6 ho hb hg hat
        rw [← Ny330.out] at ho
        have n0_ := Aside0.mk (blk_grown (g := gb328) (o := .cells #[.int .i64 a0_0, .slice A0_1 l0_1.length c0_1, .slice A0_2 l0_2.length c0_2] 25 (0, 0)) (by (with_reducible repeat (first | refine blk_drewN ?_ _ | refine blk_drew ?_ | refine blk_alloc ?_ _)); exact BK328.out) hg (by simp [Value.ownBlock]))
        have n1_ := Aside0.mk (blk_grown (g := gb329) (o := .cells #[.int .i64 0, .slice none 0 0, .slice none 0 0] 25 (0, 0)) (by (with_reducible repeat (first | refine blk_drewN ?_ _ | refine blk_drew ?_ | refine blk_alloc ?_ _)); exact BK329.out) hg (by simp [Value.ownBlock]))
        have n2_ := Aside0.mk (hb)
        have n3_ := Aside0.mk (ho)
        clear BK328
        clear BK329
        clear HB
        have BK328 := n0_
        have BK329 := n1_
        have HB := n2_
        have HO332 := n3_
        clear n0_ n1_ n2_ n3_
        clear ho hb hg hat
        obtain ⟨Ao7, co7, eo7⟩ := Kd.R_slice HO332.out
        (first | subst eo7 | (injection eo7 with f1_ f2_ f3_; have f4_ := f1_.symm; have f5_ := f3_.symm; clear f1_ f2_ f3_; subst f4_; subst f5_))
        refine hK.out _ _ ⟨(blk_cell BK328.out 0).trans rfl, (blk_cell BK328.out 1).trans rfl, (blk_cell BK328.out 2).trans rfl⟩ (fun hHeld => ?_)
        clear hK K
        refine norm_ (a' := ?_) ?_ ?_
        rotate_left
        · show Act.put _ (some 10) _ = _
          simp only [Act.put, List.setIfInBounds_toArray, List.set_cons_zero, List.set_cons_succ, i64_w, i32_w]
          rfl
        refine pure_ (i := 5) (N := some 11) (v := ?_) (a' := ?_) #[true, true, true, true, true, true, false, false] rfl rfl (any_of HT_.out (by kernel_rfl)) (fun _ _ _ h => h) (Or.inl ⟨by rfl, ?_⟩) ?_ ?_
        rotate_left
        · intro w'
          go_simp
          with_reducible rfl
        rotate_left
        · simp only [Act.put, List.setIfInBounds_toArray, List.set_cons_zero, List.set_cons_succ, i64_w, i32_w]
          rfl
        refine one_ (i := 6) (N := some 3) #[true, true, true, true, true, true, true, false] rfl rfl (one_of HT_.out (by kernel_rfl)) (by decide) (fun K hK => ?_)
        refine box_step ?hg (N := 3) ?hd (cs := #[.int .i64 0, .slice none 0 0, .slice none 0 0]) (t := 25) ?hr ?_; (case hd => rfl); (case hg => rfl); (case hr => first | (go_simp; done) | (go_simp; rfl))
        intro gb333 hg w8 hbox hb
        have n0_ := Aside0.mk (Kd.R_below (by (with_reducible repeat (first | apply Kd.R_alloc | apply Kd.R_drewN | apply Kd.R_drew)); exact HO332.out) hb)
        have n1_ := Aside0.mk (blk_below (g := gb328) (o := .cells #[.int .i64 a0_0, .slice A0_1 l0_1.length c0_1, .slice A0_2 l0_2.length c0_2] 25 (0, 0)) (by (with_reducible repeat (first | refine blk_drewN ?_ _ | refine blk_drew ?_ | refine blk_alloc ?_ _)); exact BK328.out) hb)
        have n2_ := Aside0.mk (blk_below (g := gb329) (o := .cells #[.int .i64 0, .slice none 0 0, .slice none 0 0] 25 (0, 0)) (by (with_reducible repeat (first | refine blk_drewN ?_ _ | refine blk_drew ?_ | refine blk_alloc ?_ _)); exact BK329.out) hb)
        have n3_ := Aside0.mk (below_step (by repeat (first | (with_reducible first | exact HB.out | apply below_alloc | apply pw_below_drewN | apply below_drew1 | refine below_set ?_ GE328.out | refine below_set ?_ GE329.out) | exact HB.out)) hb)
        have n4_ := Aside0.mk (hbox)
        have n5_ := Aside0.mk ((by rw [hg]; exact (below_size (by repeat (first | (with_reducible first | exact HB.out | apply below_alloc | apply pw_below_drewN | apply below_drew1 | refine below_set ?_ GE328.out | refine below_set ?_ GE329.out) | exact HB.out))) : w.heap.size ≤ gb333))
        have n6_ := Aside0.mk ((by rw [hg]; exact (below_size (by repeat (first | (with_reducible first | exact HB.out | apply below_alloc | apply pw_below_drewN | apply below_drew1 | refine below_set ?_ GE328.out | refine below_set ?_ GE329.out) | exact HB.out))) : w.heap.size ≤ gb333))
        have n7_ := Aside0.mk ((by rw [hg]; exact Nat.ne_of_lt (blk_lt (g := gb328) (o := .cells #[.int .i64 a0_0, .slice A0_1 l0_1.length c0_1, .slice A0_2 l0_2.length c0_2] 25 (0, 0)) (by (with_reducible repeat (first | refine blk_drewN ?_ _ | refine blk_drew ?_ | refine blk_alloc ?_ _)); exact BK328.out)) : gb328 ≠ gb333))
        have n8_ := Aside0.mk ((by rw [hg]; exact Nat.ne_of_gt (blk_lt (g := gb328) (o := .cells #[.int .i64 a0_0, .slice A0_1 l0_1.length c0_1, .slice A0_2 l0_2.length c0_2] 25 (0, 0)) (by (with_reducible repeat (first | refine blk_drewN ?_ _ | refine blk_drew ?_ | refine blk_alloc ?_ _)); exact BK328.out)) : gb333 ≠ gb328))
        have n9_ := Aside0.mk ((by rw [hg]; exact Nat.ne_of_lt (blk_lt (g := gb329) (o := .cells #[.int .i64 0, .slice none 0 0, .slice none 0 0] 25 (0, 0)) (by (with_reducible repeat (first | refine blk_drewN ?_ _ | refine blk_drew ?_ | refine blk_alloc ?_ _)); exact BK329.out)) : gb329 ≠ gb333))
        have n10_ := Aside0.mk ((by rw [hg]; exact Nat.ne_of_gt (blk_lt (g := gb329) (o := .cells #[.int .i64 0, .slice none 0 0, .slice none 0 0] 25 (0, 0)) (by (with_reducible repeat (first | refine blk_drewN ?_ _ | refine blk_drew ?_ | refine blk_alloc ?_ _)); exact BK329.out)) : gb333 ≠ gb329))
        clear HO332
        clear BK328
        clear BK329
        clear HB
        have HO332 := n0_
        have BK328 := n1_
        have BK329 := n2_
        have HB := n3_
        have BK333 := n4_
        have GW333 := n5_
        have GE333 := n6_
        have NB328_333 := n7_
        have NB333_328 := n8_
        have NB329_333 := n9_
        have NB333_329 := n10_
        clear n0_ n1_ n2_ n3_ n4_ n5_ n6_ n7_ n8_ n9_ n10_
        clear hb hbox hg
        refine hK.out _ _ ⟨(blk_cell BK328.out 0).trans rfl, (blk_cell BK328.out 1).trans rfl, (blk_cell BK328.out 2).trans rfl⟩ (fun hHeld => ?_)
        clear hK K
        refine norm_ (a' := ?_) ?_ ?_
        rotate_left
        · show Act.put _ (some 3) _ = _
          simp only [Act.put, List.setIfInBounds_toArray, List.set_cons_zero, List.set_cons_succ, i64_w, i32_w]
          rfl
        exact norm_ (by simp only [putAll, Act.put, List.setIfInBounds_toArray, List.set_cons_zero, List.set_cons_succ]) (hCont (.slice Ao7 y330.length co7, gb333) _ ⟨hHeld, (by (with_reducible repeat (first | apply Kd.R_alloc | apply Kd.R_drewN | apply Kd.R_drew)); exact HO332.out), (by (with_reducible repeat (first | refine blk_drewN ?_ _ | refine blk_drew ?_ | refine blk_alloc ?_ _)); exact BK328.out), (by (with_reducible repeat (first | refine blk_drewN ?_ _ | refine blk_drew ?_ | refine blk_alloc ?_ _)); exact BK329.out), (by (with_reducible repeat (first | refine blk_drewN ?_ _ | refine blk_drew ?_ | refine blk_alloc ?_ _)); exact BK333.out), GW333.out, GE333.out, NB328_333.out, NB333_328.out, NB329_333.out, NB333_329.out, (by repeat (first | (with_reducible first | exact HB.out | apply below_alloc | apply pw_below_drewN | apply below_drew1 | refine below_set ?_ GE328.out | refine below_set ?_ GE329.out | refine below_set ?_ GE333.out) | exact HB.out))⟩)
      · skip
        refine box_step ?hg (N := 3) ?hd (cs := #[.int .i64 0, .slice none 0 0, .slice none 0 0]) (t := 25) ?hr ?_; (case hd => rfl); (case hg => rfl); (case hr => first | (go_simp; done) | (go_simp; rfl))
        intro gb333 hg w6 hbox hb
        have n0_ := Aside0.mk (blk_below (g := gb328) (o := .cells #[.int .i64 a0_0, .slice A0_1 l0_1.length c0_1, .slice A0_2 l0_2.length c0_2] 25 (0, 0)) (by (with_reducible repeat (first | refine blk_drewN ?_ _ | refine blk_drew ?_ | refine blk_alloc ?_ _)); exact BK328.out) hb)
        have n1_ := Aside0.mk (blk_below (g := gb329) (o := .cells #[.int .i64 0, .slice none 0 0, .slice none 0 0] 25 (0, 0)) (by (with_reducible repeat (first | refine blk_drewN ?_ _ | refine blk_drew ?_ | refine blk_alloc ?_ _)); exact BK329.out) hb)
        have n2_ := Aside0.mk (below_step (by repeat (first | (with_reducible first | exact HB.out | apply below_alloc | apply pw_below_drewN | apply below_drew1 | refine below_set ?_ GE328.out | refine below_set ?_ GE329.out) | exact HB.out)) hb)
        have n3_ := Aside0.mk (hbox)
        have n4_ := Aside0.mk ((by rw [hg]; exact (below_size (by repeat (first | (with_reducible first | exact HB.out | apply below_alloc | apply pw_below_drewN | apply below_drew1 | refine below_set ?_ GE328.out | refine below_set ?_ GE329.out) | exact HB.out))) : w.heap.size ≤ gb333))
        have n5_ := Aside0.mk ((by rw [hg]; exact (below_size (by repeat (first | (with_reducible first | exact HB.out | apply below_alloc | apply pw_below_drewN | apply below_drew1 | refine below_set ?_ GE328.out | refine below_set ?_ GE329.out) | exact HB.out))) : w.heap.size ≤ gb333))
        have n6_ := Aside0.mk ((by rw [hg]; exact Nat.ne_of_lt (blk_lt (g := gb328) (o := .cells #[.int .i64 a0_0, .slice A0_1 l0_1.length c0_1, .slice A0_2 l0_2.length c0_2] 25 (0, 0)) (by (with_reducible repeat (first | refine blk_drewN ?_ _ | refine blk_drew ?_ | refine blk_alloc ?_ _)); exact BK328.out)) : gb328 ≠ gb333))
        have n7_ := Aside0.mk ((by rw [hg]; exact Nat.ne_of_gt (blk_lt (g := gb328) (o := .cells #[.int .i64 a0_0, .slice A0_1 l0_1.length c0_1, .slice A0_2 l0_2.length c0_2] 25 (0, 0)) (by (with_reducible repeat (first | refine blk_drewN ?_ _ | refine blk_drew ?_ | refine blk_alloc ?_ _)); exact BK328.out)) : gb333 ≠ gb328))
        have n8_ := Aside0.mk ((by rw [hg]; exact Nat.ne_of_lt (blk_lt (g := gb329) (o := .cells #[.int .i64 0, .slice none 0 0, .slice none 0 0] 25 (0, 0)) (by (with_reducible repeat (first | refine blk_drewN ?_ _ | refine blk_drew ?_ | refine blk_alloc ?_ _)); exact BK329.out)) : gb329 ≠ gb333))
        have n9_ := Aside0.mk ((by rw [hg]; exact Nat.ne_of_gt (blk_lt (g := gb329) (o := .cells #[.int .i64 0, .slice none 0 0, .slice none 0 0] 25 (0, 0)) (by (with_reducible repeat (first | refine blk_drewN ?_ _ | refine blk_drew ?_ | refine blk_alloc ?_ _)); exact BK329.out)) : gb333 ≠ gb329))
        clear BK328
        clear BK329
        clear HB
        have BK328 := n0_
        have BK329 := n1_
        have HB := n2_
        have BK333 := n3_
        have GW333 := n4_
        have GE333 := n5_
        have NB328_333 := n6_
        have NB333_328 := n7_
        have NB329_333 := n8_
        have NB333_329 := n9_
        clear n0_ n1_ n2_ n3_ n4_ n5_ n6_ n7_ n8_ n9_
        clear hb hbox hg
        refine hK.out _ _ ⟨(blk_cell BK328.out 0).trans rfl, (blk_cell BK328.out 1).trans rfl, (blk_cell BK328.out 2).trans rfl⟩ (fun hHeld => ?_)
        clear hK K
        refine norm_ (a' := ?_) ?_ ?_
        rotate_left
        · show Act.put _ (some 3) _ = _
          simp only [Act.put, List.setIfInBounds_toArray, List.set_cons_zero, List.set_cons_succ, i64_w, i32_w]
          rfl
        refine one_ (i := 4) (N := some 10) #[true, true, true, true, true, false, true, false] rfl rfl (one_of HT_.out (by kernel_rfl)) (by decide) (fun K hK => ?_)
        refine Kd.R_append_rows_step (Kd.int .u8) (w0 := w) w.heap.size (by rfl) (.const (.slice none 0 0)) (.tmp 9) 22 5 (.int .u8 0) 1 rfl Try.underlying22 info5 rfl (by decide) (by omega) (.slice none 0 0) ([] : List Int) l0_1 _ _ _ (fun _ => True) (fun _ => False) rfl rfl ?aO ?aR (fun _ _ h => h) (fun _ h => h.elim) ?aF ?aB ?aS ?aL ?_
        (case aR => repeat (first | exact (Kd.C_below HR0_1.out HB.out) | (with_reducible refine Kd.C_alloc ?_ _) | (with_reducible refine Kd.C_drewN ?_ _) | (with_reducible refine Kd.C_drew ?_)))
        (case aB => exact (by repeat (first | (with_reducible first | exact HB.out | apply below_alloc | apply pw_below_drewN | apply below_drew1 | refine below_set ?_ GE328.out | refine below_set ?_ GE329.out | refine below_set ?_ GE333.out) | exact HB.out)))
        (case aF => exact (fun _ _ => trivial))
        (case aO => exact ((Kd.R_nil _ _ _ _ (fun _ => True))))
        (case aS => exact (below_size (by repeat (first | (with_reducible first | exact HB.out | apply below_alloc | apply pw_below_drewN | apply below_drew1 | refine below_set ?_ GE328.out | refine below_set ?_ GE329.out | refine below_set ?_ GE333.out) | exact HB.out))))
        (case aL => have := LMc2.out; omega)
        intro v331 w7 ho hb hg hat
        rw [← Ny330.out] at ho
        have n0_ := Aside0.mk (blk_grown (g := gb328) (o := .cells #[.int .i64 a0_0, .slice A0_1 l0_1.length c0_1, .slice A0_2 l0_2.length c0_2] 25 (0, 0)) (by (with_reducible repeat (first | refine blk_drewN ?_ _ | refine blk_drew ?_ | refine blk_alloc ?_ _)); exact BK328.out) hg (by simp [Value.ownBlock]))
        have n1_ := Aside0.mk (blk_grown (g := gb329) (o := .cells #[.int .i64 0, .slice none 0 0, .slice none 0 0] 25 (0, 0)) (by (with_reducible repeat (first | refine blk_drewN ?_ _ | refine blk_drew ?_ | refine blk_alloc ?_ _)); exact BK329.out) hg (by simp [Value.ownBlock]))
        have n2_ := Aside0.mk (blk_grown (g := gb333) (o := .cells #[.int .i64 0, .slice none 0 0, .slice none 0 0] 25 (0, 0)) (by (with_reducible repeat (first | refine blk_drewN ?_ _ | refine blk_drew ?_ | refine blk_alloc ?_ _)); exact BK333.out) hg (by simp [Value.ownBlock]))
        have n3_ := Aside0.mk (hb)
        have n4_ := Aside0.mk (ho)
        clear BK328
        clear BK329
        clear BK333
        clear HB
        have BK328 := n0_
        have BK329 := n1_
        have BK333 := n2_
        have HB := n3_
        have HO332 := n4_
        clear n0_ n1_ n2_ n3_ n4_
        clear ho hb hg hat
        obtain ⟨Ao8, co8, eo8⟩ := Kd.R_slice HO332.out
        (first | subst eo8 | (injection eo8 with f1_ f2_ f3_; have f4_ := f1_.symm; have f5_ := f3_.symm; clear f1_ f2_ f3_; subst f4_; subst f5_))
        refine hK.out _ _ ⟨(blk_cell BK328.out 0).trans rfl, (blk_cell BK328.out 1).trans rfl, (blk_cell BK328.out 2).trans rfl⟩ (fun hHeld => ?_)
        clear hK K
        refine norm_ (a' := ?_) ?_ ?_
        rotate_left
        · show Act.put _ (some 10) _ = _
          simp only [Act.put, List.setIfInBounds_toArray, List.set_cons_zero, List.set_cons_succ, i64_w, i32_w]
          rfl
        refine pure_ (i := 5) (N := some 11) (v := ?_) (a' := ?_) #[true, true, true, true, true, true, true, false] rfl rfl (any_of HT_.out (by kernel_rfl)) (fun _ _ _ h => h) (Or.inl ⟨by rfl, ?_⟩) ?_ ?_
        rotate_left
        · intro w'
          go_simp
          with_reducible rfl
        rotate_left
        · simp only [Act.put, List.setIfInBounds_toArray, List.set_cons_zero, List.set_cons_succ, i64_w, i32_w]
          rfl
        exact norm_ (by simp only [putAll, Act.put, List.setIfInBounds_toArray, List.set_cons_zero, List.set_cons_succ]) (hCont (.slice Ao8 y330.length co8, gb333) _ ⟨hHeld, (by (with_reducible repeat (first | apply Kd.R_alloc | apply Kd.R_drewN | apply Kd.R_drew)); exact HO332.out), (by (with_reducible repeat (first | refine blk_drewN ?_ _ | refine blk_drew ?_ | refine blk_alloc ?_ _)); exact BK328.out), (by (with_reducible repeat (first | refine blk_drewN ?_ _ | refine blk_drew ?_ | refine blk_alloc ?_ _)); exact BK329.out), (by (with_reducible repeat (first | refine blk_drewN ?_ _ | refine blk_drew ?_ | refine blk_alloc ?_ _)); exact BK333.out), GW333.out, GE333.out, NB328_333.out, NB333_328.out, NB329_333.out, NB333_329.out, (by repeat (first | (with_reducible first | exact HB.out | apply below_alloc | apply pw_below_drewN | apply below_drew1 | refine below_set ?_ GE328.out | refine below_set ?_ GE329.out | refine below_set ?_ GE333.out) | exact HB.out))⟩)
    rintro ⟨v331, gb333⟩ w9 ⟨hS_, h0_, h1_, h2_, h3_, h4_, h5_, h6_, h7_, h8_, h9_, h10_⟩
    have n0_ : Aside0 (Kd.R (Kd.int .u8) 5 w9 w.heap.size (fun _ => True) v331 y330) := ⟨h0_⟩
    have n1_ : Aside0 (w9.heap[gb328]? = some (.cells #[.int .i64 a0_0, .slice A0_1 l0_1.length c0_1, .slice A0_2 l0_2.length c0_2] 25 (0, 0))) := ⟨h1_⟩
    have n2_ : Aside0 (w9.heap[gb329]? = some (.cells #[.int .i64 0, .slice none 0 0, .slice none 0 0] 25 (0, 0))) := ⟨h2_⟩
    have n3_ : Aside0 (w9.heap[gb333]? = some (.cells #[.int .i64 0, .slice none 0 0, .slice none 0 0] 25 (0, 0))) := ⟨h3_⟩
    have n4_ : Aside0 (w.heap.size ≤ gb333) := ⟨h4_⟩
    have n5_ : Aside0 (w.heap.size ≤ gb333) := ⟨h5_⟩
    have n6_ : Aside0 (gb328 ≠ gb333) := ⟨h6_⟩
    have n7_ : Aside0 (gb333 ≠ gb328) := ⟨h7_⟩
    have n8_ : Aside0 (gb329 ≠ gb333) := ⟨h8_⟩
    have n9_ : Aside0 (gb333 ≠ gb329) := ⟨h9_⟩
    have n10_ : Aside0 (Below w.heap.size w w9) := ⟨h10_⟩
    clear BK328
    clear BK329
    clear HB
    clear h0_ h1_ h2_ h3_ h4_ h5_ h6_ h7_ h8_ h9_ h10_
    have HO332 := n0_
    have BK328 := n1_
    have BK329 := n2_
    have BK333 := n3_
    have GW333 := n4_
    have GE333 := n5_
    have NB328_333 := n6_
    have NB333_328 := n7_
    have NB329_333 := n8_
    have NB333_329 := n9_
    have HB := n10_
    clear n0_ n1_ n2_ n3_ n4_ n5_ n6_ n7_ n8_ n9_ n10_
    have hHeld : w9.cell? ⟨gb328, 0, none⟩ = some (.int .i64 a0_0) ∧ w9.cell? ⟨gb328, 1, none⟩ = some (.slice A0_1 l0_1.length c0_1) ∧ w9.cell? ⟨gb328, 2, none⟩ = some (.slice A0_2 l0_2.length c0_2) := hS_
    obtain ⟨Ao10, co10, eo10⟩ := Kd.R_slice HO332.out
    (first | subst eo10 | (injection eo10 with f1_ f2_ f3_; have f4_ := f1_.symm; have f5_ := f3_.symm; clear f1_ f2_ f3_; subst f4_; subst f5_))
    refine norm_ (a' := ?_) ?_ ?_
    rotate_left
    · simp only [putAll, Act.put, List.setIfInBounds_toArray, List.set_cons_zero, List.set_cons_succ]
      rfl
    refine one_ (i := 7) (N := none) #[true, true, true, true, true, true, true, true] rfl rfl (one_of HT_.out (by kernel_rfl)) (by decide) (fun K hK => ?_)
    have hs11 : w9.cell? ⟨gb333, 0, none⟩ = some (.int .i64 0) := (blk_cell BK333.out 0).trans rfl
    have hfs11 := blk_frozen BK333.out 0
    have hns11_0 := NB328_333.out
    have hns11_1 := NB329_333.out
    have hms11_0 := NB333_328.out
    have hms11_1 := NB333_329.out
    have hs12 : w9.cell? ⟨gb333, 1, none⟩ = some (.slice none 0 0) := (blk_cell BK333.out 1).trans rfl
    have hfs12 := blk_frozen BK333.out 1
    have hns12_0 := NB328_333.out
    have hns12_1 := NB329_333.out
    have hms12_0 := NB333_328.out
    have hms12_1 := NB333_329.out
    have hs13 : w9.cell? ⟨gb333, 2, none⟩ = some (.slice none 0 0) := (blk_cell BK333.out 2).trans rfl
    have hfs13 := blk_frozen BK333.out 2
    have hns13_0 := NB328_333.out
    have hns13_1 := NB329_333.out
    have hms13_0 := NB333_328.out
    have hms13_1 := NB333_329.out
    refine skip_ (w1 := ?_) (by rfl) rfl ?_ ?_
    rotate_left
    · go_simp
      rfl
    refine hK.out _ _ ⟨((cell_far (p := ⟨gb333, _, none⟩) NB328_333.out _).trans (((cell_far (p := ⟨gb333, _, none⟩) NB328_333.out _).trans (((cell_far (p := ⟨gb333, _, none⟩) NB328_333.out _).trans (hHeld.1)))))), ((cell_far (p := ⟨gb333, _, none⟩) NB328_333.out _).trans (((cell_far (p := ⟨gb333, _, none⟩) NB328_333.out _).trans (((cell_far (p := ⟨gb333, _, none⟩) NB328_333.out _).trans (hHeld.2.1)))))), ((cell_far (p := ⟨gb333, _, none⟩) NB328_333.out _).trans (((cell_far (p := ⟨gb333, _, none⟩) NB328_333.out _).trans (((cell_far (p := ⟨gb333, _, none⟩) NB328_333.out _).trans (hHeld.2.2))))))⟩ (fun hHeld => ?_)
    clear hK K
    refine done_ (done_of HT_.out (by kernel_rfl)) ?_
    have hnb14 := NB328_329.out
    have hnc14 := NB329_328.out
    have hnb15 := NB328_333.out
    have hnc15 := NB333_328.out
    have hcz16_0 : w9.cell? ⟨gb328, 0, none⟩ = some (.int .i64 a0_0) := (blk_cell BK328.out 0).trans rfl
    have hcz16_1 : w9.cell? ⟨gb328, 1, none⟩ = some (.slice A0_1 l0_1.length c0_1) := (blk_cell BK328.out 1).trans rfl
    have hcz16_2 : w9.cell? ⟨gb328, 2, none⟩ = some (.slice A0_2 l0_2.length c0_2) := (blk_cell BK328.out 2).trans rfl
    have hfz16_0 := blk_frozen BK328.out 0
    have hfz16_1 := blk_frozen BK328.out 1
    have hfz16_2 := blk_frozen BK328.out 2
    try go_wp2
    go_loopg [15] k (fun kq v15 w' => ∃ (x15_1 : Int) (x334002_1 : List (S32)) (u334002 : Value), v15 = .int .i64 x15_1 ∧ Aside0 (impl_copyDevice.l0 kq l0_2 (l0_2.length : Int) x15_1 a0_0 y330 x334002_1 = some (r1, r2, r3)) ∧ Aside0 (kq ≤ k) ∧ Aside0 (Kd.R (Kd.int .u8) 5 w' w.heap.size (fun _ => True) (.slice Ao10 y330.length co10) y330) ∧ Aside0 (Kd.S k32 32 w' w.heap.size (fun k_ => some k_ ≠ ((.slice Ao10 y330.length co10) : Value).ownBlock) u334002 x334002_1) ∧ Aside0 (w'.heap[gb328]? = some (.cells #[.int .i64 a0_0, (.slice A0_1 l0_1.length c0_1), (.slice A0_2 l0_2.length c0_2)] 25 (0, 0))) ∧ Aside0 (w'.heap[gb329]? = some (.cells #[.int .i64 0, (.slice none 0 0), (.slice none 0 0)] 25 (0, 0))) ∧ Aside0 (w'.heap[gb333]? = some (.cells #[.int .i64 a0_0, (.slice Ao10 y330.length co10), u334002] 25 (0, 0))) ∧ Aside0 (Below w.heap.size w w'))
    case atStart => exact ⟨(0), (([] : List (S32))), (.slice none 0 0), (by first | rfl | (simp; done) | (simp [*]; done)), H', ⟨Nat.le_refl _⟩, ⟨by (with_reducible repeat (first | apply Kd.R_alloc | apply Kd.R_drewN | apply Kd.R_drew)); exact Kd.R_mono (Kd.R_far (p := ⟨gb333, 2, none⟩) (Kd.R_far (p := ⟨gb333, 1, none⟩) (Kd.R_far (p := ⟨gb333, 0, none⟩) (Kd.R_types HO332.out BK333.out (by decide)) (fun _ hk => hk.2) (.int .i64 a0_0)) (fun _ hk => hk.2) (.slice Ao10 y330.length co10)) (fun _ hk => hk.2) (.slice none 0 0)) (fun _ hk => trivial)⟩, ⟨by first | exact Kd.S_nil _ _ _ _ _ | exact Kd.N_nil _ _ _ _ _ | exact Kd.V_nil _ _ _ _ _ | exact Kd.Q_nil _ _ _ _ _ | exact Kd.R_nil _ _ _ _ _⟩, ⟨by (with_reducible repeat (first | refine blk_drewN ?_ _ | refine blk_drew ?_ | refine blk_alloc ?_ _)); refine blk_far ?_ NB328_333.out _; (with_reducible repeat (first | refine blk_drewN ?_ _ | refine blk_drew ?_ | refine blk_alloc ?_ _)); refine blk_far ?_ NB328_333.out _; (with_reducible repeat (first | refine blk_drewN ?_ _ | refine blk_drew ?_ | refine blk_alloc ?_ _)); refine blk_far ?_ NB328_333.out _; (with_reducible repeat (first | refine blk_drewN ?_ _ | refine blk_drew ?_ | refine blk_alloc ?_ _)); exact BK328.out⟩, ⟨by (with_reducible repeat (first | refine blk_drewN ?_ _ | refine blk_drew ?_ | refine blk_alloc ?_ _)); refine blk_far ?_ NB329_333.out _; (with_reducible repeat (first | refine blk_drewN ?_ _ | refine blk_drew ?_ | refine blk_alloc ?_ _)); refine blk_far ?_ NB329_333.out _; (with_reducible repeat (first | refine blk_drewN ?_ _ | refine blk_drew ?_ | refine blk_alloc ?_ _)); refine blk_far ?_ NB329_333.out _; (with_reducible repeat (first | refine blk_drewN ?_ _ | refine blk_drew ?_ | refine blk_alloc ?_ _)); exact BK329.out⟩, ⟨by (with_reducible repeat (first | refine blk_drewN ?_ _ | refine blk_drew ?_ | refine blk_alloc ?_ _)); refine blk_put (cs := #[.int .i64 a0_0, .slice Ao10 y330.length co10, .slice none 0 0]) ?_ 2 _ rfl; (with_reducible repeat (first | refine blk_drewN ?_ _ | refine blk_drew ?_ | refine blk_alloc ?_ _)); refine blk_put (cs := #[.int .i64 a0_0, .slice none 0 0, .slice none 0 0]) ?_ 1 _ rfl; (with_reducible repeat (first | refine blk_drewN ?_ _ | refine blk_drew ?_ | refine blk_alloc ?_ _)); refine blk_put (cs := #[.int .i64 0, .slice none 0 0, .slice none 0 0]) ?_ 0 _ rfl; (with_reducible repeat (first | refine blk_drewN ?_ _ | refine blk_drew ?_ | refine blk_alloc ?_ _)); exact BK333.out⟩, ⟨by repeat (first | (with_reducible first | exact HB.out | apply below_alloc | apply pw_below_drewN | apply below_drew1 | refine below_set ?_ GE328.out | refine below_set ?_ GE329.out | refine below_set ?_ GE333.out) | exact HB.out)⟩⟩
    case round =>
      clear H'
      try clear c1
      try clear c2
      try clear p2
      try clear c14
      try clear c15
      try clear hcz16_0
      try clear hcz16_1
      try clear hcz16_2
      try clear hfz16_0
      try clear hfz16_1
      try clear hfz16_2
      obtain ⟨x15_1, x334002_1, u334002, rfl, HA, HK1, HO_334001, HO_334002, BK328, BK329, BK333, HB⟩ := hrel
      cases gk with
      | zero => exact absurd HA.out (by simp [impl_copyDevice.l0])
      | succ k1 =>
        have H := HA.out
        clear HA
        simp only [impl_copyDevice.l0] at H
        by_cases c17 : x15_1 < (l0_2.length : Int)
        · rw [if_pos c17] at H
          have c17b0 : decide (x15_1 < (l0_2.length : Int)) = true := decide_eq_true c17
          clear c17
          by_cases c18 : 0 ≤ x15_1
          · rw [if_pos c18] at H
            have c18b0 : decide (0 ≤ x15_1) = true := decide_eq_true c18
            clear c18
            by_cases c19 : x15_1 < (l0_2.length : Int)
            · rw [if_pos c19] at H
              have c19b0 : decide (x15_1 < (l0_2.length : Int)) = true := decide_eq_true c19
              clear c19
              by_cases c20 : ([] : List Int).length + ((rd_T32 l0_2 x15_1).f1).length < 140737488355328
              · rw [if_pos c20] at H
                have LMc20 := Aside0.mk c20
                clear c20
                obtain ⟨y336, hy336⟩ : ∃ y_ : List Int, y_ = (([] : List Int) ++ ((rd_T32 l0_2 x15_1).f1)) := ⟨_, rfl⟩
                replace H : (if x334002_1.length < 4398046511104 then (impl_copyDevice.l0 k1 l0_2 (l0_2.length : Int) (wrap64 (x15_1 + 1)) a0_0 y330 (x334002_1 ++ [(⟨(rd_T32 l0_2 x15_1).f0, y336⟩ : S32)])) else (none)) = some (r1, r2, r3) := by first | (rw [hy336]; with_reducible exact H) | (have H2_ := (Option.bind_some _ _).symm.trans H; rw [hy336]; with_reducible exact H2_) | (have H2_ := (Option.bind_some _ _).symm.trans H; with_reducible exact H2_) | with_reducible exact H | (rw [hy336]; exact H) | exact H
                have Ny336 := Aside0.mk hy336
                clear hy336
                by_cases c21 : x334002_1.length < 4398046511104
                · rw [if_pos c21] at H
                  have LMc21 := Aside0.mk c21
                  clear c21
                  obtain ⟨y339, hy339⟩ : ∃ y_ : List (S32), y_ = (x334002_1 ++ [(⟨(rd_T32 l0_2 x15_1).f0, y336⟩ : S32)]) := ⟨_, rfl⟩
                  replace H : (impl_copyDevice.l0 k1 l0_2 (l0_2.length : Int) (wrap64 (x15_1 + 1)) a0_0 y330 y339) = some (r1, r2, r3) := by first | (rw [hy339]; with_reducible exact H) | (have H2_ := (Option.bind_some _ _).symm.trans H; rw [hy339]; with_reducible exact H2_) | (have H2_ := (Option.bind_some _ _).symm.trans H; with_reducible exact H2_) | with_reducible exact H | (rw [hy339]; exact H) | exact H
                  have Ny339 := Aside0.mk hy339
                  clear hy339
                  have H' := Aside0.mk H
                  clear H
                  have p334 : 0 ≤ (x15_1 : Int) := of_decide_eq_true (by first | (with_reducible assumption) | assumption)
                  have q334 : x15_1 < (l0_2.length : Int) := of_decide_eq_true (by first | (with_reducible assumption) | assumption)
                  obtain ⟨ad334, A334_1, c334_1, e334, hx334_0, hx334_1, hl334_1, hi334_1⟩ := at_T32 HR0_2.out x15_1 p334 q334
                  cases e334
                  replace hx334_0 := (HB.out.cell (World.block_lt_of_cell? w _ hx334_0)).trans hx334_0
                  replace hx334_1 := (HB.out.cell (World.block_lt_of_cell? w _ hx334_1)).trans hx334_1
                  have HR334_1 := Aside0.mk hi334_1
                  have HC334_1 := Aside0.mk hl334_1
                  clear hi334_1 hl334_1
                  replace p334 := eq_true p334
                  replace q334 := eq_true q334
                  try go_wp2_with (first | ((with_reducible refine gate_dst (N := 5) rfl ?_); refine box_event ?hg (N := 5) ?hd (cs := #[.int .i64 0, .slice none 0 0]) (t := 32) ?hr ?_; (case hd => rfl); (case hg => rfl); (case hr => first | (go_simp; done) | (go_simp; rfl)); intro gb335 hg w22 hbox hb; have n0_ := Aside0.mk (Kd.R_below (by (with_reducible repeat (first | apply Kd.R_alloc | apply Kd.R_drewN | apply Kd.R_drew)); exact HO_334001.out) hb); have n1_ := Aside0.mk (Kd.S_below (Kd.S_elderB (by (with_reducible repeat (first | apply Kd.S_alloc | apply Kd.S_drewN | apply Kd.S_drew)); exact HO_334002.out) gb335 (Nat.le_of_eq hg.symm)) hb); have n2_ := Aside0.mk (blk_below (g := gb328) (o := .cells #[.int .i64 a0_0, .slice A0_1 l0_1.length c0_1, .slice (some ad334) l0_2.length c0_2] 25 (0, 0)) (by (with_reducible repeat (first | refine blk_drewN ?_ _ | refine blk_drew ?_ | refine blk_alloc ?_ _)); exact BK328.out) hb); have n3_ := Aside0.mk (blk_below (g := gb329) (o := .cells #[.int .i64 0, .slice none 0 0, .slice none 0 0] 25 (0, 0)) (by (with_reducible repeat (first | refine blk_drewN ?_ _ | refine blk_drew ?_ | refine blk_alloc ?_ _)); exact BK329.out) hb); have n4_ := Aside0.mk (blk_below (g := gb333) (o := .cells #[.int .i64 a0_0, .slice Ao10 y330.length co10, u334002] 25 (0, 0)) (by (with_reducible repeat (first | refine blk_drewN ?_ _ | refine blk_drew ?_ | refine blk_alloc ?_ _)); exact BK333.out) hb); have n5_ := Aside0.mk (below_step (by repeat (first | (with_reducible first | exact HB.out | apply below_alloc | apply pw_below_drewN | apply below_drew1 | refine below_set ?_ GE328.out | refine below_set ?_ GE329.out | refine below_set ?_ GE333.out) | exact HB.out)) hb); have n6_ := Aside0.mk (hbox); have n7_ := Aside0.mk ((by rw [hg]; exact (below_size (by repeat (first | (with_reducible first | exact HB.out | apply below_alloc | apply pw_below_drewN | apply below_drew1 | refine below_set ?_ GE328.out | refine below_set ?_ GE329.out | refine below_set ?_ GE333.out) | exact HB.out))) : w.heap.size ≤ gb335)); have n8_ := Aside0.mk ((by rw [hg]; exact (below_size (by repeat (first | (with_reducible first | exact HB.out | apply below_alloc | apply pw_below_drewN | apply below_drew1 | refine below_set ?_ GE328.out | refine below_set ?_ GE329.out | refine below_set ?_ GE333.out) | exact HB.out))) : w.heap.size ≤ gb335)); have n9_ := Aside0.mk ((by rw [hg]; exact Nat.ne_of_lt (blk_lt (g := gb328) (o := .cells #[.int .i64 a0_0, .slice A0_1 l0_1.length c0_1, .slice (some ad334) l0_2.length c0_2] 25 (0, 0)) (by (with_reducible repeat (first | refine blk_drewN ?_ _ | refine blk_drew ?_ | refine blk_alloc ?_ _)); exact BK328.out)) : gb328 ≠ gb335)); have n10_ := Aside0.mk ((by rw [hg]; exact Nat.ne_of_gt (blk_lt (g := gb328) (o := .cells #[.int .i64 a0_0, .slice A0_1 l0_1.length c0_1, .slice (some ad334) l0_2.length c0_2] 25 (0, 0)) (by (with_reducible repeat (first | refine blk_drewN ?_ _ | refine blk_drew ?_ | refine blk_alloc ?_ _)); exact BK328.out)) : gb335 ≠ gb328)); have n11_ := Aside0.mk ((by rw [hg]; exact Nat.ne_of_lt (blk_lt (g := gb329) (o := .cells #[.int .i64 0, .slice none 0 0, .slice none 0 0] 25 (0, 0)) (by (with_reducible repeat (first | refine blk_drewN ?_ _ | refine blk_drew ?_ | refine blk_alloc ?_ _)); exact BK329.out)) : gb329 ≠ gb335)); have n12_ := Aside0.mk ((by rw [hg]; exact Nat.ne_of_gt (blk_lt (g := gb329) (o := .cells #[.int .i64 0, .slice none 0 0, .slice none 0 0] 25 (0, 0)) (by (with_reducible repeat (first | refine blk_drewN ?_ _ | refine blk_drew ?_ | refine blk_alloc ?_ _)); exact BK329.out)) : gb335 ≠ gb329)); have n13_ := Aside0.mk ((by rw [hg]; exact Nat.ne_of_lt (blk_lt (g := gb333) (o := .cells #[.int .i64 a0_0, .slice Ao10 y330.length co10, u334002] 25 (0, 0)) (by (with_reducible repeat (first | refine blk_drewN ?_ _ | refine blk_drew ?_ | refine blk_alloc ?_ _)); exact BK333.out)) : gb333 ≠ gb335)); have n14_ := Aside0.mk ((by rw [hg]; exact Nat.ne_of_gt (blk_lt (g := gb333) (o := .cells #[.int .i64 a0_0, .slice Ao10 y330.length co10, u334002] 25 (0, 0)) (by (with_reducible repeat (first | refine blk_drewN ?_ _ | refine blk_drew ?_ | refine blk_alloc ?_ _)); exact BK333.out)) : gb335 ≠ gb333)); clear HO_334001; clear HO_334002; clear BK328; clear BK329; clear BK333; clear HB; have HO_334001 := n0_; have HO_334002 := n1_; have BK328 := n2_; have BK329 := n3_; have BK333 := n4_; have HB := n5_; have BK335 := n6_; have GW335 := n7_; have GE335 := n8_; have NB328_335 := n9_; have NB335_328 := n10_; have NB329_335 := n11_; have NB335_329 := n12_; have NB333_335 := n13_; have NB335_333 := n14_; clear n0_ n1_ n2_ n3_ n4_ n5_ n6_ n7_ n8_ n9_ n10_ n11_ n12_ n13_ n14_; clear hb hbox hg; have hnb23 := NB335_328.out; have hnc23 := NB328_335.out; have hnb24 := NB335_329.out; have hnc24 := NB329_335.out; have hnb25 := NB335_333.out; have hnc25 := NB333_335.out; have hcz26_0 : w22.cell? ⟨gb335, 0, none⟩ = some (.int .i64 0) := (blk_cell BK335.out 0).trans rfl; have hcz26_1 : w22.cell? ⟨gb335, 1, none⟩ = some (.slice none 0 0) := (blk_cell BK335.out 1).trans rfl; have hfz26_0 := blk_frozen BK335.out 0; have hfz26_1 := blk_frozen BK335.out 1))
                  have n0_ : Aside0 (Kd.R (Kd.int .u8) 5 ((w22.setCell ⟨gb335, 0, none⟩ (.int .i64 ((rd_T32 l0_2 x15_1).f0))).setCell ⟨gb335, 1, none⟩ (.slice A334_1 ((rd_T32 l0_2 x15_1).f1).length c334_1)) w.heap.size (fun _ => True) (.slice Ao10 y330.length co10) y330) := ⟨by (with_reducible repeat (first | apply Kd.R_alloc | apply Kd.R_drewN | apply Kd.R_drew)); exact Kd.R_mono (Kd.R_far (p := ⟨gb335, 1, none⟩) (Kd.R_far (p := ⟨gb335, 0, none⟩) (Kd.R_types HO_334001.out BK335.out (by decide)) (fun _ hk => hk.2) (.int .i64 ((rd_T32 l0_2 x15_1).f0))) (fun _ hk => hk.2) (.slice A334_1 ((rd_T32 l0_2 x15_1).f1).length c334_1)) (fun _ hk => trivial)⟩
                  have n1_ : Aside0 (Kd.S k32 32 ((w22.setCell ⟨gb335, 0, none⟩ (.int .i64 ((rd_T32 l0_2 x15_1).f0))).setCell ⟨gb335, 1, none⟩ (.slice A334_1 ((rd_T32 l0_2 x15_1).f1).length c334_1)) w.heap.size (fun k_ => some k_ ≠ (.slice Ao10 y330.length co10 : Value).ownBlock ∧ k_ ≠ gb335) u334002 x334002_1) := ⟨by (with_reducible repeat (first | apply Kd.S_alloc | apply Kd.S_drewN | apply Kd.S_drew)); exact Kd.S_mono (Kd.S_far (p := ⟨gb335, 1, none⟩) (Kd.S_far (p := ⟨gb335, 0, none⟩) (Kd.S_mono HO_334002.out (fun k_ hk => (⟨hk, hk.2⟩ : _ ∧ k_ ≠ gb335))) (fun _ hk => hk.2) (.int .i64 ((rd_T32 l0_2 x15_1).f0))) (fun _ hk => hk.2) (.slice A334_1 ((rd_T32 l0_2 x15_1).f1).length c334_1)) (fun _ hk => ⟨hk.1.1, hk.1.2⟩)⟩
                  have n2_ : Aside0 (((w22.setCell ⟨gb335, 0, none⟩ (.int .i64 ((rd_T32 l0_2 x15_1).f0))).setCell ⟨gb335, 1, none⟩ (.slice A334_1 ((rd_T32 l0_2 x15_1).f1).length c334_1)).heap[gb328]? = some (.cells #[.int .i64 a0_0, .slice A0_1 l0_1.length c0_1, .slice (some ad334) l0_2.length c0_2] 25 (0, 0))) := ⟨by (with_reducible repeat (first | refine blk_drewN ?_ _ | refine blk_drew ?_ | refine blk_alloc ?_ _)); refine blk_far ?_ NB328_335.out _; (with_reducible repeat (first | refine blk_drewN ?_ _ | refine blk_drew ?_ | refine blk_alloc ?_ _)); refine blk_far ?_ NB328_335.out _; (with_reducible repeat (first | refine blk_drewN ?_ _ | refine blk_drew ?_ | refine blk_alloc ?_ _)); exact BK328.out⟩
                  have n3_ : Aside0 (((w22.setCell ⟨gb335, 0, none⟩ (.int .i64 ((rd_T32 l0_2 x15_1).f0))).setCell ⟨gb335, 1, none⟩ (.slice A334_1 ((rd_T32 l0_2 x15_1).f1).length c334_1)).heap[gb329]? = some (.cells #[.int .i64 0, .slice none 0 0, .slice none 0 0] 25 (0, 0))) := ⟨by (with_reducible repeat (first | refine blk_drewN ?_ _ | refine blk_drew ?_ | refine blk_alloc ?_ _)); refine blk_far ?_ NB329_335.out _; (with_reducible repeat (first | refine blk_drewN ?_ _ | refine blk_drew ?_ | refine blk_alloc ?_ _)); refine blk_far ?_ NB329_335.out _; (with_reducible repeat (first | refine blk_drewN ?_ _ | refine blk_drew ?_ | refine blk_alloc ?_ _)); exact BK329.out⟩
                  have n4_ : Aside0 (((w22.setCell ⟨gb335, 0, none⟩ (.int .i64 ((rd_T32 l0_2 x15_1).f0))).setCell ⟨gb335, 1, none⟩ (.slice A334_1 ((rd_T32 l0_2 x15_1).f1).length c334_1)).heap[gb333]? = some (.cells #[.int .i64 a0_0, .slice Ao10 y330.length co10, u334002] 25 (0, 0))) := ⟨by (with_reducible repeat (first | refine blk_drewN ?_ _ | refine blk_drew ?_ | refine blk_alloc ?_ _)); refine blk_far ?_ NB333_335.out _; (with_reducible repeat (first | refine blk_drewN ?_ _ | refine blk_drew ?_ | refine blk_alloc ?_ _)); refine blk_far ?_ NB333_335.out _; (with_reducible repeat (first | refine blk_drewN ?_ _ | refine blk_drew ?_ | refine blk_alloc ?_ _)); exact BK333.out⟩
                  have n5_ : Aside0 (((w22.setCell ⟨gb335, 0, none⟩ (.int .i64 ((rd_T32 l0_2 x15_1).f0))).setCell ⟨gb335, 1, none⟩ (.slice A334_1 ((rd_T32 l0_2 x15_1).f1).length c334_1)).heap[gb335]? = some (.cells #[.int .i64 ((rd_T32 l0_2 x15_1).f0), .slice A334_1 ((rd_T32 l0_2 x15_1).f1).length c334_1] 32 (0, 0))) := ⟨by (with_reducible repeat (first | refine blk_drewN ?_ _ | refine blk_drew ?_ | refine blk_alloc ?_ _)); refine blk_put (cs := #[.int .i64 ((rd_T32 l0_2 x15_1).f0), .slice none 0 0]) ?_ 1 _ rfl; (with_reducible repeat (first | refine blk_drewN ?_ _ | refine blk_drew ?_ | refine blk_alloc ?_ _)); refine blk_put (cs := #[.int .i64 0, .slice none 0 0]) ?_ 0 _ rfl; (with_reducible repeat (first | refine blk_drewN ?_ _ | refine blk_drew ?_ | refine blk_alloc ?_ _)); exact BK335.out⟩
                  have n6_ : Aside0 (Below w.heap.size w ((w22.setCell ⟨gb335, 0, none⟩ (.int .i64 ((rd_T32 l0_2 x15_1).f0))).setCell ⟨gb335, 1, none⟩ (.slice A334_1 ((rd_T32 l0_2 x15_1).f1).length c334_1))) := ⟨by repeat (first | (with_reducible first | exact HB.out | apply below_alloc | apply pw_below_drewN | apply below_drew1 | refine below_set ?_ GE328.out | refine below_set ?_ GE329.out | refine below_set ?_ GE333.out | refine below_set ?_ GE335.out) | exact HB.out)⟩
                  (try clear HO_334001)
                  (try clear HO_334002)
                  (try clear BK328)
                  (try clear BK329)
                  (try clear BK333)
                  (try clear BK335)
                  (try clear HB)
                  generalize ((w22.setCell ⟨gb335, 0, none⟩ (.int .i64 ((rd_T32 l0_2 x15_1).f0))).setCell ⟨gb335, 1, none⟩ (.slice A334_1 ((rd_T32 l0_2 x15_1).f1).length c334_1)) = w27 at n0_ n1_ n2_ n3_ n4_ n5_ n6_ ⊢
                  have HO_334001 := n0_
                  have HO_334002 := n1_
                  have BK328 := n2_
                  have BK329 := n3_
                  have BK333 := n4_
                  have BK335 := n5_
                  have HB := n6_
                  clear n0_ n1_ n2_ n3_ n4_ n5_ n6_
                  have n0_ := Aside0.mk (Kd.R_drew HO_334001.out)
                  have n1_ := Aside0.mk (Kd.S_drew HO_334002.out)
                  have n2_ := Aside0.mk (blk_drew BK328.out)
                  have n3_ := Aside0.mk (blk_drew BK329.out)
                  have n4_ := Aside0.mk (blk_drew BK333.out)
                  have n5_ := Aside0.mk (blk_drew BK335.out)
                  have n6_ := Aside0.mk (below_drew1 HB.out)
                  clear HO_334001
                  clear HO_334002
                  clear BK328
                  clear BK329
                  clear BK333
                  clear BK335
                  clear HB
                  have HO_334001 := n0_
                  have HO_334002 := n1_
                  have BK328 := n2_
                  have BK329 := n3_
                  have BK333 := n4_
                  have BK335 := n5_
                  have HB := n6_
                  clear n0_ n1_ n2_ n3_ n4_ n5_ n6_
                  refine start_ (n := 12) (S := fun w' => w'.cell? ⟨gb333, 0, none⟩ = some (.int .i64 a0_0) ∧ w'.cell? ⟨gb333, 1, none⟩ = some (.slice Ao10 y330.length co10) ∧ w'.cell? ⟨gb333, 2, none⟩ = some (u334002) ∧ w'.cell? ⟨gb335, 0, none⟩ = some (.int .i64 ((rd_T32 l0_2 x15_1).f0)) ∧ w'.cell? ⟨gb335, 1, none⟩ = some (.slice A334_1 ((rd_T32 l0_2 x15_1).f1).length c334_1)) (ds := [11]) #[false, false, false, false, false, false, false, false, false, false, false, false] (by kernel_rfl) rfl rfl ⟨(blk_cell BK333.out 0).trans rfl, (blk_cell BK333.out 1).trans rfl, (blk_cell BK333.out 2).trans rfl, (blk_cell BK335.out 0).trans rfl, (blk_cell BK335.out 1).trans rfl⟩ (fun hHeld => ?_); refine with_tabW impl_copyDevice.tab5 impl_copyDevice.bits5 (fun HT_ HW_ => ?_)
                  generalize w27.drew = w28 at HO_334001 HO_334002 BK328 BK329 BK333 BK335 HB hHeld ⊢
                  refine pure_ (i := 0) (N := some 19) (v := ?_) (a' := ?_) #[true, false, false, false, false, false, false, false, false, false, false, false] rfl rfl (any_of HT_.out (by kernel_rfl)) (fun _ _ _ h => h) (Or.inl ⟨by rfl, ?_⟩) ?_ ?_
                  rotate_left
                  · intro w'
                    go_simp
                    with_reducible rfl
                  rotate_left
                  · simp only [Act.put, List.setIfInBounds_toArray, List.set_cons_zero, List.set_cons_succ, i64_w, i32_w]
                    rfl
                  refine pure_ (i := 2) (N := some 21) (v := ?_) (a' := ?_) #[true, false, true, false, false, false, false, false, false, false, false, false] rfl rfl (any_of HT_.out (by kernel_rfl)) (fun _ _ _ h => h) (Or.inl ⟨by rfl, ?_⟩) ?_ ?_
                  rotate_left
                  · intro w'
                    go_simp
                    with_reducible rfl
                  rotate_left
                  · simp only [Act.put, List.setIfInBounds_toArray, List.set_cons_zero, List.set_cons_succ, i64_w, i32_w]
                    rfl
                  refine pure_ (i := 4) (N := some 23) (v := ?_) (a' := ?_) #[true, false, true, false, true, false, false, false, false, false, false, false] rfl rfl (any_of HT_.out (by kernel_rfl)) (fun _ _ _ h => h) (Or.inl ⟨by rfl, ?_⟩) ?_ ?_
                  rotate_left
                  · intro w'
                    go_simp
                    with_reducible rfl
                  rotate_left
                  · simp only [Act.put, List.setIfInBounds_toArray, List.set_cons_zero, List.set_cons_succ, i64_w, i32_w]
                    rfl
                  refine take_ (i := 1) (N := some 20) (v := ?_) (a' := ?_) #[true, true, true, false, true, false, false, false, false, false, false, false] rfl rfl (take_ofW HT_.out HW_.out (by kernel_rfl)) (fun _ _ _ h => h) (Or.inl ⟨by rfl, ?_⟩) hHeld ?_ ?_
                  rotate_left
                  · rintro w' ⟨s0, s1, s2, s3, s4⟩
                    go_simp
                    with_reducible rfl
                  rotate_left
                  · simp only [Act.put, List.setIfInBounds_toArray, List.set_cons_zero, List.set_cons_succ, i64_w, i32_w]
                    rfl
                  refine take_ (i := 3) (N := some 22) (v := ?_) (a' := ?_) #[true, true, true, true, true, false, false, false, false, false, false, false] rfl rfl (take_ofW HT_.out HW_.out (by kernel_rfl)) (fun _ _ _ h => h) (Or.inl ⟨by rfl, ?_⟩) hHeld ?_ ?_
                  rotate_left
                  · rintro w' ⟨s0, s1, s2, s3, s4⟩
                    go_simp
                    with_reducible rfl
                  rotate_left
                  · simp only [Act.put, List.setIfInBounds_toArray, List.set_cons_zero, List.set_cons_succ, i64_w, i32_w]
                    rfl
                  refine take_ (i := 5) (N := some 24) (v := ?_) (a' := ?_) #[true, true, true, true, true, true, false, false, false, false, false, false] rfl rfl (take_ofW HT_.out HW_.out (by kernel_rfl)) (fun _ _ _ h => h) (Or.inl ⟨by rfl, ?_⟩) hHeld ?_ ?_
                  rotate_left
                  · rintro w' ⟨s0, s1, s2, s3, s4⟩
                    go_simp
                    with_reducible rfl
                  rotate_left
                  · simp only [Act.put, List.setIfInBounds_toArray, List.set_cons_zero, List.set_cons_succ, i64_w, i32_w]
                    rfl
                  refine one_ (i := 6) (N := some 25) #[true, true, true, true, true, true, true, false, false, false, false, false] rfl rfl (one_of HT_.out (by kernel_rfl)) (by decide) (fun K hK => ?_)
                  refine Kd.R_append_rows_step (Kd.int .u8) (w0 := w) w.heap.size (by rfl) (.const (.slice none 0 0)) (.tmp 24) 22 5 (.int .u8 0) 1 rfl Try.underlying22 info5 rfl (by decide) (by omega) (.slice none 0 0) ([] : List Int) ((rd_T32 l0_2 x15_1).f1) _ _ _ (fun k_ => some k_ ≠ (.slice Ao10 y330.length co10 : Value).ownBlock) (fun _ => False) rfl rfl ?aO ?aR (fun _ _ h => h) (fun _ h => h.elim) ?aF ?aB ?aS ?aL ?_
                  (case aR => repeat (first | exact (Kd.C_below HR334_1.out HB.out) | (with_reducible refine Kd.C_alloc ?_ _) | (with_reducible refine Kd.C_drewN ?_ _) | (with_reducible refine Kd.C_drew ?_)))
                  (case aB => exact (by repeat (first | (with_reducible first | exact HB.out | apply below_alloc | apply pw_below_drewN | apply below_drew1 | refine below_set ?_ GE328.out | refine below_set ?_ GE329.out | refine below_set ?_ GE333.out | refine below_set ?_ GE335.out) | exact HB.out)))
                  (case aF => exact (fun k_ hk => Kd.fresh' (Kd.R_lt (by (with_reducible repeat (first | apply Kd.R_alloc | apply Kd.R_drewN | apply Kd.R_drew)); exact HO_334001.out)) k_ hk))
                  (case aO => exact ((Kd.R_nil _ _ _ _ (fun k_ => some k_ ≠ (.slice Ao10 y330.length co10 : Value).ownBlock))))
                  (case aS => exact (below_size (by repeat (first | (with_reducible first | exact HB.out | apply below_alloc | apply pw_below_drewN | apply below_drew1 | refine below_set ?_ GE328.out | refine below_set ?_ GE329.out | refine below_set ?_ GE333.out | refine below_set ?_ GE335.out) | exact HB.out))))
                  (case aL => have := LMc20.out; omega)
                  intro v337 w29 ho hb hg hat
                  rw [← Ny336.out] at ho
                  have n0_ := Aside0.mk (Kd.R_after (Kd.R_apart_nil (by (with_reducible repeat (first | apply Kd.R_alloc | apply Kd.R_drewN | apply Kd.R_drew)); exact HO_334001.out)) hg hat)
                  have n1_ := Aside0.mk (Kd.S_after (Kd.S_apart_nil (by (with_reducible repeat (first | apply Kd.S_alloc | apply Kd.S_drewN | apply Kd.S_drew)); exact HO_334002.out)) hg hat)
                  have n2_ := Aside0.mk (blk_grown (g := gb328) (o := .cells #[.int .i64 a0_0, .slice A0_1 l0_1.length c0_1, .slice (some ad334) l0_2.length c0_2] 25 (0, 0)) (by (with_reducible repeat (first | refine blk_drewN ?_ _ | refine blk_drew ?_ | refine blk_alloc ?_ _)); exact BK328.out) hg (by simp [Value.ownBlock]))
                  have n3_ := Aside0.mk (blk_grown (g := gb329) (o := .cells #[.int .i64 0, .slice none 0 0, .slice none 0 0] 25 (0, 0)) (by (with_reducible repeat (first | refine blk_drewN ?_ _ | refine blk_drew ?_ | refine blk_alloc ?_ _)); exact BK329.out) hg (by simp [Value.ownBlock]))
                  have n4_ := Aside0.mk (blk_grown (g := gb333) (o := .cells #[.int .i64 a0_0, .slice Ao10 y330.length co10, u334002] 25 (0, 0)) (by (with_reducible repeat (first | refine blk_drewN ?_ _ | refine blk_drew ?_ | refine blk_alloc ?_ _)); exact BK333.out) hg (by simp [Value.ownBlock]))
                  have n5_ := Aside0.mk (blk_grown (g := gb335) (o := .cells #[.int .i64 ((rd_T32 l0_2 x15_1).f0), .slice A334_1 ((rd_T32 l0_2 x15_1).f1).length c334_1] 32 (0, 0)) (by (with_reducible repeat (first | refine blk_drewN ?_ _ | refine blk_drew ?_ | refine blk_alloc ?_ _)); exact BK335.out) hg (by simp [Value.ownBlock]))
                  have n6_ := Aside0.mk (hb)
                  have n7_ := Aside0.mk (ho)
                  clear HO_334001
                  clear HO_334002
                  clear BK328
                  clear BK329
                  clear BK333
                  clear BK335
                  clear HB
                  have HO_334001 := n0_
                  have HO_334002 := n1_
                  have BK328 := n2_
                  have BK329 := n3_
                  have BK333 := n4_
                  have BK335 := n5_
                  have HB := n6_
                  have HO338 := n7_
                  clear n0_ n1_ n2_ n3_ n4_ n5_ n6_ n7_
                  clear ho hb hg hat
                  obtain ⟨Ao30, co30, eo30⟩ := Kd.R_slice HO338.out
                  (first | subst eo30 | (injection eo30 with f1_ f2_ f3_; have f4_ := f1_.symm; have f5_ := f3_.symm; clear f1_ f2_ f3_; subst f4_; subst f5_))
                  refine hK.out _ _ ⟨(blk_cell BK333.out 0).trans rfl, (blk_cell BK333.out 1).trans rfl, (blk_cell BK333.out 2).trans rfl, (blk_cell BK335.out 0).trans rfl, (blk_cell BK335.out 1).trans rfl⟩ (fun hHeld => ?_)
                  clear hK K
                  refine norm_ (a' := ?_) ?_ ?_
                  rotate_left
                  · show Act.put _ (some 25) _ = _
                    simp only [Act.put, List.setIfInBounds_toArray, List.set_cons_zero, List.set_cons_succ, i64_w, i32_w]
                    rfl
                  refine pure_ (i := 7) (N := some 26) (v := ?_) (a' := ?_) #[true, true, true, true, true, true, true, true, false, false, false, false] rfl rfl (any_of HT_.out (by kernel_rfl)) (fun _ _ _ h => h) (Or.inl ⟨by rfl, ?_⟩) ?_ ?_
                  rotate_left
                  · intro w'
                    go_simp
                    with_reducible rfl
                  rotate_left
                  · simp only [Act.put, List.setIfInBounds_toArray, List.set_cons_zero, List.set_cons_succ, i64_w, i32_w]
                    rfl
                  refine one_ (i := 8) (N := some 27) #[true, true, true, true, true, true, true, true, true, false, false, false] rfl rfl (one_of HT_.out (by kernel_rfl)) (by decide) (fun K hK => ?_)
                  refine value_ (w1 := ?_) (v := ?_) (by rfl) rfl ?_ ?_
                  rotate_left 2
                  · go_simp
                    constructor
                    · rfl
                    · rfl
                  refine hK.out _ _ ⟨(blk_cell (blk_alloc BK333.out _) 0).trans rfl, (blk_cell (blk_alloc BK333.out _) 1).trans rfl, (blk_cell (blk_alloc BK333.out _) 2).trans rfl, (blk_cell (blk_alloc BK335.out _) 0).trans rfl, (blk_cell (blk_alloc BK335.out _) 1).trans rfl⟩ (fun hHeld => ?_)
                  clear hK K
                  refine norm_ (a' := ?_) ?_ ?_
                  rotate_left
                  · show Act.put _ (some 27) _ = _
                    simp only [Act.put, List.setIfInBounds_toArray, List.set_cons_zero, List.set_cons_succ, i64_w, i32_w]
                    rfl
                  refine one_ (i := 9) (N := some 28) #[true, true, true, true, true, true, true, true, true, true, false, false] rfl rfl (one_of HT_.out (by kernel_rfl)) (by decide) (fun K hK => ?_)
                  refine Kd.S_append_step k32 (w0 := w) w.heap.size (by rfl) (.tmp 20) (.tmp 27) 23 32 (.agg #[(.int .i64 0), (.slice none 0 0)]) 32 rfl Try.underlying23 info32 rfl (by decide) (by omega) u334002 x334002_1 (⟨(rd_T32 l0_2 x15_1).f0, y336⟩ : S32) [.int .i64 ((rd_T32 l0_2 x15_1).f0), .slice Ao30 y336.length co30] (fun k_ => some k_ ≠ (.slice Ao10 y330.length co10 : Value).ownBlock ∧ k_ ≠ gb335) (fun k_ => some k_ = (.slice Ao30 y336.length co30 : Value).ownBlock) rfl rfl ?aP (fun k_ hk_ => ((Kd.R_mono (ok' := fun k_ => ((fun k_ => some k_ ≠ (.slice Ao10 y330.length co10 : Value).ownBlock ∧ k_ ≠ gb335)) k_ ∧ some k_ ≠ (u334002 : Value).ownBlock) (Kd.R_types (Kd.R_apart' (HO338.out) (Kd.S_typed HO_334002.out) (by decide)) BK335.out (by decide)) (fun k_ hk => ⟨⟨hk.1.1, hk.2⟩, hk.1.2⟩))).1 k_ hk_.symm) ?aF ?aO ?aB ?aS ?aL ?_
                  (case aP => exact k32_mkM _ _ _ (⟨(rd_T32 l0_2 x15_1).f0, y336⟩ : S32) (Kd.R_mono (Kd.R_tight rfl (Kd.R_mono (ok' := fun k_ => ((fun k_ => some k_ ≠ (.slice Ao10 y330.length co10 : Value).ownBlock ∧ k_ ≠ gb335)) k_ ∧ some k_ ≠ (u334002 : Value).ownBlock) (Kd.R_types (Kd.R_apart' (HO338.out) (Kd.S_typed HO_334002.out) (by decide)) BK335.out (by decide)) (fun k_ hk => ⟨⟨hk.1.1, hk.2⟩, hk.1.2⟩))) (fun _ h_ => h_)))
                  (case aB => exact (by repeat (first | (with_reducible first | exact HB.out | apply below_alloc | apply pw_below_drewN | apply below_drew1 | refine below_set ?_ GE328.out | refine below_set ?_ GE329.out | refine below_set ?_ GE333.out | refine below_set ?_ GE335.out) | exact HB.out)))
                  (case aF => exact (fun k_ hk => ⟨Kd.fresh' (Kd.R_lt (by (with_reducible repeat (first | apply Kd.R_alloc | apply Kd.R_drewN | apply Kd.R_drew)); exact HO_334001.out)) k_ hk, Kd.freshB (g := gb335) (o := .cells #[.int .i64 ((rd_T32 l0_2 x15_1).f0), .slice A334_1 ((rd_T32 l0_2 x15_1).f1).length c334_1] 32 (0, 0)) (by (with_reducible repeat (first | refine blk_drewN ?_ _ | refine blk_drew ?_ | refine blk_alloc ?_ _)); exact BK335.out) k_ hk⟩))
                  (case aO => exact (by (with_reducible repeat (first | apply Kd.S_alloc | apply Kd.S_drewN | apply Kd.S_drew)); exact Kd.S_mono HO_334002.out (fun k_ hk => ⟨⟨hk.1.1, hk.1.2⟩, fun e_ => hk.2 e_⟩)))
                  (case aS => exact (below_size (by repeat (first | (with_reducible first | exact HB.out | apply below_alloc | apply pw_below_drewN | apply below_drew1 | refine below_set ?_ GE328.out | refine below_set ?_ GE329.out | refine below_set ?_ GE333.out | refine below_set ?_ GE335.out) | exact HB.out))))
                  (case aL => have := LMc21.out; omega)
                  intro v340 w31 ho hb hg hat
                  rw [← Ny339.out] at ho
                  have n0_ := Aside0.mk (Kd.R_over' (by (with_reducible repeat (first | apply Kd.R_alloc | apply Kd.R_drewN | apply Kd.R_drew)); exact HO_334001.out) (Kd.S_typed (by (with_reducible repeat (first | apply Kd.S_alloc | apply Kd.S_drewN | apply Kd.S_drew)); exact HO_334002.out)) (by decide) hg)
                  have n1_ := Aside0.mk (blk_grown (g := gb328) (o := .cells #[.int .i64 a0_0, .slice A0_1 l0_1.length c0_1, .slice (some ad334) l0_2.length c0_2] 25 (0, 0)) (by (with_reducible repeat (first | refine blk_drewN ?_ _ | refine blk_drew ?_ | refine blk_alloc ?_ _)); exact BK328.out) hg (Kd.S_ne HO_334002.out BK328.out (by decide)))
                  have n2_ := Aside0.mk (blk_grown (g := gb329) (o := .cells #[.int .i64 0, .slice none 0 0, .slice none 0 0] 25 (0, 0)) (by (with_reducible repeat (first | refine blk_drewN ?_ _ | refine blk_drew ?_ | refine blk_alloc ?_ _)); exact BK329.out) hg (Kd.S_ne HO_334002.out BK329.out (by decide)))
                  have n3_ := Aside0.mk (blk_grown (g := gb333) (o := .cells #[.int .i64 a0_0, .slice Ao10 y330.length co10, u334002] 25 (0, 0)) (by (with_reducible repeat (first | refine blk_drewN ?_ _ | refine blk_drew ?_ | refine blk_alloc ?_ _)); exact BK333.out) hg (Kd.S_ne HO_334002.out BK333.out (by decide)))
                  have n4_ := Aside0.mk (blk_grown (g := gb335) (o := .cells #[.int .i64 ((rd_T32 l0_2 x15_1).f0), .slice A334_1 ((rd_T32 l0_2 x15_1).f1).length c334_1] 32 (0, 0)) (by (with_reducible repeat (first | refine blk_drewN ?_ _ | refine blk_drew ?_ | refine blk_alloc ?_ _)); exact BK335.out) hg (Kd.S_away HO_334002.out (fun _ hk => hk.1.2)))
                  have n5_ := Aside0.mk (hb)
                  have n6_ := Aside0.mk (ho)
                  clear HO_334001
                  clear BK328
                  clear BK329
                  clear BK333
                  clear BK335
                  clear HB
                  clear HO_334002
                  clear HO338
                  have HO_334001 := n0_
                  have BK328 := n1_
                  have BK329 := n2_
                  have BK333 := n3_
                  have BK335 := n4_
                  have HB := n5_
                  have HO341 := n6_
                  clear n0_ n1_ n2_ n3_ n4_ n5_ n6_
                  clear ho hb hg hat
                  obtain ⟨Ao32, co32, eo32⟩ := Kd.S_slice HO341.out
                  (first | subst eo32 | (injection eo32 with f1_ f2_ f3_; have f4_ := f1_.symm; have f5_ := f3_.symm; clear f1_ f2_ f3_; subst f4_; subst f5_))
                  refine hK.out _ _ ⟨(blk_cell BK333.out 0).trans rfl, (blk_cell BK333.out 1).trans rfl, (blk_cell BK333.out 2).trans rfl, (blk_cell BK335.out 0).trans rfl, (blk_cell BK335.out 1).trans rfl⟩ (fun hHeld => ?_)
                  clear hK K
                  refine norm_ (a' := ?_) ?_ ?_
                  rotate_left
                  · show Act.put _ (some 28) _ = _
                    simp only [Act.put, List.setIfInBounds_toArray, List.set_cons_zero, List.set_cons_succ, i64_w, i32_w]
                    rfl
                  refine pure_ (i := 10) (N := some 29) (v := ?_) (a' := ?_) #[true, true, true, true, true, true, true, true, true, true, true, false] rfl rfl (any_of HT_.out (by kernel_rfl)) (fun _ _ _ h => h) (Or.inl ⟨by rfl, ?_⟩) ?_ ?_
                  rotate_left
                  · intro w'
                    go_simp
                    with_reducible rfl
                  rotate_left
                  · simp only [Act.put, List.setIfInBounds_toArray, List.set_cons_zero, List.set_cons_succ, i64_w, i32_w]
                    rfl
                  refine last_ (i := 11) (N := none) #[true, true, true, true, true, true, true, true, true, true, true, true] rfl rfl (one_of HT_.out (by kernel_rfl)) (by decide) (fun K hK => ?_)
                  have hs33 : w31.cell? ⟨gb333, 2, none⟩ = some (u334002) := (blk_cell BK333.out 2).trans rfl
                  have hfs33 := blk_frozen BK333.out 2
                  have hns33_0 := NB328_333.out
                  have hns33_1 := NB329_333.out
                  have hns33_3 := NB335_333.out
                  have hms33_0 := NB333_328.out
                  have hms33_1 := NB333_329.out
                  have hms33_3 := NB333_335.out
                  refine skip_ (w1 := ?_) (by rfl) rfl ?_ ?_
                  rotate_left
                  · go_simp
                    rfl
                  refine hK.out _ _ ?_
                  clear hK K
                  refine done_ (done_of HT_.out (by kernel_rfl)) ?_
                  try go_wp2
                  go_roundg k1
                  case measure => have := HK1.out; omega
                  case rel => exact ⟨(wrap64 (x15_1 + 1)), (y339), (.slice Ao32 y339.length co32), (by first | rfl | (simp; done) | (simp [*]; done)), H', ⟨by have := HK1.out; omega⟩, ⟨by (with_reducible repeat (first | apply Kd.R_alloc | apply Kd.R_drewN | apply Kd.R_drew)); exact Kd.R_mono (Kd.R_far (p := ⟨gb333, 2, none⟩) (Kd.R_types HO_334001.out BK333.out (by decide)) (fun _ hk => hk.2) (.slice Ao32 y339.length co32)) (fun _ hk => trivial)⟩, ⟨by (with_reducible repeat (first | apply Kd.S_alloc | apply Kd.S_drewN | apply Kd.S_drew)); exact Kd.S_mono (Kd.S_far (p := ⟨gb333, 2, none⟩) (Kd.S_types HO341.out BK333.out (by decide)) (fun _ hk => hk.2) (.slice Ao32 y339.length co32)) (fun _ hk => hk.1.1)⟩, ⟨by (with_reducible repeat (first | refine blk_drewN ?_ _ | refine blk_drew ?_ | refine blk_alloc ?_ _)); refine blk_far ?_ NB328_333.out _; (with_reducible repeat (first | refine blk_drewN ?_ _ | refine blk_drew ?_ | refine blk_alloc ?_ _)); exact BK328.out⟩, ⟨by (with_reducible repeat (first | refine blk_drewN ?_ _ | refine blk_drew ?_ | refine blk_alloc ?_ _)); refine blk_far ?_ NB329_333.out _; (with_reducible repeat (first | refine blk_drewN ?_ _ | refine blk_drew ?_ | refine blk_alloc ?_ _)); exact BK329.out⟩, ⟨by (with_reducible repeat (first | refine blk_drewN ?_ _ | refine blk_drew ?_ | refine blk_alloc ?_ _)); refine blk_put (cs := #[.int .i64 a0_0, .slice Ao10 y330.length co10, u334002]) ?_ 2 _ rfl; (with_reducible repeat (first | refine blk_drewN ?_ _ | refine blk_drew ?_ | refine blk_alloc ?_ _)); exact BK333.out⟩, ⟨by repeat (first | (with_reducible first | exact HB.out | apply below_alloc | apply pw_below_drewN | apply below_drew1 | refine below_set ?_ GE328.out | refine below_set ?_ GE329.out | refine below_set ?_ GE333.out | refine below_set ?_ GE335.out) | exact HB.out)⟩⟩
                · rw [if_neg c21] at H
                  exact absurd H (by simp)
              · rw [if_neg c20] at H
                exact absurd H (by simp)
            · rw [if_neg c19] at H
              exact absurd H (by simp)
          · rw [if_neg c18] at H
            exact absurd H (by simp)
        · rw [if_neg c17] at H
          have c17b0 : decide (x15_1 < (l0_2.length : Int)) = false := decide_eq_false c17
          clear c17
          simp only [Option.some.injEq, Prod.mk.injEq] at H
          obtain ⟨rfl, rfl, rfl⟩ := H
          have hnb34 := NB333_328.out
          have hnc34 := NB328_333.out
          have hnb35 := NB333_329.out
          have hnc35 := NB329_333.out
          have hcz36_0 : wr.cell? ⟨gb333, 0, none⟩ = some (.int .i64 a0_0) := (blk_cell BK333.out 0).trans rfl
          have hcz36_1 : wr.cell? ⟨gb333, 1, none⟩ = some (.slice Ao10 y330.length co10) := (blk_cell BK333.out 1).trans rfl
          have hcz36_2 : wr.cell? ⟨gb333, 2, none⟩ = some (u334002) := (blk_cell BK333.out 2).trans rfl
          have hfz36_0 := blk_frozen BK333.out 0
          have hfz36_1 := blk_frozen BK333.out 1
          have hfz36_2 := blk_frozen BK333.out 2
          have hnb37 := NB329_328.out
          have hnc37 := NB328_329.out
          have hcz38_0 : wr.cell? ⟨gb329, 0, none⟩ = some (.int .i64 0) := (blk_cell BK329.out 0).trans rfl
          have hcz38_1 : wr.cell? ⟨gb329, 1, none⟩ = some (.slice none 0 0) := (blk_cell BK329.out 1).trans rfl
          have hcz38_2 : wr.cell? ⟨gb329, 2, none⟩ = some (.slice none 0 0) := (blk_cell BK329.out 2).trans rfl
          have hfz38_0 := blk_frozen BK329.out 0
          have hfz38_1 := blk_frozen BK329.out 1
          have hfz38_2 := blk_frozen BK329.out 2
          obtain ⟨Ao39, co39, eo39⟩ := Kd.S_slice HO_334002.out
          subst eo39
          go_wp2
          refine bodyPost_ret (results_cell_row rfl _ _ gb329 25 #[.int .i64 a0_0, .slice Ao10 y330.length co10, .slice Ao39 x334002_1.length co39] (0, 0) _ rfl (by (with_reducible repeat (first | refine blk_drewN ?_ _ | refine blk_drew ?_ | refine blk_alloc ?_ _)); refine blk_put (cs := #[.int .i64 a0_0, .slice Ao10 y330.length co10, .slice none 0 0]) ?_ 2 _ rfl; (with_reducible repeat (first | refine blk_drewN ?_ _ | refine blk_drew ?_ | refine blk_alloc ?_ _)); refine blk_put (cs := #[.int .i64 a0_0, .slice none 0 0, .slice none 0 0]) ?_ 1 _ rfl; (with_reducible repeat (first | refine blk_drewN ?_ _ | refine blk_drew ?_ | refine blk_alloc ?_ _)); refine blk_put (cs := #[.int .i64 0, .slice none 0 0, .slice none 0 0]) ?_ 0 _ rfl; (with_reducible repeat (first | refine blk_drewN ?_ _ | refine blk_drew ?_ | refine blk_alloc ?_ _)); exact BK329.out) Try.underlying25 rfl (by kernel_rfl)) rfl ?_
          exact ⟨_, _, by first | rfl | (simp [errW_none, errW_some] <;> rfl) | (simp [*, errW_none, errW_some] <;> rfl), by (with_reducible repeat (first | apply Kd.R_alloc | apply Kd.R_drewN | apply Kd.R_drew)); exact Kd.R_mono (Kd.R_far (p := ⟨gb329, 2, none⟩) (Kd.R_far (p := ⟨gb329, 1, none⟩) (Kd.R_far (p := ⟨gb329, 0, none⟩) (Kd.R_types HO_334001.out BK329.out (by decide)) (fun _ hk => hk.2) (.int .i64 a0_0)) (fun _ hk => hk.2) (.slice Ao10 y330.length co10)) (fun _ hk => hk.2) (.slice Ao39 x334002_1.length co39)) (fun _ hk => trivial), by (with_reducible repeat (first | apply Kd.S_alloc | apply Kd.S_drewN | apply Kd.S_drew)); exact Kd.S_mono (Kd.S_far (p := ⟨gb329, 2, none⟩) (Kd.S_far (p := ⟨gb329, 1, none⟩) (Kd.S_far (p := ⟨gb329, 0, none⟩) (Kd.S_types HO_334002.out BK329.out (by decide)) (fun _ hk => hk.2) (.int .i64 a0_0)) (fun _ hk => hk.2) (.slice Ao10 y330.length co10)) (fun _ hk => hk.2) (.slice Ao39 x334002_1.length co39)) (fun _ hk => hk.1), by repeat (first | (with_reducible first | exact HB.out | apply below_alloc | apply pw_below_drewN | apply below_drew1 | refine below_set ?_ GE328.out | refine below_set ?_ GE329.out | refine below_set ?_ GE333.out) | exact HB.out)⟩
  · rw [if_neg c2] at H
    exact absurd H (by simp)

end Go.Proofs.Ytnkgclcmjojeiaa.PFnDeviceReads
