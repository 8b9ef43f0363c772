-- Written by a program of this session (after the kit's print) out of the translation. Nothing here is trusted: Lean checks it.
import Derived.Test.YtnkgclcmjojeiaaVPFnDeviceReadsx0
namespace Go.Proofs.Ytnkgclcmjojeiaa.PFnDeviceReads
open Go.RowKit Go.Proofs.YtnkgclcmjojeiaaW.PrintWords Go.Proofs.YtnkgclcmjojeiaaW.PrintLast Go.Proofs.YtnkgclcmjojeiaaW.PrintMore
attribute [local go_sem] max2_int min2_int max_two min_two max_three min_three max_four min_four   -- for this text's walks alone
set_option linter.unusedVariables false
set_option linter.unusedSimpArgs false

-- HOLE (*loop.example/s01595/impl.Device).write inner :
def wcode (b : Int) (n : Nat) (blk : Int) (m : Nat) : Int := if blk < 0 ∨ b ≤ blk then 2 else if m ≠ 128 then 3 else if 2048 ≤ n then 4 else 0
theorem wcode_zero {b : Int} {n : Nat} {blk : Int} {m : Nat} (hw : wcode b n blk m = 0) : 0 ≤ blk ∧ blk < b ∧ m = 128 ∧ n < 2048 := by
  unfold wcode at hw
  split at hw
  · cases hw
  · split at hw
    · cases hw
    · split at hw
      · cases hw
      · omega
set_option maxHeartbeats 2000000 in
set_option maxRecDepth 100000 in
theorem dev_write_ok (w0 w : World) (g : Nat) (hg : w0.heap.size ≤ g) (b : Int) (v1 v2 : Value) (disk : List Int) (cache : List S32) (blk : Int) (A : Option Addr) (c : Nat) (data : List Int)
    (hblk : w.heap[g]? = some (.cells #[.int .i64 b, v1, v2] 25 (0,0)))
    (ho1 : Kd.R (Kd.int .u8) 5 w w0.heap.size (fun k => k ≠ g) v1 disk) (ho2 : Kd.S k32 32 w w0.heap.size (fun k => k ≠ g ∧ some k ≠ v1.ownBlock) v2 cache)
    (hd : Kd.C (Kd.int .u8) w A data.length data) (hc : data.length ≤ c) (hB : Below w0.heap.size w0 w)
    (h1 : 0 ≤ blk) (h2 : blk < b) (h3 : data.length = 128) (h4 : cache.length < 2048) :
    Calls Try.prog 22 #[.pointer (some ⟨g, 0, none⟩), .int .i64 blk, .slice A data.length c] w fun e w' => e = .returned (.int .i64 0) ∧ Below w0.heap.size w0 w' ∧
      ∃ v2', w'.heap[g]? = some (.cells #[.int .i64 b, v1, v2'] 25 (0,0)) ∧ Kd.R (Kd.int .u8) 5 w' w0.heap.size (fun k => k ≠ g) v1 disk ∧ Kd.S k32 32 w' w0.heap.size (fun k => k ≠ g ∧ some k ≠ v1.ownBlock) v2' (cache ++ [⟨blk, data⟩]) ∧ (∀ k, k < w.heap.size → k ≠ g → some k ≠ v2.ownBlock → w'.heap[k]? = w.heap[k]?) := by
  have hu25 := Try.underlying25
  have hu32 := Try.underlying32
  obtain ⟨A2, c2, rfl⟩ := Kd.R_slice (Kd.S_R ho2)
  have hq0 : w.cell? ⟨g, 0, none⟩ = some (.int .i64 b) := (blk_cell hblk 0).trans rfl
  have hq1 : w.cell? ⟨g, 1, none⟩ = some v1 := (blk_cell hblk 1).trans rfl
  have hq2 : w.cell? ⟨g, 2, none⟩ = some (.slice A2 cache.length c2) := (blk_cell hblk 2).trans rfl
  have hf := blk_frozen hblk
  have HD := Aside0.mk hd
  have HO1 := Aside0.mk ho1
  have HO2 := Aside0.mk ho2
  have HB := Aside0.mk hB
  have HBK := Aside0.mk hblk
  clear hd ho1 ho2 hB hblk
  go_enter Try.func22, Try.ntmps22
  have t1 : decide (blk < 0) = false := by simpa using h1
  have t2 : decide (b ≤ blk) = false := by simpa using h2
  have t3 : ((data.length : Int) != 128) = false := by simp; omega
  have t4 : decide ((2048 : Int) ≤ cache.length) = false := by simp; omega
  have H3 := Aside0.mk h3
  clear h3
  go_wp2
  refine start_ (n := 14) (S := fun w' => w'.cell? ⟨g, 2, none⟩ = some (.slice A2 cache.length c2)) (ds := [13]) #[false, false, false, false, false, false, false, false, false, false, false, false, false, false] (by kernel_rfl) rfl rfl (hq2) (fun hHeld => ?_)
  refine pure_ (i := 0) (N := some 26) (v := ?_) (a' := ?_) #[true, false, false, false, false, false, false, false, false, false, false, false, false, false] rfl rfl (by kernel_rfl) (fun _ _ _ h => h) (Or.inl ⟨by rfl, ?_⟩) ?_ ?_
  rotate_left
  · intro w'
    go_simp
    with_reducible rfl
  rotate_left
  · simp only [Act.put, List.setIfInBounds_toArray, List.set_cons_zero, List.set_cons_succ, i64_w, i32_w]
    rfl
  refine pure_ (i := 1) (N := some 27) (v := ?_) (a' := ?_) #[true, true, false, false, false, false, false, false, false, false, false, false, false, false] rfl rfl (by kernel_rfl) (fun _ _ _ h => h) (Or.inl ⟨by rfl, ?_⟩) ?_ ?_
  rotate_left
  · intro w'
    go_simp
    with_reducible rfl
  rotate_left
  · simp only [Act.put, List.setIfInBounds_toArray, List.set_cons_zero, List.set_cons_succ, i64_w, i32_w]
    rfl
  refine pure_ (i := 2) (N := some 28) (v := ?_) (a' := ?_) #[true, true, true, false, false, false, false, false, false, false, false, false, false, false] rfl rfl (by kernel_rfl) (fun _ _ _ h => h) (Or.inl ⟨by rfl, ?_⟩) ?_ ?_
  rotate_left
  · intro w'
    go_simp
    with_reducible rfl
  rotate_left
  · simp only [Act.put, List.setIfInBounds_toArray, List.set_cons_zero, List.set_cons_succ, i64_w, i32_w]
    rfl
  refine pure_ (i := 3) (N := some 29) (v := ?_) (a' := ?_) #[true, true, true, true, false, false, false, false, false, false, false, false, false, false] rfl rfl (by kernel_rfl) (fun _ _ _ h => h) (Or.inl ⟨by rfl, ?_⟩) ?_ ?_
  rotate_left
  · intro w'
    go_simp
    with_reducible rfl
  rotate_left
  · simp only [Act.put, List.setIfInBounds_toArray, List.set_cons_zero, List.set_cons_succ, i64_w, i32_w]
    rfl
  refine pure_ (i := 5) (N := some 31) (v := ?_) (a' := ?_) #[true, true, true, true, false, true, false, false, false, false, false, false, false, false] rfl rfl (by kernel_rfl) (fun _ _ _ h => h) (Or.inl ⟨by rfl, ?_⟩) ?_ ?_
  rotate_left
  · intro w'
    go_simp
    with_reducible rfl
  rotate_left
  · simp only [Act.put, List.setIfInBounds_toArray, List.set_cons_zero, List.set_cons_succ, i64_w, i32_w]
    rfl
  refine pure_ (i := 6) (N := some 32) (v := ?_) (a' := ?_) #[true, true, true, true, false, true, true, false, false, false, false, false, false, false] rfl rfl (by kernel_rfl) (fun _ _ _ h => h) (Or.inl ⟨by rfl, ?_⟩) ?_ ?_
  rotate_left
  · intro w'
    go_simp
    with_reducible rfl
  rotate_left
  · simp only [Act.put, List.setIfInBounds_toArray, List.set_cons_zero, List.set_cons_succ, i64_w, i32_w]
    rfl
  refine take_ (i := 4) (N := some 30) (v := ?_) (a' := ?_) #[true, true, true, true, true, true, true, false, false, false, false, false, false, false] rfl rfl (by kernel_rfl) (fun _ _ _ h => h) (Or.inl ⟨by rfl, ?_⟩) hHeld ?_ ?_
  rotate_left
  · intro w' s0
    go_simp
    with_reducible rfl
  rotate_left
  · simp only [Act.put, List.setIfInBounds_toArray, List.set_cons_zero, List.set_cons_succ, i64_w, i32_w]
    rfl
  refine one_ (i := 7) (N := some 33) #[true, true, true, true, true, true, true, true, false, false, false, false, false, false] rfl rfl (by kernel_rfl) (by decide) (fun K hK => ?_)
  refine Kd.R_append_rows_step (Kd.int .u8) (w0 := w0) w0.heap.size (by rfl) (.const (.slice none 0 0)) (.tmp 32) 22 5 (.int .u8 0) 1 rfl Try.underlying22 info5 rfl (by decide) (by omega) (.slice none 0 0) ([] : List Int) data _ _ _ (fun k => k ≠ g ∧ some k ≠ (v1 : Value).ownBlock) (fun _ => False) rfl rfl (Kd.R_nil _ _ _ _ _) (Kd.C_drew HD.out) (fun _ _ h => h) (fun _ h => h.elim) (fun k hk => ⟨Kd.freshB HBK.out k hk, Kd.fresh' (Kd.R_lt HO1.out) k hk⟩) (below_drew1 HB.out) (below_size (below_drew1 HB.out)) (by simp; have := H3.out; omega) ?_
  intro v3 w3 ho3 hb3 hg3 hat3
  replace ho3 : Kd.R (Kd.int .u8) 5 w3 w0.heap.size (fun k => k ≠ g ∧ some k ≠ (v1 : Value).ownBlock) v3 data := ho3
  have hbk3 := Aside0.mk (blk_grown (g := g) (o := .cells #[.int .i64 b, v1, .slice A2 cache.length c2] 25 (0, 0)) (blk_drew HBK.out) hg3 (by simp [Value.ownBlock]))
  have ho13 := Aside0.mk (Kd.R_after (Kd.R_apart_nil (Kd.R_drew HO1.out)) hg3 hat3)
  have ho23 := Aside0.mk (Kd.S_after (Kd.S_apart_nil (Kd.S_drew HO2.out)) hg3 hat3)
  have HO3 := Aside0.mk ho3
  have HB3 := Aside0.mk hb3
  have HF3 : Aside0 (∀ k, k < w.heap.size → w3.heap[k]? = w.heap[k]?) := Aside0.mk (fun k hk => hg3.block k hk (by simp [Value.ownBlock]))
  have hsz3 := hg3.size
  clear ho3 hb3 hg3 hat3
  obtain ⟨A3, c3, rfl⟩ := Kd.R_slice HO3.out
  refine hK.out _ _ ((blk_cell hbk3.out 2).trans rfl) (fun hHeld => ?_)
  clear hK K
  refine norm_ (a' := ?_) ?_ ?_
  rotate_left
  · show Act.put _ (some 33) _ = _
    simp only [Act.put, List.setIfInBounds_toArray, List.set_cons_zero, List.set_cons_succ, i64_w, i32_w]
    rfl
  refine pure_ (i := 8) (N := some 34) (v := ?_) (a' := ?_) #[true, true, true, true, true, true, true, true, true, false, false, false, false, false] rfl rfl (by kernel_rfl) (fun _ _ _ h => h) (Or.inl ⟨by rfl, ?_⟩) ?_ ?_
  rotate_left
  · intro w'
    go_simp
    with_reducible rfl
  rotate_left
  · simp only [Act.put, List.setIfInBounds_toArray, List.set_cons_zero, List.set_cons_succ, i64_w, i32_w]
    rfl
  refine one_ (i := 9) (N := some 35) #[true, true, true, true, true, true, true, true, true, true, false, false, false, false] rfl rfl (by kernel_rfl) (by decide) (fun K hK => ?_)
  refine value_ (w1 := ?_) (v := ?_) (by rfl) rfl ?_ ?_
  rotate_left 2
  · go_simp
    constructor
    · rfl
    · rfl
  refine hK.out _ _ ((blk_cell (blk_alloc hbk3.out _) 2).trans rfl) (fun hHeld => ?_)
  clear hK K
  refine norm_ (a' := ?_) ?_ ?_
  rotate_left
  · show Act.put _ (some 35) _ = _
    simp only [Act.put, List.setIfInBounds_toArray, List.set_cons_zero, List.set_cons_succ, i64_w, i32_w]
    rfl
  refine one_ (i := 10) (N := some 36) #[true, true, true, true, true, true, true, true, true, true, true, false, false, false] rfl rfl (by kernel_rfl) (by decide) (fun K hK => ?_)
  refine Kd.S_append_step k32 (w0 := w0) w0.heap.size (by rfl) (.tmp 30) (.tmp 35) 23 32 (.agg #[(.int .i64 0), (.slice none 0 0)]) 32 rfl Try.underlying23 info32 rfl (by decide) (by omega) (.slice A2 cache.length c2) cache (⟨blk, data⟩ : S32) [.int .i64 blk, .slice A3 data.length c3] (fun k => k ≠ g ∧ some k ≠ (v1 : Value).ownBlock) (fun k => some k = (.slice A3 data.length c3 : Value).ownBlock) rfl rfl ?aP ?aQ ?aF ?aO ?aB ?aS (by omega) ?_
  (case aP => exact k32_mkM _ _ _ (⟨blk, data⟩ : S32) (Kd.R_mono (Kd.R_tight rfl HO3.out) (fun _ h => h)))
  (case aQ => exact (fun k hk => (Kd.R_apart' HO3.out (Kd.S_typed ho23.out) (by decide)).1 k hk.symm))
  (case aF => exact (fun k hk => ⟨Kd.freshB hbk3.out k hk, Kd.fresh' (Kd.R_lt ho13.out) k hk⟩))
  (case aO => exact (Kd.S_mono ho23.out (fun k hk => ⟨hk.1, fun e => hk.2 e⟩)))
  (case aB => exact HB3.out)
  (case aS => exact below_size HB3.out)
  intro v4 w4 ho4 hb4 hg4 hat4
  have ho14 := Aside0.mk (Kd.R_over' (Kd.R_mono ho13.out (fun k hk => hk.1)) (Kd.S_typed ho23.out) (by decide) hg4)
  have hbk4 := Aside0.mk (blk_grown (g := g) (o := .cells #[.int .i64 b, v1, .slice A2 cache.length c2] 25 (0, 0)) hbk3.out hg4 (Kd.S_ne ho23.out hbk3.out (by decide)))
  have HO4 := Aside0.mk ho4
  have HB4 := Aside0.mk hb4
  have HF4 : Aside0 (∀ k, k < w.heap.size → some k ≠ (Value.slice A2 cache.length c2).ownBlock → w4.heap[k]? = w.heap[k]?) := Aside0.mk (fun k hk hne => (hg4.block k (Nat.lt_of_lt_of_le hk hsz3) hne).trans (HF3.out k hk))
  clear ho4 hb4 hg4 hat4
  obtain ⟨A4, c4, rfl⟩ := Kd.R_slice (Kd.S_R HO4.out)
  have hq4 : w4.cell? ⟨g, 2, none⟩ = some (.slice A2 cache.length c2) := (blk_cell hbk4.out 2).trans rfl
  have hf4 := blk_frozen hbk4.out
  refine hK.out _ _ (hq4) (fun hHeld => ?_)
  clear hK K
  refine norm_ (a' := ?_) ?_ ?_
  rotate_left
  · show Act.put _ (some 36) _ = _
    simp only [Act.put, List.setIfInBounds_toArray, List.set_cons_zero, List.set_cons_succ, i64_w, i32_w]
    rfl
  refine pure_ (i := 11) (N := some 37) (v := ?_) (a' := ?_) #[true, true, true, true, true, true, true, true, true, true, true, true, false, false] rfl rfl (by kernel_rfl) (fun _ _ _ h => h) (Or.inl ⟨by rfl, ?_⟩) ?_ ?_
  rotate_left
  · intro w'
    go_simp
    with_reducible rfl
  rotate_left
  · simp only [Act.put, List.setIfInBounds_toArray, List.set_cons_zero, List.set_cons_succ, i64_w, i32_w]
    rfl
  refine pure_ (i := 12) (N := some 38) (v := ?_) (a' := ?_) #[true, true, true, true, true, true, true, true, true, true, true, true, true, false] rfl rfl (by kernel_rfl) (fun _ _ _ h => h) (Or.inl ⟨by rfl, ?_⟩) ?_ ?_
  rotate_left
  · intro w'
    go_simp
    with_reducible rfl
  rotate_left
  · simp only [Act.put, List.setIfInBounds_toArray, List.set_cons_zero, List.set_cons_succ, i64_w, i32_w]
    rfl
  refine last_ (i := 13) (N := none) #[true, true, true, true, true, true, true, true, true, true, true, true, true, true] rfl rfl (by kernel_rfl) (by decide) (fun K hK => ?_)
  refine skip_ (w1 := ?_) (by rfl) rfl ?_ ?_
  rotate_left
  · go_simp
    rfl
  refine hK.out _ _ ?_
  clear hK K
  refine done_ (by kernel_rfl) ?_
  go_wp2
  go_ret
  have ho4 := HO4.out
  rw [show (cache ++ [(⟨blk, data⟩ : S32)]).length = cache.length + 1 from by simp] at ho4
  exact ⟨rfl, HB4.out.setCell hg _, .slice A4 (cache.length + 1) c4, blk_put hbk4.out 2 _ rfl, Kd.R_far (p := ⟨g, 2, none⟩) ho14.out (fun k hk => hk) _, Kd.S_far (p := ⟨g, 2, none⟩) ho4 (fun k hk => hk.1) _, fun k hk hkg hne => (Below.heap_setCell _ _ _ k hkg).trans (HF4.out k hk hne)⟩
set_option maxHeartbeats 2000000 in
set_option maxRecDepth 100000 in
theorem dev_write_no (w : World) (g : Nat) (b : Int) (v1 : Value) (A2 : Option Addr) (n c2 : Nat) (blk : Int) (A : Option Addr) (m c : Nat) (r : Int)
    (hblk : w.heap[g]? = some (.cells #[.int .i64 b, v1, .slice A2 n c2] 25 (0,0)))
    (hr : wcode b n blk m = r) (h0 : r ≠ 0) :
    Calls Try.prog 22 #[.pointer (some ⟨g, 0, none⟩), .int .i64 blk, .slice A m c] w fun e w' => e = .returned (.int .i64 r) ∧ w' = w := by
  have hu25 := Try.underlying25
  have hq0 : w.cell? ⟨g, 0, none⟩ = some (.int .i64 b) := (blk_cell hblk 0).trans rfl
  have hq2 : w.cell? ⟨g, 2, none⟩ = some (.slice A2 n c2) := (blk_cell hblk 2).trans rfl
  clear hblk
  unfold wcode at hr
  by_cases c1 : blk < 0
  · rw [if_pos (.inl c1)] at hr
    subst hr
    have t1 : decide (blk < 0) = true := by simpa using c1
    go_enter Try.func22, Try.ntmps22
    go_wp2
    go_ret
    exact ⟨rfl, rfl⟩
  have t1 : decide (blk < 0) = false := by simpa using c1
  by_cases c2 : b ≤ blk
  · rw [if_pos (.inr c2)] at hr
    subst hr
    have t2 : decide (b ≤ blk) = true := by simpa using c2
    go_enter Try.func22, Try.ntmps22
    go_wp2
    go_ret
    exact ⟨rfl, rfl⟩
  have t2 : decide (b ≤ blk) = false := by simpa using c2
  rw [if_neg (by rintro (h | h) <;> contradiction)] at hr
  by_cases c3 : m ≠ 128
  · rw [if_pos c3] at hr
    subst hr
    have t3 : ((m : Int) != 128) = true := by simp; omega
    clear c3
    go_enter Try.func22, Try.ntmps22
    go_wp2
    go_ret
    exact ⟨rfl, rfl⟩
  rw [if_neg c3] at hr
  have t3 : ((m : Int) != 128) = false := by simp; omega
  clear c3
  by_cases c4 : 2048 ≤ n
  · rw [if_pos c4] at hr
    subst hr
    have t4 : decide ((2048 : Int) ≤ n) = true := by simp; omega
    go_enter Try.func22, Try.ntmps22
    go_wp2
    go_ret
    exact ⟨rfl, rfl⟩
  · rw [if_neg c4] at hr
    exact absurd hr.symm h0

end Go.Proofs.Ytnkgclcmjojeiaa.PFnDeviceReads
