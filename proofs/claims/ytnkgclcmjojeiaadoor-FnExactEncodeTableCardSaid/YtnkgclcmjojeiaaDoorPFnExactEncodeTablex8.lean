-- Written by a program of this session (after the kit's print) out of the translation. Nothing here is trusted: Lean checks it.
import Derived.Test.YtnkgclcmjojeiaaDoorPFnExactEncodeTablex0
import Derived.Test.YtnkgclcmjojeiaaDoorPFnExactEncodeTablex3
import Derived.Test.YtnkgclcmjojeiaaDoorPFnExactEncodeTablex4
import Derived.Test.YtnkgclcmjojeiaaDoorPFnExactEncodeTablex5
import Derived.Test.YtnkgclcmjojeiaaDoorPFnExactEncodeTablex6
import Derived.Test.YtnkgclcmjojeiaaDoorPFnExactEncodeTablex7
namespace Go.Proofs.YtnkgclcmjojeiaaDoor.PFnExactEncodeTable
open Go.RowKit Go.Proofs.YtnkgclcmjojeiaaDoorW.PrintWords Go.Proofs.YtnkgclcmjojeiaaDoorW.PrintLast Go.Proofs.YtnkgclcmjojeiaaDoorW.PrintMore
attribute [local go_sem] max2_int min2_int max_two min_two max_three min_three max_four min_four   -- for this text's walks alone
set_option linter.unusedVariables false
set_option linter.unusedSimpArgs false

-- HOLE loop.example/s01595/impl.EncodeTable rounds glob et161 : loop.example/s01595/impl.encode, loop.example/s01595/impl.codeOf, (loop.example/s01595/impl.tableForm).sound
theorem C_block {W : World} {g m t : Nat} {bs : List Int} (hb : W.heap[g]? = some (.cells (blkArr bs) t (0, 0))) (hm : m ≤ bs.length) (hl : bs.length ≤ 1024) : Kd.C (Kd.int .u8) W (some ⟨g, 0, none⟩) (bs.take m).length (bs.take m) := by
  refine Kd.C_of_reads (d := (0 : Int)) (h1 := fun _ => rfl) ⟨rfl, by rw [List.length_take]; omega, fun _ => ⟨_, rfl, fun i hi => ?_⟩⟩
  rw [show (⟨g, 0, none⟩ : Addr).add i = ⟨g, i, none⟩ by rcases i with _ | i <;> simp [Addr.add]]
  refine (blk_cell hb i).trans ?_
  rw [List.length_take] at hi
  simp [blkArr, encs, List.getD_eq_getElem?_getD, List.getElem?_take, show i < m by omega, show i < bs.length by omega]
theorem there_of_blk {w : World} {g : Nat} {bs : List Int} (hb : w.heap[g]? = some (.cells (blkArr bs) 161 (0, 0))) {n : Nat} (hn : n ≤ bs.length) : w.there g 0 n := there_of_block hb (by rw [blkArr_size]; exact hn)
theorem tbl_mSound (v : Value) (w : World) : (Go.method 362 94 v "loop.example/s01595/impl.sound").run Tryd.prog w = .ok (159, v) w := by kernel_rfl
theorem tbl_mLay (v : Value) (w : World) : (Go.method 362 94 v "loop.example/s01595/impl.lay").run Tryd.prog w = .ok (158, v) w := by kernel_rfl
set_option maxHeartbeats 4000000 in
set_option maxRecDepth 100000 in
theorem encode_table_no (k : Nat) (n next : Int) (A : Option Addr) (c : Nat) (runs : List S85) (w : World) (hGL : Globals w) (hr : Kd.C k85 w A runs.length runs) (hc : runs.length ≤ c) (hs : impl_tableForm_sound.f k 3 n next runs = some false) :
    Calls Tryd.prog 61 #[.iface 94 (.agg #[.int .i64 3, .int .i64 n, .int .i64 next, .slice A runs.length c])] w fun e w' => ∃ ge v, e = .returned (.tuple #[.slice none 0 0, .iface 157 (.pointer (some ⟨ge, 0, none⟩))]) ∧ w'.heap[ge]? = some (.cells #[.int .i64 (-1), v] 159 (0, 0)) ∧ Below w.heap.size w w' := by
  have hm1 := tbl_mSound
  have HGL := Aside0.mk hGL
  have HR := Aside0.mk hr
  have HS := Aside0.mk hs
  clear hGL hr hs
  have hu := Tryd.underlying159
  go_enter Tryd.func61, Tryd.ntmps61
  go_upto_region 2 with (go_at_call 159; refine (impl_tableForm_sound.calls k 3 n next A c runs false _ HR.out hc HS.out).mono ?_; rintro e w1 ⟨rfl, hb⟩; have HG := Aside0.mk (HGL.out.below hb); have HB := Aside0.mk hb; clear hb)
  obtain ⟨h1, a0, a1, a2, h2, h3⟩ := HG.out
  have h2' : w1.drew.cell? ⟨0, 0, none⟩ = some (.iface 227 (.pointer (some a0))) := by simpa using h2
  clear h1 h3
  go_region
  go_wp2
  go_ret2
  refine ⟨w1.heap.size, .iface 227 (.pointer (some a0)), rfl, ?_, ?_⟩
  · exact blk_new w1.drew _
  · exact below_alloc (below_drew1 HB.out) _
set_option maxHeartbeats 4000000 in
set_option maxRecDepth 100000 in
theorem encode_table_yes (k : Nat) (n next : Int) (A : Option Addr) (c : Nat) (runs : List S85) (cr : Int) (w : World) (hr : Kd.C k85 w A runs.length runs) (hc : runs.length ≤ c) (hs : impl_tableForm_sound.f k 3 n next runs = some true) (hn : runs.length ≤ 20) (hcr : impl_Crc32.f k ((padB (tblOut n next runs)).take 124) = some cr) (hcr0 : 0 ≤ cr) (hcr1 : cr < 4294967296) :
    Calls Tryd.prog 61 #[.iface 94 (.agg #[.int .i64 3, .int .i64 n, .int .i64 next, .slice A runs.length c])] w fun e w' => ∃ gm, e = .returned (.tuple #[.slice (some ⟨gm, 0, none⟩) 128 128, .nilIface]) ∧ w.heap.size ≤ gm ∧ w'.heap[gm]? = some (.cells (blkArr ((padB (tblOut n next runs)).take 124 ++ numB cr 4)) 161 (0, 0)) ∧ Below w.heap.size w w' := by
  have hm1 := tbl_mSound
  have hm2 := tbl_mLay
  have HR := Aside0.mk hr
  have HS := Aside0.mk hs
  have HCR := Aside0.mk hcr
  have hP : (padB (tblOut n next runs)).length = 128 := padB_length (by rw [tblOut_length]; omega)
  have HP := Aside0.mk hP
  clear hr hs hcr hP
  go_enter Tryd.func61, Tryd.ntmps61
  go_upto_region 4 with (first | (go_at_call 159; refine (impl_tableForm_sound.calls k 3 n next A c runs true _ HR.out hc HS.out).mono ?_; rintro e w1 ⟨rfl, hb⟩; have HB := Aside0.mk hb; clear hb) | (go_at_call 158; refine (lay_table n next A c runs _ (Kd.C_below HR.out HB.out) hc hn).mono ?_; rintro e w2 ⟨rfl, hb⟩; have HB2 := Aside0.mk (below_step HB.out hb); clear hb) | (refine wpList_store_mid rfl 161 (.tmp 4) (.tmp 13) rfl w2.heap.size 0 (blkArr (padB (tblOut n next runs))) rfl rfl (there_of_blk (bs := List.replicate 128 0) (by rw [← zero_block]; exact blk_new w2 _) (by simp [blkArr_size, HP.out])) (by rw [block_info]; simp [blkArr_size, HP.out]) (blkArr_one _) ?_))
  try simp only [Act.put]
  have hM3 := setCells_block (g := w2.heap.size) (bs := List.replicate 128 0) (bs' := padB (tblOut n next runs)) (w := w2.alloc (.cells Tryd.zeroCells161 161)) (by rw [← zero_block]; exact blk_new w2 _) (by simp [HP.out])
  have hB3 := below_setCells (g := w2.heap.size) (below_size HB2.out) (blkArr (padB (tblOut n next runs))).toList 0 (below_alloc HB2.out (.cells Tryd.zeroCells161 161))
  have hgm := below_size HB2.out
  have HMd := Aside0.mk (blk_drew hM3)
  have HBd := Aside0.mk (below_drew1 hB3)
  clear hM3 hB3 HB HB2
  have hPB := HP.out
  clear HP
  generalize hPD : padB (tblOut n next runs) = PB at HMd HBd hPB HCR ⊢
  have HPD := Aside0.mk hPD
  clear hPD
  generalize ((w2.alloc (.cells Tryd.zeroCells161 161)).setCells w2.heap.size 0 (blkArr PB).toList) = w3 at HMd HBd ⊢
  generalize w2.heap.size = gm at HMd HBd hgm ⊢
  have hcc := impl_Crc32.calls k (some ⟨gm, 0, none⟩) 128 (PB.take 124) cr w3.drew (C_block HMd.out (by omega) (by omega)) (by rw [List.length_take]; omega) HCR.out
  rw [show (PB.take 124).length = 124 by rw [List.length_take]; omega] at hcc
  have HCC := Aside0.mk hcc
  clear hcc
  refine start_ (n := 5) (S := fun w' => True) (ds := []) #[false, false, false, false, false] (by kernel_rfl) rfl rfl trivial (fun hHeld => ?_)
  refine pure_ (i := 0) (N := some 14) (v := ?_) (a' := ?_) #[true, false, false, false, false] rfl rfl (by kernel_rfl) (fun _ _ _ h => h) (Or.inl ⟨by rfl, ?_⟩) ?_ ?_
  rotate_left
  · intro w'
    go_simp
    with_reducible rfl
  rotate_left
  · simp only [Act.put, List.setIfInBounds_toArray, List.set_cons_zero, List.set_cons_succ, i64_w, i32_w]
    rfl
  refine pure_ (i := 1) (N := some 15) (v := ?_) (a' := ?_) #[true, true, false, false, false] rfl rfl (by kernel_rfl) (fun _ _ _ h => h) (Or.inl ⟨by rfl, ?_⟩) ?_ ?_
  rotate_left
  · intro w'
    go_simp
    with_reducible rfl
  rotate_left
  · simp only [Act.put, List.setIfInBounds_toArray, List.set_cons_zero, List.set_cons_succ, i64_w, i32_w]
    rfl
  refine one_ (i := 2) (N := some 16) #[true, true, true, false, false] rfl rfl (by kernel_rfl) (by decide) (fun K hK => ?_)
  refine goes_ Tryd.func106 (by kernel_rfl) rfl #[.slice (some ⟨gm, 0, none⟩) 124 128] (by rfl) rfl rfl (by simp only [List.map_toArray, List.map_cons, List.map_nil]; rfl) ?_
  with_reducible refine (HCC.out).mono ?_
  rintro e w4 ⟨rfl, hd⟩
  refine ⟨_, rfl, ?_⟩
  have HMe := Aside0.mk (blk_below HMd.out hd.below)
  have HBe := Aside0.mk (below_step HBd.out hd.below)
  clear hd HMd HBd
  refine hK.out _ _ trivial (fun hHeld => ?_)
  clear hK K
  refine norm_ (a' := ?_) ?_ ?_
  rotate_left
  · show Act.put _ (some 16) _ = _
    simp only [Act.put, List.setIfInBounds_toArray, List.set_cons_zero, List.set_cons_succ, i64_w, i32_w]
    rfl
  refine pure_ (i := 3) (N := some 17) (v := ?_) (a' := ?_) #[true, true, true, true, false] rfl rfl (by kernel_rfl) (fun _ _ _ h => h) (Or.inl ⟨by rfl, ?_⟩) ?_ ?_
  rotate_left
  · intro w'
    go_simp
    with_reducible rfl
  rotate_left
  · simp only [Act.put, List.setIfInBounds_toArray, List.set_cons_zero, List.set_cons_succ, i64_w, i32_w]
    rfl
  refine one_ (i := 4) (N := some 18) #[true, true, true, true, true] rfl rfl (by kernel_rfl) (by decide) (fun K hK => ?_)
  refine goes_ Tryd.func105 (by kernel_rfl) rfl #[.slice (some ⟨gm, 124, none⟩) 4 4, .int .i64 (wrap64 cr), .int .i64 4] (by rfl) rfl rfl (by simp only [List.map_toArray, List.map_cons, List.map_nil]; rfl) ?_
  with_reducible refine (number_at 4 gm 124 4 4 PB 161 (wrap64 cr) 4 rfl w _ HMe.out (by omega) (by omega) (by omega) (by omega) HBe.out hgm).mono ?_
  rintro e w5 ⟨rfl, e1, _, _, e4⟩
  refine ⟨_, rfl, ?_⟩
  have HMf := Aside0.mk e1
  have HBf := Aside0.mk e4
  clear e1 e4 HMe HBe
  refine hK.out _ _ trivial (fun hHeld => ?_)
  clear hK K
  refine norm_ (a' := ?_) ?_ ?_
  rotate_left
  · show Act.put _ (some 18) _ = _
    simp only [Act.put, List.setIfInBounds_toArray, List.set_cons_zero, List.set_cons_succ, i64_w, i32_w]
    rfl
  refine done_ (by kernel_rfl) ?_
  go_wp2
  go_ret2
  refine ⟨gm, rfl, hgm, ?_, HBf.out⟩
  have e : wrap64 cr = cr := by unfold wrap64; omega
  rw [HMf.out, e, HPD.out]
  congr 2
  show blkArr _ = blkArr _
  congr 1
  unfold splice
  rw [List.drop_of_length_le (by rw [numB_length]; omega), List.append_nil]
def impl_EncodeTable.f (k : Nat) (next : Int) (runs : List S85) : Option (List Int × Int) :=
  (impl_tableForm_sound.f k 3 (runs.length : Int) next runs).bind fun s => if s = true then (if runs.length ≤ 20 then (impl_Crc32.f k ((padB (tblOut (runs.length : Int) next runs)).take 124)).bind fun c => if 0 ≤ c ∧ c < 4294967296 then some ((padB (tblOut (runs.length : Int) next runs)).take 124 ++ numB c 4, 0) else none else none) else some ([], 5)
theorem impl_EncodeTable.mono : ∀ a0 a1 k, LeO (impl_EncodeTable.f k a0 a1) (impl_EncodeTable.f (k + 1) a0 a1) := by
  intro a0 a1 k
  unfold impl_EncodeTable.f
  repeat' first
    | (with_reducible exact impl_tableForm_sound.mono _ _ _ _ _)
    | (with_reducible exact impl_Crc32.mono _ _)
    | (with_reducible exact LeO.refl _)
    | (with_reducible exact LeO.none _)
    | (with_reducible refine LeO.ite ?_ ?_)
    | (with_reducible refine LeO.bind ?_ (fun _ => ?_))
theorem block_R {w W : World} {gm : Nat} {bs : List Int} (hb : W.heap[gm]? = some (.cells (blkArr bs) 161 (0, 0))) (hg : w.heap.size ≤ gm) (hl : bs.length = 128) : Kd.R (Kd.int .u8) 161 W w.heap.size (fun _ => True) (.slice (some ⟨gm, 0, none⟩) 128 128) bs := by
  refine Kd.R_of_own ⟨by simp [encs], .inr ⟨gm, 128, blkArr bs, by rw [hl], hg, hb, by omega, by unfold maxLen; omega, by rw [blkArr_size, hl], ?_⟩⟩ (fun _ _ => trivial)
  simp [blkArr, encs, List.take_of_length_le]
set_option maxHeartbeats 4000000 in
set_option maxRecDepth 100000 in
theorem impl_EncodeTable.calls (k : Nat) (a0_0 : Int) (A0_1 : Option Addr) (c0_1 : Nat) (l0_1 : List S85) (r1 : List Int) (r2 : Int) (w : World) (hGL : Globals w) (hr0_1 : Kd.C k85 w A0_1 l0_1.length l0_1) (hc0_1 : l0_1.length ≤ c0_1) (h : impl_EncodeTable.f k a0_0 l0_1 = some (r1, r2)) :
    Calls Tryd.prog 15 #[.agg #[.int .i64 a0_0, .slice A0_1 l0_1.length c0_1]] w fun e w' => ∃ v0_ : Value, e = .returned (.tuple #[v0_, .int .i64 r2]) ∧ Kd.R (Kd.int .u8) 161 w' w.heap.size (fun _ => True) v0_ r1 ∧ Below w.heap.size w w' := by
  have hu1 := Tryd.underlying92
  have hu2 := Tryd.underlying94
  have hu3 := Tryd.underlying31
  have HGL := Aside0.mk hGL
  have HR := Aside0.mk hr0_1
  clear hGL hr0_1
  unfold impl_EncodeTable.f at h
  obtain ⟨s, hs, h⟩ := Option.bind_eq_some_iff.mp h
  have HS := Aside0.mk hs
  clear hs
  cases s with
  | false =>
    simp only [Bool.false_eq_true, if_false, Option.some.injEq, Prod.mk.injEq] at h
    obtain ⟨rfl, rfl⟩ := h
    go_enter Tryd.func15, Tryd.ntmps15
    go_wp2_with (first | (go_at_call 61; refine (encode_table_no k _ a0_0 A0_1 c0_1 l0_1 _ (HGL.out.below (below_alloc (Below.refl _ _) _)) (Kd.C_alloc HR.out _) hc0_1 HS.out).mono ?_; rintro e w1 ⟨ge, v, rfl, hge, hb⟩; have HGE := Aside0.mk hge; have HB1 := Aside0.mk (below_step (below_alloc (Below.refl _ _) _) hb); clear hge hb) | (go_at_call 62; refine (codeOf_form ge (-1) v _ HGE.out (by omega) (HGL.out.below HB1.out).1).mono ?_; rintro e w2 ⟨rfl, hb⟩; have HB2 := Aside0.mk (below_step HB1.out hb); clear hb))
    go_ret2
    exact ⟨_, rfl, Kd.R_nil _ _ _ _ _, HB2.out⟩
  | true =>
    simp only [if_true] at h
    by_cases hn : l0_1.length ≤ 20
    · rw [if_pos hn] at h
      obtain ⟨c, hcr, h⟩ := Option.bind_eq_some_iff.mp h
      by_cases hcc : 0 ≤ c ∧ c < 4294967296
      · rw [if_pos hcc] at h
        simp only [Option.some.injEq, Prod.mk.injEq] at h
        obtain ⟨hr1, rfl⟩ := h
        have HCR := Aside0.mk hcr
        have HR1 := Aside0.mk hr1
        obtain ⟨hc0, hc1⟩ := hcc
        clear hcr hr1
        go_enter Tryd.func15, Tryd.ntmps15
        go_wp2_with (first | (go_at_call 61; refine (encode_table_yes k _ a0_0 A0_1 c0_1 l0_1 c _ (Kd.C_alloc HR.out _) hc0_1 HS.out hn HCR.out hc0 hc1).mono ?_; rintro e w1 ⟨gm, rfl, hgm, hbm, hb⟩; have HGM := Aside0.mk hbm; have HB1 := Aside0.mk (below_step (below_alloc (Below.refl _ _) _) hb); clear hbm hb) | (go_at_call 62; refine (codeOf_nil _).mono ?_; rintro e w2 ⟨rfl, rfl⟩))
        go_ret2
        have hl : ((padB (tblOut (l0_1.length : Int) a0_0 l0_1)).take 124 ++ numB c 4).length = 128 := by
          rw [List.length_append, List.length_take, numB_length, padB_length (by rw [tblOut_length]; omega)]; rfl
        refine ⟨_, rfl, ?_, HB1.out⟩
        rw [← HR1.out]
        exact block_R HGM.out (by simp at hgm; omega) hl
      · rw [if_neg hcc] at h
        exact absurd h (by simp)
    · rw [if_neg hn] at h
      exact absurd h (by simp)

end Go.Proofs.YtnkgclcmjojeiaaDoor.PFnExactEncodeTable
