-- Written by a program of this session (after the kit's print) out of the translation. Nothing here is trusted: Lean checks it.
import Derived.Test.YtnkgclcmjojeiaaDoorPFnExactEncodeSuperx0
import Derived.Test.YtnkgclcmjojeiaaDoorPFnExactEncodeSuperx4
import Derived.Test.YtnkgclcmjojeiaaDoorPFnExactEncodeSuperx5
import Derived.Test.YtnkgclcmjojeiaaDoorPFnExactEncodeSuperx6
import Derived.Test.YtnkgclcmjojeiaaDoorPFnExactEncodeSuperx7
import Derived.Test.YtnkgclcmjojeiaaDoorPFnExactEncodeSuperx8
namespace Go.Proofs.YtnkgclcmjojeiaaDoor.PFnExactEncodeSuper
open Go.RowKit Go.Proofs.YtnkgclcmjojeiaaDoorW.PrintWords Go.Proofs.YtnkgclcmjojeiaaDoorW.PrintLast Go.Proofs.YtnkgclcmjojeiaaDoorW.PrintMore
attribute [local go_sem] max2_int min2_int max_two min_two max_three min_three max_four min_four   -- for this text's walks alone
set_option linter.unusedVariables false
set_option linter.unusedSimpArgs false

-- HOLE loop.example/s01595/impl.EncodeSuper rounds glob et161 : loop.example/s01595/impl.encode, loop.example/s01595/impl.codeOf, (loop.example/s01595/impl.superForm).sound
def supOut (n bl gn nx ta : Int) (runs : List S79) : List Int := [4, n % 256] ++ numB bl 2 ++ numB gn 8 ++ numB nx 2 ++ numB ta 2 ++ runs.flatMap fun r => numB r.f0 2 ++ numB r.f1 2
theorem supOut_length (n bl gn nx ta : Int) (runs : List S79) : (supOut n bl gn nx ta runs).length = 16 + 4 * runs.length := by
  unfold supOut
  have : ∀ l : List S79, (l.flatMap fun r => numB r.f0 2 ++ numB r.f1 2).length = 4 * l.length := by
    intro l
    induction l with
    | nil => rfl
    | cons r l ih => rw [List.flatMap_cons, List.length_append, ih]; simp [numB_length]; omega
  rw [List.length_append, this]
  simp [numB_length]
  try omega
theorem supOut_snoc (n bl gn nx ta : Int) (runs : List S79) (i : Nat) (hi : i < runs.length) :
    supOut n bl gn nx ta (runs.take (i + 1)) = supOut n bl gn nx ta (runs.take i) ++ numB (rd_T79 runs (i : Int)).f0 2 ++ numB (rd_T79 runs (i : Int)).f1 2 := by
  have e : rd_T79 runs (i : Int) = runs[i] := by simp [rd_T79, List.getD_eq_getElem?_getD, hi]
  unfold supOut
  rw [e, List.take_succ_eq_append_getElem hi, List.flatMap_append, List.flatMap_singleton]
  simp only [List.append_assoc]
set_option maxHeartbeats 4000000 in
set_option maxRecDepth 100000 in
theorem lay_super (n bl gn nx ta : Int) (A : Option Addr) (c : Nat) (runs : List S79) (w : World) (hr : Kd.C k79 w A runs.length runs) (hc : runs.length ≤ c) (hn : runs.length ≤ 20) :
    Calls Tryd.prog 161 #[.agg #[.int .i64 4, .int .i64 n, .int .i64 bl, .int .i64 gn, .int .i64 nx, .int .i64 ta, .slice A runs.length c]] w fun e w' => e = .returned (.agg (blkArr (padB (supOut n bl gn nx ta runs)))) ∧ Below w.heap.size w w' := by
  have hu1 := Tryd.underlying92
  have hu2 := Tryd.underlying101
  have hu3 := Tryd.underlying45
  have hu4 := Tryd.underlying79
  have HR := Aside0.mk hr
  clear hr
  go_enter Tryd.func161, Tryd.ntmps161
  go_upto_region 1 with (fail)
  have hb0 := blk_alloc (blk_new w (.cells #[.int .i64 4, .int .i64 n, .int .i64 bl, .int .i64 gn, .int .i64 nx, .int .i64 ta, .slice A runs.length c] 101)) (.cells Tryd.zeroCells161 161)
  have hb1 : ((w.alloc (.cells #[.int .i64 4, .int .i64 n, .int .i64 bl, .int .i64 gn, .int .i64 nx, .int .i64 ta, .slice A runs.length c] 101)).alloc (.cells Tryd.zeroCells161 161)).heap[w.heap.size + 1]? = some (.cells (blkArr (List.replicate 128 0)) 161 (0, 0)) := by
    rw [← zero_block]; simpa using blk_new (w.alloc (.cells #[.int .i64 4, .int .i64 n, .int .i64 bl, .int .i64 gn, .int .i64 nx, .int .i64 ta, .slice A runs.length c] 101)) (.cells Tryd.zeroCells161 161)
  have HB0 := Aside0.mk hb0
  have HB1 := Aside0.mk hb1
  have HBW := Aside0.mk (below_alloc (below_alloc (Below.refl w.heap.size w) (.cells #[.int .i64 4, .int .i64 n, .int .i64 bl, .int .i64 gn, .int .i64 nx, .int .i64 ta, .slice A runs.length c] 101)) (.cells Tryd.zeroCells161 161))
  clear hb0 hb1
  generalize hgr : w.heap.size + 1 = gr at HB1 ⊢
  have hgr' : w.heap.size ≤ gr := by omega
  clear hgr
  generalize (w.alloc (.cells #[.int .i64 4, .int .i64 n, .int .i64 bl, .int .i64 gn, .int .i64 nx, .int .i64 ta, .slice A runs.length c] 101)).alloc (.cells Tryd.zeroCells161 161) = w0 at HB0 HB1 HBW ⊢
  have hx0 : w0.cell? ⟨w.heap.size, 0, none⟩ = some (.int .i64 4) := (blk_cell HB0.out 0).trans rfl
  have hx1 : w0.cell? ⟨w.heap.size, 1, none⟩ = some (.int .i64 n) := (blk_cell HB0.out 1).trans rfl
  go_upto_region 2 with (first | (go_at_call 157; refine (begin_calls _ _ _).mono ?_; rintro e w1 ⟨rfl, hb⟩; have HX := Aside0.mk (blk_below HB0.out hb); have HY := Aside0.mk (blk_below HB1.out hb); have HZ := Aside0.mk (below_step HBW.out hb); clear HB0 HB1 HBW hb; have HB0 := HX; have HB1 := HY; have HBW := HZ; clear HX HY HZ) | (refine wpList_store_mid rfl 161 (.tmp 3) (.tmp 8) rfl w1.heap.size 0 (blkArr (padB [4, n % 256])) rfl rfl ?ht ?hi (blkArr_one _) ?_; (case ht => exact there_of_block (blk_new w1 _) (by rw [zero_block]; simp [blkArr_size, padB])); (case hi => rw [block_info]; simp [blkArr_size, padB])))
  try simp only [Act.put]
  have HL := Aside0.mk (Lay.begin (bs := padB [4, n % 256]) HB0.out HB1.out HBW.out (Nat.le_refl _) hgr' (by simp [padB]))
  clear HB0 HB1 HBW hx0 hx1
  generalize (w1.alloc (.cells Tryd.zeroCells161 161)).setCells w1.heap.size 0 (blkArr (padB [4, n % 256])).toList = w2 at HL ⊢
  generalize w1.heap.size = gm at HL ⊢
  have hx2 : w2.cell? ⟨w.heap.size, 2, none⟩ = some (.int .i64 bl) := (blk_cell HL.out.box 2).trans rfl
  go_still_tail 4, (by kernel_rfl)
  show wpList _ _ _ _ _ w2.drew
  have HLd := Aside0.mk (HL.out.step (below_drew1 (Below.refl _ _)))
  clear HL hx2
  have hPq : ([4, n % 256]).length = 2 := by simp [numB_length]
  go_upto_region 3 with (go_at_call 105; refine (number_calls gm 2 126 126 (padB ([4, n % 256])) 161 bl 2 w _ HLd.out.blk (by omega) (by rw [padB_length (by simp [numB_length])]; omega) (by rw [padB_length (by simp [numB_length])]; omega) (by omega) HLd.out.below HLd.out.lm).mono ?_; rintro e wq0 ⟨rfl, e1, e2, _, e4⟩; have HL := Aside0.mk (Lay.num HLd.out (m := 2) (v := bl) (P := [4, n % 256]) (by rw [hPq]; omega) (by rw [hPq]; exact e1) e2 e4); clear HLd e1 e2 e4)
  clear hPq
  have hx2 : wq0.cell? ⟨w.heap.size, 3, none⟩ = some (.int .i64 gn) := (blk_cell HL.out.box 3).trans rfl
  go_still_tail 4, (by kernel_rfl)
  show wpList _ _ _ _ _ wq0.drew
  have HLd := Aside0.mk (HL.out.step (below_drew1 (Below.refl _ _)))
  clear HL hx2
  have hPq : ([4, n % 256] ++ numB bl 2).length = 4 := by simp [numB_length]
  go_upto_region 4 with (go_at_call 105; refine (number_calls gm 4 124 124 (padB ([4, n % 256] ++ numB bl 2)) 161 gn 8 w _ HLd.out.blk (by omega) (by rw [padB_length (by simp [numB_length])]; omega) (by rw [padB_length (by simp [numB_length])]; omega) (by omega) HLd.out.below HLd.out.lm).mono ?_; rintro e wq1 ⟨rfl, e1, e2, _, e4⟩; have HL := Aside0.mk (Lay.num HLd.out (m := 8) (v := gn) (P := [4, n % 256] ++ numB bl 2) (by rw [hPq]; omega) (by rw [hPq]; exact e1) e2 e4); clear HLd e1 e2 e4)
  clear hPq
  have hx2 : wq1.cell? ⟨w.heap.size, 4, none⟩ = some (.int .i64 nx) := (blk_cell HL.out.box 4).trans rfl
  go_still_tail 4, (by kernel_rfl)
  show wpList _ _ _ _ _ wq1.drew
  have HLd := Aside0.mk (HL.out.step (below_drew1 (Below.refl _ _)))
  clear HL hx2
  have hPq : ([4, n % 256] ++ numB bl 2 ++ numB gn 8).length = 12 := by simp [numB_length]
  go_upto_region 5 with (go_at_call 105; refine (number_calls gm 12 116 116 (padB ([4, n % 256] ++ numB bl 2 ++ numB gn 8)) 161 nx 2 w _ HLd.out.blk (by omega) (by rw [padB_length (by simp [numB_length])]; omega) (by rw [padB_length (by simp [numB_length])]; omega) (by omega) HLd.out.below HLd.out.lm).mono ?_; rintro e wq2 ⟨rfl, e1, e2, _, e4⟩; have HL := Aside0.mk (Lay.num HLd.out (m := 2) (v := nx) (P := [4, n % 256] ++ numB bl 2 ++ numB gn 8) (by rw [hPq]; omega) (by rw [hPq]; exact e1) e2 e4); clear HLd e1 e2 e4)
  clear hPq
  have hx2 : wq2.cell? ⟨w.heap.size, 5, none⟩ = some (.int .i64 ta) := (blk_cell HL.out.box 5).trans rfl
  go_still_tail 4, (by kernel_rfl)
  show wpList _ _ _ _ _ wq2.drew
  have HLd := Aside0.mk (HL.out.step (below_drew1 (Below.refl _ _)))
  clear HL hx2
  have hPq : ([4, n % 256] ++ numB bl 2 ++ numB gn 8 ++ numB nx 2).length = 14 := by simp [numB_length]
  go_upto_region 6 with (go_at_call 105; refine (number_calls gm 14 114 114 (padB ([4, n % 256] ++ numB bl 2 ++ numB gn 8 ++ numB nx 2)) 161 ta 2 w _ HLd.out.blk (by omega) (by rw [padB_length (by simp [numB_length])]; omega) (by rw [padB_length (by simp [numB_length])]; omega) (by omega) HLd.out.below HLd.out.lm).mono ?_; rintro e wq3 ⟨rfl, e1, e2, _, e4⟩; have HL := Aside0.mk (Lay.num HLd.out (m := 2) (v := ta) (P := [4, n % 256] ++ numB bl 2 ++ numB gn 8 ++ numB nx 2) (by rw [hPq]; omega) (by rw [hPq]; exact e1) e2 e4); clear HLd e1 e2 e4)
  clear hPq
  have hx3 : wq3.cell? ⟨w.heap.size, 6, none⟩ = some (.slice A runs.length c) := (blk_cell HL.out.box 6).trans rfl
  go_upto_block 0 with (fail)
  go_wp2_with fail
  clear hx3
  go_loopg [33] runs.length (fun kq v18 wr => ∃ i : Nat, v18 = .int .i64 i ∧ kq + i = runs.length ∧ Aside0 (Lay w w.heap.size gr gm #[.int .i64 4, .int .i64 n, .int .i64 bl, .int .i64 gn, .int .i64 nx, .int .i64 ta, .slice A runs.length c] 101 (padB (supOut n bl gn nx ta (runs.take i))) wr))
  case atStart => exact ⟨0, rfl, by omega, by simpa [supOut] using HL⟩
  case round =>
    clear HL
    obtain ⟨i, rfl, hi, HL⟩ := hrel
    have HI := Aside0.mk hi
    by_cases hlt : i < runs.length
    · obtain ⟨ad, rfl, hx0, hx1⟩ := at_T79 (Kd.C_below HR.out HL.out.below) i (by omega) (by omega)
      have hx0' : wr.cell? (ad.add (i * 2)) = some (.int .i64 (rd_T79 runs i).f0) := by simpa using hx0
      have hx1' : wr.cell? ⟨(ad.add (i * 2)).block, (ad.add (i * 2)).off + 1, none⟩ = some (.int .i64 (rd_T79 runs i).f1) := by simpa using hx1
      clear hx0 hx1 hi
      have hil : (runs.take i).length = i := by rw [List.length_take]; omega
      have HIL := Aside0.mk hil
      clear hil
      go_upto_region 9 with (fail)
      have hg5 : wr.heap.size ≠ gm := Nat.ne_of_gt (blk_lt HL.out.blk)
      have HX := Aside0.mk (blk_new wr (.cells #[.int .i64 (rd_T79 runs i).f0, .int .i64 (rd_T79 runs i).f1] 79))
      have HL2 := Aside0.mk (HL.out.step (below_alloc (Below.refl _ _) (.cells #[.int .i64 (rd_T79 runs i).f0, .int .i64 (rd_T79 runs i).f1] 79)))
      clear HL hx0' hx1'
      have HL := HL2
      clear HL2
      generalize wr.alloc (.cells #[.int .i64 (rd_T79 runs i).f0, .int .i64 (rd_T79 runs i).f1] 79) = w4 at HL HX ⊢
      generalize wr.heap.size = g5 at hg5 HX ⊢
      have hy : w4.cell? ⟨g5, 0, none⟩ = some (.int .i64 (rd_T79 runs i).f0) := (blk_cell HX.out 0).trans rfl
      have hw1 : IntKind.i64.wrap (4 * (i : Int)) = 4 * (i : Int) := by rw [IntKind.wrap_i64]; omega
      have hw2 : IntKind.i64.wrap (16 + 4 * (i : Int)) = 16 + 4 * (i : Int) := by rw [IntKind.wrap_i64]; omega
      have hw3 : 0 ≤ 16 + 4 * (i : Int) := by omega
      have hw4 : 16 + 4 * (i : Int) ≤ 128 := by omega
      have hw5 : (16 + 4 * (i : Int)).toNat = 16 + 4 * i := by omega
      go_still_tail 6, (by kernel_rfl)
      show wpList _ _ _ _ _ w4.drew
      have HLd := Aside0.mk (HL.out.step (below_drew1 (Below.refl _ _)))
      have HXd := Aside0.mk (blk_drew HX.out)
      clear HL HX hy hw1 hw2 hw3 hw4 hw5
      have hPl : (supOut n bl gn nx ta (runs.take i)).length = 16 + 4 * i := by simp [supOut_length, numB_length, HIL.out]; try omega
      have hP2 : (padB (supOut n bl gn nx ta (runs.take i))).length = 128 := padB_length (by omega)
      have HPl := Aside0.mk hPl
      have HP2 := Aside0.mk hP2
      clear hPl hP2
      go_upto_region 10 with (go_at_call 105; refine (number_calls gm (16 + 4 * i) (128 - (16 + 4 * i)) (128 - (16 + 4 * i)) (padB (supOut n bl gn nx ta (runs.take i))) 161 (rd_T79 runs (i : Int)).f0 2 _ _ HLd.out.blk (by omega) (by rw [HP2.out]; omega) (by rw [HP2.out]; omega) (by omega) HLd.out.below HLd.out.lm).mono ?_; rintro e w5 ⟨rfl, e1, e2, _, e4⟩; have HX := Aside0.mk ((e2 g5 (blk_lt HXd.out) hg5).trans HXd.out); have HL := Aside0.mk (Lay.num HLd.out (m := 2) (v := (rd_T79 runs (i : Int)).f0) (P := supOut n bl gn nx ta (runs.take i)) (by rw [HPl.out]; omega) (by rw [HPl.out]; exact e1) e2 e4); clear HLd HXd e1 e2 e4)
      clear HPl HP2
      have hy : w5.cell? ⟨g5, 1, none⟩ = some (.int .i64 (rd_T79 runs i).f1) := (blk_cell HX.out 1).trans rfl
      have hw1 : IntKind.i64.wrap (4 * (i : Int)) = 4 * (i : Int) := by rw [IntKind.wrap_i64]; omega
      have hw2 : IntKind.i64.wrap (18 + 4 * (i : Int)) = 18 + 4 * (i : Int) := by rw [IntKind.wrap_i64]; omega
      have hw3 : 0 ≤ 18 + 4 * (i : Int) := by omega
      have hw4 : 18 + 4 * (i : Int) ≤ 128 := by omega
      have hw5 : (18 + 4 * (i : Int)).toNat = 18 + 4 * i := by omega
      go_still_tail 6, (by kernel_rfl)
      show wpList _ _ _ _ _ w5.drew
      have HLd := Aside0.mk (HL.out.step (below_drew1 (Below.refl _ _)))
      have HXd := Aside0.mk (blk_drew HX.out)
      clear HL HX hy hw1 hw2 hw3 hw4 hw5
      have hPl : (supOut n bl gn nx ta (runs.take i) ++ numB (rd_T79 runs (i : Int)).f0 2).length = 18 + 4 * i := by simp [supOut_length, numB_length, HIL.out]; try omega
      have hP2 : (padB (supOut n bl gn nx ta (runs.take i) ++ numB (rd_T79 runs (i : Int)).f0 2)).length = 128 := padB_length (by omega)
      have HPl := Aside0.mk hPl
      have HP2 := Aside0.mk hP2
      clear hPl hP2
      go_upto_region 11 with (go_at_call 105; refine (number_calls gm (18 + 4 * i) (128 - (18 + 4 * i)) (128 - (18 + 4 * i)) (padB (supOut n bl gn nx ta (runs.take i) ++ numB (rd_T79 runs (i : Int)).f0 2)) 161 (rd_T79 runs (i : Int)).f1 2 _ _ HLd.out.blk (by omega) (by rw [HP2.out]; omega) (by rw [HP2.out]; omega) (by omega) HLd.out.below HLd.out.lm).mono ?_; rintro e w6 ⟨rfl, e1, e2, _, e4⟩; have HX := Aside0.mk ((e2 g5 (blk_lt HXd.out) hg5).trans HXd.out); have HL := Aside0.mk (Lay.num HLd.out (m := 2) (v := (rd_T79 runs (i : Int)).f1) (P := supOut n bl gn nx ta (runs.take i) ++ numB (rd_T79 runs (i : Int)).f0 2) (by rw [HPl.out]; omega) (by rw [HPl.out]; exact e1) e2 e4); clear HLd HXd e1 e2 e4)
      clear HPl HP2
      rw [← supOut_snoc n bl gn nx ta runs i hlt] at HL
      go_wp2
      go_roundg (gk - 1)
      case measure => have := HI.out; omega
      case rel => exact ⟨i + 1, by go_num, by have := HI.out; omega, HL⟩
    · have hie : i = runs.length := by have := HI.out; omega
      subst hie
      rw [List.take_length] at HL
      clear HI hi
      have hPl : (padB (supOut n bl gn nx ta runs)).length = 128 := padB_length (by rw [supOut_length]; omega)
      have HPl := Aside0.mk hPl
      clear hPl
      go_upto_region 12 with (fail)
      go_wp2_with (first | (refine wpList_load_mid rfl 161 (.tmp 3) rfl gm 0 rfl (encs (Value.int .u8) (padB (supOut n bl gn nx ta runs))) _ (range_of_block HL.out.blk) Tryd.underlying161 rfl (by rw [block_info]; simp [encs, HPl.out]) ?_) | (refine wpList_store_mid rfl 161 (.tmp 2) (.tmp 53) rfl gr 0 (blkArr (padB (supOut n bl gn nx ta runs))) rfl rfl (there_of_block HL.out.res (by simp [blkArr_size, HPl.out])) (by rw [block_info]; simp [blkArr_size, HPl.out]) (blkArr_one _) ?_))
      obtain ⟨hb2, hB2⟩ := HL.out.done HPl.out
      have hl := load_block hb2 HPl.out
      refine bodyPost_ret (v := .agg (blkArr (padB (supOut n bl gn nx ta runs)))) ?_ rfl ⟨rfl, hB2⟩
      simp only [results, Tryd.results161]
      simp [Sem.run_bind, Result.andThen, Act.put, asAddr, hl]
theorem sup_mSound (v : Value) (w : World) : (Go.method 362 101 v "loop.example/s01595/impl.sound").run Tryd.prog w = .ok (162, v) w := by kernel_rfl
theorem sup_mLay (v : Value) (w : World) : (Go.method 362 101 v "loop.example/s01595/impl.lay").run Tryd.prog w = .ok (161, v) w := by kernel_rfl
set_option maxHeartbeats 4000000 in
set_option maxRecDepth 100000 in
theorem encode_super_no (k : Nat) (n bl gn nx ta : Int) (A : Option Addr) (c : Nat) (runs : List S79) (w : World) (hGL : Globals w) (hr : Kd.C k79 w A runs.length runs) (hc : runs.length ≤ c) (hs : impl_superForm_sound.f k 4 n bl gn nx ta runs = some false) :
    Calls Tryd.prog 61 #[.iface 101 (.agg #[.int .i64 4, .int .i64 n, .int .i64 bl, .int .i64 gn, .int .i64 nx, .int .i64 ta, .slice A runs.length c])] w fun e w' => ∃ ge v, e = .returned (.tuple #[.slice none 0 0, .iface 157 (.pointer (some ⟨ge, 0, none⟩))]) ∧ w'.heap[ge]? = some (.cells #[.int .i64 (-1), v] 159 (0, 0)) ∧ Below w.heap.size w w' := by
  have hm1 := sup_mSound
  have HGL := Aside0.mk hGL
  have HR := Aside0.mk hr
  have HS := Aside0.mk hs
  clear hGL hr hs
  have hu := Tryd.underlying159
  go_enter Tryd.func61, Tryd.ntmps61
  go_upto_region 2 with (go_at_call 162; refine (impl_superForm_sound.calls k 4 n bl gn nx ta A c runs false _ HR.out hc HS.out).mono ?_; rintro e w1 ⟨rfl, hb⟩; have HG := Aside0.mk (HGL.out.below hb); have HB := Aside0.mk hb; clear hb)
  obtain ⟨h1, a0, a1, a2, h2, h3⟩ := HG.out
  have h2' : w1.drew.cell? ⟨0, 0, none⟩ = some (.iface 227 (.pointer (some a0))) := by simpa using h2
  clear h1 h3
  go_region
  go_wp2
  go_ret2
  refine ⟨w1.heap.size, .iface 227 (.pointer (some a0)), rfl, ?_, ?_⟩
  · exact blk_new w1.drew _
  · exact below_alloc (below_drew1 HB.out) _
set_option maxHeartbeats 4000000 in
set_option maxRecDepth 100000 in
theorem encode_super_yes (k : Nat) (n bl gn nx ta : Int) (A : Option Addr) (c : Nat) (runs : List S79) (cr : Int) (w : World) (hr : Kd.C k79 w A runs.length runs) (hc : runs.length ≤ c) (hs : impl_superForm_sound.f k 4 n bl gn nx ta runs = some true) (hn : runs.length ≤ 20) (hcr : impl_Crc32.f k ((padB (supOut n bl gn nx ta runs)).take 124) = some cr) (hcr0 : 0 ≤ cr) (hcr1 : cr < 4294967296) :
    Calls Tryd.prog 61 #[.iface 101 (.agg #[.int .i64 4, .int .i64 n, .int .i64 bl, .int .i64 gn, .int .i64 nx, .int .i64 ta, .slice A runs.length c])] w fun e w' => ∃ gm, e = .returned (.tuple #[.slice (some ⟨gm, 0, none⟩) 128 128, .nilIface]) ∧ w.heap.size ≤ gm ∧ w'.heap[gm]? = some (.cells (blkArr ((padB (supOut n bl gn nx ta runs)).take 124 ++ numB cr 4)) 161 (0, 0)) ∧ Below w.heap.size w w' := by
  have hm1 := sup_mSound
  have hm2 := sup_mLay
  have HR := Aside0.mk hr
  have HS := Aside0.mk hs
  have HCR := Aside0.mk hcr
  have hP : (padB (supOut n bl gn nx ta runs)).length = 128 := padB_length (by rw [supOut_length]; omega)
  have HP := Aside0.mk hP
  clear hr hs hcr hP
  go_enter Tryd.func61, Tryd.ntmps61
  go_upto_region 4 with (first | (go_at_call 162; refine (impl_superForm_sound.calls k 4 n bl gn nx ta A c runs true _ HR.out hc HS.out).mono ?_; rintro e w1 ⟨rfl, hb⟩; have HB := Aside0.mk hb; clear hb) | (go_at_call 161; refine (lay_super n bl gn nx ta A c runs _ (Kd.C_below HR.out HB.out) hc hn).mono ?_; rintro e w2 ⟨rfl, hb⟩; have HB2 := Aside0.mk (below_step HB.out hb); clear hb) | (refine wpList_store_mid rfl 161 (.tmp 4) (.tmp 13) rfl w2.heap.size 0 (blkArr (padB (supOut n bl gn nx ta runs))) rfl rfl (there_of_blk (bs := List.replicate 128 0) (by rw [← zero_block]; exact blk_new w2 _) (by simp [blkArr_size, HP.out])) (by rw [block_info]; simp [blkArr_size, HP.out]) (blkArr_one _) ?_))
  try simp only [Act.put]
  have hM3 := setCells_block (g := w2.heap.size) (bs := List.replicate 128 0) (bs' := padB (supOut n bl gn nx ta runs)) (w := w2.alloc (.cells Tryd.zeroCells161 161)) (by rw [← zero_block]; exact blk_new w2 _) (by simp [HP.out])
  have hB3 := below_setCells (g := w2.heap.size) (below_size HB2.out) (blkArr (padB (supOut n bl gn nx ta runs))).toList 0 (below_alloc HB2.out (.cells Tryd.zeroCells161 161))
  have hgm := below_size HB2.out
  have HMd := Aside0.mk (blk_drew hM3)
  have HBd := Aside0.mk (below_drew1 hB3)
  clear hM3 hB3 HB HB2
  have hPB := HP.out
  clear HP
  generalize hPD : padB (supOut n bl gn nx ta runs) = PB at HMd HBd hPB HCR ⊢
  have HPD := Aside0.mk hPD
  clear hPD
  generalize ((w2.alloc (.cells Tryd.zeroCells161 161)).setCells w2.heap.size 0 (blkArr PB).toList) = w3 at HMd HBd ⊢
  generalize w2.heap.size = gm at HMd HBd hgm ⊢
  have hcc := impl_Crc32.calls k (some ⟨gm, 0, none⟩) 128 (PB.take 124) cr w3.drew (C_block HMd.out (by omega) (by omega)) (by rw [List.length_take]; omega) HCR.out
  rw [show (PB.take 124).length = 124 by rw [List.length_take]; omega] at hcc
  have HCC := Aside0.mk hcc
  clear hcc
  refine start_ (n := 5) (S := fun w' => True) (ds := []) #[false, false, false, false, false] (by kernel_rfl) rfl rfl trivial (fun hHeld => ?_)
  refine pure_ (i := 0) (N := some 14) (v := ?_) (a' := ?_) #[true, false, false, false, false] rfl rfl (by kernel_rfl) (fun _ _ _ h => h) (Or.inl ⟨by rfl, ?_⟩) ?_ ?_
  rotate_left
  · intro w'
    go_simp
    with_reducible rfl
  rotate_left
  · simp only [Act.put, List.setIfInBounds_toArray, List.set_cons_zero, List.set_cons_succ, i64_w, i32_w]
    rfl
  refine pure_ (i := 1) (N := some 15) (v := ?_) (a' := ?_) #[true, true, false, false, false] rfl rfl (by kernel_rfl) (fun _ _ _ h => h) (Or.inl ⟨by rfl, ?_⟩) ?_ ?_
  rotate_left
  · intro w'
    go_simp
    with_reducible rfl
  rotate_left
  · simp only [Act.put, List.setIfInBounds_toArray, List.set_cons_zero, List.set_cons_succ, i64_w, i32_w]
    rfl
  refine one_ (i := 2) (N := some 16) #[true, true, true, false, false] rfl rfl (by kernel_rfl) (by decide) (fun K hK => ?_)
  refine goes_ Tryd.func106 (by kernel_rfl) rfl #[.slice (some ⟨gm, 0, none⟩) 124 128] (by rfl) rfl rfl (by simp only [List.map_toArray, List.map_cons, List.map_nil]; rfl) ?_
  with_reducible refine (HCC.out).mono ?_
  rintro e w4 ⟨rfl, hd⟩
  refine ⟨_, rfl, ?_⟩
  have HMe := Aside0.mk (blk_below HMd.out hd.below)
  have HBe := Aside0.mk (below_step HBd.out hd.below)
  clear hd HMd HBd
  refine hK.out _ _ trivial (fun hHeld => ?_)
  clear hK K
  refine norm_ (a' := ?_) ?_ ?_
  rotate_left
  · show Act.put _ (some 16) _ = _
    simp only [Act.put, List.setIfInBounds_toArray, List.set_cons_zero, List.set_cons_succ, i64_w, i32_w]
    rfl
  refine pure_ (i := 3) (N := some 17) (v := ?_) (a' := ?_) #[true, true, true, true, false] rfl rfl (by kernel_rfl) (fun _ _ _ h => h) (Or.inl ⟨by rfl, ?_⟩) ?_ ?_
  rotate_left
  · intro w'
    go_simp
    with_reducible rfl
  rotate_left
  · simp only [Act.put, List.setIfInBounds_toArray, List.set_cons_zero, List.set_cons_succ, i64_w, i32_w]
    rfl
  refine one_ (i := 4) (N := some 18) #[true, true, true, true, true] rfl rfl (by kernel_rfl) (by decide) (fun K hK => ?_)
  refine goes_ Tryd.func105 (by kernel_rfl) rfl #[.slice (some ⟨gm, 124, none⟩) 4 4, .int .i64 (wrap64 cr), .int .i64 4] (by rfl) rfl rfl (by simp only [List.map_toArray, List.map_cons, List.map_nil]; rfl) ?_
  with_reducible refine (number_at 4 gm 124 4 4 PB 161 (wrap64 cr) 4 rfl w _ HMe.out (by omega) (by omega) (by omega) (by omega) HBe.out hgm).mono ?_
  rintro e w5 ⟨rfl, e1, _, _, e4⟩
  refine ⟨_, rfl, ?_⟩
  have HMf := Aside0.mk e1
  have HBf := Aside0.mk e4
  clear e1 e4 HMe HBe
  refine hK.out _ _ trivial (fun hHeld => ?_)
  clear hK K
  refine norm_ (a' := ?_) ?_ ?_
  rotate_left
  · show Act.put _ (some 18) _ = _
    simp only [Act.put, List.setIfInBounds_toArray, List.set_cons_zero, List.set_cons_succ, i64_w, i32_w]
    rfl
  refine done_ (by kernel_rfl) ?_
  go_wp2
  go_ret2
  refine ⟨gm, rfl, hgm, ?_, HBf.out⟩
  have e : wrap64 cr = cr := by unfold wrap64; omega
  rw [HMf.out, e, HPD.out]
  congr 2
  show blkArr _ = blkArr _
  congr 1
  unfold splice
  rw [List.drop_of_length_le (by rw [numB_length]; omega), List.append_nil]
def impl_EncodeSuper.f (k : Nat) (bl gn nx ta : Int) (runs : List S79) : Option (List Int × Int) :=
  (impl_superForm_sound.f k 4 (runs.length : Int) bl gn nx ta runs).bind fun s => if s = true then (if runs.length ≤ 20 then (impl_Crc32.f k ((padB (supOut (runs.length : Int) bl gn nx ta runs)).take 124)).bind fun c => if 0 ≤ c ∧ c < 4294967296 then some ((padB (supOut (runs.length : Int) bl gn nx ta runs)).take 124 ++ numB c 4, 0) else none else none) else some ([], 5)
theorem impl_EncodeSuper.mono : ∀ a0 a1 a2 a3 a4 k, LeO (impl_EncodeSuper.f k a0 a1 a2 a3 a4) (impl_EncodeSuper.f (k + 1) a0 a1 a2 a3 a4) := by
  intro a0 a1 a2 a3 a4 k
  unfold impl_EncodeSuper.f
  repeat' first
    | (with_reducible exact impl_superForm_sound.mono _ _ _ _ _ _ _ _)
    | (with_reducible exact impl_Crc32.mono _ _)
    | (with_reducible exact LeO.refl _)
    | (with_reducible exact LeO.none _)
    | (with_reducible refine LeO.ite ?_ ?_)
    | (with_reducible refine LeO.bind ?_ (fun _ => ?_))
set_option maxHeartbeats 4000000 in
set_option maxRecDepth 100000 in
theorem impl_EncodeSuper.calls (k : Nat) (a0_0 a0_1 a0_2 a0_3 : Int) (A0_1 : Option Addr) (c0_1 : Nat) (l0_1 : List S79) (r1 : List Int) (r2 : Int) (w : World) (hGL : Globals w) (hr0_1 : Kd.C k79 w A0_1 l0_1.length l0_1) (hc0_1 : l0_1.length ≤ c0_1) (h : impl_EncodeSuper.f k a0_0 a0_1 a0_2 a0_3 l0_1 = some (r1, r2)) :
    Calls Tryd.prog 24 #[.agg #[.int .i64 a0_0, .int .i64 a0_1, .int .i64 a0_2, .int .i64 a0_3, .slice A0_1 l0_1.length c0_1]] w fun e w' => ∃ v0_ : Value, e = .returned (.tuple #[v0_, .int .i64 r2]) ∧ Kd.R (Kd.int .u8) 161 w' w.heap.size (fun _ => True) v0_ r1 ∧ Below w.heap.size w w' := by
  have hu1 := Tryd.underlying92
  have hu2 := Tryd.underlying101
  have hu3 := Tryd.underlying45
  have HGL := Aside0.mk hGL
  have HR := Aside0.mk hr0_1
  clear hGL hr0_1
  unfold impl_EncodeSuper.f at h
  obtain ⟨s, hs, h⟩ := Option.bind_eq_some_iff.mp h
  have HS := Aside0.mk hs
  clear hs
  cases s with
  | false =>
    simp only [Bool.false_eq_true, if_false, Option.some.injEq, Prod.mk.injEq] at h
    obtain ⟨rfl, rfl⟩ := h
    go_enter Tryd.func24, Tryd.ntmps24
    go_wp2_with (first | (go_at_call 61; refine (encode_super_no k _ a0_0 a0_1 a0_2 a0_3 A0_1 c0_1 l0_1 _ (HGL.out.below (below_alloc (Below.refl _ _) _)) (Kd.C_alloc HR.out _) hc0_1 HS.out).mono ?_; rintro e w1 ⟨ge, v, rfl, hge, hb⟩; have HGE := Aside0.mk hge; have HB1 := Aside0.mk (below_step (below_alloc (Below.refl _ _) _) hb); clear hge hb) | (go_at_call 62; refine (codeOf_form ge (-1) v _ HGE.out (by omega) (HGL.out.below HB1.out).1).mono ?_; rintro e w2 ⟨rfl, hb⟩; have HB2 := Aside0.mk (below_step HB1.out hb); clear hb))
    go_ret2
    exact ⟨_, rfl, Kd.R_nil _ _ _ _ _, HB2.out⟩
  | true =>
    simp only [if_true] at h
    by_cases hn : l0_1.length ≤ 20
    · rw [if_pos hn] at h
      obtain ⟨c, hcr, h⟩ := Option.bind_eq_some_iff.mp h
      by_cases hcc : 0 ≤ c ∧ c < 4294967296
      · rw [if_pos hcc] at h
        simp only [Option.some.injEq, Prod.mk.injEq] at h
        obtain ⟨hr1, rfl⟩ := h
        have HCR := Aside0.mk hcr
        have HR1 := Aside0.mk hr1
        obtain ⟨hc0, hc1⟩ := hcc
        clear hcr hr1
        go_enter Tryd.func24, Tryd.ntmps24
        go_wp2_with (first | (go_at_call 61; refine (encode_super_yes k _ a0_0 a0_1 a0_2 a0_3 A0_1 c0_1 l0_1 c _ (Kd.C_alloc HR.out _) hc0_1 HS.out hn HCR.out hc0 hc1).mono ?_; rintro e w1 ⟨gm, rfl, hgm, hbm, hb⟩; have HGM := Aside0.mk hbm; have HB1 := Aside0.mk (below_step (below_alloc (Below.refl _ _) _) hb); clear hbm hb) | (go_at_call 62; refine (codeOf_nil _).mono ?_; rintro e w2 ⟨rfl, rfl⟩))
        go_ret2
        have hl : ((padB (supOut (l0_1.length : Int) a0_0 a0_1 a0_2 a0_3 l0_1)).take 124 ++ numB c 4).length = 128 := by
          rw [List.length_append, List.length_take, numB_length, padB_length (by rw [supOut_length]; omega)]; rfl
        refine ⟨_, rfl, ?_, HB1.out⟩
        rw [← HR1.out]
        exact block_R HGM.out (by simp at hgm; omega) hl
      · rw [if_neg hcc] at h
        exact absurd h (by simp)
    · rw [if_neg hn] at h
      exact absurd h (by simp)

end Go.Proofs.YtnkgclcmjojeiaaDoor.PFnExactEncodeSuper
