-- Written by a program of this session (after the kit's print) out of the translation. Nothing here is trusted: Lean checks it.
import Derived.Test.YtnkgclcmjojeiaaDoorPFnExactEncodeTablex0
import Derived.Test.YtnkgclcmjojeiaaDoorPFnExactEncodeTablex3
namespace Go.Proofs.YtnkgclcmjojeiaaDoor.PFnExactEncodeTable
open Go.RowKit Go.Proofs.YtnkgclcmjojeiaaDoorW.PrintWords Go.Proofs.YtnkgclcmjojeiaaDoorW.PrintLast Go.Proofs.YtnkgclcmjojeiaaDoorW.PrintMore
attribute [local go_sem] max2_int min2_int max_two min_two max_three min_three max_four min_four   -- for this text's walks alone
set_option linter.unusedVariables false
set_option linter.unusedSimpArgs false

-- HOLE loop.example/s01595/impl.encode inner : loop.example/s01595/impl.number, loop.example/s01595/impl.Crc32
def blkArr (bs : List Int) : Array Value := (encs (Value.int .u8) bs).toArray
theorem blkArr_size (bs : List Int) : (blkArr bs).size = bs.length := by simp [blkArr, encs]
theorem blkArr_one (bs : List Int) : (blkArr bs).all (·.oneCell') = true := all_oneCell_toArray (fun v hv => by simp only [encs, List.mem_map] at hv; obtain ⟨x, _, rfl⟩ := hv; rfl)
theorem zero_block : Tryd.zeroCells161 = blkArr (List.replicate 128 0) := by kernel_rfl
theorem block_info : (Tryd.prog.info? 161).map (·.size) = some 128 := by kernel_rfl
/-- A block's bytes: what was laid, and noughts. -/
def padB (P : List Int) : List Int := P ++ List.replicate (128 - P.length) 0
theorem padB_length {P : List Int} (h : P.length ≤ 128) : (padB P).length = 128 := by simp [padB]; omega
theorem padB_splice {P cs : List Int} (h : P.length + cs.length ≤ 128) : splice (padB P) P.length cs = padB (P ++ cs) := by
  unfold splice padB
  rw [List.take_left, List.drop_append, List.drop_of_length_le (by omega), List.nil_append, List.drop_replicate, List.length_append, List.append_assoc]
  congr 3
  omega
theorem begin_cells (a b : Int) : (Tryd.zeroCells161.setIfInBounds 0 (.int .u8 a)).setIfInBounds 1 (.int .u8 b) = blkArr (padB [a, b]) := by
  rw [zero_block]
  simp [blkArr, encs, List.replicate_succ, padB]
theorem below_setCells {B g : Nat} {w0 : World} (hg : B ≤ g) : ∀ (vs : List Value) (o : Nat) {W : World}, Below B w0 W → Below B w0 (W.setCells g o vs)
  | [], _, _, h => h
  | v :: r, o, W, h => below_setCells hg r (o + 1) (h.setCell hg v)
theorem there_of_block {w : World} {g n : Nat} {cs : Array Value} {t : Nat} (hb : w.heap[g]? = some (.cells cs t (0, 0))) (hn : n ≤ cs.size) : w.there g 0 n := fun j hj => by
  refine ⟨?_, blk_frozen hb _⟩
  rw [blk_cell hb (0 + j), Array.getElem?_eq_getElem (by omega)]
  rfl
theorem range_of_block {w : World} {g : Nat} {bs : List Int} {t : Nat} (hb : w.heap[g]? = some (.cells (blkArr bs) t (0, 0))) : w.rangeAt g 0 (encs (Value.int .u8) bs) := fun j v hv => by
  rw [blk_cell hb (0 + j)]
  simpa [blkArr] using hv
theorem setCells_block {w : World} {g : Nat} {bs bs' : List Int} {t : Nat} (hb : w.heap[g]? = some (.cells (blkArr bs) t (0, 0))) (hl : bs'.length = bs.length) : (w.setCells g 0 (blkArr bs').toList).heap[g]? = some (.cells (blkArr bs') t (0, 0)) := by
  obtain ⟨cur, h1, h2, h3⟩ := setCells_row (blkArr bs').toList 0 w _ hb (by simp [blkArr_size, hl])
  rw [h1]
  congr 2
  apply Array.ext'
  rw [h3]
  simp [blkArr, encs, hl]
set_option maxHeartbeats 2000000 in
set_option maxRecDepth 100000 in
/-- header.begin. -/
theorem begin_calls (k n : Int) (w : World) : Calls Tryd.prog 157 #[.agg #[.int .i64 k, .int .i64 n]] w fun e w' => e = .returned (.agg (blkArr (padB [k % 256, n % 256]))) ∧ Below w.heap.size w w' := by
  have hu := Tryd.underlying92
  go_enter Tryd.func157, Tryd.ntmps157
  go_upto_region 1 with (fail)
  have hbz : ((w.alloc (.cells #[.int .i64 k, .int .i64 n] 92)).alloc (.cells Tryd.zeroCells161 161)).heap[w.heap.size + 1]? = some (.cells (blkArr (List.replicate 128 0)) 161 (0, 0)) := by rw [← zero_block]; simpa using blk_new (w.alloc (.cells #[.int .i64 k, .int .i64 n] 92)) (.cells Tryd.zeroCells161 161)
  have HBZ := Aside0.mk hbz
  have HBW := Aside0.mk (below_alloc (below_alloc (Below.refl w.heap.size w) (.cells #[.int .i64 k, .int .i64 n] 92)) (.cells Tryd.zeroCells161 161))
  have hc := begin_cells
  clear hbz
  go_wp2_with (refine wpList_store_mid rfl 161 (.tmp 2) (.tmp 9) rfl (w.heap.size + 1) 0 (blkArr (padB [k % 256, n % 256])) rfl ?hy ?ht ?hi (blkArr_one _) ?hk)
  case ht => exact there_of_block HBZ.out (by simp [blkArr_size, padB])
  case hi => rw [block_info]; simp [blkArr_size, padB]
  case hy => rfl
  case hk =>
    have hb2 := setCells_block (bs' := padB [k % 256, n % 256]) HBZ.out (by simp [padB])
    have hB2 := below_setCells (g := w.heap.size + 1) (by omega) (blkArr (padB [k % 256, n % 256])).toList 0 HBW.out
    generalize ((w.alloc (.cells #[.int .i64 k, .int .i64 n] 92)).alloc (.cells Tryd.zeroCells161 161)).setCells (w.heap.size + 1) 0 (blkArr (padB [k % 256, n % 256])).toList = w2 at hb2 hB2 ⊢
    refine bodyPost_ret (v := .agg (blkArr (padB [k % 256, n % 256]))) ?_ rfl ⟨rfl, hB2⟩
    have hl := run_loadVar_mid (P := Tryd.prog) w2 (w.heap.size + 1) 0 161 _ _ (range_of_block hb2) Tryd.underlying161 rfl (by rw [block_info]; simp [encs, padB])
    simp only [results, Tryd.results157]
    simp [Sem.run_bind, Result.andThen, Act.put, asAddr, hl]
    rfl
/-- While a form lays itself down: its box, the result's variable, the block's variable. -/
structure Lay (w : World) (gb gr gm : Nat) (bx : Array Value) (tb : Nat) (bs : List Int) (W : World) : Prop where
  lb : w.heap.size ≤ gb
  lr : w.heap.size ≤ gr
  lm : w.heap.size ≤ gm
  nb : gb ≠ gm
  nr : gr ≠ gm
  box : W.heap[gb]? = some (.cells bx tb (0, 0))
  res : W.heap[gr]? = some (.cells (blkArr (List.replicate 128 0)) 161 (0, 0))
  blk : W.heap[gm]? = some (.cells (blkArr bs) 161 (0, 0))
  below : Below w.heap.size w W
theorem Lay.step {w W W' : World} {gb gr gm tb : Nat} {bx : Array Value} {bs : List Int} (h : Lay w gb gr gm bx tb bs W) (hb : Below W.heap.size W W') : Lay w gb gr gm bx tb bs W' :=
  ⟨h.lb, h.lr, h.lm, h.nb, h.nr, blk_below h.box hb, blk_below h.res hb, blk_below h.blk hb, below_step h.below hb⟩
theorem Lay.num {w W W' : World} {gb gr gm tb m : Nat} {bx : Array Value} {P : List Int} {v : Int} (h : Lay w gb gr gm bx tb (padB P) W) (hP : P.length + m ≤ 128)
    (e1 : W'.heap[gm]? = some (.cells (encs (Value.int .u8) (splice (padB P) P.length (numB v m))).toArray 161 (0, 0))) (e2 : ∀ k, k < W.heap.size → k ≠ gm → W'.heap[k]? = W.heap[k]?) (e3 : Below w.heap.size w W') : Lay w gb gr gm bx tb (padB (P ++ numB v m)) W' := by
  rw [padB_splice (by rw [numB_length]; exact hP)] at e1
  exact ⟨h.lb, h.lr, h.lm, h.nb, h.nr, (e2 gb (blk_lt h.box) h.nb).trans h.box, (e2 gr (blk_lt h.res) h.nr).trans h.res, e1, e3⟩
theorem Lay.begin {w W : World} {gb gr tb : Nat} {bx : Array Value} {bs : List Int} (hb : W.heap[gb]? = some (.cells bx tb (0, 0))) (hr : W.heap[gr]? = some (.cells (blkArr (List.replicate 128 0)) 161 (0, 0))) (hB : Below w.heap.size w W) (lb : w.heap.size ≤ gb) (lr : w.heap.size ≤ gr) (hl : bs.length = 128) :
    Lay w gb gr W.heap.size bx tb bs ((W.alloc (.cells Tryd.zeroCells161 161)).setCells W.heap.size 0 (blkArr bs).toList) := by
  have hn : ∀ {k c t}, W.heap[k]? = some (.cells c t (0, 0)) → k ≠ W.heap.size := fun {k c t} h => Nat.ne_of_lt (blk_lt h)
  refine ⟨lb, lr, below_size hB, hn hb, hn hr, ?_, ?_, setCells_block (bs := List.replicate 128 0) (by rw [← zero_block]; exact blk_new W _) (by simp [hl]), below_setCells (below_size hB) _ _ (below_alloc hB _)⟩
  · rw [setCells_far _ _ _ (hn hb)]; exact blk_alloc hb _
  · rw [setCells_far _ _ _ (hn hr)]; exact blk_alloc hr _
theorem Lay.done {w W : World} {gb gr gm tb : Nat} {bx : Array Value} {bs : List Int} (h : Lay w gb gr gm bx tb bs W) (hl : bs.length = 128) :
    (W.setCells gr 0 (blkArr bs).toList).heap[gr]? = some (.cells (blkArr bs) 161 (0, 0)) ∧ Below w.heap.size w (W.setCells gr 0 (blkArr bs).toList) :=
  ⟨setCells_block h.res (by simp [hl]), below_setCells h.lr _ _ h.below⟩
theorem load_block {w : World} {g : Nat} {bs : List Int} (h : w.heap[g]? = some (.cells (blkArr bs) 161 (0, 0))) (hl : bs.length = 128) : (loadVar 161 ⟨g, 0, none⟩).run Tryd.prog w = .ok (.agg (blkArr bs)) w :=
  run_loadVar_mid (P := Tryd.prog) w g 0 161 _ _ (range_of_block h) Tryd.underlying161 rfl (by rw [block_info]; simp [encs, hl])
def tblOut (n next : Int) (runs : List S85) : List Int := [3, n % 256] ++ numB next 2 ++ runs.flatMap fun r => numB r.f0 2 ++ numB r.f1 2 ++ numB r.f2 2
theorem tblOut_length (n next : Int) (runs : List S85) : (tblOut n next runs).length = 4 + 6 * runs.length := by
  unfold tblOut
  rw [List.length_append, List.length_append, numB_length]
  have : ∀ l : List S85, (l.flatMap fun r => numB r.f0 2 ++ numB r.f1 2 ++ numB r.f2 2).length = 6 * l.length := by
    intro l
    induction l with
    | nil => rfl
    | cons r l ih => rw [List.flatMap_cons, List.length_append, ih]; simp [numB_length]; omega
  rw [this]
  simp
  try omega
theorem tblOut_snoc (n next : Int) (runs : List S85) (i : Nat) (hi : i < runs.length) :
    tblOut n next (runs.take (i + 1)) = tblOut n next (runs.take i) ++ numB (rd_T85 runs (i : Int)).f0 2 ++ numB (rd_T85 runs (i : Int)).f1 2 ++ numB (rd_T85 runs (i : Int)).f2 2 := by
  have e : rd_T85 runs (i : Int) = runs[i] := by simp [rd_T85, List.getD_eq_getElem?_getD, hi]
  unfold tblOut
  rw [e, List.take_succ_eq_append_getElem hi, List.flatMap_append, List.flatMap_singleton]
  simp only [List.append_assoc]
set_option maxHeartbeats 4000000 in
set_option maxRecDepth 100000 in
theorem lay_table (n next : Int) (A : Option Addr) (c : Nat) (runs : List S85) (w : World) (hr : Kd.C k85 w A runs.length runs) (hc : runs.length ≤ c) (hn : runs.length ≤ 20) :
    Calls Tryd.prog 158 #[.agg #[.int .i64 3, .int .i64 n, .int .i64 next, .slice A runs.length c]] w fun e w' => e = .returned (.agg (blkArr (padB (tblOut n next runs)))) ∧ Below w.heap.size w w' := by
  have hu1 := Tryd.underlying92
  have hu2 := Tryd.underlying94
  have hu3 := Tryd.underlying31
  have hu4 := Tryd.underlying85
  have HR := Aside0.mk hr
  clear hr
  go_enter Tryd.func158, Tryd.ntmps158
  go_upto_region 1 with (fail)
  have hb0 := blk_alloc (blk_new w (.cells #[.int .i64 3, .int .i64 n, .int .i64 next, .slice A runs.length c] 94)) (.cells Tryd.zeroCells161 161)
  have hb1 : ((w.alloc (.cells #[.int .i64 3, .int .i64 n, .int .i64 next, .slice A runs.length c] 94)).alloc (.cells Tryd.zeroCells161 161)).heap[w.heap.size + 1]? = some (.cells (blkArr (List.replicate 128 0)) 161 (0, 0)) := by
    rw [← zero_block]; simpa using blk_new (w.alloc (.cells #[.int .i64 3, .int .i64 n, .int .i64 next, .slice A runs.length c] 94)) (.cells Tryd.zeroCells161 161)
  have HB0 := Aside0.mk hb0
  have HB1 := Aside0.mk hb1
  have HBW := Aside0.mk (below_alloc (below_alloc (Below.refl w.heap.size w) (.cells #[.int .i64 3, .int .i64 n, .int .i64 next, .slice A runs.length c] 94)) (.cells Tryd.zeroCells161 161))
  clear hb0 hb1
  generalize hgr : w.heap.size + 1 = gr at HB1 ⊢
  have hgr' : w.heap.size ≤ gr := by omega
  clear hgr
  generalize (w.alloc (.cells #[.int .i64 3, .int .i64 n, .int .i64 next, .slice A runs.length c] 94)).alloc (.cells Tryd.zeroCells161 161) = w0 at HB0 HB1 HBW ⊢
  have hx0 : w0.cell? ⟨w.heap.size, 0, none⟩ = some (.int .i64 3) := (blk_cell HB0.out 0).trans rfl
  have hx1 : w0.cell? ⟨w.heap.size, 1, none⟩ = some (.int .i64 n) := (blk_cell HB0.out 1).trans rfl
  go_upto_region 2 with (first | (go_at_call 157; refine (begin_calls _ _ _).mono ?_; rintro e w1 ⟨rfl, hb⟩; have HX := Aside0.mk (blk_below HB0.out hb); have HY := Aside0.mk (blk_below HB1.out hb); have HZ := Aside0.mk (below_step HBW.out hb); clear HB0 HB1 HBW hb; have HB0 := HX; have HB1 := HY; have HBW := HZ; clear HX HY HZ) | (refine wpList_store_mid rfl 161 (.tmp 3) (.tmp 8) rfl w1.heap.size 0 (blkArr (padB [3, n % 256])) rfl rfl ?ht ?hi (blkArr_one _) ?_; (case ht => exact there_of_block (blk_new w1 _) (by rw [zero_block]; simp [blkArr_size, padB])); (case hi => rw [block_info]; simp [blkArr_size, padB])))
  try simp only [Act.put]
  have HL := Aside0.mk (Lay.begin (bs := padB [3, n % 256]) HB0.out HB1.out HBW.out (Nat.le_refl _) hgr' (by simp [padB]))
  clear HB0 HB1 HBW hx0 hx1
  generalize (w1.alloc (.cells Tryd.zeroCells161 161)).setCells w1.heap.size 0 (blkArr (padB [3, n % 256])).toList = w2 at HL ⊢
  generalize w1.heap.size = gm at HL ⊢
  have hx2 : w2.cell? ⟨w.heap.size, 2, none⟩ = some (.int .i64 next) := (blk_cell HL.out.box 2).trans rfl
  go_still_tail 4, (by kernel_rfl)
  show wpList _ _ _ _ _ w2.drew
  have HLd := Aside0.mk (HL.out.step (below_drew1 (Below.refl _ _)))
  clear HL hx2
  go_upto_region 3 with (go_at_call 105; refine (number_calls gm 2 126 126 (padB [3, n % 256]) 161 next 2 w _ HLd.out.blk (by omega) (by rw [padB_length (by simp)]; omega) (by rw [padB_length (by simp)]; omega) (by omega) HLd.out.below HLd.out.lm).mono ?_; rintro e w3 ⟨rfl, e1, e2, _, e4⟩; have HL := Aside0.mk (Lay.num HLd.out (P := [3, n % 256]) (by simp) e1 e2 e4); clear HLd e1 e2 e4)
  have hx3 : w3.cell? ⟨w.heap.size, 3, none⟩ = some (.slice A runs.length c) := (blk_cell HL.out.box 3).trans rfl
  go_upto_block 0 with (fail)
  go_wp2_with fail
  clear hx3
  go_loopg [18] runs.length (fun kq v18 wr => ∃ i : Nat, v18 = .int .i64 i ∧ kq + i = runs.length ∧ Aside0 (Lay w w.heap.size gr gm #[.int .i64 3, .int .i64 n, .int .i64 next, .slice A runs.length c] 94 (padB (tblOut n next (runs.take i))) wr))
  case atStart => exact ⟨0, rfl, by omega, by simpa [tblOut] using HL⟩
  case round =>
    clear HL
    obtain ⟨i, rfl, hi, HL⟩ := hrel
    have HI := Aside0.mk hi
    by_cases hlt : i < runs.length
    · obtain ⟨ad, rfl, hx0, hx1, hx2⟩ := at_T85 (Kd.C_below HR.out HL.out.below) i (by omega) (by omega)
      have hx0' : wr.cell? (ad.add (i * 3)) = some (.int .i64 (rd_T85 runs i).f0) := by simpa using hx0
      have hx1' : wr.cell? ⟨(ad.add (i * 3)).block, (ad.add (i * 3)).off + 1, none⟩ = some (.int .i64 (rd_T85 runs i).f1) := by simpa using hx1
      have hx2' : wr.cell? ⟨(ad.add (i * 3)).block, (ad.add (i * 3)).off + 2, none⟩ = some (.int .i64 (rd_T85 runs i).f2) := by simpa using hx2
      clear hx0 hx1 hx2 hi
      have hil : (runs.take i).length = i := by rw [List.length_take]; omega
      have HIL := Aside0.mk hil
      clear hil
      go_upto_region 6 with (fail)
      have hg5 : wr.heap.size ≠ gm := Nat.ne_of_gt (blk_lt HL.out.blk)
      have HX := Aside0.mk (blk_new wr (.cells #[.int .i64 (rd_T85 runs i).f0, .int .i64 (rd_T85 runs i).f1, .int .i64 (rd_T85 runs i).f2] 85))
      have HL2 := Aside0.mk (HL.out.step (below_alloc (Below.refl _ _) (.cells #[.int .i64 (rd_T85 runs i).f0, .int .i64 (rd_T85 runs i).f1, .int .i64 (rd_T85 runs i).f2] 85)))
      clear HL hx0' hx1' hx2'
      have HL := HL2
      clear HL2
      generalize wr.alloc (.cells #[.int .i64 (rd_T85 runs i).f0, .int .i64 (rd_T85 runs i).f1, .int .i64 (rd_T85 runs i).f2] 85) = w4 at HL HX ⊢
      generalize wr.heap.size = g5 at hg5 HX ⊢
      have hy : w4.cell? ⟨g5, 0, none⟩ = some (.int .i64 (rd_T85 runs i).f0) := (blk_cell HX.out 0).trans rfl
      have hw1 : IntKind.i64.wrap (6 * (i : Int)) = 6 * (i : Int) := by rw [IntKind.wrap_i64]; omega
      have hw2 : IntKind.i64.wrap (4 + 6 * (i : Int)) = 4 + 6 * (i : Int) := by rw [IntKind.wrap_i64]; omega
      have hw3 : 0 ≤ 4 + 6 * (i : Int) := by omega
      have hw4 : 4 + 6 * (i : Int) ≤ 128 := by omega
      have hw5 : (4 + 6 * (i : Int)).toNat = 4 + 6 * i := by omega
      go_still_tail 6, (by kernel_rfl)
      show wpList _ _ _ _ _ w4.drew
      have HLd := Aside0.mk (HL.out.step (below_drew1 (Below.refl _ _)))
      have HXd := Aside0.mk (blk_drew HX.out)
      clear HL HX hy hw1 hw2 hw3 hw4 hw5
      have hPl : (tblOut n next (runs.take i)).length = 4 + 6 * i := by simp [tblOut_length, numB_length, HIL.out]; try omega
      have hP2 : (padB (tblOut n next (runs.take i))).length = 128 := padB_length (by omega)
      have HPl := Aside0.mk hPl
      have HP2 := Aside0.mk hP2
      clear hPl hP2
      go_upto_region 7 with (go_at_call 105; refine (number_calls gm (4 + 6 * i) (128 - (4 + 6 * i)) (128 - (4 + 6 * i)) (padB (tblOut n next (runs.take i))) 161 (rd_T85 runs (i : Int)).f0 2 _ _ HLd.out.blk (by omega) (by rw [HP2.out]; omega) (by rw [HP2.out]; omega) (by omega) HLd.out.below HLd.out.lm).mono ?_; rintro e w5 ⟨rfl, e1, e2, _, e4⟩; have HX := Aside0.mk ((e2 g5 (blk_lt HXd.out) hg5).trans HXd.out); have HL := Aside0.mk (Lay.num HLd.out (m := 2) (v := (rd_T85 runs (i : Int)).f0) (P := tblOut n next (runs.take i)) (by rw [HPl.out]; omega) (by rw [HPl.out]; exact e1) e2 e4); clear HLd HXd e1 e2 e4)
      clear HPl HP2
      have hy : w5.cell? ⟨g5, 1, none⟩ = some (.int .i64 (rd_T85 runs i).f1) := (blk_cell HX.out 1).trans rfl
      have hw1 : IntKind.i64.wrap (6 * (i : Int)) = 6 * (i : Int) := by rw [IntKind.wrap_i64]; omega
      have hw2 : IntKind.i64.wrap (6 + 6 * (i : Int)) = 6 + 6 * (i : Int) := by rw [IntKind.wrap_i64]; omega
      have hw3 : 0 ≤ 6 + 6 * (i : Int) := by omega
      have hw4 : 6 + 6 * (i : Int) ≤ 128 := by omega
      have hw5 : (6 + 6 * (i : Int)).toNat = 6 + 6 * i := by omega
      go_still_tail 6, (by kernel_rfl)
      show wpList _ _ _ _ _ w5.drew
      have HLd := Aside0.mk (HL.out.step (below_drew1 (Below.refl _ _)))
      have HXd := Aside0.mk (blk_drew HX.out)
      clear HL HX hy hw1 hw2 hw3 hw4 hw5
      have hPl : (tblOut n next (runs.take i) ++ numB (rd_T85 runs (i : Int)).f0 2).length = 6 + 6 * i := by simp [tblOut_length, numB_length, HIL.out]; try omega
      have hP2 : (padB (tblOut n next (runs.take i) ++ numB (rd_T85 runs (i : Int)).f0 2)).length = 128 := padB_length (by omega)
      have HPl := Aside0.mk hPl
      have HP2 := Aside0.mk hP2
      clear hPl hP2
      go_upto_region 8 with (go_at_call 105; refine (number_calls gm (6 + 6 * i) (128 - (6 + 6 * i)) (128 - (6 + 6 * i)) (padB (tblOut n next (runs.take i) ++ numB (rd_T85 runs (i : Int)).f0 2)) 161 (rd_T85 runs (i : Int)).f1 2 _ _ HLd.out.blk (by omega) (by rw [HP2.out]; omega) (by rw [HP2.out]; omega) (by omega) HLd.out.below HLd.out.lm).mono ?_; rintro e w6 ⟨rfl, e1, e2, _, e4⟩; have HX := Aside0.mk ((e2 g5 (blk_lt HXd.out) hg5).trans HXd.out); have HL := Aside0.mk (Lay.num HLd.out (m := 2) (v := (rd_T85 runs (i : Int)).f1) (P := tblOut n next (runs.take i) ++ numB (rd_T85 runs (i : Int)).f0 2) (by rw [HPl.out]; omega) (by rw [HPl.out]; exact e1) e2 e4); clear HLd HXd e1 e2 e4)
      clear HPl HP2
      have hy : w6.cell? ⟨g5, 2, none⟩ = some (.int .i64 (rd_T85 runs i).f2) := (blk_cell HX.out 2).trans rfl
      have hw1 : IntKind.i64.wrap (6 * (i : Int)) = 6 * (i : Int) := by rw [IntKind.wrap_i64]; omega
      have hw2 : IntKind.i64.wrap (8 + 6 * (i : Int)) = 8 + 6 * (i : Int) := by rw [IntKind.wrap_i64]; omega
      have hw3 : 0 ≤ 8 + 6 * (i : Int) := by omega
      have hw4 : 8 + 6 * (i : Int) ≤ 128 := by omega
      have hw5 : (8 + 6 * (i : Int)).toNat = 8 + 6 * i := by omega
      go_still_tail 6, (by kernel_rfl)
      show wpList _ _ _ _ _ w6.drew
      have HLd := Aside0.mk (HL.out.step (below_drew1 (Below.refl _ _)))
      have HXd := Aside0.mk (blk_drew HX.out)
      clear HL HX hy hw1 hw2 hw3 hw4 hw5
      have hPl : (tblOut n next (runs.take i) ++ numB (rd_T85 runs (i : Int)).f0 2 ++ numB (rd_T85 runs (i : Int)).f1 2).length = 8 + 6 * i := by simp [tblOut_length, numB_length, HIL.out]; try omega
      have hP2 : (padB (tblOut n next (runs.take i) ++ numB (rd_T85 runs (i : Int)).f0 2 ++ numB (rd_T85 runs (i : Int)).f1 2)).length = 128 := padB_length (by omega)
      have HPl := Aside0.mk hPl
      have HP2 := Aside0.mk hP2
      clear hPl hP2
      go_upto_region 9 with (go_at_call 105; refine (number_calls gm (8 + 6 * i) (128 - (8 + 6 * i)) (128 - (8 + 6 * i)) (padB (tblOut n next (runs.take i) ++ numB (rd_T85 runs (i : Int)).f0 2 ++ numB (rd_T85 runs (i : Int)).f1 2)) 161 (rd_T85 runs (i : Int)).f2 2 _ _ HLd.out.blk (by omega) (by rw [HP2.out]; omega) (by rw [HP2.out]; omega) (by omega) HLd.out.below HLd.out.lm).mono ?_; rintro e w7 ⟨rfl, e1, e2, _, e4⟩; have HX := Aside0.mk ((e2 g5 (blk_lt HXd.out) hg5).trans HXd.out); have HL := Aside0.mk (Lay.num HLd.out (m := 2) (v := (rd_T85 runs (i : Int)).f2) (P := tblOut n next (runs.take i) ++ numB (rd_T85 runs (i : Int)).f0 2 ++ numB (rd_T85 runs (i : Int)).f1 2) (by rw [HPl.out]; omega) (by rw [HPl.out]; exact e1) e2 e4); clear HLd HXd e1 e2 e4)
      clear HPl HP2
      rw [← tblOut_snoc n next runs i hlt] at HL
      go_wp2
      go_roundg (gk - 1)
      case measure => have := HI.out; omega
      case rel => exact ⟨i + 1, by go_num, by have := HI.out; omega, HL⟩
    · have hie : i = runs.length := by have := HI.out; omega
      subst hie
      rw [List.take_length] at HL
      clear HI hi
      have hPl : (padB (tblOut n next runs)).length = 128 := padB_length (by rw [tblOut_length]; omega)
      have HPl := Aside0.mk hPl
      clear hPl
      go_upto_region 10 with (fail)
      go_wp2_with (first | (refine wpList_load_mid rfl 161 (.tmp 3) rfl gm 0 rfl (encs (Value.int .u8) (padB (tblOut n next runs))) _ (range_of_block HL.out.blk) Tryd.underlying161 rfl (by rw [block_info]; simp [encs, HPl.out]) ?_) | (refine wpList_store_mid rfl 161 (.tmp 2) (.tmp 45) rfl gr 0 (blkArr (padB (tblOut n next runs))) rfl rfl (there_of_block HL.out.res (by simp [blkArr_size, HPl.out])) (by rw [block_info]; simp [blkArr_size, HPl.out]) (blkArr_one _) ?_))
      obtain ⟨hb2, hB2⟩ := HL.out.done HPl.out
      have hl := load_block hb2 HPl.out
      refine bodyPost_ret (v := .agg (blkArr (padB (tblOut n next runs)))) ?_ rfl ⟨rfl, hB2⟩
      simp only [results, Tryd.results158]
      simp [Sem.run_bind, Result.andThen, Act.put, asAddr, hl]

end Go.Proofs.YtnkgclcmjojeiaaDoor.PFnExactEncodeTable
