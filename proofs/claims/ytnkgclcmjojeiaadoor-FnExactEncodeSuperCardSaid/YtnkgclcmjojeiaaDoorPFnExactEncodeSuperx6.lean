-- Written by a program of this session (after the kit's print) out of the translation. Nothing here is trusted: Lean checks it.
import Derived.Test.YtnkgclcmjojeiaaDoorPFnExactEncodeSuperx0
import Derived.Test.YtnkgclcmjojeiaaDoorPFnExactEncodeSuperx4
namespace Go.Proofs.YtnkgclcmjojeiaaDoor.PFnExactEncodeSuper
open Go.RowKit Go.Proofs.YtnkgclcmjojeiaaDoorW.PrintWords Go.Proofs.YtnkgclcmjojeiaaDoorW.PrintLast Go.Proofs.YtnkgclcmjojeiaaDoorW.PrintMore
attribute [local go_sem] max2_int min2_int max_two min_two max_three min_three max_four min_four   -- for this text's walks alone
set_option linter.unusedVariables false
set_option linter.unusedSimpArgs false

-- HOLE loop.example/s01595/impl.encode inner : loop.example/s01595/impl.number, loop.example/s01595/impl.Crc32
def blkArr (bs : List Int) : Array Value := (encs (Value.int .u8) bs).toArray
theorem blkArr_size (bs : List Int) : (blkArr bs).size = bs.length := by simp [blkArr, encs]
theorem blkArr_one (bs : List Int) : (blkArr bs).all (·.oneCell') = true := all_oneCell_toArray (fun v hv => by simp only [encs, List.mem_map] at hv; obtain ⟨x, _, rfl⟩ := hv; rfl)
theorem zero_block : Tryd.zeroCells161 = blkArr (List.replicate 128 0) := by kernel_rfl
theorem block_info : (Tryd.prog.info? 161).map (·.size) = some 128 := by kernel_rfl
/-- A block's bytes: what was laid, and noughts. -/
def padB (P : List Int) : List Int := P ++ List.replicate (128 - P.length) 0
theorem padB_length {P : List Int} (h : P.length ≤ 128) : (padB P).length = 128 := by simp [padB]; omega
theorem padB_splice {P cs : List Int} (h : P.length + cs.length ≤ 128) : splice (padB P) P.length cs = padB (P ++ cs) := by
  unfold splice padB
  rw [List.take_left, List.drop_append, List.drop_of_length_le (by omega), List.nil_append, List.drop_replicate, List.length_append, List.append_assoc]
  congr 3
  omega
theorem begin_cells (a b : Int) : (Tryd.zeroCells161.setIfInBounds 0 (.int .u8 a)).setIfInBounds 1 (.int .u8 b) = blkArr (padB [a, b]) := by
  rw [zero_block]
  simp [blkArr, encs, List.replicate_succ, padB]
theorem below_setCells {B g : Nat} {w0 : World} (hg : B ≤ g) : ∀ (vs : List Value) (o : Nat) {W : World}, Below B w0 W → Below B w0 (W.setCells g o vs)
  | [], _, _, h => h
  | v :: r, o, W, h => below_setCells hg r (o + 1) (h.setCell hg v)
theorem there_of_block {w : World} {g n : Nat} {cs : Array Value} {t : Nat} (hb : w.heap[g]? = some (.cells cs t (0, 0))) (hn : n ≤ cs.size) : w.there g 0 n := fun j hj => by
  refine ⟨?_, blk_frozen hb _⟩
  rw [blk_cell hb (0 + j), Array.getElem?_eq_getElem (by omega)]
  rfl
theorem range_of_block {w : World} {g : Nat} {bs : List Int} {t : Nat} (hb : w.heap[g]? = some (.cells (blkArr bs) t (0, 0))) : w.rangeAt g 0 (encs (Value.int .u8) bs) := fun j v hv => by
  rw [blk_cell hb (0 + j)]
  simpa [blkArr] using hv
theorem setCells_block {w : World} {g : Nat} {bs bs' : List Int} {t : Nat} (hb : w.heap[g]? = some (.cells (blkArr bs) t (0, 0))) (hl : bs'.length = bs.length) : (w.setCells g 0 (blkArr bs').toList).heap[g]? = some (.cells (blkArr bs') t (0, 0)) := by
  obtain ⟨cur, h1, h2, h3⟩ := setCells_row (blkArr bs').toList 0 w _ hb (by simp [blkArr_size, hl])
  rw [h1]
  congr 2
  apply Array.ext'
  rw [h3]
  simp [blkArr, encs, hl]
set_option maxHeartbeats 2000000 in
set_option maxRecDepth 100000 in
/-- header.begin. -/
theorem begin_calls (k n : Int) (w : World) : Calls Tryd.prog 157 #[.agg #[.int .i64 k, .int .i64 n]] w fun e w' => e = .returned (.agg (blkArr (padB [k % 256, n % 256]))) ∧ Below w.heap.size w w' := by
  have hu := Tryd.underlying92
  go_enter Tryd.func157, Tryd.ntmps157
  go_upto_region 1 with (fail)
  have hbz : ((w.alloc (.cells #[.int .i64 k, .int .i64 n] 92)).alloc (.cells Tryd.zeroCells161 161)).heap[w.heap.size + 1]? = some (.cells (blkArr (List.replicate 128 0)) 161 (0, 0)) := by rw [← zero_block]; simpa using blk_new (w.alloc (.cells #[.int .i64 k, .int .i64 n] 92)) (.cells Tryd.zeroCells161 161)
  have HBZ := Aside0.mk hbz
  have HBW := Aside0.mk (below_alloc (below_alloc (Below.refl w.heap.size w) (.cells #[.int .i64 k, .int .i64 n] 92)) (.cells Tryd.zeroCells161 161))
  have hc := begin_cells
  clear hbz
  go_wp2_with (refine wpList_store_mid rfl 161 (.tmp 2) (.tmp 9) rfl (w.heap.size + 1) 0 (blkArr (padB [k % 256, n % 256])) rfl ?hy ?ht ?hi (blkArr_one _) ?hk)
  case ht => exact there_of_block HBZ.out (by simp [blkArr_size, padB])
  case hi => rw [block_info]; simp [blkArr_size, padB]
  case hy => rfl
  case hk =>
    have hb2 := setCells_block (bs' := padB [k % 256, n % 256]) HBZ.out (by simp [padB])
    have hB2 := below_setCells (g := w.heap.size + 1) (by omega) (blkArr (padB [k % 256, n % 256])).toList 0 HBW.out
    generalize ((w.alloc (.cells #[.int .i64 k, .int .i64 n] 92)).alloc (.cells Tryd.zeroCells161 161)).setCells (w.heap.size + 1) 0 (blkArr (padB [k % 256, n % 256])).toList = w2 at hb2 hB2 ⊢
    refine bodyPost_ret (v := .agg (blkArr (padB [k % 256, n % 256]))) ?_ rfl ⟨rfl, hB2⟩
    have hl := run_loadVar_mid (P := Tryd.prog) w2 (w.heap.size + 1) 0 161 _ _ (range_of_block hb2) Tryd.underlying161 rfl (by rw [block_info]; simp [encs, padB])
    simp only [results, Tryd.results157]
    simp [Sem.run_bind, Result.andThen, Act.put, asAddr, hl]
    rfl
/-- While a form lays itself down: its box, the result's variable, the block's variable. -/
structure Lay (w : World) (gb gr gm : Nat) (bx : Array Value) (tb : Nat) (bs : List Int) (W : World) : Prop where
  lb : w.heap.size ≤ gb
  lr : w.heap.size ≤ gr
  lm : w.heap.size ≤ gm
  nb : gb ≠ gm
  nr : gr ≠ gm
  box : W.heap[gb]? = some (.cells bx tb (0, 0))
  res : W.heap[gr]? = some (.cells (blkArr (List.replicate 128 0)) 161 (0, 0))
  blk : W.heap[gm]? = some (.cells (blkArr bs) 161 (0, 0))
  below : Below w.heap.size w W
theorem Lay.step {w W W' : World} {gb gr gm tb : Nat} {bx : Array Value} {bs : List Int} (h : Lay w gb gr gm bx tb bs W) (hb : Below W.heap.size W W') : Lay w gb gr gm bx tb bs W' :=
  ⟨h.lb, h.lr, h.lm, h.nb, h.nr, blk_below h.box hb, blk_below h.res hb, blk_below h.blk hb, below_step h.below hb⟩
theorem Lay.num {w W W' : World} {gb gr gm tb m : Nat} {bx : Array Value} {P : List Int} {v : Int} (h : Lay w gb gr gm bx tb (padB P) W) (hP : P.length + m ≤ 128)
    (e1 : W'.heap[gm]? = some (.cells (encs (Value.int .u8) (splice (padB P) P.length (numB v m))).toArray 161 (0, 0))) (e2 : ∀ k, k < W.heap.size → k ≠ gm → W'.heap[k]? = W.heap[k]?) (e3 : Below w.heap.size w W') : Lay w gb gr gm bx tb (padB (P ++ numB v m)) W' := by
  rw [padB_splice (by rw [numB_length]; exact hP)] at e1
  exact ⟨h.lb, h.lr, h.lm, h.nb, h.nr, (e2 gb (blk_lt h.box) h.nb).trans h.box, (e2 gr (blk_lt h.res) h.nr).trans h.res, e1, e3⟩
theorem Lay.begin {w W : World} {gb gr tb : Nat} {bx : Array Value} {bs : List Int} (hb : W.heap[gb]? = some (.cells bx tb (0, 0))) (hr : W.heap[gr]? = some (.cells (blkArr (List.replicate 128 0)) 161 (0, 0))) (hB : Below w.heap.size w W) (lb : w.heap.size ≤ gb) (lr : w.heap.size ≤ gr) (hl : bs.length = 128) :
    Lay w gb gr W.heap.size bx tb bs ((W.alloc (.cells Tryd.zeroCells161 161)).setCells W.heap.size 0 (blkArr bs).toList) := by
  have hn : ∀ {k c t}, W.heap[k]? = some (.cells c t (0, 0)) → k ≠ W.heap.size := fun {k c t} h => Nat.ne_of_lt (blk_lt h)
  refine ⟨lb, lr, below_size hB, hn hb, hn hr, ?_, ?_, setCells_block (bs := List.replicate 128 0) (by rw [← zero_block]; exact blk_new W _) (by simp [hl]), below_setCells (below_size hB) _ _ (below_alloc hB _)⟩
  · rw [setCells_far _ _ _ (hn hb)]; exact blk_alloc hb _
  · rw [setCells_far _ _ _ (hn hr)]; exact blk_alloc hr _
theorem Lay.done {w W : World} {gb gr gm tb : Nat} {bx : Array Value} {bs : List Int} (h : Lay w gb gr gm bx tb bs W) (hl : bs.length = 128) :
    (W.setCells gr 0 (blkArr bs).toList).heap[gr]? = some (.cells (blkArr bs) 161 (0, 0)) ∧ Below w.heap.size w (W.setCells gr 0 (blkArr bs).toList) :=
  ⟨setCells_block h.res (by simp [hl]), below_setCells h.lr _ _ h.below⟩
theorem load_block {w : World} {g : Nat} {bs : List Int} (h : w.heap[g]? = some (.cells (blkArr bs) 161 (0, 0))) (hl : bs.length = 128) : (loadVar 161 ⟨g, 0, none⟩).run Tryd.prog w = .ok (.agg (blkArr bs)) w :=
  run_loadVar_mid (P := Tryd.prog) w g 0 161 _ _ (range_of_block h) Tryd.underlying161 rfl (by rw [block_info]; simp [encs, hl])
theorem C_block {W : World} {g m t : Nat} {bs : List Int} (hb : W.heap[g]? = some (.cells (blkArr bs) t (0, 0))) (hm : m ≤ bs.length) (hl : bs.length ≤ 1024) : Kd.C (Kd.int .u8) W (some ⟨g, 0, none⟩) (bs.take m).length (bs.take m) := by
  refine Kd.C_of_reads (d := (0 : Int)) (h1 := fun _ => rfl) ⟨rfl, by rw [List.length_take]; omega, fun _ => ⟨_, rfl, fun i hi => ?_⟩⟩
  rw [show (⟨g, 0, none⟩ : Addr).add i = ⟨g, i, none⟩ by rcases i with _ | i <;> simp [Addr.add]]
  refine (blk_cell hb i).trans ?_
  rw [List.length_take] at hi
  simp [blkArr, encs, List.getD_eq_getElem?_getD, List.getElem?_take, show i < m by omega, show i < bs.length by omega]
theorem there_of_blk {w : World} {g : Nat} {bs : List Int} (hb : w.heap[g]? = some (.cells (blkArr bs) 161 (0, 0))) {n : Nat} (hn : n ≤ bs.length) : w.there g 0 n := there_of_block hb (by rw [blkArr_size]; exact hn)
theorem block_R {w W : World} {gm : Nat} {bs : List Int} (hb : W.heap[gm]? = some (.cells (blkArr bs) 161 (0, 0))) (hg : w.heap.size ≤ gm) (hl : bs.length = 128) : Kd.R (Kd.int .u8) 161 W w.heap.size (fun _ => True) (.slice (some ⟨gm, 0, none⟩) 128 128) bs := by
  refine Kd.R_of_own ⟨by simp [encs], .inr ⟨gm, 128, blkArr bs, by rw [hl], hg, hb, by omega, by unfold maxLen; omega, by rw [blkArr_size, hl], ?_⟩⟩ (fun _ _ => trivial)
  simp [blkArr, encs, List.take_of_length_le]

end Go.Proofs.YtnkgclcmjojeiaaDoor.PFnExactEncodeSuper
