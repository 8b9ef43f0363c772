-- Written by a program of this session (after the kit's print) out of the translation. Nothing here is trusted: Lean checks it.
import Derived.Test.YtnkgclcmjojeiaaDoorPFnExactEncodeSuperx0
namespace Go.Proofs.YtnkgclcmjojeiaaDoor.PFnExactEncodeSuper
open Go.RowKit Go.Proofs.YtnkgclcmjojeiaaDoorW.PrintWords Go.Proofs.YtnkgclcmjojeiaaDoorW.PrintLast Go.Proofs.YtnkgclcmjojeiaaDoorW.PrintMore
attribute [local go_sem] max2_int min2_int max_two min_two max_three min_three max_four min_four   -- for this text's walks alone
set_option linter.unusedVariables false
set_option linter.unusedSimpArgs false

-- HOLE loop.example/s01595/impl.number inner :
def numB (v : Int) (n : Nat) : List Int := (List.range n).map fun i => v / 2 ^ (8 * i) % 256
theorem numB_length (v : Int) (n : Nat) : (numB v n).length = n := by simp [numB]
theorem numB_succ (v : Int) (n : Nat) : numB v (n + 1) = numB v n ++ [v / 2 ^ (8 * n) % 256] := by simp [numB, List.range_succ]
theorem splice_at (L cs : List Int) (off q : Nat) (h : off ≤ L.length) : (splice L off cs)[q]? = if q < off then L[q]? else if q < off + cs.length then cs[q - off]? else L[q]? := by
  unfold splice
  rw [List.getElem?_append, List.length_take, Nat.min_eq_left h]
  by_cases h1 : q < off
  · rw [if_pos h1, if_pos h1, List.getElem?_take, if_pos h1]
  · rw [if_neg h1, if_neg h1, List.getElem?_append]
    by_cases h2 : q < off + cs.length
    · rw [if_pos (by omega), if_pos h2]
    · rw [if_neg (by omega), if_neg h2, List.getElem?_drop]
      congr 1
      omega
theorem splice_snoc (bs cs : List Int) (off : Nat) (x : Int) (h : off + cs.length < bs.length) : (splice bs off cs).set (off + cs.length) x = splice bs off (cs ++ [x]) := by
  apply List.ext_getElem?
  intro q
  rw [List.getElem?_set, splice_at _ _ _ _ (by omega), splice_at _ _ _ _ (by omega), List.length_append, List.length_singleton]
  by_cases e : off + cs.length = q
  · subst e
    rw [if_pos rfl, if_pos (by rw [length_splice _ _ _ (by omega)]; omega), if_neg (by omega), if_pos (by omega), List.getElem?_append_right (by omega)]
    simp
  · rw [if_neg e]
    by_cases hq : q < off
    · rw [if_pos hq, if_pos hq]
    · rw [if_neg hq, if_neg hq]
      by_cases h2 : q < off + cs.length
      · rw [if_pos h2, if_pos (by omega), List.getElem?_append_left (by omega)]
      · rw [if_neg h2, if_neg (by omega)]
theorem splice_nil (bs : List Int) (off : Nat) : splice bs off [] = bs := by simp [splice]
set_option maxHeartbeats 2000000 in
set_option maxRecDepth 100000 in
/-- number(b[off:..], v, n) on a block of bytes (an array's variable): n bytes are laid, the lowest first. -/
theorem number_calls (g off len cap : Nat) (bs : List Int) (t : Nat) (v : Int) (n : Nat) (w0 w : World) (hb : w.heap[g]? = some (.cells (encs (Value.int .u8) bs).toArray t (0, 0))) (hn : n ≤ len) (hl : off + len ≤ bs.length) (hbl : bs.length ≤ 1024) (hn8 : n ≤ 8) (hB : Below w0.heap.size w0 w) (hg : w0.heap.size ≤ g) :
    Calls Tryd.prog 105 #[.slice (some ⟨g, off, none⟩) len cap, .int .i64 v, .int .i64 n] w fun e w' => e = .returned (.tuple #[]) ∧ w'.heap[g]? = some (.cells (encs (Value.int .u8) (splice bs off (numB v n))).toArray t (0, 0)) ∧ (∀ k, k < w.heap.size → k ≠ g → w'.heap[k]? = w.heap[k]?) ∧ w.heap.size ≤ w'.heap.size ∧ Below w0.heap.size w0 w' := by
  have HB := Aside0.mk hb
  have HBW := Aside0.mk hB
  clear hb hB
  go_enter Tryd.func105, Tryd.ntmps105
  go_wp2
  go_loopg [8] n (fun kq v8 wr => ∃ i : Nat, v8 = .int .i64 i ∧ kq + i = n ∧ Aside0 (wr.heap[g]? = some (.cells (encs (Value.int .u8) (splice bs off (numB v i))).toArray t (0, 0))) ∧ Aside0 (∀ k, k < w.heap.size → k ≠ g → wr.heap[k]? = w.heap[k]?) ∧ Aside0 (w.heap.size ≤ wr.heap.size) ∧ Aside0 (Below w0.heap.size w0 wr))
  case atStart => exact ⟨0, rfl, by omega, by rw [show numB v 0 = [] from rfl, splice_nil]; exact HB, ⟨fun _ _ _ => rfl⟩, ⟨Nat.le_refl _⟩, HBW⟩
  case round =>
    clear HB HBW
    obtain ⟨i, rfl, hi, hbk, hot, hsz, hbl2⟩ := hrel
    have HI := Aside0.mk hi
    clear hi
    by_cases hlt : i < n
    · have hsl : (splice bs off (numB v i)).length = bs.length := length_splice _ _ _ (by rw [numB_length]; omega)
      have hcell : wr.cell? ⟨g, off + i, none⟩ = some (.int .u8 ((splice bs off (numB v i)).getD (off + i) 0)) := by
        rw [blk_cell hbk.out (off + i)]
        simp only [encs, List.getElem?_toArray, List.getElem?_map, List.getD_eq_getElem?_getD]
        rw [List.getElem?_eq_getElem (show off + i < (splice bs off (numB v i)).length by omega)]
        rfl
      have hfr := blk_frozen hbk.out (off + i)
      have hset := blk_put (cs' := (encs (Value.int .u8) (splice bs off (numB v (i + 1)))).toArray) hbk.out (off + i) (.int .u8 (v / 2 ^ (8 * i) % 256)) (by
        rw [numB_succ, ← splice_snoc _ _ _ _ (by rw [numB_length]; omega), numB_length]
        simp [encs, List.map_set])
      have HSET := Aside0.mk hset
      clear hset hsl
      go_wp2
      go_roundg (gk - 1)
      case measure => have := HI.out; omega
      case rel => exact ⟨i + 1, by go_num, by have := HI.out; omega, HSET, ⟨fun k hk hne => (Below.heap_setCell _ _ _ k hne).trans (hot.out k hk hne)⟩, ⟨by simpa using hsz.out⟩, ⟨hbl2.out.setCell hg _⟩⟩
    · have hie : i = n := by have := HI.out; omega
      subst hie
      clear HI
      go_wp2
      go_end0
      exact ⟨rfl, hbk.out, hot.out, hsz.out, hbl2.out⟩
/-- The same, the count as the number that stands at the call. -/
theorem number_at (nv : Int) (g off len cap : Nat) (bs : List Int) (t : Nat) (v : Int) (n : Nat) (hnv : nv = n) (w0 w : World) (hb : w.heap[g]? = some (.cells (encs (Value.int .u8) bs).toArray t (0, 0))) (hn : n ≤ len) (hl : off + len ≤ bs.length) (hbl : bs.length ≤ 1024) (hn8 : n ≤ 8) (hB : Below w0.heap.size w0 w) (hg : w0.heap.size ≤ g) :
    Calls Tryd.prog 105 #[.slice (some ⟨g, off, none⟩) len cap, .int .i64 v, .int .i64 nv] w fun e w' => e = .returned (.tuple #[]) ∧ w'.heap[g]? = some (.cells (encs (Value.int .u8) (splice bs off (numB v n))).toArray t (0, 0)) ∧ (∀ k, k < w.heap.size → k ≠ g → w'.heap[k]? = w.heap[k]?) ∧ w.heap.size ≤ w'.heap.size ∧ Below w0.heap.size w0 w' := by
  subst hnv
  exact number_calls g off len cap bs t v n w0 w hb hn hl hbl hn8 hB hg

end Go.Proofs.YtnkgclcmjojeiaaDoor.PFnExactEncodeSuper
