-- Written by a program of this session (after the kit's print) out of the translation. Nothing here is trusted: Lean checks it.
import Derived.Test.YtnkgclcmjojeiaaVPFnDeviceReadsx0
namespace Go.Proofs.Ytnkgclcmjojeiaa.PFnDeviceReads
open Go.RowKit Go.Proofs.YtnkgclcmjojeiaaW.PrintWords Go.Proofs.YtnkgclcmjojeiaaW.PrintLast Go.Proofs.YtnkgclcmjojeiaaW.PrintMore
attribute [local go_sem] max2_int min2_int max_two min_two max_three min_three max_four min_four   -- for this text's walks alone
set_option linter.unusedVariables false
set_option linter.unusedSimpArgs false

-- HOLE loop.example/s01595/spec.l1Begin alias :
def spec_l1Begin.st : List Int → Int → Int
  | [], s => s
  | c :: cs, s => spec_l1Begin.st cs (IntKind.u64.wrap ((Go.bits .xor .u64 s (IntKind.u64.wrap c)) * 1099511628211))
def spec_l1Begin.f (l0 : List Int) : Option Int := some (spec_l1Begin.st l0 1469598103934665603)
set_option maxHeartbeats 2000000 in
set_option maxRecDepth 100000 in
theorem spec_l1Begin.calls (A0 : Option Addr) (c0 : Nat) (l0 : List Int) (r : Int) (w : World) (hr0 : Kd.C (Kd.int .u8) w A0 l0.length l0) (hc0 : l0.length ≤ c0) (h : spec_l1Begin.f l0 = some r) :
    Calls Try.prog 12 #[.slice A0 l0.length c0] w fun e w' => e = .returned (.agg #[.slice A0 l0.length c0, .int .i64 0, .int .u64 r]) ∧ Below w.heap.size w w' := by
  have hu45 := Try.underlying45
  have hR := Aside0.mk hr0
  have hmx : l0.length ≤ 9223372036854775807 := by have := hr0.2.1; omega
  have hH := Aside0.mk h
  clear h hr0
  go_enter Try.func12, Try.ntmps12
  go_wp2
  go_loopg [4] l0.length (fun kq v4 w' => ∃ (i : Nat) (s : Int), v4 = .int .i64 i ∧ Aside0 (spec_l1Begin.st (l0.drop i) s = r) ∧ kq + i = l0.length ∧ Aside0 (w'.heap[w.heap.size]? = some (.cells #[.slice none 0 0, .int .i64 0, .int .u64 0] 45 (0, 0))) ∧ Aside0 (w'.heap[w.heap.size + 1]? = some (.cells #[.slice A0 l0.length c0, .int .i64 0, .int .u64 s] 45 (0, 0))) ∧ Aside0 (Below w.heap.size w w'))
  case atStart =>
    refine ⟨0, 1469598103934665603, rfl, ⟨?_⟩, by omega, ⟨?_⟩, ⟨?_⟩, ⟨?_⟩⟩
    · have := hH.out; simp only [spec_l1Begin.f, Option.some.injEq] at this; simpa using this
    · exact blk_alloc (heap_alloc_new w _) _
    · simpa using heap_alloc_new (w.alloc (.cells #[.slice none 0 0, .int .i64 0, .int .u64 0] 45)) (.cells #[.slice A0 l0.length c0, .int .i64 0, .int .u64 1469598103934665603] 45)
    · exact ((Below.refl _ _).alloc (Nat.le_refl _) _).alloc (by simp) _
  case round =>
    obtain ⟨i, s, rfl, hs, hi, hb1, hb2, hB⟩ := hrel
    have hq0 : wr.cell? ⟨w.heap.size + 1, 0, none⟩ = some (.slice A0 l0.length c0) := (blk_cell hb2.out 0).trans rfl
    have hq1 : wr.cell? ⟨w.heap.size + 1, 1, none⟩ = some (.int .i64 0) := (blk_cell hb2.out 1).trans rfl
    have hq2 : wr.cell? ⟨w.heap.size + 1, 2, none⟩ = some (.int .u64 s) := (blk_cell hb2.out 2).trans rfl
    have hf1 := blk_frozen hb1.out
    have hf2 := blk_frozen hb2.out
    by_cases hlt : i < l0.length
    · have hR' := Kd.C_below hR.out hB.out
      obtain ⟨ad, rfl, hcell⟩ := Kd.at_int hR' i (by omega) (by omega)
      have hcell' : wr.cell? (ad.add i) = some (.int .u8 (rd l0 i)) := by simpa using hcell
      clear hcell hR'
      go_wp2
      go_region
      go_wp2
      go_roundg (gk - 1)
      case measure => omega
      case rel =>
        refine ⟨i + 1, IntKind.u64.wrap (Go.bits .xor .u64 s (IntKind.u64.wrap (rd l0 i)) * 1099511628211), by go_num, ⟨?_⟩, by omega, ⟨?_⟩, ⟨?_⟩, ⟨?_⟩⟩
        rotate_left 1
        · exact blk_far hb1.out (by simp) _
        · exact blk_put (cs := #[.slice (some ad) l0.length c0, .int .i64 0, .int .u64 s]) hb2.out 2 _ rfl
        · exact hB.out.drew.setCell (by simp) _
        · rw [← hs.out, List.drop_eq_getElem_cons hlt]
          simp only [spec_l1Begin.st]
          rw [show rd l0 i = l0[i] from by simp [rd, List.getD_eq_getElem?_getD, hlt]]
    · have hf : decide ((i : Int) < l0.length) = false := by simp; omega
      have h0 : wr.cell? ⟨w.heap.size, 0, none⟩ = some (.slice none 0 0) := (blk_cell hb1.out 0).trans rfl
      have h1 : wr.cell? ⟨w.heap.size, 1, none⟩ = some (.int .i64 0) := (blk_cell hb1.out 1).trans rfl
      have h2 : wr.cell? ⟨w.heap.size, 2, none⟩ = some (.int .u64 0) := (blk_cell hb1.out 2).trans rfl
      go_wp2
      refine bodyPost_ret (v := .agg #[.slice A0 l0.length c0, .int .i64 0, .int .u64 r]) ?_ rfl ⟨rfl, ?_⟩
      · have hn : l0.drop i = [] := List.drop_eq_nil_of_le (by omega)
        have hr := hs.out
        rw [hn] at hr
        obtain rfl : s = r := hr
        simp [results, Try.results12, go_sem, h0, h1, h2]
      · exact ((hB.out.setCell (Nat.le_refl _) _).setCell (Nat.le_refl _) _).setCell (Nat.le_refl _) _

end Go.Proofs.Ytnkgclcmjojeiaa.PFnDeviceReads
