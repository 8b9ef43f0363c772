/- What the program's own package-level variables hold, as the walks of this session want it (no condition of ours: it comes out of the row's 'laid'). -/
import Derived.Test.YtnkgclcmjojeiaaDoorProg
import Derived.Below
import Derived.WalkKit
import Derived.Test.YtnkgclcmjojeiaaDoorWWords
namespace Go.Proofs.YtnkgclcmjojeiaaDoor
open Go.RowKit Go.Proofs.YtnkgclcmjojeiaaDoorW.PrintWords
/-- errors.errorType holds the type error's handle; the three sentinels are three pointers to blocks that may be compared. -/
def Globals (w : World) : Prop := w.cell? ⟨3, 0, none⟩ = some (.iface 209 (.agg #[.pointer (some ⟨4, 88, none⟩)])) ∧
  ∃ a0 a1 a2 : Addr, w.cell? ⟨0, 0, none⟩ = some (.iface 227 (.pointer (some a0))) ∧ w.cell? ⟨1, 0, none⟩ = some (.iface 227 (.pointer (some a1))) ∧ w.cell? ⟨2, 0, none⟩ = some (.iface 227 (.pointer (some a2))) ∧
    a0 ≠ a1 ∧ a0 ≠ a2 ∧ a1 ≠ a2 ∧ (∃ c t, w.heap[a0.block]? = some (.cells c t (0, 0))) ∧ (∃ c t, w.heap[a1.block]? = some (.cells c t (0, 0))) ∧ (∃ c t, w.heap[a2.block]? = some (.cells c t (0, 0)))
theorem Globals.below {w W : World} (h : Globals w) (hb : Below w.heap.size w W) : Globals W := by
  have hc : ∀ {p v}, w.cell? p = some v → W.cell? p = some v := fun {p v} h => (hb.cell (World.block_lt_of_cell? w _ h)).trans h
  have hk : ∀ {k : Nat}, (∃ c t, w.heap[k]? = some (.cells c t (0, 0))) → ∃ c t, W.heap[k]? = some (.cells c t (0, 0)) := fun ⟨c, t, h⟩ => ⟨c, t, blk_below h hb⟩
  obtain ⟨h1, a0, a1, a2, h2, h3, h4, h5, h6, h7, h8, h9, h10⟩ := h
  exact ⟨hc h1, a0, a1, a2, hc h2, hc h3, hc h4, h5, h6, h7, hk h8, hk h9, hk h10⟩
end Go.Proofs.YtnkgclcmjojeiaaDoor
