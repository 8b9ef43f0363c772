/- Parts of the proof of the law FnDeviceReads (plain facts, and the walk of its Go text). No conditions of our own. -/
-- Written in this session: the walk of the law FnDeviceReads, over the contracts of its callees.
import Derived.Test.YtnkgclcmjojeiaaVQBase
import Derived.RegionTactic
import Derived.OpenShut
namespace Go.Proofs.Ytnkgclcmjojeiaa.PFnDeviceReads
open Go.RowKit Go.Proofs.YtnkgclcmjojeiaaW.PrintWords Go.Proofs.YtnkgclcmjojeiaaW.PrintLast Go.Proofs.YtnkgclcmjojeiaaW.PrintMore
attribute [local go_sem] max2_int min2_int max_two min_two max_three min_three max_four min_four
set_option linter.unusedVariables false
set_option linter.unusedSimpArgs false
structure LJ (w : World) (g5 : Nat) (b : Int) (A2 : Option Addr) (c2 : Nat) (disk : List Int) (A3 : Option Addr) (c3 : Nat) (cache : List S32) (A4 : Option Addr) (c4 : Nat) (data : List Int) (A0 : Option Addr) (l0 : List Int) (A1 : Option Addr) (l1 : List Int) (W : World) : Prop where
  blk : W.heap[g5]? = some (.cells #[.int .i64 b, .slice A2 disk.length c2, .slice A3 cache.length c3] 25 (0, 0))
  disk : Kd.C (Kd.int .u8) W A2 disk.length disk
  cache : Kd.C k32 W A3 cache.length cache
  data : Kd.V (Kd.int .u8) 5 W 0 (fun k => k < g5) (.slice A4 data.length c4) data
  r0 : Kd.C (Kd.int .u8) W A0 l0.length l0
  r1 : Kd.C (Kd.int .u8) W A1 l1.length l1
  below : Below w.heap.size w W
theorem LJ.step {w : World} {g5 : Nat} {b : Int} {A2 : Option Addr} {c2 : Nat} {disk : List Int} {A3 : Option Addr} {c3 : Nat} {cache : List S32} {A4 : Option Addr} {c4 : Nat} {data : List Int} {A0 : Option Addr} {l0 : List Int} {A1 : Option Addr} {l1 : List Int} {W W' : World} (h : LJ w g5 b A2 c2 disk A3 c3 cache A4 c4 data A0 l0 A1 l1 W) (hb : Below W.heap.size W W') : LJ w g5 b A2 c2 disk A3 c3 cache A4 c4 data A0 l0 A1 l1 W' :=
  ⟨blk_below h.blk hb, Kd.C_below h.disk hb, Kd.C_below h.cache hb, Kd.V_below h.data hb, Kd.C_below h.r0 hb, Kd.C_below h.r1 hb, below_step h.below hb⟩
theorem LJ.alloc {w : World} {g5 : Nat} {b : Int} {A2 : Option Addr} {c2 : Nat} {disk : List Int} {A3 : Option Addr} {c3 : Nat} {cache : List S32} {A4 : Option Addr} {c4 : Nat} {data : List Int} {A0 : Option Addr} {l0 : List Int} {A1 : Option Addr} {l1 : List Int} {W : World} (h : LJ w g5 b A2 c2 disk A3 c3 cache A4 c4 data A0 l0 A1 l1 W) (o : Obj) : LJ w g5 b A2 c2 disk A3 c3 cache A4 c4 data A0 l0 A1 l1 (W.alloc o) := h.step (below_alloc (Below.refl _ _) o)
theorem LJ.drew {w : World} {g5 : Nat} {b : Int} {A2 : Option Addr} {c2 : Nat} {disk : List Int} {A3 : Option Addr} {c3 : Nat} {cache : List S32} {A4 : Option Addr} {c4 : Nat} {data : List Int} {A0 : Option Addr} {l0 : List Int} {A1 : Option Addr} {l1 : List Int} {W : World} (h : LJ w g5 b A2 c2 disk A3 c3 cache A4 c4 data A0 l0 A1 l1 W) : LJ w g5 b A2 c2 disk A3 c3 cache A4 c4 data A0 l0 A1 l1 W.drew := h.step (below_drew1 (Below.refl _ _))
theorem LJ.drewN {w : World} {g5 : Nat} {b : Int} {A2 : Option Addr} {c2 : Nat} {disk : List Int} {A3 : Option Addr} {c3 : Nat} {cache : List S32} {A4 : Option Addr} {c4 : Nat} {data : List Int} {A0 : Option Addr} {l0 : List Int} {A1 : Option Addr} {l1 : List Int} {W : World} (h : LJ w g5 b A2 c2 disk A3 c3 cache A4 c4 data A0 l0 A1 l1 W) (m : Nat) : LJ w g5 b A2 c2 disk A3 c3 cache A4 c4 data A0 l0 A1 l1 (W.drewN m) := h.step (pw_below_drewN (Below.refl _ _) m)
theorem ew_cases {b : Int} {disk : List Int} {cache : List S32} {blk : Int} {data : List Int} {e0 : Int} {e1 : List Int} {e2 : List S32} {e3 wc : Int} (h : impl_DevWrite.f b disk cache blk data = some (e0, e1, e2, e3)) (hw : (if validDev b disk cache = true then wcode b cache.length blk data.length else 1) = wc) :
    (wc = 1 ∧ e3 = 1 ∧ e1 = []) ∨ (validDev b disk cache = true ∧ b = e0 ∧ disk = e1 ∧ wc = e3 ∧ wc = wcode b cache.length blk data.length ∧ wc ≠ 1 ∧ e2 = if wc = 0 then cache ++ [⟨blk, data⟩] else cache) := by
  unfold impl_DevWrite.f at h
  by_cases hv : validDev b disk cache = true
  · right
    rw [if_pos hv] at h hw
    have h1 : wc ≠ 1 := by
      rw [← hw]; unfold wcode
      split
      · decide
      · split
        · decide
        · split <;> decide
    split at h
    · simp only [Option.some.injEq, Prod.mk.injEq] at h
      obtain ⟨rfl, rfl, rfl, rfl⟩ := h
      refine ⟨hv, rfl, rfl, ?_, hw.symm, h1, ?_⟩ <;> simp_all
    · simp only [Option.some.injEq, Prod.mk.injEq] at h
      obtain ⟨rfl, rfl, rfl, rfl⟩ := h
      refine ⟨hv, rfl, rfl, ?_, hw.symm, h1, ?_⟩ <;> simp_all
  · left
    rw [if_neg hv] at h hw
    simp only [Option.some.injEq, Prod.mk.injEq] at h
    obtain ⟨rfl, rfl, rfl, rfl⟩ := h
    exact ⟨hw.symm, rfl, rfl⟩
structure LK (w : World) (g5 gx : Nat) (b : Int) (v2 v3 : Value) (A7 : Option Addr) (c7 : Nat) (e1 : List Int) (A8 : Option Addr) (c8 : Nat) (e2 : List S32) (A4 : Option Addr) (c4 : Nat) (data : List Int) (e0 : Int) (W : World) : Prop where
  lt : g5 < gx
  le : w.heap.size ≤ g5
  blk : W.heap[g5]? = some (.cells #[.int .i64 b, v2, v3] 25 (0, 0))
  blkE : W.heap[gx]? = some (.cells #[.int .i64 e0, .slice A7 e1.length c7, .slice A8 e2.length c8] 25 (0, 0))
  data : Kd.V (Kd.int .u8) 5 W 0 (fun k => k < g5) (.slice A4 data.length c4) data
  ed : Kd.V (Kd.int .u8) 5 W 0 (fun k => g5 < k) (.slice A7 e1.length c7) e1
  ec : Kd.V k32 32 W 0 (fun k => g5 < k) (.slice A8 e2.length c8) e2
  below : Below w.heap.size w W
theorem LK.step {w : World} {g5 gx : Nat} {b : Int} {v2 v3 : Value} {A7 : Option Addr} {c7 : Nat} {e1 : List Int} {A8 : Option Addr} {c8 : Nat} {e2 : List S32} {A4 : Option Addr} {c4 : Nat} {data : List Int} {e0 : Int} {W W' : World} (h : LK w g5 gx b v2 v3 A7 c7 e1 A8 c8 e2 A4 c4 data e0 W) (hb : Below W.heap.size W W') : LK w g5 gx b v2 v3 A7 c7 e1 A8 c8 e2 A4 c4 data e0 W' :=
  ⟨h.lt, h.le, blk_below h.blk hb, blk_below h.blkE hb, Kd.V_below h.data hb, Kd.V_below h.ed hb, Kd.V_below h.ec hb, below_step h.below hb⟩
theorem LK.set {w : World} {g5 gx : Nat} {b : Int} {v2 v3 : Value} {A7 : Option Addr} {c7 : Nat} {e1 : List Int} {A8 : Option Addr} {c8 : Nat} {e2 : List S32} {A4 : Option Addr} {c4 : Nat} {data : List Int} {e0 : Int} {W : World} (h : LK w g5 gx b v2 v3 A7 c7 e1 A8 c8 e2 A4 c4 data e0 W) (u0 : Int) (u1 u2 : Value) :
    LK w g5 gx u0 u1 u2 A7 c7 e1 A8 c8 e2 A4 c4 data e0 (((W.setCell ⟨g5, 0, none⟩ (.int .i64 u0)).setCell ⟨g5, 1, none⟩ u1).setCell ⟨g5, 2, none⟩ u2) :=
  ⟨h.lt, h.le, set3_cells h.blk _ _ _, blk_far (blk_far (blk_far h.blkE (Nat.ne_of_gt h.lt) _) (Nat.ne_of_gt h.lt) _) (Nat.ne_of_gt h.lt) _,
   Kd.V_far (Kd.V_far (Kd.V_far h.data (fun _ hk => Nat.ne_of_lt hk) _) (fun _ hk => Nat.ne_of_lt hk) _) (fun _ hk => Nat.ne_of_lt hk) _,
   Kd.V_far (Kd.V_far (Kd.V_far h.ed (fun _ hk => Nat.ne_of_gt hk) _) (fun _ hk => Nat.ne_of_gt hk) _) (fun _ hk => Nat.ne_of_gt hk) _,
   Kd.V_far (Kd.V_far (Kd.V_far h.ec (fun _ hk => Nat.ne_of_gt hk) _) (fun _ hk => Nat.ne_of_gt hk) _) (fun _ hk => Nat.ne_of_gt hk) _,
   set3_below h.below h.le _ _ _⟩
theorem LK.of {w : World} {g5 gx : Nat} {b : Int} {A2 : Option Addr} {c2 : Nat} {disk : List Int} {A3 : Option Addr} {c3 : Nat} {cache : List S32} {A4 : Option Addr} {c4 : Nat} {data : List Int} {A0 : Option Addr} {l0 : List Int} {A1 : Option Addr} {l1 : List Int} {W : World} {e0 : Int} {A7 : Option Addr} {c7 : Nat} {e1 : List Int} {A8 : Option Addr} {c8 : Nat} {e2 : List S32} {ok1 ok2 : Nat → Prop}
    (h : LJ w g5 b A2 c2 disk A3 c3 cache A4 c4 data A0 l0 A1 l1 W) (hx : W.heap[gx]? = some (.cells #[.int .i64 0, .slice none 0 0, .slice none 0 0] 25 (0, 0))) (hgx : g5 < gx) (hle : w.heap.size ≤ g5)
    (h1 : Kd.R (Kd.int .u8) 5 W (g5 + 1) ok1 (.slice A7 e1.length c7) e1) (h2 : Kd.S k32 32 W (g5 + 1) ok2 (.slice A8 e2.length c8) e2) :
    LK w g5 gx b (.slice A2 disk.length c2) (.slice A3 cache.length c3) A7 c7 e1 A8 c8 e2 A4 c4 data e0 (((W.setCell ⟨gx, 0, none⟩ (.int .i64 e0)).setCell ⟨gx, 1, none⟩ (.slice A7 e1.length c7)).setCell ⟨gx, 2, none⟩ (.slice A8 e2.length c8)) :=
  ⟨hgx, hle, blk_far (blk_far (blk_far h.blk (Nat.ne_of_lt hgx) _) (Nat.ne_of_lt hgx) _) (Nat.ne_of_lt hgx) _, set3_cells hx _ _ _,
   Kd.V_far (Kd.V_far (Kd.V_far h.data (fun _ hk => Nat.ne_of_lt (Nat.lt_trans hk hgx)) _) (fun _ hk => Nat.ne_of_lt (Nat.lt_trans hk hgx)) _) (fun _ hk => Nat.ne_of_lt (Nat.lt_trans hk hgx)) _,
   Kd.V_mono (Kd.R_V (Kd.R_bound (set3_R h1 hx (by decide) _ _ _))) (fun _ hk => hk.2.1),
   Kd.V_mono (Kd.R_V (Kd.R_bound (Kd.S_R (set3_S h2 hx (by decide) _ _ _)))) (fun _ hk => hk.2.1),
   set3_below h.below (Nat.le_trans hle (Nat.le_of_lt hgx)) _ _ _⟩
theorem LK.again {w : World} {g5 gx : Nat} {b : Int} {v2 v3 : Value} {A7 : Option Addr} {c7 : Nat} {e1 : List Int} {A8 : Option Addr} {c8 : Nat} {e2 : List S32} {A4 : Option Addr} {c4 : Nat} {data : List Int} {e0 : Int} {W0 W : World} (h : LK w g5 gx b v2 v3 A7 c7 e1 A8 c8 e2 A4 c4 data e0 W0) (hag : ∀ k, k < W0.heap.size → k ≠ g5 → W.heap[k]? = W0.heap[k]?) {u0 : Int} {u1 u2 : Value} (hb : W.heap[g5]? = some (.cells #[.int .i64 u0, u1, u2] 25 (0, 0))) (hB : Below w.heap.size w W) :
    LK w g5 gx u0 u1 u2 A7 c7 e1 A8 c8 e2 A4 c4 data e0 W :=
  ⟨h.lt, h.le, hb, (hag gx (blk_lt h.blkE) (Nat.ne_of_gt h.lt)).trans h.blkE, Kd.V_step h.data (fun k hk hlt => hag k hlt (Nat.ne_of_lt hk)), Kd.V_step h.ed (fun k hk hlt => hag k hlt (Nat.ne_of_gt hk)), Kd.V_step h.ec (fun k hk hlt => hag k hlt (Nat.ne_of_gt hk)), hB⟩
structure LM (w : World) (g5 gx : Nat) (b : Int) (A9 : Option Addr) (c9 : Nat) (disk : List Int) (A10 : Option Addr) (c10 : Nat) (cache : List S32) (A11 : Option Addr) (e2 : List S32) (A7 : Option Addr) (c7 : Nat) (A8 : Option Addr) (c8 : Nat) (A4 : Option Addr) (data : List Int) (A1 : Option Addr) (l1 : List Int) (W : World) : Prop where
  blk : W.heap[g5]? = some (.cells #[.int .i64 b, .slice A9 disk.length c9, .slice A10 cache.length c10] 25 (0, 0))
  blkE : W.heap[gx]? = some (.cells #[.int .i64 b, .slice A7 disk.length c7, .slice A8 e2.length c8] 25 (0, 0))
  dd : Kd.C (Kd.int .u8) W A9 disk.length disk
  dc : Kd.C k32 W A10 cache.length cache
  cc : Kd.C k32 W A11 e2.length e2
  ed : Kd.C (Kd.int .u8) W A7 disk.length disk
  ec : Kd.C k32 W A8 e2.length e2
  data : Kd.C (Kd.int .u8) W A4 data.length data
  r1 : Kd.C (Kd.int .u8) W A1 l1.length l1
  below : Below w.heap.size w W
theorem LM.step {w : World} {g5 gx : Nat} {b : Int} {A9 : Option Addr} {c9 : Nat} {disk : List Int} {A10 : Option Addr} {c10 : Nat} {cache : List S32} {A11 : Option Addr} {e2 : List S32} {A7 : Option Addr} {c7 : Nat} {A8 : Option Addr} {c8 : Nat} {A4 : Option Addr} {data : List Int} {A1 : Option Addr} {l1 : List Int} {W W' : World}
    (h : LM w g5 gx b A9 c9 disk A10 c10 cache A11 e2 A7 c7 A8 c8 A4 data A1 l1 W) (hb : Below W.heap.size W W') : LM w g5 gx b A9 c9 disk A10 c10 cache A11 e2 A7 c7 A8 c8 A4 data A1 l1 W' :=
  ⟨blk_below h.blk hb, blk_below h.blkE hb, Kd.C_below h.dd hb, Kd.C_below h.dc hb, Kd.C_below h.cc hb, Kd.C_below h.ed hb, Kd.C_below h.ec hb, Kd.C_below h.data hb, Kd.C_below h.r1 hb, below_step h.below hb⟩
theorem LM.alloc {w : World} {g5 gx : Nat} {b : Int} {A9 : Option Addr} {c9 : Nat} {disk : List Int} {A10 : Option Addr} {c10 : Nat} {cache : List S32} {A11 : Option Addr} {e2 : List S32} {A7 : Option Addr} {c7 : Nat} {A8 : Option Addr} {c8 : Nat} {A4 : Option Addr} {data : List Int} {A1 : Option Addr} {l1 : List Int} {W : World}
    (h : LM w g5 gx b A9 c9 disk A10 c10 cache A11 e2 A7 c7 A8 c8 A4 data A1 l1 W) (o : Obj) : LM w g5 gx b A9 c9 disk A10 c10 cache A11 e2 A7 c7 A8 c8 A4 data A1 l1 (W.alloc o) := h.step (below_alloc (Below.refl _ _) o)
theorem LM.drew {w : World} {g5 gx : Nat} {b : Int} {A9 : Option Addr} {c9 : Nat} {disk : List Int} {A10 : Option Addr} {c10 : Nat} {cache : List S32} {A11 : Option Addr} {e2 : List S32} {A7 : Option Addr} {c7 : Nat} {A8 : Option Addr} {c8 : Nat} {A4 : Option Addr} {data : List Int} {A1 : Option Addr} {l1 : List Int} {W : World}
    (h : LM w g5 gx b A9 c9 disk A10 c10 cache A11 e2 A7 c7 A8 c8 A4 data A1 l1 W) : LM w g5 gx b A9 c9 disk A10 c10 cache A11 e2 A7 c7 A8 c8 A4 data A1 l1 W.drew := h.step (below_drew1 (Below.refl _ _))
theorem LM.drewN {w : World} {g5 gx : Nat} {b : Int} {A9 : Option Addr} {c9 : Nat} {disk : List Int} {A10 : Option Addr} {c10 : Nat} {cache : List S32} {A11 : Option Addr} {e2 : List S32} {A7 : Option Addr} {c7 : Nat} {A8 : Option Addr} {c8 : Nat} {A4 : Option Addr} {data : List Int} {A1 : Option Addr} {l1 : List Int} {W : World}
    (h : LM w g5 gx b A9 c9 disk A10 c10 cache A11 e2 A7 c7 A8 c8 A4 data A1 l1 W) (m : Nat) : LM w g5 gx b A9 c9 disk A10 c10 cache A11 e2 A7 c7 A8 c8 A4 data A1 l1 (W.drewN m) := h.step (pw_below_drewN (Below.refl _ _) m)
theorem valid_e2 {b : Int} {disk : List Int} {cache e2 : List S32} {blk : Int} {data : List Int} {wc : Int} (hv : validDev b disk cache = true) (hw : wc = wcode b cache.length blk data.length) (he : e2 = if wc = 0 then cache ++ [⟨blk, data⟩] else cache) : validDev b disk e2 = true := by
  by_cases h0 : wc = 0
  · rw [if_pos h0] at he
    subst he
    exact valid_add b disk cache hv blk data (hw ▸ h0)
  · rw [if_neg h0] at he
    subst he
    exact hv
theorem flush_e2 {b : Int} {disk : List Int} {e2 : List S32} (hv : validDev b disk e2 = true) : impl_DevFlush.f b disk e2 = some (b, settleTo (fun _ => true) e2 disk e2.length, [], 0) := by
  unfold impl_DevFlush.f; rw [if_pos hv]
theorem crash_e2 {b : Int} {disk : List Int} {e2 : List S32} (more : List Int) (hv : validDev b disk e2 = true) : impl_DevCrash.f b disk e2 more = some (b, settleTo (keepBit more) e2 disk e2.length, [], 0) := by
  unfold impl_DevCrash.f; rw [if_pos hv]
structure LN (w : World) (g5 gx : Nat) (b : Int) (A9 : Option Addr) (c9 : Nat) (disk : List Int) (A10 : Option Addr) (c10 : Nat) (cache : List S32) (A11 : Option Addr) (e2 : List S32) (A7 : Option Addr) (c7 : Nat) (A8 : Option Addr) (c8 : Nat) (A4 : Option Addr) (data : List Int) (A1 : Option Addr) (l1 : List Int) (gf : Nat) (A14 : Option Addr) (c14 : Nat) (F : List Int) (A15 : Option Addr) (c15 : Nat) (W : World) : Prop extends LM w g5 gx b A9 c9 disk A10 c10 cache A11 e2 A7 c7 A8 c8 A4 data A1 l1 W where
  blkF : W.heap[gf]? = some (.cells #[.int .i64 b, .slice A14 F.length c14, .slice A15 0 c15] 25 (0, 0))
  fd : Kd.C (Kd.int .u8) W A14 F.length F
theorem LN.step {w : World} {g5 gx : Nat} {b : Int} {A9 : Option Addr} {c9 : Nat} {disk : List Int} {A10 : Option Addr} {c10 : Nat} {cache : List S32} {A11 : Option Addr} {e2 : List S32} {A7 : Option Addr} {c7 : Nat} {A8 : Option Addr} {c8 : Nat} {A4 : Option Addr} {data : List Int} {A1 : Option Addr} {l1 : List Int} {gf : Nat} {A14 : Option Addr} {c14 : Nat} {F : List Int} {A15 : Option Addr} {c15 : Nat} {W W' : World}
    (h : LN w g5 gx b A9 c9 disk A10 c10 cache A11 e2 A7 c7 A8 c8 A4 data A1 l1 gf A14 c14 F A15 c15 W) (hb : Below W.heap.size W W') : LN w g5 gx b A9 c9 disk A10 c10 cache A11 e2 A7 c7 A8 c8 A4 data A1 l1 gf A14 c14 F A15 c15 W' :=
  ⟨h.toLM.step hb, blk_below h.blkF hb, Kd.C_below h.fd hb⟩
structure LO (w : World) (g5 gx : Nat) (b : Int) (A9 : Option Addr) (c9 : Nat) (disk : List Int) (A10 : Option Addr) (c10 : Nat) (cache : List S32) (A11 : Option Addr) (e2 : List S32) (A7 : Option Addr) (c7 : Nat) (A8 : Option Addr) (c8 : Nat) (A4 : Option Addr) (data : List Int) (A1 : Option Addr) (l1 : List Int) (gf : Nat) (A14 : Option Addr) (c14 : Nat) (F : List Int) (A15 : Option Addr) (c15 : Nat) (gy : Nat) (A17 : Option Addr) (c17 : Nat) (G : List Int) (A18 : Option Addr) (c18 : Nat) (W : World) : Prop extends LN w g5 gx b A9 c9 disk A10 c10 cache A11 e2 A7 c7 A8 c8 A4 data A1 l1 gf A14 c14 F A15 c15 W where
  blkG : W.heap[gy]? = some (.cells #[.int .i64 b, .slice A17 G.length c17, .slice A18 0 c18] 25 (0, 0))
  gd : Kd.C (Kd.int .u8) W A17 G.length G
theorem LO.step {w : World} {g5 gx : Nat} {b : Int} {A9 : Option Addr} {c9 : Nat} {disk : List Int} {A10 : Option Addr} {c10 : Nat} {cache : List S32} {A11 : Option Addr} {e2 : List S32} {A7 : Option Addr} {c7 : Nat} {A8 : Option Addr} {c8 : Nat} {A4 : Option Addr} {data : List Int} {A1 : Option Addr} {l1 : List Int} {gf : Nat} {A14 : Option Addr} {c14 : Nat} {F : List Int} {A15 : Option Addr} {c15 : Nat} {gy : Nat} {A17 : Option Addr} {c17 : Nat} {G : List Int} {A18 : Option Addr} {c18 : Nat} {W W' : World}
    (h : LO w g5 gx b A9 c9 disk A10 c10 cache A11 e2 A7 c7 A8 c8 A4 data A1 l1 gf A14 c14 F A15 c15 gy A17 c17 G A18 c18 W) (hb : Below W.heap.size W W') : LO w g5 gx b A9 c9 disk A10 c10 cache A11 e2 A7 c7 A8 c8 A4 data A1 l1 gf A14 c14 F A15 c15 gy A17 c17 G A18 c18 W' :=
  ⟨h.toLN.step hb, blk_below h.blkG hb, Kd.C_below h.gd hb⟩
theorem LO.of {w : World} {g5 gx : Nat} {b : Int} {A9 : Option Addr} {c9 : Nat} {disk : List Int} {A10 : Option Addr} {c10 : Nat} {cache : List S32} {A11 : Option Addr} {e2 : List S32} {A7 : Option Addr} {c7 : Nat} {A8 : Option Addr} {c8 : Nat} {A4 : Option Addr} {data : List Int} {A1 : Option Addr} {l1 : List Int} {gf : Nat} {A14 : Option Addr} {c14 : Nat} {F : List Int} {A15 : Option Addr} {c15 : Nat} {gy : Nat} {A17 : Option Addr} {c17 : Nat} {G : List Int} {A18 : Option Addr} {c18 : Nat} {ok : Nat → Prop} {W W' : World}
    (h : LN w g5 gx b A9 c9 disk A10 c10 cache A11 e2 A7 c7 A8 c8 A4 data A1 l1 gf A14 c14 F A15 c15 W) (hB : Below W.heap.size W W') (hx : W'.heap[gy]? = some (.cells #[.int .i64 0, .slice none 0 0, .slice none 0 0] 25 (0, 0))) (hgy : W.heap.size ≤ gy) (h17 : Kd.R (Kd.int .u8) 5 W' 0 ok (.slice A17 G.length c17) G) :
    LO w g5 gx b A9 c9 disk A10 c10 cache A11 e2 A7 c7 A8 c8 A4 data A1 l1 gf A14 c14 F A15 c15 gy A17 c17 G A18 c18 (((W'.setCell ⟨gy, 0, none⟩ (.int .i64 b)).setCell ⟨gy, 1, none⟩ (.slice A17 G.length c17)).setCell ⟨gy, 2, none⟩ (.slice A18 0 c18)) :=
  ⟨h.step (set3_below hB hgy _ _ _), set3_cells hx _ _ _, (Kd.R_reads' (set3_R h17 hx (by decide) _ _ _)).2.2⟩
theorem bit_all : ∀ n : Fin 256, ∀ m : Fin 8, (Go.bits .and .u8 ((n.val : Nat) : Int) ((2 : Int) ^ m.val % 256) != 0) = (Go.bits .and .u8 (((n.val : Nat) : Int) / 2 ^ m.val) 1 == 1) := by decide +kernel
theorem bit_same (x : Int) (h0 : 0 ≤ x) (h1 : x ≤ 255) (m : Nat) (hm : m < 8) : (Go.bits .and .u8 x ((2 : Int) ^ m % 256) != 0) = (Go.bits .and .u8 (x / 2 ^ m) 1 == 1) := by
  have := bit_all ⟨x.toNat, by omega⟩ ⟨m, hm⟩
  simpa [Int.toNat_of_nonneg h0] using this
theorem rd_byte {l : List Int} (hm : ∀ x ∈ l, 0 ≤ x ∧ x ≤ 255) (i : Int) : 0 ≤ rd l i ∧ rd l i ≤ 255 := by
  unfold rd
  rw [List.getD_eq_getElem?_getD]
  cases h : l[i.toNat]? with
  | none => simp
  | some x => exact hm x (List.mem_of_getElem? h)
theorem keep_bit {l : List Int} (hm : ∀ x ∈ l, 0 ≤ x ∧ x ≤ 255) (i : Nat) (hi : i / 8 < l.length) : (Go.bits .and .u8 (rd l ((i : Int) / 8)) ((2 : Int) ^ (i % 8) % 256) != 0) = keepBit l i := by
  rw [bit_same _ (rd_byte hm _).1 (rd_byte hm _).2 _ (by omega)]
  simp [keepBit, hi]
theorem keep_out {l : List Int} (i : Nat) (hi : ¬ i / 8 < l.length) : keepBit l i = false := by simp [keepBit, hi]
theorem pick_yes {P : Nat → Bool} {k : Int} {cache : List S32} {base : List Int} {i : Nat} (hi : i < cache.length) (hf : (rd_T32 cache (i : Int)).f0 = k) (hP : P i = true) : pick P k cache base (i + 1) = (rd_T32 cache (i : Int)).f1 := by
  rw [rd_pend _ _ hi] at hf ⊢
  simp only [pick]
  rw [dif_pos hi, if_pos ⟨hf, hP⟩]
theorem pick_no {P : Nat → Bool} {k : Int} {cache : List S32} {base : List Int} {i : Nat} (hi : i < cache.length) (hf : ¬ (rd_T32 cache (i : Int)).f0 = k) : pick P k cache base (i + 1) = pick P k cache base i := by
  rw [rd_pend _ _ hi] at hf
  simp only [pick]
  rw [dif_pos hi, if_neg (fun h => hf h.1)]
theorem pick_out {P : Nat → Bool} {k : Int} {cache : List S32} {base : List Int} {i : Nat} (hi : i < cache.length) (hP : P i = false) : pick P k cache base (i + 1) = pick P k cache base i := by
  simp only [pick]
  rw [dif_pos hi, if_neg (fun h => by rw [hP] at h; exact absurd h.2 (by decide))]
theorem read_settled (kp : Nat → Bool) {b : Int} {disk : List Int} {cache : List S32} (hv : validDev b disk cache = true) {F : List Int} (hF : F = settleTo kp cache disk cache.length) (i : Int) (h0 : 0 ≤ i) (h1 : i < b) : impl_DevRead.f 5000 b F [] i = some (pick kp i cache (seg disk i) cache.length, 0) := by
  subst hF
  rw [read_ok b _ [] (valid_settle kp b disk cache hv) i h0 h1 5000 (by omega), pick_nil, seg_settle kp b disk cache hv i h0 h1 cache.length (Nat.le_refl _)]
theorem C_none {α : Type} (d : Kd α) (W : World) (A : Option Addr) : Kd.C d W A 0 [] := ⟨rfl, by simp, fun h => absurd h (Nat.lt_irrefl 0)⟩
theorem two_steps {W : World} {g : Nat} {blk : Int} {A4 : Option Addr} {c4 : Nat} {data : List Int} (hb : W.heap[g]? = some (.cells #[.int .i64 1, .int .i64 blk, .slice A4 data.length c4, .int .i64 2, .int .i64 0, .slice none 0 0] 40 (0, 0))) (hc4 : data.length ≤ c4) (hC : Kd.C (Kd.int .u8) W A4 data.length data) :
    Kd.C k40 W (some ⟨g, 0, none⟩) 2 [⟨1, blk, data⟩, ⟨2, 0, []⟩] := by
  refine ⟨rfl, by omega, fun _ => ⟨_, rfl, fun j p hj => ?_⟩⟩
  have cell : ∀ q v, (#[Value.int .i64 1, .int .i64 blk, .slice A4 data.length c4, .int .i64 2, .int .i64 0, .slice none 0 0] : Array Value)[q]? = some v → W.cell? ((⟨g, 0, none⟩ : Addr).add q) = some v := by
    intro q v hv
    rw [show (⟨g, 0, none⟩ : Addr).add q = ⟨g, q, none⟩ by rcases q with _ | q <;> simp [Addr.add]]
    exact (blk_cell hb q).trans hv
  rcases j with _ | _ | j
  · simp only [List.getElem?_cons_zero, Option.some.injEq] at hj
    subst hj
    refine ⟨_, rfl, k40_mk W ⟨1, blk, data⟩ hc4 hC, fun i u hu => ?_⟩
    rw [Nat.zero_mul, Nat.zero_add]
    refine cell i u ?_
    rcases i with _ | _ | _ | i <;> simp at hu ⊢ <;> exact hu
  · simp only [List.getElem?_cons_succ, List.getElem?_cons_zero, Option.some.injEq] at hj
    subst hj
    refine ⟨_, rfl, k40_mk W ⟨2, 0, []⟩ (A2 := none) (c2 := 0) (Nat.zero_le _) (C_none _ _ _), fun i u hu => ?_⟩
    refine cell _ u ?_
    show (#[Value.int .i64 1, .int .i64 blk, .slice A4 data.length c4, .int .i64 2, .int .i64 0, .slice none 0 0] : Array Value)[(0 + 1) * 3 + i]? = some u
    rcases i with _ | _ | _ | i <;> simp at hu ⊢ <;> exact hu
  · simp at hj
def law_T5 : Bool × List (List Nat × List Nat) := (true, [([], []), ([], []), ([], []), ([2], [2]), ([0, 1, 3, 3], [0, 1, 3]), ([4], [4]), ([5], [5]), ([5], [5]), ([], []), ([8, 6, 4, 0, 1, 2, 3, 4, 5, 6, 8], [6, 8]), ([7, 9, 0, 1, 2, 3, 4, 5, 6, 7, 8, 9], [7])])
def law_B5 : List Nat := [0, 0, 0, 4, 15, 31, 63, 63, 0, 383, 1023]
theorem law_tab5 : rtab .any (opsOf Try.f3 5) = law_T5 := by kernel_rfl
theorem law_bits5 : waitsOk law_T5.2 law_B5 = true := by kernel_rfl
def law_T13 : Bool × List (List Nat × List Nat) := (true, [([], []), ([], []), ([1], [1]), ([0, 2, 2], [0, 2]), ([3], [3]), ([4], [4]), ([4], [4]), ([], []), ([7, 5, 3, 0, 1, 2, 3, 4, 5, 7], [5, 7]), ([6, 8, 0, 1, 2, 3, 4, 5, 6, 7, 8], [6])])
def law_B13 : List Nat := [0, 0, 2, 7, 15, 31, 31, 0, 191, 511]
theorem law_tab13 : rtab .any (opsOf Try.f3 13) = law_T13 := by kernel_rfl
theorem law_bits13 : waitsOk law_T13.2 law_B13 = true := by kernel_rfl
set_option maxHeartbeats 40000000 in
set_option maxRecDepth 100000 in
theorem law_walk (A0 : Option Addr) (c0 : Nat) (l0 : List Int) (A1 : Option Addr) (c1 : Nat) (l1 : List Int) (w : World) (hr0 : Kd.C (Kd.int .u8) w A0 l0.length l0) (hc0 : l0.length ≤ c0) (hr1 : Kd.C (Kd.int .u8) w A1 l1.length l1) (hc1 : l1.length ≤ c1) (hm : ∀ x ∈ l1, 0 ≤ x ∧ x ≤ 255) :
    Calls Try.prog 3 #[.slice A0 l0.length c0, .slice A1 l1.length c1] w fun e w' => e = .returned (.bool true) ∧ Below w.heap.size w w' := by
  have hu25 := Try.underlying25
  have hu40 := Try.underlying40
  have HR0 := Aside0.mk hr0
  have HR1 := Aside0.mk hr1
  have HM := Aside0.mk hm
  clear hr0 hr1 hm
  by_cases hb0 : l0.length ≤ 1048576
  · by_cases hb1 : l1.length ≤ 1048576
    · have t0 : decide (1048576 < (l0.length : Int)) = false := by simp; omega
      have t1 : decide (1048576 < (l1.length : Int)) = false := by simp; omega
      obtain ⟨b, disk, cache, blk, data, hdraw, hdl⟩ := drawWrite_ok l0 hb0 2000000 (by omega)
      obtain ⟨s1, s2, s3, hsdev⟩ := sdev_ok b disk cache blk data (by omega) 2000000 (by omega)
      generalize hwc : (if validDev b disk cache = true then wcode b cache.length blk data.length else 1) = wcd at hsdev
      have HWC := Aside0.mk hwc
      clear hwc
      have hcop := fcopy_ok data (by omega) 2000000 (by omega)
      obtain ⟨e0, e1, e2, e3, him⟩ : ∃ e0 e1 e2 e3, impl_DevWrite.f b disk cache blk data = some (e0, e1, e2, e3) := by
        unfold impl_DevWrite.f
        split
        · split <;> exact ⟨_, _, _, _, rfl⟩
        · exact ⟨_, _, _, _, rfl⟩
      have HIM := Aside0.mk him
      have HDRAW := Aside0.mk hdraw
      have HSDEV := Aside0.mk hsdev
      have HCOP := Aside0.mk hcop
      have HDL := Aside0.mk hdl
      clear hdraw hsdev hcop hdl him
      go_enter Try.func3, Try.ntmps3
      go_upto_region 3 with (fail)
      go_wp2_with (first | (go_at_call 4; refine (spec_DrawDevWrite.calls 2000000 _ _ l0 b disk cache blk data _ HR0.out hc0 HDRAW.out).mono ?_; rintro e w1 ⟨v1, v2, v4, rfl, hq1, hn2, hq4, hb⟩; have HQ1 := Aside0.mk hq1; have HN2 := Aside0.mk hn2; have HQ4 := Aside0.mk hq4; have HB := Aside0.mk hb; clear hq1 hn2 hq4 hb; obtain ⟨A2, c2, rfl, hc2⟩ := Kd.Q_slice HQ1.out; obtain ⟨A3, c3, rfl⟩ := Kd.N_slice HN2.out; have hc3 := (Kd.N_reads' HN2.out).2.1; obtain ⟨A4, c4, rfl, hc4⟩ := Kd.Q_slice HQ4.out; have HJ : Aside0 (LJ w w1.heap.size b A2 c2 disk A3 c3 cache A4 c4 data A0 l0 A1 l1 (w1.alloc (.cells #[.int .i64 b, .slice A2 disk.length c2, .slice A3 cache.length c3] 25 (0, 0)))) := ⟨⟨blk_new w1 _, Kd.C_alloc (Kd.Q_reads' HQ1.out).2.2 _, Kd.C_alloc (Kd.N_reads' HN2.out).2.2 _, Kd.V_alloc (Kd.V_mono (Kd.V_bound (Kd.Q_V HQ4.out)) (fun _ hk => hk.2)) _, Kd.C_alloc (Kd.C_below HR0.out HB.out) _, Kd.C_alloc (Kd.C_below HR1.out HB.out) _, below_alloc HB.out _⟩⟩; have hle := below_size HB.out; clear HQ1 HN2 HQ4 HB) | (go_at_call 5; refine (spec_DevWrite.calls 2000000 b _ _ disk _ _ cache blk _ _ data _ _ _ _ _ HJ.out.disk hc2 HJ.out.cache hc3 (Kd.V_reads' HJ.out.data).2.2 hc4 HSDEV.out).mono ?_; rintro e w2 ⟨v5, v6, rfl, ho5, ho6, hb⟩; have HJ2 := Aside0.mk (LJ.step HJ.out hb); clear HJ; have HJ := HJ2; clear HJ2; obtain ⟨A5, c5, rfl⟩ := Kd.R_slice ho5; obtain ⟨A6, c6, rfl⟩ := Kd.R_slice (Kd.S_R ho6); clear ho5 ho6 hb))
      have HJ4 : Aside0 (LJ w w1.heap.size b A2 c2 disk A3 c3 cache A4 c4 data A0 l0 A1 l1 (w2.alloc (.cells #[.int .i64 s1, .slice A5 s2.length c5, .slice A6 s3.length c6] 25 (0, 0)))) := ⟨LJ.alloc HJ.out _⟩
      clear HJ
      have HJ := HJ4
      clear HJ4
      generalize w2.alloc (.cells #[.int .i64 s1, .slice A5 s2.length c5, .slice A6 s3.length c6] 25 (0, 0)) = w4 at HJ ⊢
      refine start_ (n := 11) (S := fun w' => w'.cell? ⟨w1.heap.size, 0, none⟩ = some (.int .i64 b) ∧ w'.cell? ⟨w1.heap.size, 1, none⟩ = some (.slice A2 disk.length c2) ∧ w'.cell? ⟨w1.heap.size, 2, none⟩ = some (.slice A3 cache.length c3)) (ds := []) #[false, false, false, false, false, false, false, false, false, false, false] (by kernel_rfl) rfl rfl ⟨(blk_cell (LJ.blk (show LJ w w1.heap.size b A2 c2 disk A3 c3 cache A4 c4 data A0 l0 A1 l1 _ from by repeat (first | exact HJ.out | (with_reducible refine LJ.alloc ?_ _) | (with_reducible refine LJ.drewN ?_ _) | (with_reducible refine LJ.drew ?_)))) 0).trans rfl, (blk_cell (LJ.blk (show LJ w w1.heap.size b A2 c2 disk A3 c3 cache A4 c4 data A0 l0 A1 l1 _ from by repeat (first | exact HJ.out | (with_reducible refine LJ.alloc ?_ _) | (with_reducible refine LJ.drewN ?_ _) | (with_reducible refine LJ.drew ?_)))) 1).trans rfl, (blk_cell (LJ.blk (show LJ w w1.heap.size b A2 c2 disk A3 c3 cache A4 c4 data A0 l0 A1 l1 _ from by repeat (first | exact HJ.out | (with_reducible refine LJ.alloc ?_ _) | (with_reducible refine LJ.drewN ?_ _) | (with_reducible refine LJ.drew ?_)))) 2).trans rfl⟩ (fun hHeld => ?_); refine with_tabW law_tab5 law_bits5 (fun HT_ HW_ => ?_)
      have HJd := Aside0.mk (LJ.drew HJ.out)
      clear HJ
      have HJ := HJd
      clear HJd
      generalize w4.drew = w5 at HJ hHeld ⊢
      refine pure_ (i := 1) (N := some 52) (v := ?_) (a' := ?_) #[false, true, false, false, false, false, false, false, false, false, false] rfl rfl (any_of HT_.out (by kernel_rfl)) (fun _ _ _ h => h) (Or.inl ⟨by rfl, ?_⟩) ?_ ?_
      rotate_left
      · intro w'
        go_simp
        with_reducible rfl
      rotate_left
      · simp only [Act.put, List.setIfInBounds_toArray, List.set_cons_zero, List.set_cons_succ, i64_w, i32_w]
        rfl
      refine pure_ (i := 2) (N := some 53) (v := ?_) (a' := ?_) #[false, true, true, false, false, false, false, false, false, false, false] rfl rfl (any_of HT_.out (by kernel_rfl)) (fun _ _ _ h => h) (Or.inl ⟨by rfl, ?_⟩) ?_ ?_
      rotate_left
      · intro w'
        go_simp
        with_reducible rfl
      rotate_left
      · simp only [Act.put, List.setIfInBounds_toArray, List.set_cons_zero, List.set_cons_succ, i64_w, i32_w]
        rfl
      refine take_ (i := 0) (N := some 51) (v := ?_) (a' := ?_) #[true, true, true, false, false, false, false, false, false, false, false] rfl rfl (take_ofW HT_.out HW_.out (by kernel_rfl)) (fun _ _ _ h => h) (Or.inl ⟨by rfl, ?_⟩) hHeld ?_ ?_
      rotate_left
      · rintro w' ⟨s0, s1, s2⟩
        go_simp
        with_reducible rfl
      rotate_left
      · simp only [Act.put, List.setIfInBounds_toArray, List.set_cons_zero, List.set_cons_succ, i64_w, i32_w]
        rfl
      refine join_ (σ := Value × Value × Value × Nat) 2 #[true, true, true, true, true, true, true, true, true, false, false] (fun s_ => [(54, s_.1), (55, .tuple #[.agg #[.int .i64 e0, s_.2.1, s_.2.2.1], .int .i64 e3]), (10, .pointer (some ⟨s_.2.2.2, 0, none⟩)), (50, .tuple #[.agg #[.int .i64 e0, s_.2.1, s_.2.2.1], .int .i64 e3]), (56, .agg #[.int .i64 e0, s_.2.1, s_.2.2.1]), (57, .int .i64 e3)]) (fun s_ w' => (w'.cell? ⟨w1.heap.size, 0, none⟩ = some (.int .i64 b) ∧ w'.cell? ⟨w1.heap.size, 1, none⟩ = some (.slice A2 disk.length c2) ∧ w'.cell? ⟨w1.heap.size, 2, none⟩ = some (.slice A3 cache.length c3)) ∧ LJ w w1.heap.size b A2 c2 disk A3 c3 cache A4 c4 data A0 l0 A1 l1 w' ∧ Kd.R (Kd.int .u8) 5 w' (w1.heap.size + 1) (fun _ => True) s_.2.1 e1 ∧ Kd.S k32 32 w' (w1.heap.size + 1) (fun k_ => some k_ ≠ (s_.2.1 : Value).ownBlock) s_.2.2.1 e2 ∧ w'.heap[s_.2.2.2]? = some (.cells #[.int .i64 0, .slice none 0 0, .slice none 0 0] 25 (0, 0)) ∧ w1.heap.size < s_.2.2.2) ?_ ?_
      rotate_left
      · as_aux_lemma =>
        intro hCont
        refine two_ (i := 3) (j := 8) (Ni := some 54) (Nj := some 10) #[true, true, true, true, false, false, false, false, false, false, false] #[true, true, true, false, false, false, false, false, true, false, false] rfl rfl rfl rfl (two_of HT_.out (by kernel_rfl)) (by decide) (by decide) (fun K hK => ?_) (fun K hK => ?_)
        · skip
          refine goes_ Try.func7 (by kernel_rfl) rfl #[.slice A4 data.length c4] (by rfl) rfl rfl (by (try simp only [List.map_toArray, List.map_cons, List.map_nil]); first | done | rfl | (simp only [List.length_drop, List.length_take]; rfl)) ?_
          with_reducible refine (laws_fCopyBytes.calls 2000000 _ _ data data _ ?side1 hc4 HCOP.out).mono ?_
          (case side1 => exact (Kd.V_reads' (LJ.data (show LJ w w1.heap.size b A2 c2 disk A3 c3 cache A4 c4 data A0 l0 A1 l1 _ from by repeat (first | exact HJ.out | (with_reducible refine LJ.alloc ?_ _) | (with_reducible refine LJ.drewN ?_ _) | (with_reducible refine LJ.drew ?_))))).2.2)
          rintro e w6 ⟨v6, rfl, ho6, hb⟩
          refine ⟨_, rfl, ?_⟩
          have HJ6 := Aside0.mk (LJ.step (show LJ w w1.heap.size b A2 c2 disk A3 c3 cache A4 c4 data A0 l0 A1 l1 _ from by repeat (first | exact HJ.out | (with_reducible refine LJ.alloc ?_ _) | (with_reducible refine LJ.drewN ?_ _) | (with_reducible refine LJ.drew ?_))) hb)
          clear HJ
          have HJ := HJ6
          clear HJ6
          obtain ⟨A6, c6, rfl⟩ := Kd.R_slice ho6
          have HC6 := Aside0.mk (Kd.R_reads' ho6).2.2
          have hc6 := (Kd.R_reads' ho6).2.1
          clear ho6 hb
          refine hK.out _ _ ⟨(blk_cell (LJ.blk (show LJ w w1.heap.size b A2 c2 disk A3 c3 cache A4 c4 data A0 l0 A1 l1 _ from by repeat (first | exact HJ.out | (with_reducible refine LJ.alloc ?_ _) | (with_reducible refine LJ.drewN ?_ _) | (with_reducible refine LJ.drew ?_)))) 0).trans rfl, (blk_cell (LJ.blk (show LJ w w1.heap.size b A2 c2 disk A3 c3 cache A4 c4 data A0 l0 A1 l1 _ from by repeat (first | exact HJ.out | (with_reducible refine LJ.alloc ?_ _) | (with_reducible refine LJ.drewN ?_ _) | (with_reducible refine LJ.drew ?_)))) 1).trans rfl, (blk_cell (LJ.blk (show LJ w w1.heap.size b A2 c2 disk A3 c3 cache A4 c4 data A0 l0 A1 l1 _ from by repeat (first | exact HJ.out | (with_reducible refine LJ.alloc ?_ _) | (with_reducible refine LJ.drewN ?_ _) | (with_reducible refine LJ.drew ?_)))) 2).trans rfl⟩ (fun hHeld => ?_)
          clear hK K
          refine norm_ (a' := ?_) ?_ ?_
          rotate_left
          · show Act.put _ (some 54) _ = _
            simp only [Act.put, List.setIfInBounds_toArray, List.set_cons_zero, List.set_cons_succ, i64_w, i32_w]
            rfl
          refine two_ (i := 4) (j := 8) (Ni := some 55) (Nj := some 10) #[true, true, true, true, true, false, false, false, false, false, false] #[true, true, true, true, false, false, false, false, true, false, false] rfl rfl rfl rfl (two_of HT_.out (by kernel_rfl)) (by decide) (by decide) (fun K hK => ?_) (fun K hK => ?_)
          · skip
            refine goes_ Try.func6 (by kernel_rfl) rfl #[.agg #[.int .i64 b, .slice A2 disk.length c2, .slice A3 cache.length c3], .int .i64 blk, .slice A6 data.length c6] (by rfl) rfl rfl (by (try simp only [List.map_toArray, List.map_cons, List.map_nil]); first | done | rfl | (simp only [List.length_drop, List.length_take]; rfl)) ?_
            with_reducible refine (impl_DevWrite.calls b _ _ disk _ _ cache blk _ _ data e0 e1 e2 e3 _ ?side1 hc2 ?side3 hc3 ?side5 hc6 HIM.out).mono ?_
            (case side1 => exact LJ.disk (show LJ w w1.heap.size b A2 c2 disk A3 c3 cache A4 c4 data A0 l0 A1 l1 _ from by repeat (first | exact HJ.out | (with_reducible refine LJ.alloc ?_ _) | (with_reducible refine LJ.drewN ?_ _) | (with_reducible refine LJ.drew ?_))))
            (case side3 => exact LJ.cache (show LJ w w1.heap.size b A2 c2 disk A3 c3 cache A4 c4 data A0 l0 A1 l1 _ from by repeat (first | exact HJ.out | (with_reducible refine LJ.alloc ?_ _) | (with_reducible refine LJ.drewN ?_ _) | (with_reducible refine LJ.drew ?_))))
            (case side5 => repeat (first | (with_reducible exact HC6.out) | (with_reducible refine Kd.C_alloc ?_ _) | (with_reducible refine Kd.C_drewN ?_ _) | (with_reducible refine Kd.C_drew ?_)))
            rintro e w7 ⟨v7, v8, rfl, ho7, ho8, hb⟩
            refine ⟨_, rfl, ?_⟩
            have hg7 := Nat.lt_of_lt_of_le (blk_lt (LJ.blk (show LJ w w1.heap.size b A2 c2 disk A3 c3 cache A4 c4 data A0 l0 A1 l1 _ from by repeat (first | exact HJ.out | (with_reducible refine LJ.alloc ?_ _) | (with_reducible refine LJ.drewN ?_ _) | (with_reducible refine LJ.drew ?_))))) (Nat.le_refl _)
            have HO7 := Aside0.mk (Kd.R_lower ho7 (Nat.succ_le_of_lt hg7))
            have HO8 := Aside0.mk (Kd.S_lower ho8 (Nat.succ_le_of_lt hg7))
            have HJ7 := Aside0.mk (LJ.step (show LJ w w1.heap.size b A2 c2 disk A3 c3 cache A4 c4 data A0 l0 A1 l1 _ from by repeat (first | exact HJ.out | (with_reducible refine LJ.alloc ?_ _) | (with_reducible refine LJ.drewN ?_ _) | (with_reducible refine LJ.drew ?_))) hb)
            clear HJ
            have HJ := HJ7
            clear HJ7
            clear ho7 ho8 hb hg7
            refine hK.out _ _ ⟨(blk_cell (LJ.blk (show LJ w w1.heap.size b A2 c2 disk A3 c3 cache A4 c4 data A0 l0 A1 l1 _ from by repeat (first | exact HJ.out | (with_reducible refine LJ.alloc ?_ _) | (with_reducible refine LJ.drewN ?_ _) | (with_reducible refine LJ.drew ?_)))) 0).trans rfl, (blk_cell (LJ.blk (show LJ w w1.heap.size b A2 c2 disk A3 c3 cache A4 c4 data A0 l0 A1 l1 _ from by repeat (first | exact HJ.out | (with_reducible refine LJ.alloc ?_ _) | (with_reducible refine LJ.drewN ?_ _) | (with_reducible refine LJ.drew ?_)))) 1).trans rfl, (blk_cell (LJ.blk (show LJ w w1.heap.size b A2 c2 disk A3 c3 cache A4 c4 data A0 l0 A1 l1 _ from by repeat (first | exact HJ.out | (with_reducible refine LJ.alloc ?_ _) | (with_reducible refine LJ.drewN ?_ _) | (with_reducible refine LJ.drew ?_)))) 2).trans rfl⟩ (fun hHeld => ?_)
            clear hK K
            refine norm_ (a' := ?_) ?_ ?_
            rotate_left
            · show Act.put _ (some 55) _ = _
              simp only [Act.put, List.setIfInBounds_toArray, List.set_cons_zero, List.set_cons_succ, i64_w, i32_w]
              rfl
            refine pure_ (i := 5) (N := some 50) (v := ?_) (a' := ?_) #[true, true, true, true, true, true, false, false, false, false, false] rfl rfl (any_of HT_.out (by kernel_rfl)) (fun _ _ _ h => h) (Or.inl ⟨by rfl, ?_⟩) ?_ ?_
            rotate_left
            · intro w'
              go_simp
              with_reducible rfl
            rotate_left
            · simp only [Act.put, List.setIfInBounds_toArray, List.set_cons_zero, List.set_cons_succ, i64_w, i32_w]
              rfl
            refine pure_ (i := 6) (N := some 56) (v := ?_) (a' := ?_) #[true, true, true, true, true, true, true, false, false, false, false] rfl rfl (any_of HT_.out (by kernel_rfl)) (fun _ _ _ h => h) (Or.inl ⟨by rfl, ?_⟩) ?_ ?_
            rotate_left
            · intro w'
              go_simp
              with_reducible rfl
            rotate_left
            · simp only [Act.put, List.setIfInBounds_toArray, List.set_cons_zero, List.set_cons_succ, i64_w, i32_w]
              rfl
            refine pure_ (i := 7) (N := some 57) (v := ?_) (a' := ?_) #[true, true, true, true, true, true, true, true, false, false, false] rfl rfl (any_of HT_.out (by kernel_rfl)) (fun _ _ _ h => h) (Or.inl ⟨by rfl, ?_⟩) ?_ ?_
            rotate_left
            · intro w'
              go_simp
              with_reducible rfl
            rotate_left
            · simp only [Act.put, List.setIfInBounds_toArray, List.set_cons_zero, List.set_cons_succ, i64_w, i32_w]
              rfl
            refine one_ (i := 8) (N := some 10) #[true, true, true, true, true, true, true, true, true, false, false] rfl rfl (one_of HT_.out (by kernel_rfl)) (by decide) (fun K hK => ?_)
            refine box_step ?hg (N := 10) ?hd (cs := #[.int .i64 0, .slice none 0 0, .slice none 0 0]) (t := 25) ?hr ?_; (case hd => rfl); (case hg => rfl); (case hr => first | (go_simp; done) | (go_simp; rfl))
            intro gx hg wx hbox hb
            have hgx : w1.heap.size < gx := by rw [hg]; exact blk_lt (LJ.blk (show LJ w w1.heap.size b A2 c2 disk A3 c3 cache A4 c4 data A0 l0 A1 l1 _ from by repeat (first | exact HJ.out | (with_reducible refine LJ.alloc ?_ _) | (with_reducible refine LJ.drewN ?_ _) | (with_reducible refine LJ.drew ?_))))
            have HJx := Aside0.mk (LJ.step (show LJ w w1.heap.size b A2 c2 disk A3 c3 cache A4 c4 data A0 l0 A1 l1 _ from by repeat (first | exact HJ.out | (with_reducible refine LJ.alloc ?_ _) | (with_reducible refine LJ.drewN ?_ _) | (with_reducible refine LJ.drew ?_))) hb)
            clear HJ
            have HJ := HJx
            clear HJx
            have HOx := Aside0.mk (Kd.R_below (by repeat (first | (with_reducible exact HO7.out) | (with_reducible refine Kd.R_drewN ?_ _) | (with_reducible refine Kd.R_drew ?_))) hb)
            clear HO7
            have HO7 := HOx
            clear HOx
            have HOx := Aside0.mk (Kd.S_below (by repeat (first | (with_reducible exact HO8.out) | (with_reducible refine Kd.S_drewN ?_ _) | (with_reducible refine Kd.S_drew ?_))) hb)
            clear HO8
            have HO8 := HOx
            clear HOx
            have HX := Aside0.mk hbox
            clear hbox hb hg
            refine hK.out _ _ ⟨(blk_cell (LJ.blk (show LJ w w1.heap.size b A2 c2 disk A3 c3 cache A4 c4 data A0 l0 A1 l1 _ from by repeat (first | exact HJ.out | (with_reducible refine LJ.alloc ?_ _) | (with_reducible refine LJ.drewN ?_ _) | (with_reducible refine LJ.drew ?_)))) 0).trans rfl, (blk_cell (LJ.blk (show LJ w w1.heap.size b A2 c2 disk A3 c3 cache A4 c4 data A0 l0 A1 l1 _ from by repeat (first | exact HJ.out | (with_reducible refine LJ.alloc ?_ _) | (with_reducible refine LJ.drewN ?_ _) | (with_reducible refine LJ.drew ?_)))) 1).trans rfl, (blk_cell (LJ.blk (show LJ w w1.heap.size b A2 c2 disk A3 c3 cache A4 c4 data A0 l0 A1 l1 _ from by repeat (first | exact HJ.out | (with_reducible refine LJ.alloc ?_ _) | (with_reducible refine LJ.drewN ?_ _) | (with_reducible refine LJ.drew ?_)))) 2).trans rfl⟩ (fun hHeld => ?_)
            clear hK K
            refine norm_ (a' := ?_) ?_ ?_
            rotate_left
            · show Act.put _ (some 10) _ = _
              simp only [Act.put, List.setIfInBounds_toArray, List.set_cons_zero, List.set_cons_succ, i64_w, i32_w]
              rfl
            exact norm_ (by simp only [putAll, Act.put, List.setIfInBounds_toArray, List.set_cons_zero, List.set_cons_succ]) (hCont (.slice A6 data.length c6, v7, v8, gx) _ ⟨hHeld, (show LJ w w1.heap.size b A2 c2 disk A3 c3 cache A4 c4 data A0 l0 A1 l1 _ from by repeat (first | exact HJ.out | (with_reducible refine LJ.alloc ?_ _) | (with_reducible refine LJ.drewN ?_ _) | (with_reducible refine LJ.drew ?_))), (by repeat (first | (with_reducible exact HO7.out) | (with_reducible refine Kd.R_alloc ?_ _) | (with_reducible refine Kd.R_drewN ?_ _) | (with_reducible refine Kd.R_drew ?_))), (by repeat (first | (with_reducible exact HO8.out) | (with_reducible refine Kd.S_alloc ?_ _) | (with_reducible refine Kd.S_drewN ?_ _) | (with_reducible refine Kd.S_drew ?_))), (by repeat (first | (with_reducible exact HX.out) | (with_reducible refine blk_alloc ?_ _) | (with_reducible refine blk_drewN ?_ _) | (with_reducible refine blk_drew ?_))), hgx⟩)
          · skip
            refine box_step ?hg (N := 10) ?hd (cs := #[.int .i64 0, .slice none 0 0, .slice none 0 0]) (t := 25) ?hr ?_; (case hd => rfl); (case hg => rfl); (case hr => first | (go_simp; done) | (go_simp; rfl))
            intro gx hg wx hbox hb
            have hgx : w1.heap.size < gx := by rw [hg]; exact blk_lt (LJ.blk (show LJ w w1.heap.size b A2 c2 disk A3 c3 cache A4 c4 data A0 l0 A1 l1 _ from by repeat (first | exact HJ.out | (with_reducible refine LJ.alloc ?_ _) | (with_reducible refine LJ.drewN ?_ _) | (with_reducible refine LJ.drew ?_))))
            have HJx := Aside0.mk (LJ.step (show LJ w w1.heap.size b A2 c2 disk A3 c3 cache A4 c4 data A0 l0 A1 l1 _ from by repeat (first | exact HJ.out | (with_reducible refine LJ.alloc ?_ _) | (with_reducible refine LJ.drewN ?_ _) | (with_reducible refine LJ.drew ?_))) hb)
            clear HJ
            have HJ := HJx
            clear HJx
            have HCx := Aside0.mk (Kd.C_below (by repeat (first | (with_reducible exact HC6.out) | (with_reducible refine Kd.C_alloc ?_ _) | (with_reducible refine Kd.C_drewN ?_ _) | (with_reducible refine Kd.C_drew ?_))) hb)
            clear HC6
            have HC6 := HCx
            clear HCx
            have HX := Aside0.mk hbox
            clear hbox hb hg
            refine hK.out _ _ ⟨(blk_cell (LJ.blk (show LJ w w1.heap.size b A2 c2 disk A3 c3 cache A4 c4 data A0 l0 A1 l1 _ from by repeat (first | exact HJ.out | (with_reducible refine LJ.alloc ?_ _) | (with_reducible refine LJ.drewN ?_ _) | (with_reducible refine LJ.drew ?_)))) 0).trans rfl, (blk_cell (LJ.blk (show LJ w w1.heap.size b A2 c2 disk A3 c3 cache A4 c4 data A0 l0 A1 l1 _ from by repeat (first | exact HJ.out | (with_reducible refine LJ.alloc ?_ _) | (with_reducible refine LJ.drewN ?_ _) | (with_reducible refine LJ.drew ?_)))) 1).trans rfl, (blk_cell (LJ.blk (show LJ w w1.heap.size b A2 c2 disk A3 c3 cache A4 c4 data A0 l0 A1 l1 _ from by repeat (first | exact HJ.out | (with_reducible refine LJ.alloc ?_ _) | (with_reducible refine LJ.drewN ?_ _) | (with_reducible refine LJ.drew ?_)))) 2).trans rfl⟩ (fun hHeld => ?_)
            clear hK K
            refine norm_ (a' := ?_) ?_ ?_
            rotate_left
            · show Act.put _ (some 10) _ = _
              simp only [Act.put, List.setIfInBounds_toArray, List.set_cons_zero, List.set_cons_succ, i64_w, i32_w]
              rfl
            refine one_ (i := 4) (N := some 55) #[true, true, true, true, true, false, false, false, true, false, false] rfl rfl (one_of HT_.out (by kernel_rfl)) (by decide) (fun K hK => ?_)
            refine goes_ Try.func6 (by kernel_rfl) rfl #[.agg #[.int .i64 b, .slice A2 disk.length c2, .slice A3 cache.length c3], .int .i64 blk, .slice A6 data.length c6] (by rfl) rfl rfl (by (try simp only [List.map_toArray, List.map_cons, List.map_nil]); first | done | rfl | (simp only [List.length_drop, List.length_take]; rfl)) ?_
            with_reducible refine (impl_DevWrite.calls b _ _ disk _ _ cache blk _ _ data e0 e1 e2 e3 _ ?side1 hc2 ?side3 hc3 ?side5 hc6 HIM.out).mono ?_
            (case side1 => exact LJ.disk (show LJ w w1.heap.size b A2 c2 disk A3 c3 cache A4 c4 data A0 l0 A1 l1 _ from by repeat (first | exact HJ.out | (with_reducible refine LJ.alloc ?_ _) | (with_reducible refine LJ.drewN ?_ _) | (with_reducible refine LJ.drew ?_))))
            (case side3 => exact LJ.cache (show LJ w w1.heap.size b A2 c2 disk A3 c3 cache A4 c4 data A0 l0 A1 l1 _ from by repeat (first | exact HJ.out | (with_reducible refine LJ.alloc ?_ _) | (with_reducible refine LJ.drewN ?_ _) | (with_reducible refine LJ.drew ?_))))
            (case side5 => repeat (first | (with_reducible exact HC6.out) | (with_reducible refine Kd.C_alloc ?_ _) | (with_reducible refine Kd.C_drewN ?_ _) | (with_reducible refine Kd.C_drew ?_)))
            rintro e w7 ⟨v7, v8, rfl, ho7, ho8, hb⟩
            refine ⟨_, rfl, ?_⟩
            have hg7 := Nat.lt_of_lt_of_le (blk_lt (LJ.blk (show LJ w w1.heap.size b A2 c2 disk A3 c3 cache A4 c4 data A0 l0 A1 l1 _ from by repeat (first | exact HJ.out | (with_reducible refine LJ.alloc ?_ _) | (with_reducible refine LJ.drewN ?_ _) | (with_reducible refine LJ.drew ?_))))) (Nat.le_refl _)
            have HO7 := Aside0.mk (Kd.R_lower ho7 (Nat.succ_le_of_lt hg7))
            have HO8 := Aside0.mk (Kd.S_lower ho8 (Nat.succ_le_of_lt hg7))
            have HJ7 := Aside0.mk (LJ.step (show LJ w w1.heap.size b A2 c2 disk A3 c3 cache A4 c4 data A0 l0 A1 l1 _ from by repeat (first | exact HJ.out | (with_reducible refine LJ.alloc ?_ _) | (with_reducible refine LJ.drewN ?_ _) | (with_reducible refine LJ.drew ?_))) hb)
            have HX7 := Aside0.mk (blk_below (by repeat (first | (with_reducible exact HX.out) | (with_reducible refine blk_alloc ?_ _) | (with_reducible refine blk_drewN ?_ _) | (with_reducible refine blk_drew ?_))) hb)
            clear HJ
            have HJ := HJ7
            clear HJ7
            clear HX
            have HX := HX7
            clear HX7
            clear ho7 ho8 hb hg7
            refine hK.out _ _ ⟨(blk_cell (LJ.blk (show LJ w w1.heap.size b A2 c2 disk A3 c3 cache A4 c4 data A0 l0 A1 l1 _ from by repeat (first | exact HJ.out | (with_reducible refine LJ.alloc ?_ _) | (with_reducible refine LJ.drewN ?_ _) | (with_reducible refine LJ.drew ?_)))) 0).trans rfl, (blk_cell (LJ.blk (show LJ w w1.heap.size b A2 c2 disk A3 c3 cache A4 c4 data A0 l0 A1 l1 _ from by repeat (first | exact HJ.out | (with_reducible refine LJ.alloc ?_ _) | (with_reducible refine LJ.drewN ?_ _) | (with_reducible refine LJ.drew ?_)))) 1).trans rfl, (blk_cell (LJ.blk (show LJ w w1.heap.size b A2 c2 disk A3 c3 cache A4 c4 data A0 l0 A1 l1 _ from by repeat (first | exact HJ.out | (with_reducible refine LJ.alloc ?_ _) | (with_reducible refine LJ.drewN ?_ _) | (with_reducible refine LJ.drew ?_)))) 2).trans rfl⟩ (fun hHeld => ?_)
            clear hK K
            refine norm_ (a' := ?_) ?_ ?_
            rotate_left
            · show Act.put _ (some 55) _ = _
              simp only [Act.put, List.setIfInBounds_toArray, List.set_cons_zero, List.set_cons_succ, i64_w, i32_w]
              rfl
            refine pure_ (i := 5) (N := some 50) (v := ?_) (a' := ?_) #[true, true, true, true, true, true, false, false, true, false, false] rfl rfl (any_of HT_.out (by kernel_rfl)) (fun _ _ _ h => h) (Or.inl ⟨by rfl, ?_⟩) ?_ ?_
            rotate_left
            · intro w'
              go_simp
              with_reducible rfl
            rotate_left
            · simp only [Act.put, List.setIfInBounds_toArray, List.set_cons_zero, List.set_cons_succ, i64_w, i32_w]
              rfl
            refine pure_ (i := 6) (N := some 56) (v := ?_) (a' := ?_) #[true, true, true, true, true, true, true, false, true, false, false] rfl rfl (any_of HT_.out (by kernel_rfl)) (fun _ _ _ h => h) (Or.inl ⟨by rfl, ?_⟩) ?_ ?_
            rotate_left
            · intro w'
              go_simp
              with_reducible rfl
            rotate_left
            · simp only [Act.put, List.setIfInBounds_toArray, List.set_cons_zero, List.set_cons_succ, i64_w, i32_w]
              rfl
            refine pure_ (i := 7) (N := some 57) (v := ?_) (a' := ?_) #[true, true, true, true, true, true, true, true, true, false, false] rfl rfl (any_of HT_.out (by kernel_rfl)) (fun _ _ _ h => h) (Or.inl ⟨by rfl, ?_⟩) ?_ ?_
            rotate_left
            · intro w'
              go_simp
              with_reducible rfl
            rotate_left
            · simp only [Act.put, List.setIfInBounds_toArray, List.set_cons_zero, List.set_cons_succ, i64_w, i32_w]
              rfl
            exact norm_ (by simp only [putAll, Act.put, List.setIfInBounds_toArray, List.set_cons_zero, List.set_cons_succ]) (hCont (.slice A6 data.length c6, v7, v8, gx) _ ⟨hHeld, (show LJ w w1.heap.size b A2 c2 disk A3 c3 cache A4 c4 data A0 l0 A1 l1 _ from by repeat (first | exact HJ.out | (with_reducible refine LJ.alloc ?_ _) | (with_reducible refine LJ.drewN ?_ _) | (with_reducible refine LJ.drew ?_))), (by repeat (first | (with_reducible exact HO7.out) | (with_reducible refine Kd.R_alloc ?_ _) | (with_reducible refine Kd.R_drewN ?_ _) | (with_reducible refine Kd.R_drew ?_))), (by repeat (first | (with_reducible exact HO8.out) | (with_reducible refine Kd.S_alloc ?_ _) | (with_reducible refine Kd.S_drewN ?_ _) | (with_reducible refine Kd.S_drew ?_))), (by repeat (first | (with_reducible exact HX.out) | (with_reducible refine blk_alloc ?_ _) | (with_reducible refine blk_drewN ?_ _) | (with_reducible refine blk_drew ?_))), hgx⟩)
        · skip
          refine box_step ?hg (N := 10) ?hd (cs := #[.int .i64 0, .slice none 0 0, .slice none 0 0]) (t := 25) ?hr ?_; (case hd => rfl); (case hg => rfl); (case hr => first | (go_simp; done) | (go_simp; rfl))
          intro gx hg wx hbox hb
          have hgx : w1.heap.size < gx := by rw [hg]; exact blk_lt (LJ.blk (show LJ w w1.heap.size b A2 c2 disk A3 c3 cache A4 c4 data A0 l0 A1 l1 _ from by repeat (first | exact HJ.out | (with_reducible refine LJ.alloc ?_ _) | (with_reducible refine LJ.drewN ?_ _) | (with_reducible refine LJ.drew ?_))))
          have HJx := Aside0.mk (LJ.step (show LJ w w1.heap.size b A2 c2 disk A3 c3 cache A4 c4 data A0 l0 A1 l1 _ from by repeat (first | exact HJ.out | (with_reducible refine LJ.alloc ?_ _) | (with_reducible refine LJ.drewN ?_ _) | (with_reducible refine LJ.drew ?_))) hb)
          clear HJ
          have HJ := HJx
          clear HJx
          have HX := Aside0.mk hbox
          clear hbox hb hg
          refine hK.out _ _ ⟨(blk_cell (LJ.blk (show LJ w w1.heap.size b A2 c2 disk A3 c3 cache A4 c4 data A0 l0 A1 l1 _ from by repeat (first | exact HJ.out | (with_reducible refine LJ.alloc ?_ _) | (with_reducible refine LJ.drewN ?_ _) | (with_reducible refine LJ.drew ?_)))) 0).trans rfl, (blk_cell (LJ.blk (show LJ w w1.heap.size b A2 c2 disk A3 c3 cache A4 c4 data A0 l0 A1 l1 _ from by repeat (first | exact HJ.out | (with_reducible refine LJ.alloc ?_ _) | (with_reducible refine LJ.drewN ?_ _) | (with_reducible refine LJ.drew ?_)))) 1).trans rfl, (blk_cell (LJ.blk (show LJ w w1.heap.size b A2 c2 disk A3 c3 cache A4 c4 data A0 l0 A1 l1 _ from by repeat (first | exact HJ.out | (with_reducible refine LJ.alloc ?_ _) | (with_reducible refine LJ.drewN ?_ _) | (with_reducible refine LJ.drew ?_)))) 2).trans rfl⟩ (fun hHeld => ?_)
          clear hK K
          refine norm_ (a' := ?_) ?_ ?_
          rotate_left
          · show Act.put _ (some 10) _ = _
            simp only [Act.put, List.setIfInBounds_toArray, List.set_cons_zero, List.set_cons_succ, i64_w, i32_w]
            rfl
          refine one_ (i := 3) (N := some 54) #[true, true, true, true, false, false, false, false, true, false, false] rfl rfl (one_of HT_.out (by kernel_rfl)) (by decide) (fun K hK => ?_)
          refine goes_ Try.func7 (by kernel_rfl) rfl #[.slice A4 data.length c4] (by rfl) rfl rfl (by (try simp only [List.map_toArray, List.map_cons, List.map_nil]); first | done | rfl | (simp only [List.length_drop, List.length_take]; rfl)) ?_
          with_reducible refine (laws_fCopyBytes.calls 2000000 _ _ data data _ ?side1 hc4 HCOP.out).mono ?_
          (case side1 => exact (Kd.V_reads' (LJ.data (show LJ w w1.heap.size b A2 c2 disk A3 c3 cache A4 c4 data A0 l0 A1 l1 _ from by repeat (first | exact HJ.out | (with_reducible refine LJ.alloc ?_ _) | (with_reducible refine LJ.drewN ?_ _) | (with_reducible refine LJ.drew ?_))))).2.2)
          rintro e w6 ⟨v6, rfl, ho6, hb⟩
          refine ⟨_, rfl, ?_⟩
          have HJ6 := Aside0.mk (LJ.step (show LJ w w1.heap.size b A2 c2 disk A3 c3 cache A4 c4 data A0 l0 A1 l1 _ from by repeat (first | exact HJ.out | (with_reducible refine LJ.alloc ?_ _) | (with_reducible refine LJ.drewN ?_ _) | (with_reducible refine LJ.drew ?_))) hb)
          have HX6 := Aside0.mk (blk_below (by repeat (first | (with_reducible exact HX.out) | (with_reducible refine blk_alloc ?_ _) | (with_reducible refine blk_drewN ?_ _) | (with_reducible refine blk_drew ?_))) hb)
          clear HJ
          have HJ := HJ6
          clear HJ6
          clear HX
          have HX := HX6
          clear HX6
          obtain ⟨A6, c6, rfl⟩ := Kd.R_slice ho6
          have HC6 := Aside0.mk (Kd.R_reads' ho6).2.2
          have hc6 := (Kd.R_reads' ho6).2.1
          clear ho6 hb
          refine hK.out _ _ ⟨(blk_cell (LJ.blk (show LJ w w1.heap.size b A2 c2 disk A3 c3 cache A4 c4 data A0 l0 A1 l1 _ from by repeat (first | exact HJ.out | (with_reducible refine LJ.alloc ?_ _) | (with_reducible refine LJ.drewN ?_ _) | (with_reducible refine LJ.drew ?_)))) 0).trans rfl, (blk_cell (LJ.blk (show LJ w w1.heap.size b A2 c2 disk A3 c3 cache A4 c4 data A0 l0 A1 l1 _ from by repeat (first | exact HJ.out | (with_reducible refine LJ.alloc ?_ _) | (with_reducible refine LJ.drewN ?_ _) | (with_reducible refine LJ.drew ?_)))) 1).trans rfl, (blk_cell (LJ.blk (show LJ w w1.heap.size b A2 c2 disk A3 c3 cache A4 c4 data A0 l0 A1 l1 _ from by repeat (first | exact HJ.out | (with_reducible refine LJ.alloc ?_ _) | (with_reducible refine LJ.drewN ?_ _) | (with_reducible refine LJ.drew ?_)))) 2).trans rfl⟩ (fun hHeld => ?_)
          clear hK K
          refine norm_ (a' := ?_) ?_ ?_
          rotate_left
          · show Act.put _ (some 54) _ = _
            simp only [Act.put, List.setIfInBounds_toArray, List.set_cons_zero, List.set_cons_succ, i64_w, i32_w]
            rfl
          refine one_ (i := 4) (N := some 55) #[true, true, true, true, true, false, false, false, true, false, false] rfl rfl (one_of HT_.out (by kernel_rfl)) (by decide) (fun K hK => ?_)
          refine goes_ Try.func6 (by kernel_rfl) rfl #[.agg #[.int .i64 b, .slice A2 disk.length c2, .slice A3 cache.length c3], .int .i64 blk, .slice A6 data.length c6] (by rfl) rfl rfl (by (try simp only [List.map_toArray, List.map_cons, List.map_nil]); first | done | rfl | (simp only [List.length_drop, List.length_take]; rfl)) ?_
          with_reducible refine (impl_DevWrite.calls b _ _ disk _ _ cache blk _ _ data e0 e1 e2 e3 _ ?side1 hc2 ?side3 hc3 ?side5 hc6 HIM.out).mono ?_
          (case side1 => exact LJ.disk (show LJ w w1.heap.size b A2 c2 disk A3 c3 cache A4 c4 data A0 l0 A1 l1 _ from by repeat (first | exact HJ.out | (with_reducible refine LJ.alloc ?_ _) | (with_reducible refine LJ.drewN ?_ _) | (with_reducible refine LJ.drew ?_))))
          (case side3 => exact LJ.cache (show LJ w w1.heap.size b A2 c2 disk A3 c3 cache A4 c4 data A0 l0 A1 l1 _ from by repeat (first | exact HJ.out | (with_reducible refine LJ.alloc ?_ _) | (with_reducible refine LJ.drewN ?_ _) | (with_reducible refine LJ.drew ?_))))
          (case side5 => repeat (first | (with_reducible exact HC6.out) | (with_reducible refine Kd.C_alloc ?_ _) | (with_reducible refine Kd.C_drewN ?_ _) | (with_reducible refine Kd.C_drew ?_)))
          rintro e w7 ⟨v7, v8, rfl, ho7, ho8, hb⟩
          refine ⟨_, rfl, ?_⟩
          have hg7 := Nat.lt_of_lt_of_le (blk_lt (LJ.blk (show LJ w w1.heap.size b A2 c2 disk A3 c3 cache A4 c4 data A0 l0 A1 l1 _ from by repeat (first | exact HJ.out | (with_reducible refine LJ.alloc ?_ _) | (with_reducible refine LJ.drewN ?_ _) | (with_reducible refine LJ.drew ?_))))) (Nat.le_refl _)
          have HO7 := Aside0.mk (Kd.R_lower ho7 (Nat.succ_le_of_lt hg7))
          have HO8 := Aside0.mk (Kd.S_lower ho8 (Nat.succ_le_of_lt hg7))
          have HJ7 := Aside0.mk (LJ.step (show LJ w w1.heap.size b A2 c2 disk A3 c3 cache A4 c4 data A0 l0 A1 l1 _ from by repeat (first | exact HJ.out | (with_reducible refine LJ.alloc ?_ _) | (with_reducible refine LJ.drewN ?_ _) | (with_reducible refine LJ.drew ?_))) hb)
          have HX7 := Aside0.mk (blk_below (by repeat (first | (with_reducible exact HX.out) | (with_reducible refine blk_alloc ?_ _) | (with_reducible refine blk_drewN ?_ _) | (with_reducible refine blk_drew ?_))) hb)
          clear HJ
          have HJ := HJ7
          clear HJ7
          clear HX
          have HX := HX7
          clear HX7
          clear ho7 ho8 hb hg7
          refine hK.out _ _ ⟨(blk_cell (LJ.blk (show LJ w w1.heap.size b A2 c2 disk A3 c3 cache A4 c4 data A0 l0 A1 l1 _ from by repeat (first | exact HJ.out | (with_reducible refine LJ.alloc ?_ _) | (with_reducible refine LJ.drewN ?_ _) | (with_reducible refine LJ.drew ?_)))) 0).trans rfl, (blk_cell (LJ.blk (show LJ w w1.heap.size b A2 c2 disk A3 c3 cache A4 c4 data A0 l0 A1 l1 _ from by repeat (first | exact HJ.out | (with_reducible refine LJ.alloc ?_ _) | (with_reducible refine LJ.drewN ?_ _) | (with_reducible refine LJ.drew ?_)))) 1).trans rfl, (blk_cell (LJ.blk (show LJ w w1.heap.size b A2 c2 disk A3 c3 cache A4 c4 data A0 l0 A1 l1 _ from by repeat (first | exact HJ.out | (with_reducible refine LJ.alloc ?_ _) | (with_reducible refine LJ.drewN ?_ _) | (with_reducible refine LJ.drew ?_)))) 2).trans rfl⟩ (fun hHeld => ?_)
          clear hK K
          refine norm_ (a' := ?_) ?_ ?_
          rotate_left
          · show Act.put _ (some 55) _ = _
            simp only [Act.put, List.setIfInBounds_toArray, List.set_cons_zero, List.set_cons_succ, i64_w, i32_w]
            rfl
          refine pure_ (i := 5) (N := some 50) (v := ?_) (a' := ?_) #[true, true, true, true, true, true, false, false, true, false, false] rfl rfl (any_of HT_.out (by kernel_rfl)) (fun _ _ _ h => h) (Or.inl ⟨by rfl, ?_⟩) ?_ ?_
          rotate_left
          · intro w'
            go_simp
            with_reducible rfl
          rotate_left
          · simp only [Act.put, List.setIfInBounds_toArray, List.set_cons_zero, List.set_cons_succ, i64_w, i32_w]
            rfl
          refine pure_ (i := 6) (N := some 56) (v := ?_) (a' := ?_) #[true, true, true, true, true, true, true, false, true, false, false] rfl rfl (any_of HT_.out (by kernel_rfl)) (fun _ _ _ h => h) (Or.inl ⟨by rfl, ?_⟩) ?_ ?_
          rotate_left
          · intro w'
            go_simp
            with_reducible rfl
          rotate_left
          · simp only [Act.put, List.setIfInBounds_toArray, List.set_cons_zero, List.set_cons_succ, i64_w, i32_w]
            rfl
          refine pure_ (i := 7) (N := some 57) (v := ?_) (a' := ?_) #[true, true, true, true, true, true, true, true, true, false, false] rfl rfl (any_of HT_.out (by kernel_rfl)) (fun _ _ _ h => h) (Or.inl ⟨by rfl, ?_⟩) ?_ ?_
          rotate_left
          · intro w'
            go_simp
            with_reducible rfl
          rotate_left
          · simp only [Act.put, List.setIfInBounds_toArray, List.set_cons_zero, List.set_cons_succ, i64_w, i32_w]
            rfl
          exact norm_ (by simp only [putAll, Act.put, List.setIfInBounds_toArray, List.set_cons_zero, List.set_cons_succ]) (hCont (.slice A6 data.length c6, v7, v8, gx) _ ⟨hHeld, (show LJ w w1.heap.size b A2 c2 disk A3 c3 cache A4 c4 data A0 l0 A1 l1 _ from by repeat (first | exact HJ.out | (with_reducible refine LJ.alloc ?_ _) | (with_reducible refine LJ.drewN ?_ _) | (with_reducible refine LJ.drew ?_))), (by repeat (first | (with_reducible exact HO7.out) | (with_reducible refine Kd.R_alloc ?_ _) | (with_reducible refine Kd.R_drewN ?_ _) | (with_reducible refine Kd.R_drew ?_))), (by repeat (first | (with_reducible exact HO8.out) | (with_reducible refine Kd.S_alloc ?_ _) | (with_reducible refine Kd.S_drewN ?_ _) | (with_reducible refine Kd.S_drew ?_))), (by repeat (first | (with_reducible exact HX.out) | (with_reducible refine blk_alloc ?_ _) | (with_reducible refine blk_drewN ?_ _) | (with_reducible refine blk_drew ?_))), hgx⟩)
      rintro ⟨v6, v7, v8, gx⟩ w8 ⟨hHeld, hj, ho7, ho8, hx, hgx⟩
      dsimp only at hj ho7 ho8 hx hgx
      have HJ := Aside0.mk hj
      have HO7 := Aside0.mk ho7
      have HO8 := Aside0.mk ho8
      have HX := Aside0.mk hx
      clear hj ho7 ho8 hx
      obtain ⟨A7, c7, rfl⟩ := Kd.R_slice HO7.out
      obtain ⟨A8, c8, rfl⟩ := Kd.R_slice (Kd.S_R HO8.out)
      refine norm_ (a' := ?_) ?_ ?_
      rotate_left
      · simp only [putAll, Act.put, List.setIfInBounds_toArray, List.set_cons_zero, List.set_cons_succ]
        rfl
      refine one_ (i := 9) (N := none) #[true, true, true, true, true, true, true, true, true, true, false] rfl rfl (one_of HT_.out (by kernel_rfl)) (by decide) (fun K hK => ?_)
      have hs0 : w8.cell? ⟨gx, 0, none⟩ = some (.int .i64 0) := (blk_cell HX.out 0).trans rfl
      have hs1 : w8.cell? ⟨gx, 1, none⟩ = some (.slice none 0 0) := (blk_cell HX.out 1).trans rfl
      have hs2 : w8.cell? ⟨gx, 2, none⟩ = some (.slice none 0 0) := (blk_cell HX.out 2).trans rfl
      have hfs := blk_frozen HX.out
      have hne : w1.heap.size ≠ gx := Nat.ne_of_lt hgx
      refine skip_ (w1 := ?_) (by rfl) rfl ?_ ?_
      rotate_left
      · go_simp
        rfl
      refine hK.out _ _ ⟨((cell_far (p := ⟨gx, _, none⟩) hne _).trans (((cell_far (p := ⟨gx, _, none⟩) hne _).trans (((cell_far (p := ⟨gx, _, none⟩) hne _).trans (hHeld.1)))))), ((cell_far (p := ⟨gx, _, none⟩) hne _).trans (((cell_far (p := ⟨gx, _, none⟩) hne _).trans (((cell_far (p := ⟨gx, _, none⟩) hne _).trans (hHeld.2.1)))))), ((cell_far (p := ⟨gx, _, none⟩) hne _).trans (((cell_far (p := ⟨gx, _, none⟩) hne _).trans (((cell_far (p := ⟨gx, _, none⟩) hne _).trans (hHeld.2.2))))))⟩ (fun hHeld => ?_)
      clear hK K
      refine pure_ (i := 10) (N := some 11) (v := ?_) (a' := ?_) #[true, true, true, true, true, true, true, true, true, true, true] rfl rfl (any_of HT_.out (by kernel_rfl)) (fun _ _ _ h => h) (Or.inl ⟨by rfl, ?_⟩) ?_ ?_
      rotate_left
      · intro w'
        go_simp
        with_reducible rfl
      rotate_left
      · simp only [Act.put, List.setIfInBounds_toArray, List.set_cons_zero, List.set_cons_succ, i64_w, i32_w]
        rfl
      refine done_ (done_of HT_.out (by kernel_rfl)) ?_
      have HK : Aside0 (LK w w1.heap.size gx b (.slice A2 disk.length c2) (.slice A3 cache.length c3) A7 c7 e1 A8 c8 e2 A4 c4 data e0 (((w8.setCell ⟨gx, 0, none⟩ (.int .i64 e0)).setCell ⟨gx, 1, none⟩ (.slice A7 e1.length c7)).setCell ⟨gx, 2, none⟩ (.slice A8 e2.length c8))) := ⟨LK.of (e0 := e0) HJ.out HX.out hgx hle HO7.out HO8.out⟩
      clear hs0 hs1 hs2 hfs hne hHeld HJ HX HO7 HO8 HT_ HW_
      generalize (((w8.setCell ⟨gx, 0, none⟩ (.int .i64 e0)).setCell ⟨gx, 1, none⟩ (.slice A7 e1.length c7)).setCell ⟨gx, 2, none⟩ (.slice A8 e2.length c8)) = w9 at HK ⊢
      have hx0 : w9.cell? ⟨gx, 0, none⟩ = some (.int .i64 e0) := (blk_cell HK.out.blkE 0).trans rfl
      have hx1 : w9.cell? ⟨gx, 1, none⟩ = some (.slice A7 e1.length c7) := (blk_cell HK.out.blkE 1).trans rfl
      have hx2 : w9.cell? ⟨gx, 2, none⟩ = some (.slice A8 e2.length c8) := (blk_cell HK.out.blkE 2).trans rfl
      rcases ew_cases HIM.out HWC.out with ⟨rfl, rfl, rfl⟩ | ⟨hv, rfl, rfl, rfl, hwc, hw1, he2⟩
      · clear HWC HIM HSDEV
        go_wp2
        go_ret
        exact ⟨rfl, HK.out.below⟩
      · have HV := Aside0.mk hv
        have HWC2 := Aside0.mk hwc
        have HE2 := Aside0.mk he2
        have hw1b : (wcd == 1) = false := by simpa using hw1
        clear hv hwc he2 hw1 hx0 hx1 hx2
        go_upto_region 9 with (go_at_call 4; refine (spec_DrawDevWrite.calls 2000000 _ _ l0 b disk cache blk data _ (Kd.C_below HR0.out HK.out.below) hc0 HDRAW.out).mono ?_; rintro e w10 ⟨v10, v11, v12, rfl, hq1, hn2, hq4, hb⟩; have HQ1 := Aside0.mk hq1; have HN2 := Aside0.mk hn2; have HB := Aside0.mk hb; have HK9 := HK; have HK2 := Aside0.mk (LK.step HK.out hb); have hs9 := below_size hb; clear HK; have HK := HK2; clear HK2 hq1 hn2 hq4 hb; obtain ⟨A9, c9, rfl, hc9⟩ := Kd.Q_slice HQ1.out; obtain ⟨A10, c10, rfl⟩ := Kd.N_slice HN2.out; have hc10 := (Kd.N_reads' HN2.out).2.1; have hf := blk_frozen HK.out.blk; have hy0 : w10.cell? ⟨w1.heap.size, 0, none⟩ = some (.int .i64 b) := (blk_cell HK.out.blk 0).trans rfl; have hy1 : w10.cell? ⟨w1.heap.size, 1, none⟩ = some (.slice A2 disk.length c2) := (blk_cell HK.out.blk 1).trans rfl; have hy2 : w10.cell? ⟨w1.heap.size, 2, none⟩ = some (.slice A3 cache.length c3) := (blk_cell HK.out.blk 2).trans rfl)
        have hg59 : w1.heap.size < w9.heap.size := blk_lt HK9.out.blk
        have HQs : Aside0 (Kd.Q (Kd.int .u8) 5 (((w10.setCell ⟨w1.heap.size, 0, none⟩ (.int .i64 b)).setCell ⟨w1.heap.size, 1, none⟩ (.slice A9 disk.length c9)).setCell ⟨w1.heap.size, 2, none⟩ (.slice A10 cache.length c10)) w9.heap.size (fun _ => True) (.slice A9 disk.length c9) disk) := ⟨Kd.Q_mono (Kd.Q_far (Kd.Q_far (Kd.Q_far HQ1.out (fun k hk => by have := hk.1; show k ≠ w1.heap.size; omega) _) (fun k hk => by have := hk.1; show k ≠ w1.heap.size; omega) _) (fun k hk => by have := hk.1; show k ≠ w1.heap.size; omega) _) (fun _ _ => trivial)⟩
        have HNs : Aside0 (Kd.N k32 32 (((w10.setCell ⟨w1.heap.size, 0, none⟩ (.int .i64 b)).setCell ⟨w1.heap.size, 1, none⟩ (.slice A9 disk.length c9)).setCell ⟨w1.heap.size, 2, none⟩ (.slice A10 cache.length c10)) w9.heap.size (fun k => w9.heap.size ≤ k) (.slice A10 cache.length c10) cache) := ⟨Kd.N_mono (Kd.N_far (Kd.N_far (Kd.N_far HN2.out (fun k hk => by have := hk.1; show k ≠ w1.heap.size; omega) _) (fun k hk => by have := hk.1; show k ≠ w1.heap.size; omega) _) (fun k hk => by have := hk.1; show k ≠ w1.heap.size; omega) _) (fun _ hk => hk.1)⟩
        have HBs := Aside0.mk (set3_below HK.out.below HK9.out.le (.int .i64 b) (.slice A9 disk.length c9) (.slice A10 cache.length c10))
        have HDs := Aside0.mk (set3_cells HK.out.blk (.int .i64 b) (.slice A9 disk.length c9) (.slice A10 cache.length c10))
        have HAG : Aside0 (∀ k, k < w9.heap.size → k ≠ w1.heap.size → (((w10.setCell ⟨w1.heap.size, 0, none⟩ (.int .i64 b)).setCell ⟨w1.heap.size, 1, none⟩ (.slice A9 disk.length c9)).setCell ⟨w1.heap.size, 2, none⟩ (.slice A10 cache.length c10)).heap[k]? = w9.heap[k]?) := ⟨fun k hk hne => (Below.heap_setCell _ _ _ k hne).trans ((Below.heap_setCell _ _ _ k hne).trans ((Below.heap_setCell _ _ _ k hne).trans (HB.out.block k hk)))⟩
        have hsz911 : w9.heap.size ≤ (((w10.setCell ⟨w1.heap.size, 0, none⟩ (.int .i64 b)).setCell ⟨w1.heap.size, 1, none⟩ (.slice A9 disk.length c9)).setCell ⟨w1.heap.size, 2, none⟩ (.slice A10 cache.length c10)).heap.size := by simp [World.setCell]; exact hs9
        clear HQ1 HN2 HK HB hf hy0 hy1 hy2 hs9
        generalize (((w10.setCell ⟨w1.heap.size, 0, none⟩ (.int .i64 b)).setCell ⟨w1.heap.size, 1, none⟩ (.slice A9 disk.length c9)).setCell ⟨w1.heap.size, 2, none⟩ (.slice A10 cache.length c10)) = w11 at HQs HNs HBs HDs HAG hsz911 ⊢
        have hz2 : w11.cell? ⟨w1.heap.size, 2, none⟩ = some (.slice A10 cache.length c10) := (blk_cell HDs.out 2).trans rfl
        go_upto_if 83 with (fail)
        go_cut [12] (fun v12 wq => ∃ (A11 : Option Addr) (c11 : Nat), v12 = .slice A11 e2.length c11 ∧ e2.length ≤ c11 ∧ Aside0 (LK w w1.heap.size gx b (.slice A9 disk.length c9) (.slice A10 cache.length c10) A7 c7 disk A8 c8 e2 A4 c4 data b wq) ∧ Aside0 (Kd.C (Kd.int .u8) wq A9 disk.length disk) ∧ Aside0 (Kd.C k32 wq A10 cache.length cache) ∧ Aside0 (Kd.C k32 wq A11 e2.length e2))
        case first =>
          have he2 := HE2.out
          by_cases h0 : wcd = 0
          · rw [if_pos h0] at he2
            subst he2
            have h0b : (wcd == 0) = true := by simpa using h0
            clear h0
            go_wp2_with ((with_reducible refine gate_builtin (b := .append) (xs := #[.tmp 84, .tmp 88]) rfl ?_); at_builtin; refine N_append_keep k32 (w0 := w) w.heap.size rfl (.tmp 84) (.tmp 88) 23 32 (.agg #[(.int .i64 0), (.slice none 0 0)]) 32 rfl Try.underlying23 info32 rfl (by decide) (by omega) A10 c10 cache (⟨blk, data⟩ : S32) [.int .i64 blk, .slice A4 data.length c4] (fun _ => True) (fun k => some k ≠ (.slice A10 cache.length c10 : Value).ownBlock) rfl rfl ?aP (fun _ hk => ⟨trivial, hk⟩) (fun _ _ => trivial) ?aO ?aB ?aS ?aL ?_; (case aP => exact k32_mkF _ _ (⟨blk, data⟩ : S32) hc4 (Kd.V_F (Kd.V_mono (Kd.V_step HK9.out.data (fun k hk hlt => HAG.out k hlt (Nat.ne_of_lt hk))) (fun k hk he => by have := HNs.out.1 k he.symm; omega)))); (case aO => exact (Kd.N_lower (Kd.N_mono HNs.out (fun _ _ => trivial)) (below_size HK9.out.below))); (case aB => exact HBs.out); (case aS => exact below_size HBs.out); (case aL => have := validDev_2048 HV.out; omega); intro v13 w12 ho hB12 hg hC; have HO13 := Aside0.mk ho; have HB12 := Aside0.mk hB12; have HG12 := Aside0.mk hg; have HC12 := Aside0.mk hC; clear ho hB12 hg hC; obtain ⟨A11, c11, rfl⟩ := Kd.N_slice HO13.out)
            go_meet
            case rel =>
              have hr := Kd.N_reads' HO13.out
              refine ⟨A11, c11, by simp, hr.2.1, ⟨LK.again HK9.out (fun k hk hne => (HG12.out.block k ?_ ?_).trans (HAG.out k hk hne)) (blk_grown HDs.out HG12.out (Kd.N_ne HNs.out HDs.out (by decide))) HB12.out⟩, ⟨(Kd.Q_reads' (Kd.Q_over' HQs.out (Kd.N_typed HNs.out) (by decide) HG12.out)).2.2⟩, HC12, ⟨hr.2.2⟩⟩
              · omega
              · intro he
                have := HNs.out.1 k he.symm
                omega
          · rw [if_neg h0] at he2
            subst he2
            have h0b : (wcd == 0) = false := by simpa using h0
            clear h0
            go_wp2
            go_meet
            case rel => exact ⟨A10, c10, rfl, hc10, ⟨LK.again HK9.out HAG.out HDs.out HBs.out⟩, ⟨(Kd.Q_reads' HQs.out).2.2⟩, ⟨(Kd.N_reads' HNs.out).2.2⟩, ⟨(Kd.N_reads' HNs.out).2.2⟩⟩
        case rest =>
          clear HQs HNs HBs HDs HAG hz2 HK9
          obtain ⟨A11, c11, rfl, hc11, HK, HCD, HCC, HCF⟩ := hcut
          have hcf := hc11
          have hx0 : wc.cell? ⟨gx, 0, none⟩ = some (.int .i64 b) := (blk_cell HK.out.blkE 0).trans rfl
          have hx1 : wc.cell? ⟨gx, 1, none⟩ = some (.slice A7 disk.length c7) := (blk_cell HK.out.blkE 1).trans rfl
          have hx2 : wc.cell? ⟨gx, 2, none⟩ = some (.slice A8 e2.length c8) := (blk_cell HK.out.blkE 2).trans rfl
          have hve := valid_e2 HV.out HWC2.out HE2.out
          have HVE := Aside0.mk hve
          obtain ⟨F, hFd⟩ : ∃ F, F = settleTo (fun _ => true) e2 disk e2.length := ⟨_, rfl⟩
          obtain ⟨G, hGd⟩ : ∃ G, G = settleTo (keepBit l1) e2 disk e2.length := ⟨_, rfl⟩
          have HFL : Aside0 (impl_DevFlush.f b disk e2 = some (b, F, [], 0)) := ⟨by rw [hFd]; exact flush_e2 hve⟩
          have HCR : Aside0 (impl_DevCrash.f b disk e2 l1 = some (b, G, [], 0)) := ⟨by rw [hGd]; exact crash_e2 l1 hve⟩
          have HFD := Aside0.mk hFd
          have HGD := Aside0.mk hGd
          have HCOP1 := Aside0.mk (fcopy_ok l1 (by omega) 2000000 (by omega))
          clear hFd hGd
          clear hve
          have hc7 := (Kd.V_reads' HK.out.ed).2.1
          have hc8 := (Kd.V_reads' HK.out.ec).2.1
          have HJ : Aside0 (LM w w1.heap.size gx b A9 c9 disk A10 c10 cache A11 e2 A7 c7 A8 c8 A4 data A1 l1 wc) := ⟨⟨HK.out.blk, HK.out.blkE, HCD.out, HCC.out, HCF.out, (Kd.V_reads' HK.out.ed).2.2, (Kd.V_reads' HK.out.ec).2.2, (Kd.V_reads' HK.out.data).2.2, Kd.C_below HR1.out HK.out.below, HK.out.below⟩⟩
          clear HK HCD HCC HCF hcf
          go_wp2_with (go_at_call 8; refine (impl_DevFlush.calls b _ _ disk _ _ e2 b F [] 0 _ HJ.out.ed hc7 HJ.out.ec hc8 HFL.out).mono ?_; rintro e w13 ⟨v14, v15, rfl, ho14, ho15, hb⟩; have HJ13 := Aside0.mk (LM.step HJ.out hb); clear HJ; have HJ := HJ13; clear HJ13; obtain ⟨A14, c14, rfl⟩ := Kd.R_slice ho14; obtain ⟨A15, c15, rfl⟩ := Kd.R_slice (Kd.S_R ho15); have hc14 := (Kd.R_reads' ho14).2.1; have HF14 := Aside0.mk (Kd.R_reads' ho14).2.2; have HF15 := Aside0.mk (Kd.R_reads' (Kd.S_R ho15)).2.2; clear ho14 ho15 hb)
          have HN : Aside0 (LN w w1.heap.size gx b A9 c9 disk A10 c10 cache A11 e2 A7 c7 A8 c8 A4 data A1 l1 w13.heap.size A14 c14 F A15 c15 (w13.alloc (.cells #[.int .i64 b, .slice A14 F.length c14, .slice A15 0 c15] 25 (0, 0)))) := ⟨⟨LM.alloc HJ.out _, blk_new _ _, Kd.C_alloc HF14.out _⟩⟩
          clear HJ HF14 HF15 hx0 hx1 hx2
          generalize w13.alloc (.cells #[.int .i64 b, .slice A14 F.length c14, .slice A15 0 c15] 25 (0, 0)) = w14 at HN ⊢
          have HJ : Aside0 (Below w14.heap.size w14 w14) := ⟨Below.refl _ _⟩
          refine start_ (n := 10) (S := fun w' => w'.cell? ⟨gx, 0, none⟩ = some (.int .i64 b) ∧ w'.cell? ⟨gx, 1, none⟩ = some (.slice A7 disk.length c7) ∧ w'.cell? ⟨gx, 2, none⟩ = some (.slice A8 e2.length c8)) (ds := []) #[false, false, false, false, false, false, false, false, false, false] (by kernel_rfl) rfl rfl ⟨(blk_cell (blk_below HN.out.blkE (show Below w14.heap.size w14 _ from by repeat (first | exact HJ.out | (with_reducible refine pw_below_drewN ?_ _) | (with_reducible refine below_drew1 ?_)))) 0).trans rfl, (blk_cell (blk_below HN.out.blkE (show Below w14.heap.size w14 _ from by repeat (first | exact HJ.out | (with_reducible refine pw_below_drewN ?_ _) | (with_reducible refine below_drew1 ?_)))) 1).trans rfl, (blk_cell (blk_below HN.out.blkE (show Below w14.heap.size w14 _ from by repeat (first | exact HJ.out | (with_reducible refine pw_below_drewN ?_ _) | (with_reducible refine below_drew1 ?_)))) 2).trans rfl⟩ (fun hHeld => ?_); refine with_tabW law_tab13 law_bits13 (fun HT_ HW_ => ?_)
          have HJd : Aside0 (Below w14.heap.size w14 w14.drew) := ⟨below_drew1 (Below.refl _ _)⟩
          clear HJ
          have HJ := HJd
          clear HJd
          generalize w14.drew = w15_ at HJ hHeld ⊢
          refine pure_ (i := 1) (N := some 97) (v := ?_) (a' := ?_) #[false, true, false, false, false, false, false, false, false, false] rfl rfl (any_of HT_.out (by kernel_rfl)) (fun _ _ _ h => h) (Or.inl ⟨by rfl, ?_⟩) ?_ ?_
          rotate_left
          · intro w'
            go_simp
            with_reducible rfl
          rotate_left
          · simp only [Act.put, List.setIfInBounds_toArray, List.set_cons_zero, List.set_cons_succ, i64_w, i32_w]
            rfl
          refine take_ (i := 0) (N := some 96) (v := ?_) (a' := ?_) #[true, true, false, false, false, false, false, false, false, false] rfl rfl (take_ofW HT_.out HW_.out (by kernel_rfl)) (fun _ _ _ h => h) (Or.inl ⟨by rfl, ?_⟩) hHeld ?_ ?_
          rotate_left
          · rintro w' ⟨s0, s1, s2⟩
            go_simp
            with_reducible rfl
          rotate_left
          · simp only [Act.put, List.setIfInBounds_toArray, List.set_cons_zero, List.set_cons_succ, i64_w, i32_w]
            rfl
          refine join_ (σ := Value × Value × Value × Nat) 2 #[true, true, true, true, true, true, true, true, false, false] (fun s_ => [(98, s_.1), (99, .tuple #[.agg #[.int .i64 b, s_.2.1, s_.2.2.1], .int .i64 0]), (15, .pointer (some ⟨s_.2.2.2, 0, none⟩)), (95, .tuple #[.agg #[.int .i64 b, s_.2.1, s_.2.2.1], .int .i64 0]), (100, .agg #[.int .i64 b, s_.2.1, s_.2.2.1]), (101, .int .i64 0)]) (fun s_ w' => (w'.cell? ⟨gx, 0, none⟩ = some (.int .i64 b) ∧ w'.cell? ⟨gx, 1, none⟩ = some (.slice A7 disk.length c7) ∧ w'.cell? ⟨gx, 2, none⟩ = some (.slice A8 e2.length c8)) ∧ Below w14.heap.size w14 w' ∧ Kd.R (Kd.int .u8) 5 w' 0 (fun _ => True) s_.2.1 G ∧ Kd.R k32 32 w' 0 (fun k_ => some k_ ≠ (s_.2.1 : Value).ownBlock) s_.2.2.1 [] ∧ w'.heap[s_.2.2.2]? = some (.cells #[.int .i64 0, .slice none 0 0, .slice none 0 0] 25 (0, 0)) ∧ w14.heap.size ≤ s_.2.2.2) ?_ ?_
          rotate_left
          · as_aux_lemma =>
            intro hCont
            refine two_ (i := 2) (j := 7) (Ni := some 98) (Nj := some 15) #[true, true, true, false, false, false, false, false, false, false] #[true, true, false, false, false, false, false, true, false, false] rfl rfl rfl rfl (two_of HT_.out (by kernel_rfl)) (by decide) (by decide) (fun K hK => ?_) (fun K hK => ?_)
            · skip
              refine goes_ Try.func7 (by kernel_rfl) rfl #[.slice A1 l1.length c1] (by rfl) rfl rfl (by (try simp only [List.map_toArray, List.map_cons, List.map_nil]); first | done | rfl | (simp only [List.length_drop, List.length_take]; rfl)) ?_
              with_reducible refine (laws_fCopyBytes.calls 2000000 _ _ l1 l1 _ ?side1 hc1 HCOP1.out).mono ?_
              (case side1 => exact Kd.C_below HN.out.r1 (show Below w14.heap.size w14 _ from by repeat (first | exact HJ.out | (with_reducible refine pw_below_drewN ?_ _) | (with_reducible refine below_drew1 ?_))))
              rintro e w15 ⟨v16, rfl, ho16, hb⟩
              refine ⟨_, rfl, ?_⟩
              have HJ16 := Aside0.mk (below_step (show Below w14.heap.size w14 _ from by repeat (first | exact HJ.out | (with_reducible refine pw_below_drewN ?_ _) | (with_reducible refine below_drew1 ?_))) hb)
              clear HJ
              have HJ := HJ16
              clear HJ16
              obtain ⟨A16, c16, rfl⟩ := Kd.R_slice ho16
              have HC16 := Aside0.mk (Kd.R_reads' ho16).2.2
              have hc16 := (Kd.R_reads' ho16).2.1
              clear ho16 hb
              refine hK.out _ _ ⟨(blk_cell (blk_below HN.out.blkE (show Below w14.heap.size w14 _ from by repeat (first | exact HJ.out | (with_reducible refine pw_below_drewN ?_ _) | (with_reducible refine below_drew1 ?_)))) 0).trans rfl, (blk_cell (blk_below HN.out.blkE (show Below w14.heap.size w14 _ from by repeat (first | exact HJ.out | (with_reducible refine pw_below_drewN ?_ _) | (with_reducible refine below_drew1 ?_)))) 1).trans rfl, (blk_cell (blk_below HN.out.blkE (show Below w14.heap.size w14 _ from by repeat (first | exact HJ.out | (with_reducible refine pw_below_drewN ?_ _) | (with_reducible refine below_drew1 ?_)))) 2).trans rfl⟩ (fun hHeld => ?_)
              clear hK K
              refine norm_ (a' := ?_) ?_ ?_
              rotate_left
              · show Act.put _ (some 98) _ = _
                simp only [Act.put, List.setIfInBounds_toArray, List.set_cons_zero, List.set_cons_succ, i64_w, i32_w]
                rfl
              refine two_ (i := 3) (j := 7) (Ni := some 99) (Nj := some 15) #[true, true, true, true, false, false, false, false, false, false] #[true, true, true, false, false, false, false, true, false, false] rfl rfl rfl rfl (two_of HT_.out (by kernel_rfl)) (by decide) (by decide) (fun K hK => ?_) (fun K hK => ?_)
              · skip
                refine goes_ Try.func9 (by kernel_rfl) rfl #[.agg #[.int .i64 b, .slice A7 disk.length c7, .slice A8 e2.length c8], .slice A16 l1.length c16] (by rfl) rfl rfl (by (try simp only [List.map_toArray, List.map_cons, List.map_nil]); first | done | rfl | (simp only [List.length_drop, List.length_take]; rfl)) ?_
                with_reducible refine (impl_DevCrash.calls b _ _ disk _ _ e2 _ _ l1 b G [] 0 _ ?side1 hc7 ?side3 hc8 ?side5 hc16 HCR.out).mono ?_
                (case side1 => exact Kd.C_below HN.out.ed (show Below w14.heap.size w14 _ from by repeat (first | exact HJ.out | (with_reducible refine pw_below_drewN ?_ _) | (with_reducible refine below_drew1 ?_))))
                (case side3 => exact Kd.C_below HN.out.ec (show Below w14.heap.size w14 _ from by repeat (first | exact HJ.out | (with_reducible refine pw_below_drewN ?_ _) | (with_reducible refine below_drew1 ?_))))
                (case side5 => repeat (first | (with_reducible exact HC16.out) | (with_reducible refine Kd.C_alloc ?_ _) | (with_reducible refine Kd.C_drewN ?_ _) | (with_reducible refine Kd.C_drew ?_)))
                rintro e w17 ⟨v17, v18, rfl, ho17, ho18, hb⟩
                refine ⟨_, rfl, ?_⟩
                have HO17 := Aside0.mk (Kd.R_lower ho17 (Nat.zero_le _))
                have HO18 := Aside0.mk (Kd.R_lower (Kd.S_R ho18) (Nat.zero_le _))
                have HJ17 := Aside0.mk (below_step (show Below w14.heap.size w14 _ from by repeat (first | exact HJ.out | (with_reducible refine pw_below_drewN ?_ _) | (with_reducible refine below_drew1 ?_))) hb)
                clear HJ
                have HJ := HJ17
                clear HJ17
                clear ho17 ho18 hb
                refine hK.out _ _ ⟨(blk_cell (blk_below HN.out.blkE (show Below w14.heap.size w14 _ from by repeat (first | exact HJ.out | (with_reducible refine pw_below_drewN ?_ _) | (with_reducible refine below_drew1 ?_)))) 0).trans rfl, (blk_cell (blk_below HN.out.blkE (show Below w14.heap.size w14 _ from by repeat (first | exact HJ.out | (with_reducible refine pw_below_drewN ?_ _) | (with_reducible refine below_drew1 ?_)))) 1).trans rfl, (blk_cell (blk_below HN.out.blkE (show Below w14.heap.size w14 _ from by repeat (first | exact HJ.out | (with_reducible refine pw_below_drewN ?_ _) | (with_reducible refine below_drew1 ?_)))) 2).trans rfl⟩ (fun hHeld => ?_)
                clear hK K
                refine norm_ (a' := ?_) ?_ ?_
                rotate_left
                · show Act.put _ (some 99) _ = _
                  simp only [Act.put, List.setIfInBounds_toArray, List.set_cons_zero, List.set_cons_succ, i64_w, i32_w]
                  rfl
                refine pure_ (i := 4) (N := some 95) (v := ?_) (a' := ?_) #[true, true, true, true, true, false, false, false, false, false] rfl rfl (any_of HT_.out (by kernel_rfl)) (fun _ _ _ h => h) (Or.inl ⟨by rfl, ?_⟩) ?_ ?_
                rotate_left
                · intro w'
                  go_simp
                  with_reducible rfl
                rotate_left
                · simp only [Act.put, List.setIfInBounds_toArray, List.set_cons_zero, List.set_cons_succ, i64_w, i32_w]
                  rfl
                refine pure_ (i := 5) (N := some 100) (v := ?_) (a' := ?_) #[true, true, true, true, true, true, false, false, false, false] rfl rfl (any_of HT_.out (by kernel_rfl)) (fun _ _ _ h => h) (Or.inl ⟨by rfl, ?_⟩) ?_ ?_
                rotate_left
                · intro w'
                  go_simp
                  with_reducible rfl
                rotate_left
                · simp only [Act.put, List.setIfInBounds_toArray, List.set_cons_zero, List.set_cons_succ, i64_w, i32_w]
                  rfl
                refine pure_ (i := 6) (N := some 101) (v := ?_) (a' := ?_) #[true, true, true, true, true, true, true, false, false, false] rfl rfl (any_of HT_.out (by kernel_rfl)) (fun _ _ _ h => h) (Or.inl ⟨by rfl, ?_⟩) ?_ ?_
                rotate_left
                · intro w'
                  go_simp
                  with_reducible rfl
                rotate_left
                · simp only [Act.put, List.setIfInBounds_toArray, List.set_cons_zero, List.set_cons_succ, i64_w, i32_w]
                  rfl
                refine one_ (i := 7) (N := some 15) #[true, true, true, true, true, true, true, true, false, false] rfl rfl (one_of HT_.out (by kernel_rfl)) (by decide) (fun K hK => ?_)
                refine box_step ?hg (N := 15) ?hd (cs := #[.int .i64 0, .slice none 0 0, .slice none 0 0]) (t := 25) ?hr ?_; (case hd => rfl); (case hg => rfl); (case hr => first | (go_simp; done) | (go_simp; rfl))
                intro gy hg wx hbox hb
                have hgy : w14.heap.size ≤ gy := by rw [hg]; exact below_size (show Below w14.heap.size w14 _ from by repeat (first | exact HJ.out | (with_reducible refine pw_below_drewN ?_ _) | (with_reducible refine below_drew1 ?_)))
                have HJx := Aside0.mk (below_step (show Below w14.heap.size w14 _ from by repeat (first | exact HJ.out | (with_reducible refine pw_below_drewN ?_ _) | (with_reducible refine below_drew1 ?_))) hb)
                clear HJ
                have HJ := HJx
                clear HJx
                have HOx := Aside0.mk (Kd.R_below (by repeat (first | (with_reducible exact HO17.out) | (with_reducible refine Kd.R_drewN ?_ _) | (with_reducible refine Kd.R_drew ?_))) hb)
                clear HO17
                have HO17 := HOx
                clear HOx
                have HOx := Aside0.mk (Kd.R_below (by repeat (first | (with_reducible exact HO18.out) | (with_reducible refine Kd.R_drewN ?_ _) | (with_reducible refine Kd.R_drew ?_))) hb)
                clear HO18
                have HO18 := HOx
                clear HOx
                have HX := Aside0.mk hbox
                clear hbox hb hg
                refine hK.out _ _ ⟨(blk_cell (blk_below HN.out.blkE (show Below w14.heap.size w14 _ from by repeat (first | exact HJ.out | (with_reducible refine pw_below_drewN ?_ _) | (with_reducible refine below_drew1 ?_)))) 0).trans rfl, (blk_cell (blk_below HN.out.blkE (show Below w14.heap.size w14 _ from by repeat (first | exact HJ.out | (with_reducible refine pw_below_drewN ?_ _) | (with_reducible refine below_drew1 ?_)))) 1).trans rfl, (blk_cell (blk_below HN.out.blkE (show Below w14.heap.size w14 _ from by repeat (first | exact HJ.out | (with_reducible refine pw_below_drewN ?_ _) | (with_reducible refine below_drew1 ?_)))) 2).trans rfl⟩ (fun hHeld => ?_)
                clear hK K
                refine norm_ (a' := ?_) ?_ ?_
                rotate_left
                · show Act.put _ (some 15) _ = _
                  simp only [Act.put, List.setIfInBounds_toArray, List.set_cons_zero, List.set_cons_succ, i64_w, i32_w]
                  rfl
                exact norm_ (by simp only [putAll, Act.put, List.setIfInBounds_toArray, List.set_cons_zero, List.set_cons_succ]) (hCont (.slice A16 l1.length c16, v17, v18, gy) _ ⟨hHeld, (show Below w14.heap.size w14 _ from by repeat (first | exact HJ.out | (with_reducible refine pw_below_drewN ?_ _) | (with_reducible refine below_drew1 ?_))), (by repeat (first | (with_reducible exact HO17.out) | (with_reducible refine Kd.R_alloc ?_ _) | (with_reducible refine Kd.R_drewN ?_ _) | (with_reducible refine Kd.R_drew ?_))), (by repeat (first | (with_reducible exact HO18.out) | (with_reducible refine Kd.R_alloc ?_ _) | (with_reducible refine Kd.R_drewN ?_ _) | (with_reducible refine Kd.R_drew ?_))), (by repeat (first | (with_reducible exact HX.out) | (with_reducible refine blk_alloc ?_ _) | (with_reducible refine blk_drewN ?_ _) | (with_reducible refine blk_drew ?_))), hgy⟩)
              · skip
                refine box_step ?hg (N := 15) ?hd (cs := #[.int .i64 0, .slice none 0 0, .slice none 0 0]) (t := 25) ?hr ?_; (case hd => rfl); (case hg => rfl); (case hr => first | (go_simp; done) | (go_simp; rfl))
                intro gy hg wx hbox hb
                have hgy : w14.heap.size ≤ gy := by rw [hg]; exact below_size (show Below w14.heap.size w14 _ from by repeat (first | exact HJ.out | (with_reducible refine pw_below_drewN ?_ _) | (with_reducible refine below_drew1 ?_)))
                have HJx := Aside0.mk (below_step (show Below w14.heap.size w14 _ from by repeat (first | exact HJ.out | (with_reducible refine pw_below_drewN ?_ _) | (with_reducible refine below_drew1 ?_))) hb)
                clear HJ
                have HJ := HJx
                clear HJx
                have HCx := Aside0.mk (Kd.C_below (by repeat (first | (with_reducible exact HC16.out) | (with_reducible refine Kd.C_alloc ?_ _) | (with_reducible refine Kd.C_drewN ?_ _) | (with_reducible refine Kd.C_drew ?_))) hb)
                clear HC16
                have HC16 := HCx
                clear HCx
                have HX := Aside0.mk hbox
                clear hbox hb hg
                refine hK.out _ _ ⟨(blk_cell (blk_below HN.out.blkE (show Below w14.heap.size w14 _ from by repeat (first | exact HJ.out | (with_reducible refine pw_below_drewN ?_ _) | (with_reducible refine below_drew1 ?_)))) 0).trans rfl, (blk_cell (blk_below HN.out.blkE (show Below w14.heap.size w14 _ from by repeat (first | exact HJ.out | (with_reducible refine pw_below_drewN ?_ _) | (with_reducible refine below_drew1 ?_)))) 1).trans rfl, (blk_cell (blk_below HN.out.blkE (show Below w14.heap.size w14 _ from by repeat (first | exact HJ.out | (with_reducible refine pw_below_drewN ?_ _) | (with_reducible refine below_drew1 ?_)))) 2).trans rfl⟩ (fun hHeld => ?_)
                clear hK K
                refine norm_ (a' := ?_) ?_ ?_
                rotate_left
                · show Act.put _ (some 15) _ = _
                  simp only [Act.put, List.setIfInBounds_toArray, List.set_cons_zero, List.set_cons_succ, i64_w, i32_w]
                  rfl
                refine one_ (i := 3) (N := some 99) #[true, true, true, true, false, false, false, true, false, false] rfl rfl (one_of HT_.out (by kernel_rfl)) (by decide) (fun K hK => ?_)
                refine goes_ Try.func9 (by kernel_rfl) rfl #[.agg #[.int .i64 b, .slice A7 disk.length c7, .slice A8 e2.length c8], .slice A16 l1.length c16] (by rfl) rfl rfl (by (try simp only [List.map_toArray, List.map_cons, List.map_nil]); first | done | rfl | (simp only [List.length_drop, List.length_take]; rfl)) ?_
                with_reducible refine (impl_DevCrash.calls b _ _ disk _ _ e2 _ _ l1 b G [] 0 _ ?side1 hc7 ?side3 hc8 ?side5 hc16 HCR.out).mono ?_
                (case side1 => exact Kd.C_below HN.out.ed (show Below w14.heap.size w14 _ from by repeat (first | exact HJ.out | (with_reducible refine pw_below_drewN ?_ _) | (with_reducible refine below_drew1 ?_))))
                (case side3 => exact Kd.C_below HN.out.ec (show Below w14.heap.size w14 _ from by repeat (first | exact HJ.out | (with_reducible refine pw_below_drewN ?_ _) | (with_reducible refine below_drew1 ?_))))
                (case side5 => repeat (first | (with_reducible exact HC16.out) | (with_reducible refine Kd.C_alloc ?_ _) | (with_reducible refine Kd.C_drewN ?_ _) | (with_reducible refine Kd.C_drew ?_)))
                rintro e w17 ⟨v17, v18, rfl, ho17, ho18, hb⟩
                refine ⟨_, rfl, ?_⟩
                have HO17 := Aside0.mk (Kd.R_lower ho17 (Nat.zero_le _))
                have HO18 := Aside0.mk (Kd.R_lower (Kd.S_R ho18) (Nat.zero_le _))
                have HJ17 := Aside0.mk (below_step (show Below w14.heap.size w14 _ from by repeat (first | exact HJ.out | (with_reducible refine pw_below_drewN ?_ _) | (with_reducible refine below_drew1 ?_))) hb)
                have HX17 := Aside0.mk (blk_below (by repeat (first | (with_reducible exact HX.out) | (with_reducible refine blk_alloc ?_ _) | (with_reducible refine blk_drewN ?_ _) | (with_reducible refine blk_drew ?_))) hb)
                clear HJ
                have HJ := HJ17
                clear HJ17
                clear HX
                have HX := HX17
                clear HX17
                clear ho17 ho18 hb
                refine hK.out _ _ ⟨(blk_cell (blk_below HN.out.blkE (show Below w14.heap.size w14 _ from by repeat (first | exact HJ.out | (with_reducible refine pw_below_drewN ?_ _) | (with_reducible refine below_drew1 ?_)))) 0).trans rfl, (blk_cell (blk_below HN.out.blkE (show Below w14.heap.size w14 _ from by repeat (first | exact HJ.out | (with_reducible refine pw_below_drewN ?_ _) | (with_reducible refine below_drew1 ?_)))) 1).trans rfl, (blk_cell (blk_below HN.out.blkE (show Below w14.heap.size w14 _ from by repeat (first | exact HJ.out | (with_reducible refine pw_below_drewN ?_ _) | (with_reducible refine below_drew1 ?_)))) 2).trans rfl⟩ (fun hHeld => ?_)
                clear hK K
                refine norm_ (a' := ?_) ?_ ?_
                rotate_left
                · show Act.put _ (some 99) _ = _
                  simp only [Act.put, List.setIfInBounds_toArray, List.set_cons_zero, List.set_cons_succ, i64_w, i32_w]
                  rfl
                refine pure_ (i := 4) (N := some 95) (v := ?_) (a' := ?_) #[true, true, true, true, true, false, false, true, false, false] rfl rfl (any_of HT_.out (by kernel_rfl)) (fun _ _ _ h => h) (Or.inl ⟨by rfl, ?_⟩) ?_ ?_
                rotate_left
                · intro w'
                  go_simp
                  with_reducible rfl
                rotate_left
                · simp only [Act.put, List.setIfInBounds_toArray, List.set_cons_zero, List.set_cons_succ, i64_w, i32_w]
                  rfl
                refine pure_ (i := 5) (N := some 100) (v := ?_) (a' := ?_) #[true, true, true, true, true, true, false, true, false, false] rfl rfl (any_of HT_.out (by kernel_rfl)) (fun _ _ _ h => h) (Or.inl ⟨by rfl, ?_⟩) ?_ ?_
                rotate_left
                · intro w'
                  go_simp
                  with_reducible rfl
                rotate_left
                · simp only [Act.put, List.setIfInBounds_toArray, List.set_cons_zero, List.set_cons_succ, i64_w, i32_w]
                  rfl
                refine pure_ (i := 6) (N := some 101) (v := ?_) (a' := ?_) #[true, true, true, true, true, true, true, true, false, false] rfl rfl (any_of HT_.out (by kernel_rfl)) (fun _ _ _ h => h) (Or.inl ⟨by rfl, ?_⟩) ?_ ?_
                rotate_left
                · intro w'
                  go_simp
                  with_reducible rfl
                rotate_left
                · simp only [Act.put, List.setIfInBounds_toArray, List.set_cons_zero, List.set_cons_succ, i64_w, i32_w]
                  rfl
                exact norm_ (by simp only [putAll, Act.put, List.setIfInBounds_toArray, List.set_cons_zero, List.set_cons_succ]) (hCont (.slice A16 l1.length c16, v17, v18, gy) _ ⟨hHeld, (show Below w14.heap.size w14 _ from by repeat (first | exact HJ.out | (with_reducible refine pw_below_drewN ?_ _) | (with_reducible refine below_drew1 ?_))), (by repeat (first | (with_reducible exact HO17.out) | (with_reducible refine Kd.R_alloc ?_ _) | (with_reducible refine Kd.R_drewN ?_ _) | (with_reducible refine Kd.R_drew ?_))), (by repeat (first | (with_reducible exact HO18.out) | (with_reducible refine Kd.R_alloc ?_ _) | (with_reducible refine Kd.R_drewN ?_ _) | (with_reducible refine Kd.R_drew ?_))), (by repeat (first | (with_reducible exact HX.out) | (with_reducible refine blk_alloc ?_ _) | (with_reducible refine blk_drewN ?_ _) | (with_reducible refine blk_drew ?_))), hgy⟩)
            · skip
              refine box_step ?hg (N := 15) ?hd (cs := #[.int .i64 0, .slice none 0 0, .slice none 0 0]) (t := 25) ?hr ?_; (case hd => rfl); (case hg => rfl); (case hr => first | (go_simp; done) | (go_simp; rfl))
              intro gy hg wx hbox hb
              have hgy : w14.heap.size ≤ gy := by rw [hg]; exact below_size (show Below w14.heap.size w14 _ from by repeat (first | exact HJ.out | (with_reducible refine pw_below_drewN ?_ _) | (with_reducible refine below_drew1 ?_)))
              have HJx := Aside0.mk (below_step (show Below w14.heap.size w14 _ from by repeat (first | exact HJ.out | (with_reducible refine pw_below_drewN ?_ _) | (with_reducible refine below_drew1 ?_))) hb)
              clear HJ
              have HJ := HJx
              clear HJx
              have HX := Aside0.mk hbox
              clear hbox hb hg
              refine hK.out _ _ ⟨(blk_cell (blk_below HN.out.blkE (show Below w14.heap.size w14 _ from by repeat (first | exact HJ.out | (with_reducible refine pw_below_drewN ?_ _) | (with_reducible refine below_drew1 ?_)))) 0).trans rfl, (blk_cell (blk_below HN.out.blkE (show Below w14.heap.size w14 _ from by repeat (first | exact HJ.out | (with_reducible refine pw_below_drewN ?_ _) | (with_reducible refine below_drew1 ?_)))) 1).trans rfl, (blk_cell (blk_below HN.out.blkE (show Below w14.heap.size w14 _ from by repeat (first | exact HJ.out | (with_reducible refine pw_below_drewN ?_ _) | (with_reducible refine below_drew1 ?_)))) 2).trans rfl⟩ (fun hHeld => ?_)
              clear hK K
              refine norm_ (a' := ?_) ?_ ?_
              rotate_left
              · show Act.put _ (some 15) _ = _
                simp only [Act.put, List.setIfInBounds_toArray, List.set_cons_zero, List.set_cons_succ, i64_w, i32_w]
                rfl
              refine one_ (i := 2) (N := some 98) #[true, true, true, false, false, false, false, true, false, false] rfl rfl (one_of HT_.out (by kernel_rfl)) (by decide) (fun K hK => ?_)
              refine goes_ Try.func7 (by kernel_rfl) rfl #[.slice A1 l1.length c1] (by rfl) rfl rfl (by (try simp only [List.map_toArray, List.map_cons, List.map_nil]); first | done | rfl | (simp only [List.length_drop, List.length_take]; rfl)) ?_
              with_reducible refine (laws_fCopyBytes.calls 2000000 _ _ l1 l1 _ ?side1 hc1 HCOP1.out).mono ?_
              (case side1 => exact Kd.C_below HN.out.r1 (show Below w14.heap.size w14 _ from by repeat (first | exact HJ.out | (with_reducible refine pw_below_drewN ?_ _) | (with_reducible refine below_drew1 ?_))))
              rintro e w15 ⟨v16, rfl, ho16, hb⟩
              refine ⟨_, rfl, ?_⟩
              have HJ16 := Aside0.mk (below_step (show Below w14.heap.size w14 _ from by repeat (first | exact HJ.out | (with_reducible refine pw_below_drewN ?_ _) | (with_reducible refine below_drew1 ?_))) hb)
              have HX16 := Aside0.mk (blk_below (by repeat (first | (with_reducible exact HX.out) | (with_reducible refine blk_alloc ?_ _) | (with_reducible refine blk_drewN ?_ _) | (with_reducible refine blk_drew ?_))) hb)
              clear HJ
              have HJ := HJ16
              clear HJ16
              clear HX
              have HX := HX16
              clear HX16
              obtain ⟨A16, c16, rfl⟩ := Kd.R_slice ho16
              have HC16 := Aside0.mk (Kd.R_reads' ho16).2.2
              have hc16 := (Kd.R_reads' ho16).2.1
              clear ho16 hb
              refine hK.out _ _ ⟨(blk_cell (blk_below HN.out.blkE (show Below w14.heap.size w14 _ from by repeat (first | exact HJ.out | (with_reducible refine pw_below_drewN ?_ _) | (with_reducible refine below_drew1 ?_)))) 0).trans rfl, (blk_cell (blk_below HN.out.blkE (show Below w14.heap.size w14 _ from by repeat (first | exact HJ.out | (with_reducible refine pw_below_drewN ?_ _) | (with_reducible refine below_drew1 ?_)))) 1).trans rfl, (blk_cell (blk_below HN.out.blkE (show Below w14.heap.size w14 _ from by repeat (first | exact HJ.out | (with_reducible refine pw_below_drewN ?_ _) | (with_reducible refine below_drew1 ?_)))) 2).trans rfl⟩ (fun hHeld => ?_)
              clear hK K
              refine norm_ (a' := ?_) ?_ ?_
              rotate_left
              · show Act.put _ (some 98) _ = _
                simp only [Act.put, List.setIfInBounds_toArray, List.set_cons_zero, List.set_cons_succ, i64_w, i32_w]
                rfl
              refine one_ (i := 3) (N := some 99) #[true, true, true, true, false, false, false, true, false, false] rfl rfl (one_of HT_.out (by kernel_rfl)) (by decide) (fun K hK => ?_)
              refine goes_ Try.func9 (by kernel_rfl) rfl #[.agg #[.int .i64 b, .slice A7 disk.length c7, .slice A8 e2.length c8], .slice A16 l1.length c16] (by rfl) rfl rfl (by (try simp only [List.map_toArray, List.map_cons, List.map_nil]); first | done | rfl | (simp only [List.length_drop, List.length_take]; rfl)) ?_
              with_reducible refine (impl_DevCrash.calls b _ _ disk _ _ e2 _ _ l1 b G [] 0 _ ?side1 hc7 ?side3 hc8 ?side5 hc16 HCR.out).mono ?_
              (case side1 => exact Kd.C_below HN.out.ed (show Below w14.heap.size w14 _ from by repeat (first | exact HJ.out | (with_reducible refine pw_below_drewN ?_ _) | (with_reducible refine below_drew1 ?_))))
              (case side3 => exact Kd.C_below HN.out.ec (show Below w14.heap.size w14 _ from by repeat (first | exact HJ.out | (with_reducible refine pw_below_drewN ?_ _) | (with_reducible refine below_drew1 ?_))))
              (case side5 => repeat (first | (with_reducible exact HC16.out) | (with_reducible refine Kd.C_alloc ?_ _) | (with_reducible refine Kd.C_drewN ?_ _) | (with_reducible refine Kd.C_drew ?_)))
              rintro e w17 ⟨v17, v18, rfl, ho17, ho18, hb⟩
              refine ⟨_, rfl, ?_⟩
              have HO17 := Aside0.mk (Kd.R_lower ho17 (Nat.zero_le _))
              have HO18 := Aside0.mk (Kd.R_lower (Kd.S_R ho18) (Nat.zero_le _))
              have HJ17 := Aside0.mk (below_step (show Below w14.heap.size w14 _ from by repeat (first | exact HJ.out | (with_reducible refine pw_below_drewN ?_ _) | (with_reducible refine below_drew1 ?_))) hb)
              have HX17 := Aside0.mk (blk_below (by repeat (first | (with_reducible exact HX.out) | (with_reducible refine blk_alloc ?_ _) | (with_reducible refine blk_drewN ?_ _) | (with_reducible refine blk_drew ?_))) hb)
              clear HJ
              have HJ := HJ17
              clear HJ17
              clear HX
              have HX := HX17
              clear HX17
              clear ho17 ho18 hb
              refine hK.out _ _ ⟨(blk_cell (blk_below HN.out.blkE (show Below w14.heap.size w14 _ from by repeat (first | exact HJ.out | (with_reducible refine pw_below_drewN ?_ _) | (with_reducible refine below_drew1 ?_)))) 0).trans rfl, (blk_cell (blk_below HN.out.blkE (show Below w14.heap.size w14 _ from by repeat (first | exact HJ.out | (with_reducible refine pw_below_drewN ?_ _) | (with_reducible refine below_drew1 ?_)))) 1).trans rfl, (blk_cell (blk_below HN.out.blkE (show Below w14.heap.size w14 _ from by repeat (first | exact HJ.out | (with_reducible refine pw_below_drewN ?_ _) | (with_reducible refine below_drew1 ?_)))) 2).trans rfl⟩ (fun hHeld => ?_)
              clear hK K
              refine norm_ (a' := ?_) ?_ ?_
              rotate_left
              · show Act.put _ (some 99) _ = _
                simp only [Act.put, List.setIfInBounds_toArray, List.set_cons_zero, List.set_cons_succ, i64_w, i32_w]
                rfl
              refine pure_ (i := 4) (N := some 95) (v := ?_) (a' := ?_) #[true, true, true, true, true, false, false, true, false, false] rfl rfl (any_of HT_.out (by kernel_rfl)) (fun _ _ _ h => h) (Or.inl ⟨by rfl, ?_⟩) ?_ ?_
              rotate_left
              · intro w'
                go_simp
                with_reducible rfl
              rotate_left
              · simp only [Act.put, List.setIfInBounds_toArray, List.set_cons_zero, List.set_cons_succ, i64_w, i32_w]
                rfl
              refine pure_ (i := 5) (N := some 100) (v := ?_) (a' := ?_) #[true, true, true, true, true, true, false, true, false, false] rfl rfl (any_of HT_.out (by kernel_rfl)) (fun _ _ _ h => h) (Or.inl ⟨by rfl, ?_⟩) ?_ ?_
              rotate_left
              · intro w'
                go_simp
                with_reducible rfl
              rotate_left
              · simp only [Act.put, List.setIfInBounds_toArray, List.set_cons_zero, List.set_cons_succ, i64_w, i32_w]
                rfl
              refine pure_ (i := 6) (N := some 101) (v := ?_) (a' := ?_) #[true, true, true, true, true, true, true, true, false, false] rfl rfl (any_of HT_.out (by kernel_rfl)) (fun _ _ _ h => h) (Or.inl ⟨by rfl, ?_⟩) ?_ ?_
              rotate_left
              · intro w'
                go_simp
                with_reducible rfl
              rotate_left
              · simp only [Act.put, List.setIfInBounds_toArray, List.set_cons_zero, List.set_cons_succ, i64_w, i32_w]
                rfl
              exact norm_ (by simp only [putAll, Act.put, List.setIfInBounds_toArray, List.set_cons_zero, List.set_cons_succ]) (hCont (.slice A16 l1.length c16, v17, v18, gy) _ ⟨hHeld, (show Below w14.heap.size w14 _ from by repeat (first | exact HJ.out | (with_reducible refine pw_below_drewN ?_ _) | (with_reducible refine below_drew1 ?_))), (by repeat (first | (with_reducible exact HO17.out) | (with_reducible refine Kd.R_alloc ?_ _) | (with_reducible refine Kd.R_drewN ?_ _) | (with_reducible refine Kd.R_drew ?_))), (by repeat (first | (with_reducible exact HO18.out) | (with_reducible refine Kd.R_alloc ?_ _) | (with_reducible refine Kd.R_drewN ?_ _) | (with_reducible refine Kd.R_drew ?_))), (by repeat (first | (with_reducible exact HX.out) | (with_reducible refine blk_alloc ?_ _) | (with_reducible refine blk_drewN ?_ _) | (with_reducible refine blk_drew ?_))), hgy⟩)
          rintro ⟨v16, v17, v18, gy⟩ w18 ⟨hHeld, hj, ho17, ho18, hx, hgy⟩
          dsimp only at hj ho17 ho18 hx hgy
          have HJ := Aside0.mk hj
          have HO17 := Aside0.mk ho17
          have HO18 := Aside0.mk ho18
          have HX := Aside0.mk hx
          clear hj ho17 ho18 hx
          obtain ⟨A17, c17, rfl⟩ := Kd.R_slice HO17.out
          obtain ⟨A18, c18, rfl⟩ := Kd.R_slice HO18.out
          refine norm_ (a' := ?_) ?_ ?_
          rotate_left
          · simp only [putAll, Act.put, List.setIfInBounds_toArray, List.set_cons_zero, List.set_cons_succ]
            rfl
          refine one_ (i := 8) (N := none) #[true, true, true, true, true, true, true, true, true, false] rfl rfl (one_of HT_.out (by kernel_rfl)) (by decide) (fun K hK => ?_)
          have hs0 : w18.cell? ⟨gy, 0, none⟩ = some (.int .i64 0) := (blk_cell HX.out 0).trans rfl
          have hs1 : w18.cell? ⟨gy, 1, none⟩ = some (.slice none 0 0) := (blk_cell HX.out 1).trans rfl
          have hs2 : w18.cell? ⟨gy, 2, none⟩ = some (.slice none 0 0) := (blk_cell HX.out 2).trans rfl
          have hfs := blk_frozen HX.out
          have hne : gx ≠ gy := Nat.ne_of_lt (Nat.lt_of_lt_of_le (blk_lt HN.out.blkE) hgy)
          refine skip_ (w1 := ?_) (by rfl) rfl ?_ ?_
          rotate_left
          · go_simp
            rfl
          refine hK.out _ _ ⟨((cell_far (p := ⟨gy, _, none⟩) hne _).trans (((cell_far (p := ⟨gy, _, none⟩) hne _).trans (((cell_far (p := ⟨gy, _, none⟩) hne _).trans (hHeld.1)))))), ((cell_far (p := ⟨gy, _, none⟩) hne _).trans (((cell_far (p := ⟨gy, _, none⟩) hne _).trans (((cell_far (p := ⟨gy, _, none⟩) hne _).trans (hHeld.2.1)))))), ((cell_far (p := ⟨gy, _, none⟩) hne _).trans (((cell_far (p := ⟨gy, _, none⟩) hne _).trans (((cell_far (p := ⟨gy, _, none⟩) hne _).trans (hHeld.2.2))))))⟩ (fun hHeld => ?_)
          clear hK K
          refine pure_ (i := 9) (N := some 16) (v := ?_) (a' := ?_) #[true, true, true, true, true, true, true, true, true, true] rfl rfl (any_of HT_.out (by kernel_rfl)) (fun _ _ _ h => h) (Or.inl ⟨by rfl, ?_⟩) ?_ ?_
          rotate_left
          · intro w'
            go_simp
            with_reducible rfl
          rotate_left
          · simp only [Act.put, List.setIfInBounds_toArray, List.set_cons_zero, List.set_cons_succ, i64_w, i32_w]
            rfl
          refine done_ (done_of HT_.out (by kernel_rfl)) ?_
          have HO : Aside0 (LO w w1.heap.size gx b A9 c9 disk A10 c10 cache A11 e2 A7 c7 A8 c8 A4 data A1 l1 w13.heap.size A14 c14 F A15 c15 gy A17 c17 G A18 c18 (((w18.setCell ⟨gy, 0, none⟩ (.int .i64 b)).setCell ⟨gy, 1, none⟩ (.slice A17 G.length c17)).setCell ⟨gy, 2, none⟩ (.slice A18 0 c18))) := ⟨LO.of HN.out HJ.out HX.out hgy HO17.out⟩
          have hc17 := (Kd.R_reads' HO17.out).2.1
          clear hs0 hs1 hs2 hfs hne hHeld HJ HN HX HO17 HO18 HT_ HW_
          generalize (((w18.setCell ⟨gy, 0, none⟩ (.int .i64 b)).setCell ⟨gy, 1, none⟩ (.slice A17 G.length c17)).setCell ⟨gy, 2, none⟩ (.slice A18 0 c18)) = w19 at HO ⊢
          have hx2 : w19.cell? ⟨gx, 2, none⟩ = some (.slice A8 e2.length c8) := (blk_cell HO.out.blkE 2).trans rfl
          have hf2 : w19.cell? ⟨w13.heap.size, 2, none⟩ = some (.slice A15 0 c15) := (blk_cell HO.out.blkF 2).trans rfl
          have hg2 : w19.cell? ⟨gy, 2, none⟩ = some (.slice A18 0 c18) := (blk_cell HO.out.blkG 2).trans rfl
          go_upto_region 16 with (fail)
          clear hx2 hf2 hg2
          go_upto_block 0 with (fail)
          go_cut [17] (fun v17 wq => Aside0 (LO w w1.heap.size gx b A9 c9 disk A10 c10 cache A11 e2 A7 c7 A8 c8 A4 data A1 l1 w13.heap.size A14 c14 F A15 c15 gy A17 c17 G A18 c18 wq))
          case first =>
            go_wp2_with fail
            go_loopg [17] b.toNat (fun kq v17 wr => ∃ k : Nat, v17 = .int .i64 k ∧ kq + k = b.toNat ∧ Aside0 (LO w w1.heap.size gx b A9 c9 disk A10 c10 cache A11 e2 A7 c7 A8 c8 A4 data A1 l1 w13.heap.size A14 c14 F A15 c15 gy A17 c17 G A18 c18 wr))
            case atStart => exact ⟨0, rfl, by omega, HO⟩
            case round =>
              clear HO
              obtain ⟨k, rfl, hk, HO⟩ := hrel
              have hb8 := validDev_8 HVE.out
              have hb512 := validDev_512 HVE.out
              have hd0 : wr.cell? ⟨w1.heap.size, 0, none⟩ = some (.int .i64 b) := (blk_cell HO.out.blk 0).trans rfl
              by_cases hlt : (k : Int) < b
              · have hd1 : wr.cell? ⟨w1.heap.size, 1, none⟩ = some (.slice A9 disk.length c9) := (blk_cell HO.out.blk 1).trans rfl
                have hdl := validDev_len HVE.out
                obtain ⟨i0_, hi0_, _, hsz_, _⟩ := info_parts info5
                obtain ⟨As, hcuts, hAs, hCs⟩ := print_mid_of (P := Try.prog) (Value.int .u8) 0 22 5 .i64 .i64 Try.underlying22 hi0_ hsz_ A9 c9 disk ((k : Int) * 128) (((k : Int) + 1) * 128) (by omega) (by omega) (by omega) hc9
                obtain ⟨cs, hcut, hcsl⟩ : ∃ cs, (∀ W : World, (Instr.slice 22 (.slice A9 disk.length c9) (some (.int .i64 ((k : Int) * 128))) (some (.int .i64 (((k : Int) + 1) * 128))) none).run Try.prog W = .ok (.slice As (seg disk (k : Int)).length cs) W) ∧ (seg disk (k : Int)).length ≤ cs := ⟨_, hcuts, hCs⟩
                have HS0 : Aside0 (Kd.C (Kd.int .u8) wr As (seg disk (k : Int)).length (seg disk (k : Int))) := ⟨Kd.C_of_reads (h1 := fun _ => rfl) (hAs _ (Kd.reads_of_C HO.out.dd))⟩
                have HCs := Aside0.mk hcsl
                have HDL := Aside0.mk hdl
                have HK := Aside0.mk hk
                clear hAs hCs hi0_ hsz_ hdl hcuts hcsl hk
                have h2048 := validDev_2048 HVE.out
                obtain ⟨wo, rfl⟩ : ∃ wo : World, wo = wr := ⟨_, rfl⟩
                obtain ⟨gko, rfl⟩ : ∃ gko : Nat, gko = gk := ⟨_, rfl⟩
                go_upto_block 2 with (fail)
                go_wp2_with fail
                clear hd0 hd1 hcut
                go_loopg [18, 19, 20] e2.length (fun kq v18 v19 v20 wq => ∃ (i : Nat) (An Ak : Option Addr) (cn ck : Nat), v18 = .slice An (pick (fun _ => true) (k : Int) e2 (seg disk (k : Int)) i).length cn ∧ v19 = .slice Ak (pick (keepBit l1) (k : Int) e2 (seg disk (k : Int)) i).length ck ∧ v20 = .int .i64 i ∧ kq + i = e2.length ∧ Aside0 ((pick (fun _ => true) (k : Int) e2 (seg disk (k : Int)) i).length ≤ cn) ∧ Aside0 ((pick (keepBit l1) (k : Int) e2 (seg disk (k : Int)) i).length ≤ ck) ∧ Aside0 (Kd.C (Kd.int .u8) wq An (pick (fun _ => true) (k : Int) e2 (seg disk (k : Int)) i).length (pick (fun _ => true) (k : Int) e2 (seg disk (k : Int)) i)) ∧ Aside0 (Kd.C (Kd.int .u8) wq Ak (pick (keepBit l1) (k : Int) e2 (seg disk (k : Int)) i).length (pick (keepBit l1) (k : Int) e2 (seg disk (k : Int)) i)) ∧ Aside0 (LO w w1.heap.size gx b A9 c9 disk A10 c10 cache A11 e2 A7 c7 A8 c8 A4 data A1 l1 w13.heap.size A14 c14 F A15 c15 gy A17 c17 G A18 c18 wq))
                case atStart => exact ⟨0, As, As, cs, cs, rfl, rfl, rfl, by omega, HCs, HCs, HS0, HS0, HO⟩
                case round =>
                  clear HO HS0 HCs
                  obtain ⟨i, An, Ak, cn, ck, rfl, rfl, rfl, hi, HCn, HCk, HSn, HSk, HO⟩ := hrel
                  have HI := Aside0.mk hi
                  by_cases hlti : i < e2.length
                  · obtain ⟨ad, Ae, ce, rfl, hx0, hx1, hl1, hC1⟩ := at_T32 HO.out.cc i (by omega) (by omega)
                    have hx0' : wr.cell? (ad.add (i * 2)) = some (.int .i64 (rd_T32 e2 i).f0) := by simpa using hx0
                    have hx1' : wr.cell? ⟨(ad.add (i * 2)).block, (ad.add (i * 2)).off + 1, none⟩ = some (.slice Ae (rd_T32 e2 i).f1.length ce) := by simpa using hx1
                    have HC1 := Aside0.mk hC1
                    have HL1 := Aside0.mk hl1
                    clear hx0 hx1 hC1 hl1 hi
                    by_cases hfb : (rd_T32 e2 i).f0 = (k : Int)
                    · have hfbb : ((rd_T32 e2 i).f0 == (k : Int)) = true := beq_iff_eq.2 hfb
                      have HFB := Aside0.mk hfb
                      clear hfb
                      by_cases hq8 : i / 8 < l1.length
                      · obtain ⟨ad1, rfl, hc⟩ := Kd.at_int HO.out.r1 ((i / 8 : Nat) : Int) (by omega) (by omega)
                        have hc' : wr.cell? (ad1.add (i / 8)) = some (.int .u8 (rd l1 ((i : Int) / 8))) := by
                          rw [Int.toNat_natCast] at hc
                          rw [hc]; rfl
                        clear hc
                        have hbit := keep_bit HM.out i hq8
                        cases hkb : keepBit l1 i with
                        | true =>
                          have HKB := Aside0.mk hkb
                          rw [hkb] at hbit
                          clear hkb
                          go_wp2
                          go_roundg (gk - 1)
                          case measure => have := HI.out; omega
                          case rel =>
                            have en := (pick_yes (P := fun _ => true) (base := seg disk (k : Int)) hlti HFB.out rfl)
                            have ek := (pick_yes (P := keepBit l1) (base := seg disk (k : Int)) hlti HFB.out HKB.out)
                            exact ⟨i + 1, Ae, Ae, ce, ce, by rw [en], by rw [ek], by go_num, by have := HI.out; omega, ⟨by rw [en]; exact HL1.out⟩, ⟨by rw [ek]; exact HL1.out⟩, ⟨by rw [en]; exact HC1.out⟩, ⟨by rw [ek]; exact HC1.out⟩, HO⟩
                        | false =>
                          have HKB := Aside0.mk hkb
                          rw [hkb] at hbit
                          clear hkb
                          go_wp2
                          go_roundg (gk - 1)
                          case measure => have := HI.out; omega
                          case rel =>
                            have en := (pick_yes (P := fun _ => true) (base := seg disk (k : Int)) hlti HFB.out rfl)
                            have ek := (pick_out (P := keepBit l1) (k := (k : Int)) (base := seg disk (k : Int)) hlti HKB.out)
                            exact ⟨i + 1, Ae, Ak, ce, ck, by rw [en], by rw [ek], by go_num, by have := HI.out; omega, ⟨by rw [en]; exact HL1.out⟩, ⟨by rw [ek]; exact HCk.out⟩, ⟨by rw [en]; exact HC1.out⟩, ⟨by rw [ek]; exact HSk.out⟩, HO⟩
                      · have hf : decide (((i : Int)) / 8 < l1.length) = false := by simp; omega
                        have HKB := Aside0.mk (keep_out i hq8)
                        go_wp2
                        go_roundg (gk - 1)
                        case measure => have := HI.out; omega
                        case rel =>
                          have en := (pick_yes (P := fun _ => true) (base := seg disk (k : Int)) hlti HFB.out rfl)
                          have ek := (pick_out (P := keepBit l1) (k := (k : Int)) (base := seg disk (k : Int)) hlti HKB.out)
                          exact ⟨i + 1, Ae, Ak, ce, ck, by rw [en], by rw [ek], by go_num, by have := HI.out; omega, ⟨by rw [en]; exact HL1.out⟩, ⟨by rw [ek]; exact HCk.out⟩, ⟨by rw [en]; exact HC1.out⟩, ⟨by rw [ek]; exact HSk.out⟩, HO⟩
                    · have hfbb : ((rd_T32 e2 i).f0 == (k : Int)) = false := beq_eq_false_iff_ne.2 hfb
                      have HFB := Aside0.mk hfb
                      clear hfb
                      go_wp2
                      go_roundg (gk - 1)
                      case measure => have := HI.out; omega
                      case rel =>
                        have en := (pick_no (P := fun _ => true) (base := seg disk (k : Int)) hlti HFB.out)
                        have ek := (pick_no (P := keepBit l1) (base := seg disk (k : Int)) hlti HFB.out)
                        exact ⟨i + 1, An, Ak, cn, ck, by rw [en], by rw [ek], by go_num, by have := HI.out; omega, ⟨by rw [en]; exact HCn.out⟩, ⟨by rw [ek]; exact HCk.out⟩, ⟨by rw [en]; exact HSn.out⟩, ⟨by rw [ek]; exact HSk.out⟩, HO⟩
                  · have hie : i = e2.length := by omega
                    subst hie
                    clear hi HI
                    obtain ⟨X, hX⟩ : ∃ X, X = pick (fun _ => true) (k : Int) e2 (seg disk (k : Int)) e2.length := ⟨_, rfl⟩
                    obtain ⟨Z, hZ⟩ : ∃ Z, Z = pick (keepBit l1) (k : Int) e2 (seg disk (k : Int)) e2.length := ⟨_, rfl⟩
                    rw [← hX] at HCn HSn ⊢
                    rw [← hZ] at HCk HSk ⊢
                    have HDE : Aside0 (impl_DevRead.f 5000 b disk e2 (k : Int) = some (X, 0)) := ⟨by rw [hX]; exact read_ok b disk e2 HVE.out (k : Int) (by omega) hlt 5000 (by omega)⟩
                    have HDF : Aside0 (impl_DevRead.f 5000 b F [] (k : Int) = some (X, 0)) := ⟨by rw [hX]; exact read_settled _ HVE.out HFD.out (k : Int) (by omega) hlt⟩
                    have HDG : Aside0 (impl_DevRead.f 5000 b G [] (k : Int) = some (Z, 0)) := ⟨by rw [hZ]; exact read_settled _ HVE.out HGD.out (k : Int) (by omega) hlt⟩
                    clear hX hZ
                    go_upto_region 28 with (fail)
                    have hz0 : wr.cell? ⟨gx, 0, none⟩ = some (.int .i64 b) := (blk_cell HO.out.blkE 0).trans rfl
                    have hz1 : wr.cell? ⟨gx, 1, none⟩ = some (.slice A7 disk.length c7) := (blk_cell HO.out.blkE 1).trans rfl
                    have hz2 : wr.cell? ⟨gx, 2, none⟩ = some (.slice A8 e2.length c8) := (blk_cell HO.out.blkE 2).trans rfl
                    go_upto_region 29 with (go_at_call 10; refine (impl_DevRead.calls 5000 b _ _ disk _ _ e2 (k : Int) X 0 _ HO.out.ed hc7 HO.out.ec hc8 HDE.out).mono ?_; rintro e wa ⟨v_, rfl, ho_, hb⟩; have HOs := Aside0.mk (LO.step HO.out hb); have HSns := Aside0.mk (Kd.C_below HSn.out hb); have HSks := Aside0.mk (Kd.C_below HSk.out hb); clear HO HSn HSk; have HO := HOs; have HSn := HSns; have HSk := HSks; clear HOs HSns HSks; obtain ⟨Aa_, ca_, rfl⟩ := Kd.R_slice ho_; have HXa := Aside0.mk (Kd.R_reads' ho_).2.2; clear ho_ hb)
                    clear hz0 hz1 hz2
                    have hz0 : wa.cell? ⟨w13.heap.size, 0, none⟩ = some (.int .i64 b) := (blk_cell HO.out.blkF 0).trans rfl
                    have hz1 : wa.cell? ⟨w13.heap.size, 1, none⟩ = some (.slice A14 F.length c14) := (blk_cell HO.out.blkF 1).trans rfl
                    have hz2 : wa.cell? ⟨w13.heap.size, 2, none⟩ = some (.slice A15 0 c15) := (blk_cell HO.out.blkF 2).trans rfl
                    go_upto_region 30 with (go_at_call 10; refine (impl_DevRead.calls 5000 b _ _ F _ _ [] (k : Int) X 0 _ HO.out.fd hc14 (C_none k32 _ _) (Nat.zero_le _) HDF.out).mono ?_; rintro e wb ⟨v_, rfl, ho_, hb⟩; have HOs := Aside0.mk (LO.step HO.out hb); have HSns := Aside0.mk (Kd.C_below HSn.out hb); have HSks := Aside0.mk (Kd.C_below HSk.out hb); clear HO HSn HSk; have HO := HOs; have HSn := HSns; have HSk := HSks; clear HOs HSns HSks; have HXas := Aside0.mk (Kd.C_below HXa.out hb); clear HXa; have HXa := HXas; clear HXas; obtain ⟨Ab_, cb_, rfl⟩ := Kd.R_slice ho_; have HXb := Aside0.mk (Kd.R_reads' ho_).2.2; clear ho_ hb)
                    clear hz0 hz1 hz2
                    have hz0 : wb.cell? ⟨gy, 0, none⟩ = some (.int .i64 b) := (blk_cell HO.out.blkG 0).trans rfl
                    have hz1 : wb.cell? ⟨gy, 1, none⟩ = some (.slice A17 G.length c17) := (blk_cell HO.out.blkG 1).trans rfl
                    have hz2 : wb.cell? ⟨gy, 2, none⟩ = some (.slice A18 0 c18) := (blk_cell HO.out.blkG 2).trans rfl
                    go_upto_region 31 with (go_at_call 10; refine (impl_DevRead.calls 5000 b _ _ G _ _ [] (k : Int) Z 0 _ HO.out.gd hc17 (C_none k32 _ _) (Nat.zero_le _) HDG.out).mono ?_; rintro e wd ⟨v_, rfl, ho_, hb⟩; have HOs := Aside0.mk (LO.step HO.out hb); have HSns := Aside0.mk (Kd.C_below HSn.out hb); have HSks := Aside0.mk (Kd.C_below HSk.out hb); clear HO HSn HSk; have HO := HOs; have HSn := HSns; have HSk := HSks; clear HOs HSns HSks; have HXas := Aside0.mk (Kd.C_below HXa.out hb); clear HXa; have HXa := HXas; clear HXas; have HXbs := Aside0.mk (Kd.C_below HXb.out hb); clear HXb; have HXb := HXbs; clear HXbs; obtain ⟨Ad_, cd_, rfl⟩ := Kd.R_slice ho_; have HXd := Aside0.mk (Kd.R_reads' ho_).2.2; clear ho_ hb)
                    clear hz0 hz1 hz2
                    have hsa := Kd.C_string (dst := 9) (c := ca_) Try.underlying22 Try.underlying5 Try.underlying9 HXa.out
                    have hsb := Kd.C_string (dst := 9) (c := cb_) Try.underlying22 Try.underlying5 Try.underlying9 HXb.out
                    have hsd := Kd.C_string (dst := 9) (c := cd_) Try.underlying22 Try.underlying5 Try.underlying9 HXd.out
                    have hsn := Kd.C_string (dst := 9) (c := cn) Try.underlying22 Try.underlying5 Try.underlying9 HSn.out
                    have hsk := Kd.C_string (dst := 9) (c := ck) Try.underlying22 Try.underlying5 Try.underlying9 HSk.out
                    go_upto_region 33 with (fail)
                    clear hsa hsb hsd hsn hsk
                    by_cases c12 : (12 : Int) < (k : Int)
                    · have c12b : decide ((12 : Int) < (k : Int)) = true := by simpa using c12
                      by_cases c100 : (100 : Int) < (e2.length : Int)
                      · have c100b : decide ((100 : Int) < (e2.length : Int)) = true := by simpa using c100
                        go_wp2
                        go_meet
                        case rel => exact HO
                      · have c100b : decide ((100 : Int) < (e2.length : Int)) = false := by simpa using c100
                        go_wp2
                        go_roundg (gko - 1)
                        case measure => have := HK.out; omega
                        case rel => exact ⟨k + 1, by go_num, by have := HK.out; omega, HO⟩
                    · have c12b : decide ((12 : Int) < (k : Int)) = false := by simpa using c12
                      go_wp2
                      go_roundg (gko - 1)
                      case measure => have := HK.out; omega
                      case rel => exact ⟨k + 1, by go_num, by have := HK.out; omega, HO⟩
              · go_wp2
                go_meet
                case rel => exact HO
          case rest =>
            clear HO
            have HO := hcut
            clear hcut
            by_cases h0 : wcd = 0
            · have h0b : (wcd != 0) = false := by simp [h0]
              have H0 := Aside0.mk h0
              clear h0
              have hd0 : wc.cell? ⟨w1.heap.size, 0, none⟩ = some (.int .i64 b) := (blk_cell HO.out.blk 0).trans rfl
              have hd1 : wc.cell? ⟨w1.heap.size, 1, none⟩ = some (.slice A9 disk.length c9) := (blk_cell HO.out.blk 1).trans rfl
              have hd2 : wc.cell? ⟨w1.heap.size, 2, none⟩ = some (.slice A10 cache.length c10) := (blk_cell HO.out.blk 2).trans rfl
              have HAP : Aside0 (impl_DevApply.f b disk cache [⟨1, blk, data⟩, ⟨2, 0, []⟩] 2 = some (b, F, [], 0)) := ⟨by
                have he := HE2.out
                rw [if_pos H0.out] at he
                rw [HFD.out, he]
                exact apply_two b disk cache HV.out blk data (by rw [← HWC2.out]; exact H0.out)⟩
              go_upto_region 37 with (go_at_call 11; refine (impl_DevApply.calls b _ _ disk _ _ cache _ _ [⟨1, blk, data⟩, ⟨2, 0, []⟩] 2 b F [] 0 _ (Kd.C_alloc HO.out.dd _) hc9 (Kd.C_alloc HO.out.dc _) hc10 (two_steps (blk_new wc _) hc4 (Kd.C_alloc HO.out.data _)) (Nat.le_refl _) HAP.out).mono ?_; rintro e w20 ⟨vh, vk, rfl, hoh, hok, hb⟩; have HOs := Aside0.mk (LO.step (LO.step HO.out (below_alloc (Below.refl _ _) _)) hb); clear HO; have HO := HOs; clear HOs; obtain ⟨Ah, ch, rfl⟩ := Kd.R_slice hoh; obtain ⟨Ak, ck, rfl⟩ := Kd.R_slice (Kd.S_R hok); have HXh := Aside0.mk (Kd.R_reads' hoh).2.2; clear hoh hok hb)
              clear hd0 hd1 hd2
              have HO2 : Aside0 (LO w w1.heap.size gx b A9 c9 disk A10 c10 cache A11 e2 A7 c7 A8 c8 A4 data A1 l1 w13.heap.size A14 c14 F A15 c15 gy A17 c17 G A18 c18 (w20.alloc (.cells #[.int .i64 b, .slice Ah F.length ch, .slice Ak 0 ck] 25))) := ⟨LO.step HO.out (below_alloc (Below.refl _ _) _)⟩
              have HXh2 := Aside0.mk (Kd.C_alloc HXh.out (.cells #[.int .i64 b, .slice Ah F.length ch, .slice Ak 0 ck] 25))
              have hbh := blk_new w20 (.cells #[.int .i64 b, .slice Ah F.length ch, .slice Ak 0 ck] 25)
              have HBH := Aside0.mk hbh
              clear HO HXh hbh
              generalize hgh : w20.heap.size = gh at HBH ⊢
              clear hgh
              generalize w20.alloc (.cells #[.int .i64 b, .slice Ah F.length ch, .slice Ak 0 ck] 25) = w21 at HO2 HXh2 HBH ⊢
              have hh1 : w21.cell? ⟨gh, 1, none⟩ = some (.slice Ah F.length ch) := (blk_cell HBH.out 1).trans rfl
              have hh2 : w21.cell? ⟨gh, 2, none⟩ = some (.slice Ak 0 ck) := (blk_cell HBH.out 2).trans rfl
              have hf1 : w21.cell? ⟨w13.heap.size, 1, none⟩ = some (.slice A14 F.length c14) := (blk_cell HO2.out.blkF 1).trans rfl
              have hs1 := Kd.C_string (dst := 9) (c := ch) Try.underlying22 Try.underlying5 Try.underlying9 HXh2.out
              have hs2 := Kd.C_string (dst := 9) (c := c14) Try.underlying22 Try.underlying5 Try.underlying9 HO2.out.fd
              go_wp2
              go_ret
              exact ⟨rfl, HO2.out.below⟩
            · have h0b : (wcd != 0) = true := by simpa using h0
              clear h0
              go_wp2
              go_ret
              exact ⟨rfl, HO.out.below⟩
    · have t0 : decide (1048576 < (l0.length : Int)) = false := by simp; omega
      have t1 : decide (1048576 < (l1.length : Int)) = true := by simp; omega
      go_enter Try.func3, Try.ntmps3
      go_wp2
      go_ret
      exact ⟨rfl, Below.refl _ _⟩
  · have t0 : decide (1048576 < (l0.length : Int)) = true := by simp; omega
    go_enter Try.func3, Try.ntmps3
    go_wp2
    go_ret
    exact ⟨rfl, Below.refl _ _⟩
theorem u8_wf {x : Int} (h : (Lit.int .u8 x).wf = true) : 0 ≤ x ∧ x ≤ 255 := by
  have := bounds_u8 h
  omega
theorem law_walks (a0 : Option Addr) (len0 cap0 : Nat) (z0 : List Int) (a1 : Option Addr) (len1 cap1 : Nat) (z1 : List Int) (w : World)
    (w0 : (a0 = none ∧ len0 = 0 ∧ cap0 = 0 ∧ z0 = []) ∨ ∃ x, a0 = some x ∧ len0 ≤ cap0 ∧ cap0 ≤ maxLen ∧ z0.length = cap0 ∧ (∀ i, i < z0.length → w.cell? (x.add i) = some (.int .u8 (z0.getD i 0))) ∧ ∀ n ∈ z0, (Lit.int .u8 n).wf = true) (y0 : len0 * 1 ≤ 140737488351232)
    (w1 : (a1 = none ∧ len1 = 0 ∧ cap1 = 0 ∧ z1 = []) ∨ ∃ x, a1 = some x ∧ len1 ≤ cap1 ∧ cap1 ≤ maxLen ∧ z1.length = cap1 ∧ (∀ i, i < z1.length → w.cell? (x.add i) = some (.int .u8 (z1.getD i 0))) ∧ ∀ n ∈ z1, (Lit.int .u8 n).wf = true) (y1 : len1 * 1 ≤ 140737488351232) :
    Calls Try.prog 3 #[.slice a0 len0 cap0, .slice a1 len1 cap1] w fun e w' => e = .returned (.bool true) ∧ Below w.heap.size w w' := by
  obtain ⟨l0, rfl, hr0, hm0, hw0, hc0⟩ := ReadsInt.ofRowC w0
  obtain ⟨l1, rfl, hr1, hm1, hw1, hc1⟩ := ReadsInt.ofRowC w1
  exact law_walk a0 cap0 l0 a1 cap1 l1 w (Kd.C_of_reads (d := (0 : Int)) (h1 := fun _ => rfl) hr0) hc0 (Kd.C_of_reads (d := (0 : Int)) (h1 := fun _ => rfl) hr1) hc1 (fun x hx => u8_wf (hw1 x hx))
end Go.Proofs.Ytnkgclcmjojeiaa.PFnDeviceReads
