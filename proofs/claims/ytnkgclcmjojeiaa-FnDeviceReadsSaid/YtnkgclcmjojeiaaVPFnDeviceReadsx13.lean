-- Written by a program of this session (after the kit's print) out of the translation. Nothing here is trusted: Lean checks it.
import Derived.Test.YtnkgclcmjojeiaaVPFnDeviceReadsx0
import Derived.Test.YtnkgclcmjojeiaaVPFnDeviceReadsx7
import Derived.Test.YtnkgclcmjojeiaaVPFnDeviceReadsx8
import Derived.Test.YtnkgclcmjojeiaaVPFnDeviceReadsx10
import Derived.Test.YtnkgclcmjojeiaaVPFnDeviceReadsx12
namespace Go.Proofs.Ytnkgclcmjojeiaa.PFnDeviceReads
open Go.RowKit Go.Proofs.YtnkgclcmjojeiaaW.PrintWords Go.Proofs.YtnkgclcmjojeiaaW.PrintLast Go.Proofs.YtnkgclcmjojeiaaW.PrintMore
attribute [local go_sem] max2_int min2_int max_two min_two max_three min_three max_four min_four   -- for this text's walks alone
set_option linter.unusedVariables false
set_option linter.unusedSimpArgs false

-- HOLE loop.example/s01595/impl.DevFlush : loop.example/s01595/impl.validDevice, loop.example/s01595/impl.copyDevice, (*loop.example/s01595/impl.Device).settle
def impl_DevFlush.f (b : Int) (disk : List Int) (cache : List S32) : Option (Int × List Int × List S32 × Int) :=
  if validDev b disk cache then some (b, settleTo (fun _ => true) cache disk cache.length, [], 0) else some (0, [], [], 1)
theorem flush_keep (i : Int) (w : World) : Calls Try.prog 24 #[.int .i64 i] w fun e w' => e = .returned (.bool true) ∧ Below w.heap.size w w' := by
  go_enter Try.func24, Try.ntmps24
  go_wp2
  go_ret
  exact ⟨rfl, Below.refl _ _⟩
theorem flush_enters (args : Array Value) (W : World) : (callFunc 24 args).run Try.prog W = .ok (.enter 24 args) W :=
  enters_of Try.func24 (by kernel_rfl) rfl args W
set_option maxHeartbeats 2000000 in
set_option maxRecDepth 100000 in
theorem impl_DevFlush.calls (a0_0 : Int) (A0_1 : Option Addr) (c0_1 : Nat) (l0_1 : List Int) (A0_2 : Option Addr) (c0_2 : Nat) (l0_2 : List S32) (r1 : Int) (r2 : List Int) (r3 : List S32) (r4 : Int) (w : World) (hr0_1 : Kd.C (Kd.int .u8) w A0_1 l0_1.length l0_1) (hc0_1 : l0_1.length ≤ c0_1) (hr0_2 : Kd.C k32 w A0_2 l0_2.length l0_2) (hc0_2 : l0_2.length ≤ c0_2) (h : impl_DevFlush.f a0_0 l0_1 l0_2 = some (r1, r2, r3, r4)) :
    Calls Try.prog 8 #[.agg #[.int .i64 a0_0, .slice A0_1 l0_1.length c0_1, .slice A0_2 l0_2.length c0_2]] w fun e w' => ∃ v1_ v2_ : Value, e = .returned (.tuple #[.agg #[.int .i64 r1, v1_, v2_], .int .i64 r4]) ∧ Kd.R (Kd.int .u8) 5 w' w.heap.size (fun _ => True) v1_ r2 ∧ Kd.S k32 32 w' w.heap.size (fun k_ => some k_ ≠ (v1_ : Value).ownBlock) v2_ r3 ∧ Below w.heap.size w w' := by
  have hu25 := Try.underlying25
  have hV := valid_eq a0_0 l0_1 l0_2 2050 (Nat.le_refl _)
  have HR0_1 := Aside0.mk hr0_1
  have HR0_2 := Aside0.mk hr0_2
  have HV := Aside0.mk hV
  have HH := Aside0.mk h
  clear hr0_1 hr0_2 hV h
  obtain ⟨b0, b1⟩ := blk2 w (.cells #[.int .i64 a0_0, .slice A0_1 l0_1.length c0_1, .slice A0_2 l0_2.length c0_2] 25 (0, 0)) (.cells #[.int .i64 0, .slice none 0 0, .slice none 0 0] 25 (0, 0))
  have B0 := Aside0.mk b0
  have B1 := Aside0.mk b1
  clear b0 b1
  by_cases hv : validDev a0_0 l0_1 l0_2 = true
  · have hC := copy_eq a0_0 l0_1 l0_2 hv 2050 (Nat.le_refl _)
    have HC := Aside0.mk hC
    have hf := HH.out
    unfold impl_DevFlush.f at hf
    rw [hv, if_pos rfl] at hf
    rw [hv] at HV
    have HVV := Aside0.mk hv
    simp only [Option.some.injEq, Prod.mk.injEq] at hf
    obtain ⟨rfl, rfl, rfl, rfl⟩ := hf
    clear hC hv HH
    go_enter Try.func8, Try.ntmps8
    go_wp2_with (first | (go_at_call 20; refine (impl_validDevice.calls 2050 a0_0 _ _ l0_1 _ _ l0_2 true _ (Kd.C_alloc (Kd.C_alloc HR0_1.out _) _) hc0_1 (Kd.C_alloc (Kd.C_alloc HR0_2.out _) _) hc0_2 HV.out).mono ?_; rintro e w1 ⟨rfl, hb⟩; have D0 := Aside0.mk (blk_below B0.out hb); have D1 := Aside0.mk (blk_below B1.out hb); have HB := Aside0.mk ((((Below.refl w.heap.size w).alloc (Nat.le_refl _) _).alloc (by simp) _).trans (hb.mono (by simp; omega))); have hy0 : w1.cell? ⟨w.heap.size, 0, none⟩ = some (.int .i64 a0_0) := (blk_cell D0.out 0).trans rfl;  have hy1 : w1.cell? ⟨w.heap.size, 1, none⟩ = some (.slice A0_1 l0_1.length c0_1) := (blk_cell D0.out 1).trans rfl; have hy2 : w1.cell? ⟨w.heap.size, 2, none⟩ = some (.slice A0_2 l0_2.length c0_2) := (blk_cell D0.out 2).trans rfl; clear hb) | (go_at_call 21; refine (impl_copyDevice.calls 2050 a0_0 _ _ l0_1 _ _ l0_2 _ _ _ _ (Kd.C_below HR0_1.out HB.out) hc0_1 (Kd.C_below HR0_2.out HB.out) hc0_2 HC.out).mono ?_; rintro e w2 ⟨v1, v2, rfl, ho1, ho2, hb⟩; have D2 := Aside0.mk (blk_below D1.out hb); have HO1 := Aside0.mk ho1; have HO2 := Aside0.mk ho2; have HB2 := Aside0.mk (below_step HB.out hb); have hlt := blk_lt D2.out; have hsz12 := below_size hb; clear ho1 ho2 hb; obtain ⟨A5, c5, rfl⟩ := Kd.R_slice HO1.out; obtain ⟨A6, c6, rfl⟩ := Kd.R_slice (Kd.S_R HO2.out)) | (go_at_call 23; refine (dev_settle w _ _ (Nat.le_trans (below_size HB.out) hsz12) a0_0 (validDev_8 HVV.out) (validDev_512 HVV.out) _ _ l0_1 l0_2 (fun _ => true) 24 #[] flush_enters (heap_alloc_new _ _) (Kd.R_mono (Kd.R_types (Kd.R_alloc (Kd.R_lower HO1.out (below_size HB.out)) _) (heap_alloc_new _ _) (by decide)) (fun k hk => hk.2)) (Kd.S_mono (Kd.S_types (Kd.S_alloc (Kd.S_lower HO2.out (below_size HB.out)) _) (heap_alloc_new _ _) (by decide)) (fun k hk => ⟨hk.2, hk.1⟩)) (HB2.out.alloc (below_size HB2.out) _) (validDev_len HVV.out) (validDev_all HVV.out) (validDev_2048 HVV.out) (fun i W _ _ _ => flush_keep i W)).mono ?_; rintro e w3 ⟨rfl, hb3, hblk3, ho13, hfr⟩; have D3 := Aside0.mk ((hfr (w.heap.size + 1) (by simp; omega) (by omega) (by have hne := Kd.R_ne HO1.out D2.out (by decide); exact hne)).trans (blk_alloc D2.out _)); have HBK3 := Aside0.mk hblk3; have HO13 := Aside0.mk ho13; have HB3 := Aside0.mk hb3; clear hblk3 ho13 hfr hb3; have hf3 := blk_frozen D3.out; have hu0 : w3.cell? ⟨w.heap.size + 1, 0, none⟩ = some (.int .i64 0) := (blk_cell D3.out 0).trans rfl; have hu1 : w3.cell? ⟨w.heap.size + 1, 1, none⟩ = some (.slice none 0 0) := (blk_cell D3.out 1).trans rfl; have hu2 : w3.cell? ⟨w.heap.size + 1, 2, none⟩ = some (.slice none 0 0) := (blk_cell D3.out 2).trans rfl; have hv0 := (blk_cell HBK3.out 0).trans rfl; have hv1 := (blk_cell HBK3.out 1).trans rfl; have hv2 := (blk_cell HBK3.out 2).trans rfl))
    have hle := HO13.out
    have D4 := set3_cells D3.out (.int .i64 a0_0) (.slice A5 l0_1.length c5) (.slice none 0 0)
    have hz0 := (blk_cell D4 0).trans rfl
    have hz1 := (blk_cell D4 1).trans rfl
    have hz2 := (blk_cell D4 2).trans rfl
    refine bodyPost_ret (v := .tuple #[.agg #[.int .i64 a0_0, .slice A5 l0_1.length c5, .slice none 0 0], .int .i64 0]) ?_ rfl ⟨.slice A5 l0_1.length c5, .slice none 0 0, rfl, Kd.R_mono (set3_R HO13.out D3.out (by decide) _ _ _) (fun _ _ => trivial), Kd.S_nil _ _ _ _ _, set3_below HB3.out (by simp) _ _ _⟩
    simp [results, Try.results8, go_sem, hz0, hz1, hz2]
  · have hv' : validDev a0_0 l0_1 l0_2 = false := by simpa using hv
    have hf := HH.out
    unfold impl_DevFlush.f at hf
    rw [hv'] at hf
    simp only [Bool.false_eq_true, if_false, Option.some.injEq, Prod.mk.injEq] at hf
    obtain ⟨rfl, rfl, rfl, rfl⟩ := hf
    rw [hv'] at HV
    clear hv hv' HH
    go_enter Try.func8, Try.ntmps8
    go_wp2_with (go_at_call 20; refine (impl_validDevice.calls 2050 a0_0 _ _ l0_1 _ _ l0_2 false _ (Kd.C_alloc (Kd.C_alloc HR0_1.out _) _) hc0_1 (Kd.C_alloc (Kd.C_alloc HR0_2.out _) _) hc0_2 HV.out).mono ?_; rintro e w1 ⟨rfl, hb⟩; have D1 := Aside0.mk (blk_below B1.out hb); have HB := Aside0.mk ((((Below.refl w.heap.size w).alloc (Nat.le_refl _) _).alloc (by simp) _).trans (hb.mono (by simp; omega))); have hf1 := blk_frozen D1.out; have hx0 : w1.cell? ⟨w.heap.size + 1, 0, none⟩ = some (.int .i64 0) := (blk_cell D1.out 0).trans rfl;  have hx1 : w1.cell? ⟨w.heap.size + 1, 1, none⟩ = some (.slice none 0 0) := (blk_cell D1.out 1).trans rfl; have hx2 : w1.cell? ⟨w.heap.size + 1, 2, none⟩ = some (.slice none 0 0) := (blk_cell D1.out 2).trans rfl; clear hb)
    refine bodyPost_ret (v := .tuple #[.agg #[.int .i64 0, .slice none 0 0, .slice none 0 0], .int .i64 1]) (by simp [results, Try.results8, go_sem, hx0, hx1, hx2]) rfl ⟨.slice none 0 0, .slice none 0 0, rfl, Kd.R_nil _ _ _ _ _, Kd.S_nil _ _ _ _ _, ?_⟩
    exact ((HB.out.setCell (by simp) _).setCell (by simp) _).setCell (by simp) _

end Go.Proofs.Ytnkgclcmjojeiaa.PFnDeviceReads
