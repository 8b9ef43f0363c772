-- Written by a program of this session (after the kit's print) out of the translation. Nothing here is trusted: Lean checks it.
import Derived.Test.YtnkgclcmjojeiaaVPFnDeviceReadsx0
import Derived.Test.YtnkgclcmjojeiaaVPFnDeviceReadsx7
import Derived.Test.YtnkgclcmjojeiaaVPFnDeviceReadsx8
import Derived.Test.YtnkgclcmjojeiaaVPFnDeviceReadsx10
import Derived.Test.YtnkgclcmjojeiaaVPFnDeviceReadsx12
namespace Go.Proofs.Ytnkgclcmjojeiaa.PFnDeviceReads
open Go.RowKit Go.Proofs.YtnkgclcmjojeiaaW.PrintWords Go.Proofs.YtnkgclcmjojeiaaW.PrintLast Go.Proofs.YtnkgclcmjojeiaaW.PrintMore
attribute [local go_sem] max2_int min2_int max_two min_two max_three min_three max_four min_four   -- for this text's walks alone
set_option linter.unusedVariables false
set_option linter.unusedSimpArgs false

-- HOLE loop.example/s01595/impl.DevCrash : loop.example/s01595/impl.validDevice, loop.example/s01595/impl.copyDevice, (*loop.example/s01595/impl.Device).settle
def keepBit (keep : List Int) (i : Nat) : Bool := if i / 8 < keep.length then (Go.bits .and .u8 (rd keep ((i : Int) / 8) / 2 ^ (i % 8)) 1 == 1) else false
def impl_DevCrash.f (b : Int) (disk : List Int) (cache : List S32) (keep : List Int) : Option (Int × List Int × List S32 × Int) :=
  if validDev b disk cache then some (b, settleTo (keepBit keep) cache disk cache.length, [], 0) else some (0, [], [], 1)
set_option maxHeartbeats 2000000 in
theorem crash_keep (keep : List Int) (i : Nat) (hi : i ≤ 2048) (W : World) (gk : Nat) (A : Option Addr) (c : Nat) (hb : W.heap[gk]? = some (.cells #[.slice A keep.length c] 22 (0, 0))) (W0 : World) (hC : Kd.C (Kd.int .u8) W0 A keep.length keep) (hag : ∀ k, k < W0.heap.size → W.heap[k]? = W0.heap[k]?) :
    Calls Try.prog 25 #[.int .i64 i, .pointer (some ⟨gk, 0, none⟩)] W fun e w' => e = .returned (.bool (keepBit keep i)) ∧ Below W.heap.size W w' := by
  have hq : W.cell? ⟨gk, 0, none⟩ = some (.slice A keep.length c) := (blk_cell hb 0).trans rfl
  by_cases hlt : i / 8 < keep.length
  · obtain ⟨ad, rfl, hc⟩ := Kd.at_int hC ((i / 8 : Nat) : Int) (by omega) (by omega)
    have hc' : W.cell? (ad.add (i / 8)) = some (.int .u8 (rd keep ((i : Int) / 8))) := by
      rw [Int.toNat_natCast] at hc
      rw [World.cell?_of_block (w := W0) (hag _ (World.block_lt_of_cell? _ _ hc)), hc]; rfl
    clear hc hC hb hag
    go_enter Try.func25, Try.ntmps25
    go_wp2
    go_ret
    refine ⟨?_, Below.refl _ _⟩
    simp [keepBit, hlt]
  · have hf : decide (((i : Int)) / 8 < keep.length) = false := by simp; omega
    clear hC hb hag
    go_enter Try.func25, Try.ntmps25
    go_wp2
    go_ret
    refine ⟨?_, Below.refl _ _⟩
    simp [keepBit, hlt]
theorem crash_enters (args : Array Value) (W : World) : (callFunc 25 args).run Try.prog W = .ok (.enter 25 args) W :=
  enters_of Try.func25 (by kernel_rfl) rfl args W
theorem blk3 (w : World) (a b c : Obj) : (((w.alloc a).alloc b).alloc c).heap[w.heap.size]? = some a ∧ (((w.alloc a).alloc b).alloc c).heap[w.heap.size + 1]? = some b ∧ (((w.alloc a).alloc b).alloc c).heap[w.heap.size + 1 + 1]? = some c :=
  ⟨blk_alloc (blk_alloc (heap_alloc_new w _) _) _, blk_alloc (by simpa using heap_alloc_new (w.alloc a) b) _, by simpa using heap_alloc_new ((w.alloc a).alloc b) c⟩
set_option maxHeartbeats 2000000 in
set_option maxRecDepth 100000 in
theorem impl_DevCrash.calls (a0_0 : Int) (A0_1 : Option Addr) (c0_1 : Nat) (l0_1 : List Int) (A0_2 : Option Addr) (c0_2 : Nat) (l0_2 : List S32) (A1 : Option Addr) (c1 : Nat) (l1 : List Int) (r1 : Int) (r2 : List Int) (r3 : List S32) (r4 : Int) (w : World) (hr0_1 : Kd.C (Kd.int .u8) w A0_1 l0_1.length l0_1) (hc0_1 : l0_1.length ≤ c0_1) (hr0_2 : Kd.C k32 w A0_2 l0_2.length l0_2) (hc0_2 : l0_2.length ≤ c0_2) (hr1 : Kd.C (Kd.int .u8) w A1 l1.length l1) (hc1 : l1.length ≤ c1) (h : impl_DevCrash.f a0_0 l0_1 l0_2 l1 = some (r1, r2, r3, r4)) :
    Calls Try.prog 9 #[.agg #[.int .i64 a0_0, .slice A0_1 l0_1.length c0_1, .slice A0_2 l0_2.length c0_2], .slice A1 l1.length c1] w fun e w' => ∃ v1_ v2_ : Value, e = .returned (.tuple #[.agg #[.int .i64 r1, v1_, v2_], .int .i64 r4]) ∧ Kd.R (Kd.int .u8) 5 w' w.heap.size (fun _ => True) v1_ r2 ∧ Kd.S k32 32 w' w.heap.size (fun k_ => some k_ ≠ (v1_ : Value).ownBlock) v2_ r3 ∧ Below w.heap.size w w' := by
  have hu25 := Try.underlying25
  have hV := valid_eq a0_0 l0_1 l0_2 2050 (Nat.le_refl _)
  have HR0_1 := Aside0.mk hr0_1
  have HR0_2 := Aside0.mk hr0_2
  have HR1 := Aside0.mk hr1
  have HV := Aside0.mk hV
  have HH := Aside0.mk h
  clear hr0_1 hr0_2 hr1 hV h
  obtain ⟨b0, bk, b1⟩ := blk3 w (.cells #[.int .i64 a0_0, .slice A0_1 l0_1.length c0_1, .slice A0_2 l0_2.length c0_2] 25 (0, 0)) (.cells #[.slice A1 l1.length c1] 22 (0, 0)) (.cells #[.int .i64 0, .slice none 0 0, .slice none 0 0] 25 (0, 0))
  have B0 := Aside0.mk b0
  have B1 := Aside0.mk b1
  have BK := Aside0.mk bk
  clear b0 b1 bk
  by_cases hv : validDev a0_0 l0_1 l0_2 = true
  · have hC := copy_eq a0_0 l0_1 l0_2 hv 2050 (Nat.le_refl _)
    have HC := Aside0.mk hC
    have hf := HH.out
    unfold impl_DevCrash.f at hf
    rw [hv, if_pos rfl] at hf
    rw [hv] at HV
    have HVV := Aside0.mk hv
    simp only [Option.some.injEq, Prod.mk.injEq] at hf
    obtain ⟨rfl, rfl, rfl, rfl⟩ := hf
    clear hC hv HH
    go_enter Try.func9, Try.ntmps9
    go_wp2_with (first | (go_at_call 20; refine (impl_validDevice.calls 2050 a0_0 _ _ l0_1 _ _ l0_2 true _ (Kd.C_alloc (Kd.C_alloc (Kd.C_alloc HR0_1.out _) _) _) hc0_1 (Kd.C_alloc (Kd.C_alloc (Kd.C_alloc HR0_2.out _) _) _) hc0_2 HV.out).mono ?_; rintro e w1 ⟨rfl, hb⟩; have D0 := Aside0.mk (blk_below B0.out hb); have D1 := Aside0.mk (blk_below B1.out hb); have DK := Aside0.mk (blk_below BK.out hb); have HB := Aside0.mk (((((Below.refl w.heap.size w).alloc (Nat.le_refl _) _).alloc (by simp) _).alloc (by simp; omega) _).trans (hb.mono (by simp; omega))); have hy0 : w1.cell? ⟨w.heap.size, 0, none⟩ = some (.int .i64 a0_0) := (blk_cell D0.out 0).trans rfl;  have hy1 : w1.cell? ⟨w.heap.size, 1, none⟩ = some (.slice A0_1 l0_1.length c0_1) := (blk_cell D0.out 1).trans rfl; have hy2 : w1.cell? ⟨w.heap.size, 2, none⟩ = some (.slice A0_2 l0_2.length c0_2) := (blk_cell D0.out 2).trans rfl; clear hb) | (go_at_call 21; refine (impl_copyDevice.calls 2050 a0_0 _ _ l0_1 _ _ l0_2 _ _ _ _ (Kd.C_below HR0_1.out HB.out) hc0_1 (Kd.C_below HR0_2.out HB.out) hc0_2 HC.out).mono ?_; rintro e w2 ⟨v1, v2, rfl, ho1, ho2, hb⟩; have D2 := Aside0.mk (blk_below D1.out hb); have DK2 := Aside0.mk (blk_below DK.out hb); have HO1 := Aside0.mk ho1; have HO2 := Aside0.mk ho2; have HB2 := Aside0.mk (below_step HB.out hb); have hlt := blk_lt D2.out; have hsz12 := below_size hb; clear ho1 ho2 hb; obtain ⟨A5, c5, rfl⟩ := Kd.R_slice HO1.out; obtain ⟨A6, c6, rfl⟩ := Kd.R_slice (Kd.S_R HO2.out)) | (go_at_call 23; refine (dev_settle w _ _ (Nat.le_trans (below_size HB.out) hsz12) a0_0 (validDev_8 HVV.out) (validDev_512 HVV.out) _ _ l0_1 l0_2 (keepBit l1) 25 #[.pointer (some ⟨w.heap.size + 1, 0, none⟩)] crash_enters (heap_alloc_new _ _) (Kd.R_mono (Kd.R_types (Kd.R_alloc (Kd.R_lower HO1.out (below_size HB.out)) _) (heap_alloc_new _ _) (by decide)) (fun k hk => hk.2)) (Kd.S_mono (Kd.S_types (Kd.S_alloc (Kd.S_lower HO2.out (below_size HB.out)) _) (heap_alloc_new _ _) (by decide)) (fun k hk => ⟨hk.2, hk.1⟩)) (HB2.out.alloc (below_size HB2.out) _) (validDev_len HVV.out) (validDev_all HVV.out) (validDev_2048 HVV.out) (fun i W hi hW hF => crash_keep l1 i (by have := validDev_2048 HVV.out; omega) W (w.heap.size + 1) A1 c1 ((hF (w.heap.size + 1) (by simp; have := blk_lt DK2.out; omega) (by have := blk_lt DK2.out; omega) (Kd.R_ne HO1.out DK2.out (by decide))).trans (blk_alloc DK2.out _)) w HR1.out (fun k hk => (hF k (by simp; have := blk_lt DK2.out; omega) (by have := blk_lt DK2.out; omega) (fun e => by have h1 := Kd.R_base HO1.out k e.symm; have h2 := blk_lt DK.out; omega)).trans ((Below.heap_alloc _ _ _ (by have := blk_lt DK2.out; omega)).trans (HB2.out.block k hk))))).mono ?_; rintro e w3 ⟨rfl, hb3, hblk3, ho13, hfr⟩; have D3 := Aside0.mk ((hfr (w.heap.size + 1 + 1) (by simp; omega) (by omega) (by have hne := Kd.R_ne HO1.out D2.out (by decide); exact hne)).trans (blk_alloc D2.out _)); have HBK3 := Aside0.mk hblk3; have HO13 := Aside0.mk ho13; have HB3 := Aside0.mk hb3; clear hblk3 ho13 hfr hb3; have hf3 := blk_frozen D3.out; have hu0 : w3.cell? ⟨w.heap.size + 1 + 1, 0, none⟩ = some (.int .i64 0) := (blk_cell D3.out 0).trans rfl; have hu1 : w3.cell? ⟨w.heap.size + 1 + 1, 1, none⟩ = some (.slice none 0 0) := (blk_cell D3.out 1).trans rfl; have hu2 : w3.cell? ⟨w.heap.size + 1 + 1, 2, none⟩ = some (.slice none 0 0) := (blk_cell D3.out 2).trans rfl; have hv0 := (blk_cell HBK3.out 0).trans rfl; have hv1 := (blk_cell HBK3.out 1).trans rfl; have hv2 := (blk_cell HBK3.out 2).trans rfl))
    have hle := HO13.out
    have D4 := set3_cells D3.out (.int .i64 a0_0) (.slice A5 l0_1.length c5) (.slice none 0 0)
    have hz0 := (blk_cell D4 0).trans rfl
    have hz1 := (blk_cell D4 1).trans rfl
    have hz2 := (blk_cell D4 2).trans rfl
    refine bodyPost_ret (v := .tuple #[.agg #[.int .i64 a0_0, .slice A5 l0_1.length c5, .slice none 0 0], .int .i64 0]) ?_ rfl ⟨.slice A5 l0_1.length c5, .slice none 0 0, rfl, Kd.R_mono (set3_R HO13.out D3.out (by decide) _ _ _) (fun _ _ => trivial), Kd.S_nil _ _ _ _ _, set3_below HB3.out (by omega) _ _ _⟩
    simp [results, Try.results9, go_sem, hz0, hz1, hz2]
  · have hv' : validDev a0_0 l0_1 l0_2 = false := by simpa using hv
    have hf := HH.out
    unfold impl_DevCrash.f at hf
    rw [hv'] at hf
    simp only [Bool.false_eq_true, if_false, Option.some.injEq, Prod.mk.injEq] at hf
    obtain ⟨rfl, rfl, rfl, rfl⟩ := hf
    rw [hv'] at HV
    clear hv hv' HH
    go_enter Try.func9, Try.ntmps9
    go_wp2_with (go_at_call 20; refine (impl_validDevice.calls 2050 a0_0 _ _ l0_1 _ _ l0_2 false _ (Kd.C_alloc (Kd.C_alloc (Kd.C_alloc HR0_1.out _) _) _) hc0_1 (Kd.C_alloc (Kd.C_alloc (Kd.C_alloc HR0_2.out _) _) _) hc0_2 HV.out).mono ?_; rintro e w1 ⟨rfl, hb⟩; have D1 := Aside0.mk (blk_below B1.out hb); have HB := Aside0.mk (((((Below.refl w.heap.size w).alloc (Nat.le_refl _) _).alloc (by simp) _).alloc (by simp; omega) _).trans (hb.mono (by simp; omega))); have hf1 := blk_frozen D1.out; have hx0 : w1.cell? ⟨w.heap.size + 1 + 1, 0, none⟩ = some (.int .i64 0) := (blk_cell D1.out 0).trans rfl;  have hx1 : w1.cell? ⟨w.heap.size + 1 + 1, 1, none⟩ = some (.slice none 0 0) := (blk_cell D1.out 1).trans rfl; have hx2 : w1.cell? ⟨w.heap.size + 1 + 1, 2, none⟩ = some (.slice none 0 0) := (blk_cell D1.out 2).trans rfl; clear hb)
    refine bodyPost_ret (v := .tuple #[.agg #[.int .i64 0, .slice none 0 0, .slice none 0 0], .int .i64 1]) (by simp [results, Try.results9, go_sem, hx0, hx1, hx2]) rfl ⟨.slice none 0 0, .slice none 0 0, rfl, Kd.R_nil _ _ _ _ _, Kd.S_nil _ _ _ _ _, ?_⟩
    exact ((HB.out.setCell (by simp; omega) _).setCell (by simp; omega) _).setCell (by simp; omega) _

end Go.Proofs.Ytnkgclcmjojeiaa.PFnDeviceReads
