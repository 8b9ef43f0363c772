-- Written by a program of this session (after the kit's print) out of the translation. Nothing here is trusted: Lean checks it.
import Derived.Test.YtnkgclcmjojeiaaVPFnDeviceReadsx0
import Derived.Test.YtnkgclcmjojeiaaVPFnDeviceReadsx7
import Derived.Test.YtnkgclcmjojeiaaVPFnDeviceReadsx8
import Derived.Test.YtnkgclcmjojeiaaVPFnDeviceReadsx9
import Derived.Test.YtnkgclcmjojeiaaVPFnDeviceReadsx10
import Derived.Test.YtnkgclcmjojeiaaVPFnDeviceReadsx12
namespace Go.Proofs.Ytnkgclcmjojeiaa.PFnDeviceReads
open Go.RowKit Go.Proofs.YtnkgclcmjojeiaaW.PrintWords Go.Proofs.YtnkgclcmjojeiaaW.PrintLast Go.Proofs.YtnkgclcmjojeiaaW.PrintMore
attribute [local go_sem] max2_int min2_int max_two min_two max_three min_three max_four min_four   -- for this text's walks alone
set_option linter.unusedVariables false
set_option linter.unusedSimpArgs false

-- HOLE loop.example/s01595/impl.DevApply : loop.example/s01595/impl.validDevice, loop.example/s01595/impl.copyDevice, (*loop.example/s01595/impl.Device).settle, (*loop.example/s01595/impl.Device).write
def applyGo (b : Int) : List S40 → List Int → List S32 → List Int × List S32 × Int
  | [], disk, cache => (disk, cache, 0)
  | s :: ss, disk, cache =>
    if s.f0 = 1 then (if wcode b cache.length s.f1 s.f2.length = 0 then applyGo b ss disk (cache ++ [⟨s.f1, s.f2⟩]) else (disk, cache, wcode b cache.length s.f1 s.f2.length))
    else if s.f0 = 2 then applyGo b ss (settleTo (fun _ => true) cache disk cache.length) []
    else (disk, cache, 5)
def impl_DevApply.f (b : Int) (disk : List Int) (cache : List S32) (steps : List S40) (count : Int) : Option (Int × List Int × List S32 × Int) :=
  if validDev b disk cache then
    if steps.length > 4096 then some (b, disk, cache, 4)
    else some (b, (applyGo b (steps.take (min (max count 0).toNat steps.length)) disk cache).1, (applyGo b (steps.take (min (max count 0).toNat steps.length)) disk cache).2.1, (applyGo b (steps.take (min (max count 0).toNat steps.length)) disk cache).2.2)
  else some (0, [], [], 1)
theorem apply_enters (args : Array Value) (W : World) : (callFunc 26 args).run Try.prog W = .ok (.enter 26 args) W :=
  enters_of Try.func26 (by kernel_rfl) rfl args W
theorem apply_keep (i : Int) (w : World) : Calls Try.prog 26 #[.int .i64 i] w fun e w' => e = .returned (.bool true) ∧ Below w.heap.size w w' := by
  go_enter Try.func26, Try.ntmps26
  go_wp2
  go_ret
  exact ⟨rfl, Below.refl _ _⟩
set_option maxHeartbeats 2000000 in
set_option maxRecDepth 100000 in
theorem impl_DevApply.calls (a0_0 : Int) (A0_1 : Option Addr) (c0_1 : Nat) (l0_1 : List Int) (A0_2 : Option Addr) (c0_2 : Nat) (l0_2 : List S32) (A1 : Option Addr) (c1 : Nat) (l1 : List S40) (a2 : Int) (r1 : Int) (r2 : List Int) (r3 : List S32) (r4 : Int) (w : World) (hr0_1 : Kd.C (Kd.int .u8) w A0_1 l0_1.length l0_1) (hc0_1 : l0_1.length ≤ c0_1) (hr0_2 : Kd.C k32 w A0_2 l0_2.length l0_2) (hc0_2 : l0_2.length ≤ c0_2) (hr1 : Kd.C k40 w A1 l1.length l1) (hc1 : l1.length ≤ c1) (h : impl_DevApply.f a0_0 l0_1 l0_2 l1 a2 = some (r1, r2, r3, r4)) :
    Calls Try.prog 11 #[.agg #[.int .i64 a0_0, .slice A0_1 l0_1.length c0_1, .slice A0_2 l0_2.length c0_2], .slice A1 l1.length c1, .int .i64 a2] w fun e w' => ∃ v1_ v2_ : Value, e = .returned (.tuple #[.agg #[.int .i64 r1, v1_, v2_], .int .i64 r4]) ∧ Kd.R (Kd.int .u8) 5 w' w.heap.size (fun _ => True) v1_ r2 ∧ Kd.S k32 32 w' w.heap.size (fun k_ => some k_ ≠ (v1_ : Value).ownBlock) v2_ r3 ∧ Below w.heap.size w w' := by
  have hu25 := Try.underlying25
  have hu40 := Try.underlying40
  have hV := valid_eq a0_0 l0_1 l0_2 2050 (Nat.le_refl _)
  have HR0_1 := Aside0.mk hr0_1
  have HR0_2 := Aside0.mk hr0_2
  have HR1 := Aside0.mk hr1
  have HV := Aside0.mk hV
  have HH := Aside0.mk h
  clear hr0_1 hr0_2 hr1 hV h
  obtain ⟨b0, b1⟩ := blk2 w (.cells #[.int .i64 a0_0, .slice A0_1 l0_1.length c0_1, .slice A0_2 l0_2.length c0_2] 25 (0, 0)) (.cells #[.int .i64 0, .slice none 0 0, .slice none 0 0] 25 (0, 0))
  have B0 := Aside0.mk b0
  have B1 := Aside0.mk b1
  clear b0 b1
  by_cases hv : validDev a0_0 l0_1 l0_2 = true
  · have hC := copy_eq a0_0 l0_1 l0_2 hv 2050 (Nat.le_refl _)
    have HC := Aside0.mk hC
    have hf := HH.out
    unfold impl_DevApply.f at hf
    rw [hv, if_pos rfl] at hf
    rw [hv] at HV
    have HVV := Aside0.mk hv
    clear hC hv HH
    by_cases hs : l1.length > 4096
    · rw [if_pos hs] at hf
      simp only [Option.some.injEq, Prod.mk.injEq] at hf
      obtain ⟨rfl, rfl, rfl, rfl⟩ := hf
      go_enter Try.func11, Try.ntmps11
      go_wp2_with (first | (go_at_call 20; refine (impl_validDevice.calls 2050 a0_0 _ _ l0_1 _ _ l0_2 true _ (Kd.C_alloc (Kd.C_alloc HR0_1.out _) _) hc0_1 (Kd.C_alloc (Kd.C_alloc HR0_2.out _) _) hc0_2 HV.out).mono ?_; rintro e w1 ⟨rfl, hb⟩; have D0 := Aside0.mk (blk_below B0.out hb); have D1 := Aside0.mk (blk_below B1.out hb); have HB := Aside0.mk ((((Below.refl w.heap.size w).alloc (Nat.le_refl _) _).alloc (by simp) _).trans (hb.mono (by simp; omega))); have hy0 : w1.cell? ⟨w.heap.size, 0, none⟩ = some (.int .i64 a0_0) := (blk_cell D0.out 0).trans rfl;  have hy1 : w1.cell? ⟨w.heap.size, 1, none⟩ = some (.slice A0_1 l0_1.length c0_1) := (blk_cell D0.out 1).trans rfl; have hy2 : w1.cell? ⟨w.heap.size, 2, none⟩ = some (.slice A0_2 l0_2.length c0_2) := (blk_cell D0.out 2).trans rfl; clear hb) | (go_at_call 21; refine (impl_copyDevice.calls 2050 a0_0 _ _ l0_1 _ _ l0_2 _ _ _ _ (Kd.C_below HR0_1.out HB.out) hc0_1 (Kd.C_below HR0_2.out HB.out) hc0_2 HC.out).mono ?_; rintro e w2 ⟨v1, v2, rfl, ho1, ho2, hb⟩; have D2 := Aside0.mk (blk_below D1.out hb); have HO1 := Aside0.mk ho1; have HO2 := Aside0.mk ho2; have HB2 := Aside0.mk (below_step HB.out hb); have hlt := blk_lt D2.out; have hsz12 := below_size hb; have HBC := Aside0.mk hb; clear ho1 ho2 hb; obtain ⟨A5, c5, rfl⟩ := Kd.R_slice HO1.out; obtain ⟨A6, c6, rfl⟩ := Kd.R_slice (Kd.S_R HO2.out); have hf2 := blk_frozen D2.out; have hx0 : w2.cell? ⟨w.heap.size + 1, 0, none⟩ = some (.int .i64 0) := (blk_cell D2.out 0).trans rfl; have hx1 : w2.cell? ⟨w.heap.size + 1, 1, none⟩ = some (.slice none 0 0) := (blk_cell D2.out 1).trans rfl; have hx2 : w2.cell? ⟨w.heap.size + 1, 2, none⟩ = some (.slice none 0 0) := (blk_cell D2.out 2).trans rfl))
      have D3 := blk_alloc (set3_cells D2.out (.int .i64 a0_0) (.slice A5 l0_1.length c5) (.slice A6 l0_2.length c6)) (.cells #[.int .i64 a0_0, .slice A5 l0_1.length c5, .slice A6 l0_2.length c6] 25 (0, 0))
      have hz0 := (blk_cell D3 0).trans rfl
      have hz1 := (blk_cell D3 1).trans rfl
      have hz2 := (blk_cell D3 2).trans rfl
      have hle := below_size HB.out
      refine bodyPost_ret (v := .tuple #[.agg #[.int .i64 a0_0, .slice A5 l0_1.length c5, .slice A6 l0_2.length c6], .int .i64 4]) ?_ rfl ⟨.slice A5 l0_1.length c5, .slice A6 l0_2.length c6, rfl, Kd.R_alloc (Kd.R_lower (set3_R HO1.out D2.out (by decide) _ _ _) hle) _, Kd.S_alloc (Kd.S_lower (set3_S HO2.out D2.out (by decide) _ _ _) hle) _, (set3_below HB2.out (by simp) _ _ _).alloc (by simp [World.setCell]; omega) _⟩
      simp [results, Try.results11, go_sem, hz0, hz1, hz2]
    · rw [if_neg hs] at hf
      simp only [Option.some.injEq, Prod.mk.injEq] at hf
      obtain ⟨rfl, hf2, hf3, hf4⟩ := hf
      obtain ⟨n, hn⟩ : ∃ n, n = min (max a2 0).toNat l1.length := ⟨_, rfl⟩
      rw [← hn] at hf2 hf3 hf4
      have hnl : n ≤ l1.length := by omega
      obtain ⟨m, hm⟩ : ∃ m : Nat, (if a2 < 0 then 0 else a2) = (m : Int) := ⟨(max a2 0).toNat, by split <;> omega⟩
      have hmn : (if l1.length < m then (l1.length : Int) else (m : Int)) = (n : Int) := by split <;> (split at hm <;> omega)
      have HF2 := Aside0.mk hf2
      have HF3 := Aside0.mk hf3
      have HF4 := Aside0.mk hf4
      clear hf2 hf3 hf4 hn
      go_enter Try.func11, Try.ntmps11
      go_wp2_with (first | (go_at_call 20; refine (impl_validDevice.calls 2050 a0_0 _ _ l0_1 _ _ l0_2 true _ (Kd.C_alloc (Kd.C_alloc HR0_1.out _) _) hc0_1 (Kd.C_alloc (Kd.C_alloc HR0_2.out _) _) hc0_2 HV.out).mono ?_; rintro e w1 ⟨rfl, hb⟩; have D0 := Aside0.mk (blk_below B0.out hb); have D1 := Aside0.mk (blk_below B1.out hb); have HB := Aside0.mk ((((Below.refl w.heap.size w).alloc (Nat.le_refl _) _).alloc (by simp) _).trans (hb.mono (by simp; omega))); have hy0 : w1.cell? ⟨w.heap.size, 0, none⟩ = some (.int .i64 a0_0) := (blk_cell D0.out 0).trans rfl;  have hy1 : w1.cell? ⟨w.heap.size, 1, none⟩ = some (.slice A0_1 l0_1.length c0_1) := (blk_cell D0.out 1).trans rfl; have hy2 : w1.cell? ⟨w.heap.size, 2, none⟩ = some (.slice A0_2 l0_2.length c0_2) := (blk_cell D0.out 2).trans rfl; clear hb) | (go_at_call 21; refine (impl_copyDevice.calls 2050 a0_0 _ _ l0_1 _ _ l0_2 _ _ _ _ (Kd.C_below HR0_1.out HB.out) hc0_1 (Kd.C_below HR0_2.out HB.out) hc0_2 HC.out).mono ?_; rintro e w2 ⟨v1, v2, rfl, ho1, ho2, hb⟩; have D2 := Aside0.mk (blk_below D1.out hb); have HO1 := Aside0.mk ho1; have HO2 := Aside0.mk ho2; have HB2 := Aside0.mk (below_step HB.out hb); have hlt := blk_lt D2.out; have hsz12 := below_size hb; have HBC := Aside0.mk hb; clear ho1 ho2 hb; obtain ⟨A5, c5, rfl⟩ := Kd.R_slice HO1.out; obtain ⟨A6, c6, rfl⟩ := Kd.R_slice (Kd.S_R HO2.out); have hf2 := blk_frozen D2.out; have hx0 : w2.cell? ⟨w.heap.size + 1, 0, none⟩ = some (.int .i64 0) := (blk_cell D2.out 0).trans rfl; have hx1 : w2.cell? ⟨w.heap.size + 1, 1, none⟩ = some (.slice none 0 0) := (blk_cell D2.out 1).trans rfl; have hx2 : w2.cell? ⟨w.heap.size + 1, 2, none⟩ = some (.slice none 0 0) := (blk_cell D2.out 2).trans rfl))
      clear hm hmn
      have hk : 0 + n = n := by omega
      go_loopg [31] n (fun kq v31 wr => ∃ (i : Nat) (disk : List Int) (cache : List S32) (A7 : Option Addr) (c7 : Nat), v31 = .int .i64 i ∧ kq + i = n ∧ Aside0 (applyGo a0_0 ((l1.take n).drop i) disk cache = (r2, r3, r4)) ∧ disk.length = l0_1.length ∧ Aside0 (∀ p ∈ cache, pendOk a0_0 p = true) ∧ cache.length ≤ 2048 ∧ Aside0 (wr.heap[w.heap.size + 1]? = some (.cells #[.int .i64 0, .slice none 0 0, .slice none 0 0] 25 (0, 0))) ∧ Aside0 (wr.heap[w2.heap.size]? = some (.cells #[.int .i64 a0_0, .slice A5 l0_1.length c5, .slice A7 cache.length c7] 25 (0, 0))) ∧ Aside0 (Kd.R (Kd.int .u8) 5 wr w1.heap.size (fun k => k ≠ w2.heap.size) (.slice A5 l0_1.length c5) disk) ∧ Aside0 (Kd.S k32 32 wr w1.heap.size (fun k => k ≠ w2.heap.size ∧ some k ≠ (Value.slice A5 l0_1.length c5).ownBlock) (.slice A7 cache.length c7) cache) ∧ Aside0 (Below w1.heap.size w1 wr))
      case atStart =>
        refine ⟨0, l0_1, l0_2, A6, c6, rfl, by omega, ⟨?_⟩, rfl, ⟨validDev_all HVV.out⟩, validDev_2048 HVV.out, ⟨blk_alloc D2.out _⟩, ⟨heap_alloc_new _ _⟩, ⟨?_⟩, ⟨?_⟩, ⟨HBC.out.alloc (below_size HBC.out) _⟩⟩
        · rw [List.drop_zero, ← HF2.out, ← HF3.out, ← HF4.out]
        · exact Kd.R_mono (Kd.R_types (Kd.R_alloc HO1.out _) (heap_alloc_new _ _) (by decide)) (fun k hk => hk.2)
        · exact Kd.S_mono (Kd.S_types (Kd.S_alloc HO2.out _) (heap_alloc_new _ _) (by decide)) (fun k hk => ⟨hk.2, hk.1⟩)
      case round =>
        obtain ⟨i, disk, cache, A7, c7, rfl, hi, hgo, hdl, hall, hcl, hb1, hb2, hR, hS, hBW⟩ := hrel
        have hle := below_size HB.out
        have hbt := below_step HB.out hBW.out
        have hszr := hBW.out.size
        have hg2 := blk_lt hb2.out
        have hg1 := blk_lt hb1.out
        have ho0 : wr.cell? ⟨w2.heap.size, 0, none⟩ = some (.int .i64 a0_0) := (blk_cell hb2.out 0).trans rfl
        have ho1 : wr.cell? ⟨w2.heap.size, 1, none⟩ = some (.slice A5 l0_1.length c5) := (blk_cell hb2.out 1).trans rfl
        have ho2 : wr.cell? ⟨w2.heap.size, 2, none⟩ = some (.slice A7 cache.length c7) := (blk_cell hb2.out 2).trans rfl
        have hp0 : wr.cell? ⟨w.heap.size + 1, 0, none⟩ = some (.int .i64 0) := (blk_cell hb1.out 0).trans rfl
        have hp1 : wr.cell? ⟨w.heap.size + 1, 1, none⟩ = some (.slice none 0 0) := (blk_cell hb1.out 1).trans rfl
        have hp2 : wr.cell? ⟨w.heap.size + 1, 2, none⟩ = some (.slice none 0 0) := (blk_cell hb1.out 2).trans rfl
        have hpf := blk_frozen hb1.out
        have HBT := Aside0.mk hbt
        clear hbt hf2 hx0 hx1 hx2
        by_cases hlt : i < n
        · have hR1 := Kd.C_below HR1.out HBT.out
          obtain ⟨ad, A2, c2, rfl, hx0, hx1, hx2, hl2, hC2⟩ := at_T40 hR1 i (by omega) (by omega)
          have hx0' : wr.cell? (ad.add (i * 3)) = some (.int .i64 (rd_T40 l1 i).f0) := by simpa using hx0
          have hx1' : wr.cell? ⟨(ad.add (i * 3)).block, (ad.add (i * 3)).off + 1, none⟩ = some (.int .i64 (rd_T40 l1 i).f1) := by simpa using hx1
          have hx2' : wr.cell? ⟨(ad.add (i * 3)).block, (ad.add (i * 3)).off + 2, none⟩ = some (.slice A2 (rd_T40 l1 i).f2.length c2) := by simpa using hx2
          have HC2 := Aside0.mk hC2
          clear hx0 hx1 hx2 hR1 hC2
          have hgo' := hgo.out
          rw [show (l1.take n).drop i = l1[i] :: (l1.take n).drop (i + 1) from by rw [List.drop_eq_getElem_cons (by simp; omega)]; simp] at hgo'
          have hel : rd_T40 l1 (i : Int) = l1[i] := by simp [rd_T40, List.getD_eq_getElem?_getD, show i < l1.length by omega]
          rw [← hel] at hgo'
          simp only [applyGo] at hgo'
          have HGO := Aside0.mk hgo'
          clear hgo' hel
          by_cases k1 : (rd_T40 l1 i).f0 = 1
          · have hgo1 := HGO.out
            rw [if_pos k1] at hgo1
            have t1 : ((rd_T40 l1 i).f0 == 1) = true := by simpa using k1
            clear k1
            by_cases hw : wcode a0_0 cache.length (rd_T40 l1 i).f1 (rd_T40 l1 i).f2.length = 0
            · rw [if_pos hw] at hgo1
              have HG1 := Aside0.mk hgo1
              obtain ⟨q1, q2, q3, q4⟩ := wcode_zero hw
              have Q3 := Aside0.mk q3
              clear hw hgo1 q3
              go_wp2_with (go_at_call 22; refine (dev_write_ok w1 _ _ hsz12 a0_0 _ _ disk cache _ _ _ (rd_T40 l1 i).f2 (blk_alloc hb2.out _) (Kd.R_alloc hR.out _) (Kd.S_alloc hS.out _) (Kd.C_alloc HC2.out _) hl2 (hBW.out.alloc hszr _) q1 q2 Q3.out q4).mono ?_; rintro e w3 ⟨rfl, hb3, v2', hblk3, ho13, ho23, hfr⟩; have D3 := Aside0.mk ((hfr (w.heap.size + 1) (by simp; omega) (by omega) (by have hne := Kd.S_ne hS.out hb1.out (by decide); exact hne)).trans (blk_alloc hb1.out _)); have HBK3 := Aside0.mk hblk3; have HO13 := Aside0.mk ho13; have HO23 := Aside0.mk ho23; have HB3 := Aside0.mk hb3; clear hblk3 ho13 ho23 hfr hb3; obtain ⟨A8, c8, rfl⟩ := Kd.R_slice (Kd.S_R HO23.out))
              go_roundg (gk - 1)
              case measure => omega
              case rel =>
                refine ⟨i + 1, disk, cache ++ [⟨(rd_T40 l1 i).f1, (rd_T40 l1 i).f2⟩], A8, c8, by go_num, by omega, HG1, hdl, ⟨?_⟩, by simp; omega, D3, HBK3, HO13, HO23, HB3⟩
                intro p hp
                rcases List.mem_append.1 hp with hp | hp
                · exact hall.out p hp
                · obtain rfl := List.mem_singleton.1 hp
                  simp [pendOk, q1, q2, Q3.out]
            · rw [if_neg hw] at hgo1
              simp only [Prod.mk.injEq] at hgo1
              obtain ⟨rfl, rfl, rfl⟩ := hgo1
              have t2 : (wcode a0_0 cache.length (rd_T40 l1 i).f1 (rd_T40 l1 i).f2.length != 0) = true := by simpa using hw
              have HW := Aside0.mk hw
              clear hw HGO hgo
              go_wp2_with (go_at_call 22; refine (dev_write_no _ _ a0_0 _ _ _ _ _ _ _ _ _ (blk_alloc hb2.out _) rfl HW.out).mono ?_; rintro e w3 ⟨rfl, rfl⟩)
              have D4 := blk_alloc (set3_cells hb1.out (.int .i64 a0_0) (.slice A5 l0_1.length c5) (.slice A7 cache.length c7)) (.cells #[.int .i64 (rd_T40 l1 i).f0, .int .i64 (rd_T40 l1 i).f1, .slice A2 (rd_T40 l1 i).f2.length c2] 40 (0, 0))
              have hz0 := (blk_cell D4 0).trans rfl
              have hz1 := (blk_cell D4 1).trans rfl
              have hz2 := (blk_cell D4 2).trans rfl
              refine bodyPost_ret (v := .tuple #[.agg #[.int .i64 a0_0, .slice A5 l0_1.length c5, .slice A7 cache.length c7], .int .i64 (wcode a0_0 cache.length (rd_T40 l1 i).f1 (rd_T40 l1 i).f2.length)]) ?_ rfl ⟨.slice A5 l0_1.length c5, .slice A7 cache.length c7, rfl, Kd.R_mono (Kd.R_alloc (Kd.R_lower (set3_R hR.out hb1.out (by decide) _ _ _) hle) _) (fun _ _ => trivial), Kd.S_mono (Kd.S_alloc (Kd.S_lower (set3_S hS.out hb1.out (by decide) _ _ _) hle) _) (fun k hk => hk.2), (set3_below HBT.out (by simp) _ _ _).alloc (by simp [World.setCell]; omega) _⟩
              simp [results, Try.results11, go_sem, hz0, hz1, hz2]
          · have hgo1 := HGO.out
            rw [if_neg k1] at hgo1
            have t1 : ((rd_T40 l1 i).f0 == 1) = false := by simpa using k1
            clear k1
            by_cases k2 : (rd_T40 l1 i).f0 = 2
            · rw [if_pos k2] at hgo1
              have t2 : ((rd_T40 l1 i).f0 == 2) = true := by simpa using k2
              have HG1 := Aside0.mk hgo1
              clear k2 hgo1
              go_wp2_with (go_at_call 23; refine (dev_settle w1 _ _ hsz12 a0_0 (validDev_8 HVV.out) (validDev_512 HVV.out) _ _ disk cache (fun _ => true) 26 #[] apply_enters (blk_alloc hb2.out _) (Kd.R_alloc hR.out _) (Kd.S_alloc hS.out _) (hBW.out.alloc hszr _) (by rw [hdl]; exact validDev_len HVV.out) hall.out hcl (fun i W _ _ _ => apply_keep i W)).mono ?_; rintro e w3 ⟨rfl, hb3, hblk3, ho13, hfr⟩; have D3 := Aside0.mk ((hfr (w.heap.size + 1) (by simp; omega) (by omega) (by have hne := Kd.R_ne hR.out hb1.out (by decide); exact hne)).trans (blk_alloc hb1.out _)); have HBK3 := Aside0.mk hblk3; have HO13 := Aside0.mk ho13; have HB3 := Aside0.mk hb3; clear hblk3 ho13 hfr hb3)
              go_roundg (gk - 1)
              case measure => omega
              case rel =>
                refine ⟨i + 1, settleTo (fun _ => true) cache disk cache.length, [], none, 0, by go_num, by omega, HG1, ?_, ⟨by simp⟩, by simp, D3, HBK3, HO13, ⟨Kd.S_nil _ _ _ _ _⟩, HB3⟩
                rw [settle_length _ a0_0 cache disk (by rw [hdl]; exact validDev_len HVV.out) hall.out _ (Nat.le_refl _), hdl]
            · rw [if_neg k2] at hgo1
              have t2 : ((rd_T40 l1 i).f0 == 2) = false := by simpa using k2
              clear k2 HGO hgo
              simp only [Prod.mk.injEq] at hgo1
              obtain ⟨rfl, rfl, rfl⟩ := hgo1
              go_wp2
              have D4 := blk_alloc (set3_cells hb1.out (.int .i64 a0_0) (.slice A5 l0_1.length c5) (.slice A7 cache.length c7)) (.cells #[.int .i64 (rd_T40 l1 i).f0, .int .i64 (rd_T40 l1 i).f1, .slice A2 (rd_T40 l1 i).f2.length c2] 40 (0, 0))
              have hz0 := (blk_cell D4 0).trans rfl
              have hz1 := (blk_cell D4 1).trans rfl
              have hz2 := (blk_cell D4 2).trans rfl
              refine bodyPost_ret (v := .tuple #[.agg #[.int .i64 a0_0, .slice A5 l0_1.length c5, .slice A7 cache.length c7], .int .i64 5]) ?_ rfl ⟨.slice A5 l0_1.length c5, .slice A7 cache.length c7, rfl, Kd.R_mono (Kd.R_alloc (Kd.R_lower (set3_R hR.out hb1.out (by decide) _ _ _) hle) _) (fun _ _ => trivial), Kd.S_mono (Kd.S_alloc (Kd.S_lower (set3_S hS.out hb1.out (by decide) _ _ _) hle) _) (fun k hk => hk.2), (set3_below HBT.out (by simp) _ _ _).alloc (by simp [World.setCell]; omega) _⟩
              simp [results, Try.results11, go_sem, hz0, hz1, hz2]
        · have hgo1 := hgo.out
          rw [List.drop_eq_nil_of_le (by simp; omega)] at hgo1
          simp only [applyGo, Prod.mk.injEq] at hgo1
          obtain ⟨rfl, rfl, rfl⟩ := hgo1
          have t1 : decide ((i : Int) < n) = false := by simp; omega
          go_wp2
          have D4 := set3_cells hb1.out (.int .i64 a0_0) (.slice A5 l0_1.length c5) (.slice A7 cache.length c7)
          have hz0 := (blk_cell D4 0).trans rfl
          have hz1 := (blk_cell D4 1).trans rfl
          have hz2 := (blk_cell D4 2).trans rfl
          refine bodyPost_ret (v := .tuple #[.agg #[.int .i64 a0_0, .slice A5 l0_1.length c5, .slice A7 cache.length c7], .int .i64 0]) ?_ rfl ⟨.slice A5 l0_1.length c5, .slice A7 cache.length c7, rfl, Kd.R_mono (Kd.R_lower (set3_R hR.out hb1.out (by decide) _ _ _) hle) (fun _ _ => trivial), Kd.S_mono (Kd.S_lower (set3_S hS.out hb1.out (by decide) _ _ _) hle) (fun k hk => hk.2), (set3_below HBT.out (by simp) _ _ _)⟩
          simp [results, Try.results11, go_sem, hz0, hz1, hz2]
  · have hv' : validDev a0_0 l0_1 l0_2 = false := by simpa using hv
    have hf := HH.out
    unfold impl_DevApply.f at hf
    rw [hv'] at hf
    simp only [Bool.false_eq_true, if_false, Option.some.injEq, Prod.mk.injEq] at hf
    obtain ⟨rfl, rfl, rfl, rfl⟩ := hf
    rw [hv'] at HV
    clear hv hv' HH
    go_enter Try.func11, Try.ntmps11
    go_wp2_with (go_at_call 20; refine (impl_validDevice.calls 2050 a0_0 _ _ l0_1 _ _ l0_2 false _ (Kd.C_alloc (Kd.C_alloc HR0_1.out _) _) hc0_1 (Kd.C_alloc (Kd.C_alloc HR0_2.out _) _) hc0_2 HV.out).mono ?_; rintro e w1 ⟨rfl, hb⟩; have D1 := Aside0.mk (blk_below B1.out hb); have HB := Aside0.mk ((((Below.refl w.heap.size w).alloc (Nat.le_refl _) _).alloc (by simp) _).trans (hb.mono (by simp; omega))); have hf1 := blk_frozen D1.out; have hx0 : w1.cell? ⟨w.heap.size + 1, 0, none⟩ = some (.int .i64 0) := (blk_cell D1.out 0).trans rfl;  have hx1 : w1.cell? ⟨w.heap.size + 1, 1, none⟩ = some (.slice none 0 0) := (blk_cell D1.out 1).trans rfl; have hx2 : w1.cell? ⟨w.heap.size + 1, 2, none⟩ = some (.slice none 0 0) := (blk_cell D1.out 2).trans rfl; clear hb)
    refine bodyPost_ret (v := .tuple #[.agg #[.int .i64 0, .slice none 0 0, .slice none 0 0], .int .i64 1]) (by simp [results, Try.results11, go_sem, hx0, hx1, hx2]) rfl ⟨.slice none 0 0, .slice none 0 0, rfl, Kd.R_nil _ _ _ _ _, Kd.S_nil _ _ _ _ _, ?_⟩
    exact ((HB.out.setCell (by simp) _).setCell (by simp) _).setCell (by simp) _

end Go.Proofs.Ytnkgclcmjojeiaa.PFnDeviceReads
