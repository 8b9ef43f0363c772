-- Written by a program of this session (after the kit's print) out of the translation. Nothing here is trusted: Lean checks it.
import Derived.Test.YtnkgclcmjojeiaaVPFnDeviceReadsx0
import Derived.Test.YtnkgclcmjojeiaaVPFnDeviceReadsx7
import Derived.Test.YtnkgclcmjojeiaaVPFnDeviceReadsx8
import Derived.Test.YtnkgclcmjojeiaaVPFnDeviceReadsx9
namespace Go.Proofs.Ytnkgclcmjojeiaa.PFnDeviceReads
open Go.RowKit Go.Proofs.YtnkgclcmjojeiaaW.PrintWords Go.Proofs.YtnkgclcmjojeiaaW.PrintLast Go.Proofs.YtnkgclcmjojeiaaW.PrintMore
attribute [local go_sem] max2_int min2_int max_two min_two max_three min_three max_four min_four   -- for this text's walks alone
set_option linter.unusedVariables false
set_option linter.unusedSimpArgs false

-- HOLE loop.example/s01595/impl.DevWrite : loop.example/s01595/impl.validDevice, loop.example/s01595/impl.copyDevice, (*loop.example/s01595/impl.Device).write
def pendOk (b : Int) (p : S32) : Bool := decide (0 ≤ p.f0) && (decide (p.f0 < b) && decide (p.f1.length = 128))
def validDev (b : Int) (disk : List Int) (cache : List S32) : Bool := decide (8 ≤ b) && (decide (b ≤ 512) && (decide ((disk.length : Int) = b * 128) && (decide (cache.length ≤ 2048) && cache.all (pendOk b))))
theorem rd_pend (xs : List S32) (i : Nat) (h : i < xs.length) : rd_T32 xs (i : Int) = xs[i] := by simp [rd_T32, List.getD_eq_getElem?_getD, h]
theorem valid_loop (b : Int) (disk : List Int) (cache : List S32) (hn : cache.length ≤ 2048) (d : Nat) : ∀ (i k : Nat), i + d = cache.length → d < k →
    impl_validDevice.l0 k cache (cache.length : Int) (i : Int) b disk cache = some ((cache.drop i).all (pendOk b)) := by
  induction d with
  | zero =>
    intro i k hi hk
    obtain ⟨k, rfl⟩ : ∃ m, k = m + 1 := ⟨k - 1, by omega⟩
    simp only [impl_validDevice.l0]
    rw [if_neg (by omega), List.drop_eq_nil_of_le (by omega)]
    rfl
  | succ d ih =>
    intro i k hi hk
    obtain ⟨k, rfl⟩ : ∃ m, k = m + 1 := ⟨k - 1, by omega⟩
    have hlt : i < cache.length := by omega
    simp only [impl_validDevice.l0]
    rw [if_pos (by omega), if_pos (by omega), if_pos (by omega), rd_pend _ _ hlt, List.drop_eq_getElem_cons hlt, List.all_cons]
    have e : wrap64 ((i : Int) + 1) = ((i + 1 : Nat) : Int) := by unfold wrap64; omega
    rw [e, ih (i + 1) k (by omega) (by omega)]
    unfold pendOk
    by_cases h1 : cache[i].f0 < 0
    · rw [if_pos h1]; simp; omega
    · by_cases h2 : cache[i].f0 ≥ b
      · rw [if_neg h1, if_pos h2]; simp; omega
      · by_cases h3 : (cache[i].f1.length : Int) = 128
        · rw [if_neg h1, if_neg h2, if_pos h3]
          have : decide (0 ≤ cache[i].f0) = true := by simp; omega
          have : decide (cache[i].f0 < b) = true := by simp; omega
          have : decide (cache[i].f1.length = 128) = true := by simp; omega
          simp_all
        · rw [if_neg h1, if_neg h2, if_neg h3]
          have : decide (cache[i].f1.length = 128) = false := by simp; omega
          simp_all
theorem valid_eq (b : Int) (disk : List Int) (cache : List S32) : ∀ k, 2050 ≤ k → impl_validDevice.f k b disk cache = some (validDev b disk cache) := by
  intro k hk
  obtain ⟨k, rfl⟩ : ∃ m, k = m + 1 := ⟨k - 1, by omega⟩
  unfold impl_validDevice.f validDev
  by_cases h1 : b < 8
  · rw [if_pos h1]
    simp [impl_validDevice.j0, show ¬ (8 ≤ b) by omega]
  · by_cases h2 : b > 512
    · rw [if_neg h1, if_pos h2]
      simp [impl_validDevice.j0, show ¬ (b ≤ 512) by omega]
    · rw [if_neg h1, if_neg h2]
      have e : wrap64 (b * 128) = b * 128 := by unfold wrap64; omega
      rw [e]
      simp only [impl_validDevice.j0]
      by_cases h3 : (disk.length : Int) = b * 128
      · rw [if_neg (by simp [h3])]
        by_cases h4 : (cache.length : Int) > 2048
        · rw [if_pos h4]; simp [show ¬ cache.length ≤ 2048 by omega]
        · rw [if_neg h4, show (0 : Int) = ((0 : Nat) : Int) from rfl, valid_loop b disk cache (by omega) cache.length 0 k (by omega) (by omega)]
          simp [h3, show 8 ≤ b by omega, show b ≤ 512 by omega, show cache.length ≤ 2048 by omega]
      · rw [if_pos (by simp [h3])]; simp [h3]
theorem copy_loop (b : Int) (disk : List Int) (cache : List S32) (hn : cache.length ≤ 2048) (hp : ∀ p ∈ cache, p.f1.length ≤ 128) (d : Nat) : ∀ (i k : Nat) (acc : List S32), i + d = cache.length → acc.length = i → d < k →
    impl_copyDevice.l0 k cache (cache.length : Int) (i : Int) b disk acc = some (b, disk, acc ++ cache.drop i) := by
  induction d with
  | zero =>
    intro i k acc hi ha hk
    obtain ⟨k, rfl⟩ : ∃ m, k = m + 1 := ⟨k - 1, by omega⟩
    simp only [impl_copyDevice.l0]
    rw [if_neg (by omega), List.drop_eq_nil_of_le (by omega)]
    simp
  | succ d ih =>
    intro i k acc hi ha hk
    obtain ⟨k, rfl⟩ : ∃ m, k = m + 1 := ⟨k - 1, by omega⟩
    have hlt : i < cache.length := by omega
    have hl := hp cache[i] (List.getElem_mem hlt)
    simp only [impl_copyDevice.l0]
    rw [if_pos (by omega), if_pos (by omega), if_pos (by omega), rd_pend _ _ hlt, if_pos (by simp; omega), if_pos (by omega)]
    have e : wrap64 ((i : Int) + 1) = ((i + 1 : Nat) : Int) := by unfold wrap64; omega
    rw [e, ih (i + 1) k _ (by omega) (by simp [ha]) (by omega), List.drop_eq_getElem_cons hlt]
    simp only [List.append_assoc, List.cons_append, List.nil_append]
theorem copy_eq (b : Int) (disk : List Int) (cache : List S32) (hv : validDev b disk cache = true) : ∀ k, 2050 ≤ k → impl_copyDevice.f k b disk cache = some (b, disk, cache) := by
  intro k hk
  simp only [validDev, Bool.and_eq_true, decide_eq_true_eq, List.all_eq_true, pendOk] at hv
  obtain ⟨h1, h2, h3, h4, h5⟩ := hv
  unfold impl_copyDevice.f
  rw [if_pos (by simp; omega), show (0 : Int) = ((0 : Nat) : Int) from rfl, copy_loop b _ cache h4 (fun p hp => by have := (h5 p hp).2.2; omega) cache.length 0 k [] (by omega) rfl (by omega)]
  simp
theorem validDev_8 {b : Int} {disk : List Int} {cache : List S32} (hv : validDev b disk cache = true) : 8 ≤ b := by
  simp only [validDev, Bool.and_eq_true, decide_eq_true_eq] at hv; exact hv.1
theorem validDev_512 {b : Int} {disk : List Int} {cache : List S32} (hv : validDev b disk cache = true) : b ≤ 512 := by
  simp only [validDev, Bool.and_eq_true, decide_eq_true_eq] at hv; exact hv.2.1
theorem validDev_len {b : Int} {disk : List Int} {cache : List S32} (hv : validDev b disk cache = true) : (disk.length : Int) = b * 128 := by
  simp only [validDev, Bool.and_eq_true, decide_eq_true_eq] at hv; exact hv.2.2.1
theorem validDev_2048 {b : Int} {disk : List Int} {cache : List S32} (hv : validDev b disk cache = true) : cache.length ≤ 2048 := by
  simp only [validDev, Bool.and_eq_true, decide_eq_true_eq] at hv; exact hv.2.2.2.1
theorem validDev_all {b : Int} {disk : List Int} {cache : List S32} (hv : validDev b disk cache = true) : ∀ p ∈ cache, pendOk b p = true := by
  simp only [validDev, Bool.and_eq_true, List.all_eq_true] at hv; exact hv.2.2.2.2
def impl_DevWrite.f (b : Int) (disk : List Int) (cache : List S32) (blk : Int) (data : List Int) : Option (Int × List Int × List S32 × Int) :=
  if validDev b disk cache then (if wcode b cache.length blk data.length = 0 then some (b, disk, cache ++ [⟨blk, data⟩], 0) else some (b, disk, cache, wcode b cache.length blk data.length)) else some (0, [], [], 1)
section
variable {α : Type} {d : Kd α} {e : Nat} {w : World} {base : Nat} {ok : Nat → Prop} {v : Value} {xs : List α} {g t : Nat} {cells : Array Value}
theorem set3_R (h : d.R e w base ok v xs) (hb : w.heap[g]? = some (.cells cells t (0, 0))) (ht : ∀ q, q ∈ e :: d.E → q ≠ t) (u0 u1 u2 : Value) : d.R e (((w.setCell ⟨g, 0, none⟩ u0).setCell ⟨g, 1, none⟩ u1).setCell ⟨g, 2, none⟩ u2) base ok v xs :=
  Kd.R_mono (Kd.R_far (p := ⟨g, 2, none⟩) (Kd.R_far (p := ⟨g, 1, none⟩) (Kd.R_far (p := ⟨g, 0, none⟩) (Kd.R_types h hb ht) (fun _ hk => hk.2) u0) (fun _ hk => hk.2) u1) (fun _ hk => hk.2) u2) (fun _ hk => hk.1)
theorem set3_S (h : d.S e w base ok v xs) (hb : w.heap[g]? = some (.cells cells t (0, 0))) (ht : ∀ q, q ∈ e :: d.E → q ≠ t) (u0 u1 u2 : Value) : d.S e (((w.setCell ⟨g, 0, none⟩ u0).setCell ⟨g, 1, none⟩ u1).setCell ⟨g, 2, none⟩ u2) base ok v xs :=
  Kd.S_mono (Kd.S_far (p := ⟨g, 2, none⟩) (Kd.S_far (p := ⟨g, 1, none⟩) (Kd.S_far (p := ⟨g, 0, none⟩) (Kd.S_types h hb ht) (fun _ hk => hk.2) u0) (fun _ hk => hk.2) u1) (fun _ hk => hk.2) u2) (fun _ hk => hk.1)
theorem set3_below {w0 : World} {B : Nat} (h : Below B w0 w) (hg : B ≤ g) (u0 u1 u2 : Value) : Below B w0 (((w.setCell ⟨g, 0, none⟩ u0).setCell ⟨g, 1, none⟩ u1).setCell ⟨g, 2, none⟩ u2) := ((h.setCell hg _).setCell hg _).setCell hg _
theorem set3_cells {c0 c1 c2 : Value} (h : w.heap[g]? = some (.cells #[c0, c1, c2] t (0, 0))) (u0 u1 u2 : Value) : (((w.setCell ⟨g, 0, none⟩ u0).setCell ⟨g, 1, none⟩ u1).setCell ⟨g, 2, none⟩ u2).heap[g]? = some (.cells #[u0, u1, u2] t (0, 0)) :=
  blk_put (blk_put (blk_put h 0 u0 rfl) 1 u1 rfl) 2 u2 rfl
end
theorem blk2 (w : World) (a b : Obj) : ((w.alloc a).alloc b).heap[w.heap.size]? = some a ∧ ((w.alloc a).alloc b).heap[w.heap.size + 1]? = some b :=
  ⟨blk_alloc (heap_alloc_new w _) _, by simpa using heap_alloc_new (w.alloc a) b⟩
set_option maxHeartbeats 2000000 in
set_option maxRecDepth 100000 in
theorem impl_DevWrite.calls (a0_0 : Int) (A0_1 : Option Addr) (c0_1 : Nat) (l0_1 : List Int) (A0_2 : Option Addr) (c0_2 : Nat) (l0_2 : List S32) (a1 : Int) (A2 : Option Addr) (c2 : Nat) (l2 : List Int) (r1 : Int) (r2 : List Int) (r3 : List S32) (r4 : Int) (w : World) (hr0_1 : Kd.C (Kd.int .u8) w A0_1 l0_1.length l0_1) (hc0_1 : l0_1.length ≤ c0_1) (hr0_2 : Kd.C k32 w A0_2 l0_2.length l0_2) (hc0_2 : l0_2.length ≤ c0_2) (hr2 : Kd.C (Kd.int .u8) w A2 l2.length l2) (hc2 : l2.length ≤ c2) (h : impl_DevWrite.f a0_0 l0_1 l0_2 a1 l2 = some (r1, r2, r3, r4)) :
    Calls Try.prog 6 #[.agg #[.int .i64 a0_0, .slice A0_1 l0_1.length c0_1, .slice A0_2 l0_2.length c0_2], .int .i64 a1, .slice A2 l2.length c2] w fun e w' => ∃ v1_ v2_ : Value, e = .returned (.tuple #[.agg #[.int .i64 r1, v1_, v2_], .int .i64 r4]) ∧ Kd.R (Kd.int .u8) 5 w' w.heap.size (fun _ => True) v1_ r2 ∧ Kd.S k32 32 w' w.heap.size (fun k_ => some k_ ≠ (v1_ : Value).ownBlock) v2_ r3 ∧ Below w.heap.size w w' := by
  have hu25 := Try.underlying25
  have hV := valid_eq a0_0 l0_1 l0_2 2050 (Nat.le_refl _)
  have HR0_1 := Aside0.mk hr0_1
  have HR0_2 := Aside0.mk hr0_2
  have HR2 := Aside0.mk hr2
  have HV := Aside0.mk hV
  have HH := Aside0.mk h
  clear hr0_1 hr0_2 hr2 hV h
  by_cases hv : validDev a0_0 l0_1 l0_2 = true
  · have hC := copy_eq a0_0 l0_1 l0_2 hv 2050 (Nat.le_refl _)
    have HC := Aside0.mk hC
    have hf := HH.out
    unfold impl_DevWrite.f at hf
    rw [hv, if_pos rfl] at hf
    rw [hv] at HV
    have h2048 : l0_2.length ≤ 2048 := by
      simp only [validDev, Bool.and_eq_true, decide_eq_true_eq] at hv
      exact hv.2.2.2.1
    clear hC hv HH
    obtain ⟨b0, b1⟩ := blk2 w (.cells #[.int .i64 a0_0, .slice A0_1 l0_1.length c0_1, .slice A0_2 l0_2.length c0_2] 25 (0, 0)) (.cells #[.int .i64 0, .slice none 0 0, .slice none 0 0] 25 (0, 0))
    have B0 := Aside0.mk b0
    have B1 := Aside0.mk b1
    clear b0 b1
    by_cases hw : wcode a0_0 l0_2.length a1 l2.length = 0
    · rw [if_pos hw] at hf
      simp only [Option.some.injEq, Prod.mk.injEq] at hf
      obtain ⟨rfl, rfl, rfl, rfl⟩ := hf
      obtain ⟨h1, h2, h3, h4⟩ : 0 ≤ a1 ∧ a1 < a0_0 ∧ l2.length = 128 ∧ l0_2.length < 2048 := by
        unfold wcode at hw
        split at hw
        · cases hw
        · split at hw
          · cases hw
          · split at hw
            · cases hw
            · omega
      clear hw
      have H3 := Aside0.mk h3
      clear h3
      go_enter Try.func6, Try.ntmps6
      go_wp2_with (first | (go_at_call 20; refine (impl_validDevice.calls 2050 a0_0 _ _ l0_1 _ _ l0_2 true _ (Kd.C_alloc (Kd.C_alloc HR0_1.out _) _) hc0_1 (Kd.C_alloc (Kd.C_alloc HR0_2.out _) _) hc0_2 HV.out).mono ?_; rintro e w1 ⟨rfl, hb⟩; have D0 := Aside0.mk (blk_below B0.out hb); have D1 := Aside0.mk (blk_below B1.out hb); have HB := Aside0.mk ((((Below.refl w.heap.size w).alloc (Nat.le_refl _) _).alloc (by simp) _).trans (hb.mono (by simp; omega))); have hy0 : w1.cell? ⟨w.heap.size, 0, none⟩ = some (.int .i64 a0_0) := (blk_cell D0.out 0).trans rfl;  have hy1 : w1.cell? ⟨w.heap.size, 1, none⟩ = some (.slice A0_1 l0_1.length c0_1) := (blk_cell D0.out 1).trans rfl; have hy2 : w1.cell? ⟨w.heap.size, 2, none⟩ = some (.slice A0_2 l0_2.length c0_2) := (blk_cell D0.out 2).trans rfl; clear hb) | (go_at_call 21; refine (impl_copyDevice.calls 2050 a0_0 _ _ l0_1 _ _ l0_2 _ _ _ _ (Kd.C_below HR0_1.out HB.out) hc0_1 (Kd.C_below HR0_2.out HB.out) hc0_2 HC.out).mono ?_; rintro e w2 ⟨v1, v2, rfl, ho1, ho2, hb⟩; have hb0 := hb; have D2 := Aside0.mk (blk_below D1.out hb); have HO1 := Aside0.mk ho1; have HO2 := Aside0.mk ho2; have HB2 := Aside0.mk (below_step HB.out hb); clear ho1 ho2 hb; obtain ⟨A5, c5, rfl⟩ := Kd.R_slice HO1.out; obtain ⟨A6, c6, rfl⟩ := Kd.R_slice (Kd.S_R HO2.out); have hlt := blk_lt D2.out; have hsz12 := below_size hb0; have hf2 := blk_frozen D2.out; have hx0 : w2.cell? ⟨w.heap.size + 1, 0, none⟩ = some (.int .i64 0) := (blk_cell D2.out 0).trans rfl;  have hx1 : w2.cell? ⟨w.heap.size + 1, 1, none⟩ = some (.slice none 0 0) := (blk_cell D2.out 1).trans rfl; have hx2 : w2.cell? ⟨w.heap.size + 1, 2, none⟩ = some (.slice none 0 0) := (blk_cell D2.out 2).trans rfl) | (go_at_call 22; refine (dev_write_ok w _ _ (Nat.le_trans (below_size HB.out) hsz12) a0_0 _ _ l0_1 l0_2 a1 _ _ l2 (heap_alloc_new _ _) (Kd.R_mono (Kd.R_types (Kd.R_alloc (Kd.R_lower HO1.out (below_size HB.out)) _) (heap_alloc_new _ _) (by decide)) (fun k hk => hk.2)) (Kd.S_mono (Kd.S_types (Kd.S_alloc (Kd.S_lower HO2.out (below_size HB.out)) _) (heap_alloc_new _ _) (by decide)) (fun k hk => ⟨hk.2, hk.1⟩)) (Kd.C_alloc (Kd.C_below HR2.out HB2.out) _) hc2 (HB2.out.alloc (below_size HB2.out) _) h1 h2 H3.out h4).mono ?_; rintro e w3 ⟨rfl, hb3, v2', hblk3, ho13, ho23, hfr⟩; have D3 := Aside0.mk ((hfr (w.heap.size + 1) (by simp; omega) (by omega) (by have hne := Kd.S_ne HO2.out D2.out (by decide); exact hne)).trans (blk_alloc D2.out _)); have HBK3 := Aside0.mk hblk3; have HO13 := Aside0.mk ho13; have HO23 := Aside0.mk ho23; have HB3 := Aside0.mk hb3; clear hblk3 ho13 ho23 hfr hb3; obtain ⟨A7, c7, rfl⟩ := Kd.R_slice (Kd.S_R HO23.out); have hf3 := blk_frozen D3.out; have hu0 : w3.cell? ⟨w.heap.size + 1, 0, none⟩ = some (.int .i64 0) := (blk_cell D3.out 0).trans rfl; have hu1 : w3.cell? ⟨w.heap.size + 1, 1, none⟩ = some (.slice none 0 0) := (blk_cell D3.out 1).trans rfl; have hu2 : w3.cell? ⟨w.heap.size + 1, 2, none⟩ = some (.slice none 0 0) := (blk_cell D3.out 2).trans rfl; have hv0 := (blk_cell HBK3.out 0).trans rfl; have hv1 := (blk_cell HBK3.out 1).trans rfl; have hv2 := (blk_cell HBK3.out 2).trans rfl))
      have ho23 := HO23.out
      rw [show (l0_2 ++ [(⟨a1, l2⟩ : S32)]).length = l0_2.length + 1 from by simp] at ho23
      have D4 := set3_cells D3.out (.int .i64 a0_0) (.slice A5 l0_1.length c5) (.slice A7 (l0_2.length + 1) c7)
      have hz0 := (blk_cell D4 0).trans rfl
      have hz1 := (blk_cell D4 1).trans rfl
      have hz2 := (blk_cell D4 2).trans rfl
      refine bodyPost_ret (v := .tuple #[.agg #[.int .i64 a0_0, .slice A5 l0_1.length c5, .slice A7 (l0_2.length + 1) c7], .int .i64 0]) ?_ rfl ⟨.slice A5 l0_1.length c5, .slice A7 (l0_2.length + 1) c7, rfl, Kd.R_mono (set3_R HO13.out D3.out (by decide) _ _ _) (fun _ _ => trivial), Kd.S_mono (set3_S ho23 D3.out (by decide) _ _ _) (fun k hk => hk.2), set3_below HB3.out (by simp) _ _ _⟩
      simp [results, Try.results6, go_sem, hz0, hz1, hz2]
    · rw [if_neg hw] at hf
      simp only [Option.some.injEq, Prod.mk.injEq] at hf
      obtain ⟨rfl, rfl, rfl, rfl⟩ := hf
      go_enter Try.func6, Try.ntmps6
      go_wp2_with (first | (go_at_call 20; refine (impl_validDevice.calls 2050 a0_0 _ _ l0_1 _ _ l0_2 true _ (Kd.C_alloc (Kd.C_alloc HR0_1.out _) _) hc0_1 (Kd.C_alloc (Kd.C_alloc HR0_2.out _) _) hc0_2 HV.out).mono ?_; rintro e w1 ⟨rfl, hb⟩; have D0 := Aside0.mk (blk_below B0.out hb); have D1 := Aside0.mk (blk_below B1.out hb); have HB := Aside0.mk ((((Below.refl w.heap.size w).alloc (Nat.le_refl _) _).alloc (by simp) _).trans (hb.mono (by simp; omega))); have hy0 : w1.cell? ⟨w.heap.size, 0, none⟩ = some (.int .i64 a0_0) := (blk_cell D0.out 0).trans rfl;  have hy1 : w1.cell? ⟨w.heap.size, 1, none⟩ = some (.slice A0_1 l0_1.length c0_1) := (blk_cell D0.out 1).trans rfl; have hy2 : w1.cell? ⟨w.heap.size, 2, none⟩ = some (.slice A0_2 l0_2.length c0_2) := (blk_cell D0.out 2).trans rfl; clear hb) | (go_at_call 21; refine (impl_copyDevice.calls 2050 a0_0 _ _ l0_1 _ _ l0_2 _ _ _ _ (Kd.C_below HR0_1.out HB.out) hc0_1 (Kd.C_below HR0_2.out HB.out) hc0_2 HC.out).mono ?_; rintro e w2 ⟨v1, v2, rfl, ho1, ho2, hb⟩; have D2 := Aside0.mk (blk_below D1.out hb); have HO1 := Aside0.mk ho1; have HO2 := Aside0.mk ho2; have HB2 := Aside0.mk (below_step HB.out hb); clear ho1 ho2 hb; obtain ⟨A5, c5, rfl⟩ := Kd.R_slice HO1.out; obtain ⟨A6, c6, rfl⟩ := Kd.R_slice (Kd.S_R HO2.out); have hlt := blk_lt D2.out; have hf2 := blk_frozen D2.out; have hx0 : w2.cell? ⟨w.heap.size + 1, 0, none⟩ = some (.int .i64 0) := (blk_cell D2.out 0).trans rfl;  have hx1 : w2.cell? ⟨w.heap.size + 1, 1, none⟩ = some (.slice none 0 0) := (blk_cell D2.out 1).trans rfl; have hx2 : w2.cell? ⟨w.heap.size + 1, 2, none⟩ = some (.slice none 0 0) := (blk_cell D2.out 2).trans rfl) | (go_at_call 22; refine (dev_write_no _ _ a0_0 _ _ _ _ a1 _ _ _ _ (heap_alloc_new _ _) rfl hw).mono ?_; rintro e w3 ⟨rfl, rfl⟩))
      have D3 := blk_alloc (set3_cells D2.out (.int .i64 a0_0) (.slice A5 l0_1.length c5) (.slice A6 l0_2.length c6)) (.cells #[.int .i64 a0_0, .slice A5 l0_1.length c5, .slice A6 l0_2.length c6] 25 (0, 0))
      have hz0 := (blk_cell D3 0).trans rfl
      have hz1 := (blk_cell D3 1).trans rfl
      have hz2 := (blk_cell D3 2).trans rfl
      have hle := below_size HB.out
      refine bodyPost_ret (v := .tuple #[.agg #[.int .i64 a0_0, .slice A5 l0_1.length c5, .slice A6 l0_2.length c6], .int .i64 (wcode a0_0 l0_2.length a1 l2.length)]) ?_ rfl ⟨.slice A5 l0_1.length c5, .slice A6 l0_2.length c6, rfl, Kd.R_alloc (Kd.R_lower (set3_R HO1.out D2.out (by decide) _ _ _) hle) _, Kd.S_alloc (Kd.S_lower (set3_S HO2.out D2.out (by decide) _ _ _) hle) _, (set3_below HB2.out (by simp) _ _ _).alloc (by simp [World.setCell]; omega) _⟩
      simp [results, Try.results6, go_sem, hz0, hz1, hz2]
  · have hv' : validDev a0_0 l0_1 l0_2 = false := by simpa using hv
    have hf := HH.out
    unfold impl_DevWrite.f at hf
    rw [hv'] at hf
    simp only [Bool.false_eq_true, if_false, Option.some.injEq, Prod.mk.injEq] at hf
    obtain ⟨rfl, rfl, rfl, rfl⟩ := hf
    rw [hv'] at HV
    clear hv hv' HH
    obtain ⟨b0, b1⟩ := blk2 w (.cells #[.int .i64 a0_0, .slice A0_1 l0_1.length c0_1, .slice A0_2 l0_2.length c0_2] 25 (0, 0)) (.cells #[.int .i64 0, .slice none 0 0, .slice none 0 0] 25 (0, 0))
    have B0 := Aside0.mk b0
    have B1 := Aside0.mk b1
    clear b0 b1
    go_enter Try.func6, Try.ntmps6
    go_wp2_with (go_at_call 20; refine (impl_validDevice.calls 2050 a0_0 _ _ l0_1 _ _ l0_2 false _ (Kd.C_alloc (Kd.C_alloc HR0_1.out _) _) hc0_1 (Kd.C_alloc (Kd.C_alloc HR0_2.out _) _) hc0_2 HV.out).mono ?_; rintro e w1 ⟨rfl, hb⟩; have D1 := Aside0.mk (blk_below B1.out hb); have HB := Aside0.mk ((((Below.refl w.heap.size w).alloc (Nat.le_refl _) _).alloc (by simp) _).trans (hb.mono (by simp; omega))); have hf1 := blk_frozen D1.out; have hx0 : w1.cell? ⟨w.heap.size + 1, 0, none⟩ = some (.int .i64 0) := (blk_cell D1.out 0).trans rfl;  have hx1 : w1.cell? ⟨w.heap.size + 1, 1, none⟩ = some (.slice none 0 0) := (blk_cell D1.out 1).trans rfl; have hx2 : w1.cell? ⟨w.heap.size + 1, 2, none⟩ = some (.slice none 0 0) := (blk_cell D1.out 2).trans rfl; clear hb)
    refine bodyPost_ret (v := .tuple #[.agg #[.int .i64 0, .slice none 0 0, .slice none 0 0], .int .i64 1]) (by simp [results, Try.results6, go_sem, hx0, hx1, hx2]) rfl ⟨.slice none 0 0, .slice none 0 0, rfl, Kd.R_nil _ _ _ _ _, Kd.S_nil _ _ _ _ _, ?_⟩
    exact ((HB.out.setCell (by simp) _).setCell (by simp) _).setCell (by simp) _

end Go.Proofs.Ytnkgclcmjojeiaa.PFnDeviceReads
