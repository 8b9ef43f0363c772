-- Written by a program of this session (after the kit's print) out of the translation. Nothing here is trusted: Lean checks it.
import Derived.Test.YtnkgclcmjojeiaaDoorPFnExactEncodeSuperx0
namespace Go.Proofs.YtnkgclcmjojeiaaDoor.PFnExactEncodeSuper
open Go.RowKit Go.Proofs.YtnkgclcmjojeiaaDoorW.PrintWords Go.Proofs.YtnkgclcmjojeiaaDoorW.PrintLast Go.Proofs.YtnkgclcmjojeiaaDoorW.PrintMore
attribute [local go_sem] max2_int min2_int max_two min_two max_three min_three max_four min_four   -- for this text's walks alone
set_option linter.unusedVariables false
set_option linter.unusedSimpArgs false

/-! ### impl_Crc32: function 106 -/
mutual
def impl_Crc32.l0 : Nat → Int → List Int → Int → Int → Option (Int)
  | 0, _, _, _, _ => none
  | k + 1, x3, x6, x7, x8 => if x8 < x7 then (if 0 ≤ x8 then (if x8 < (x6.length : Int) then (impl_Crc32.l1 k (Go.bits .xor .u32 x3 ((rd x6 x8) % 4294967296)) x6 x7 x8 0) else (none)) else (none)) else (some (Go.bits .xor .u32 4294967295 x3))
def impl_Crc32.l1 : Nat → Int → List Int → Int → Int → Int → Option (Int)
  | 0, _, _, _, _, _ => none
  | k + 1, x3, x6, x7, x8, x16 => if x16 < 8 then (if (Go.bits .and .u32 x3 1) = 1 then (impl_Crc32.l1 k (Go.bits .xor .u32 (x3 / 2) 3988292384) x6 x7 x8 (wrap64 (x16 + 1))) else (impl_Crc32.l1 k (x3 / 2) x6 x7 x8 (wrap64 (x16 + 1)))) else (impl_Crc32.l0 k x3 x6 x7 (wrap64 (x8 + 1)))
end
def impl_Crc32.f (k : Nat) (l0 : List Int) : Option (Int) := impl_Crc32.l0 k 4294967295 l0 (l0.length : Int) 0
theorem impl_Crc32.mono_l : ∀ k, (∀ y0 y1 y2 y3, LeO (impl_Crc32.l0 k y0 y1 y2 y3) (impl_Crc32.l0 (k + 1) y0 y1 y2 y3)) ∧ (∀ y0 y1 y2 y3 y4, LeO (impl_Crc32.l1 k y0 y1 y2 y3 y4) (impl_Crc32.l1 (k + 1) y0 y1 y2 y3 y4))
  | 0 => ⟨fun _ _ _ _ r h => by first | (cases h; done) | simp [impl_Crc32.l0] at h, fun _ _ _ _ _ r h => by first | (cases h; done) | simp [impl_Crc32.l1] at h⟩
  | k + 1 => by
    obtain ⟨ih0, ih1⟩ := impl_Crc32.mono_l k
    refine ⟨?_, ?_⟩
    · intro y0 y1 y2 y3
      unfold impl_Crc32.l0
      repeat' first
      | (with_reducible exact ih0 _ _ _ _)
      | (with_reducible exact ih1 _ _ _ _ _)
      | (with_reducible exact LeO.refl _)
      | (with_reducible exact LeO.none _)
      | (with_reducible refine LeO.ite ?_ ?_)
      | (with_reducible refine LeO.bind ?_ (fun _ => ?_))
      | exact ih0 _ _ _ _
      | exact ih1 _ _ _ _ _
      | exact LeO.none _
      | refine LeO.ite ?_ ?_
      | refine LeO.bind ?_ (fun _ => ?_)
    · intro y0 y1 y2 y3 y4
      unfold impl_Crc32.l1
      repeat' first
      | (with_reducible exact ih0 _ _ _ _)
      | (with_reducible exact ih1 _ _ _ _ _)
      | (with_reducible exact LeO.refl _)
      | (with_reducible exact LeO.none _)
      | (with_reducible refine LeO.ite ?_ ?_)
      | (with_reducible refine LeO.bind ?_ (fun _ => ?_))
      | exact ih0 _ _ _ _
      | exact ih1 _ _ _ _ _
      | exact LeO.none _
      | refine LeO.ite ?_ ?_
      | refine LeO.bind ?_ (fun _ => ?_)
theorem impl_Crc32.mono : ∀ a0 k, LeO (impl_Crc32.f k a0) (impl_Crc32.f (k + 1) a0) := by
  intro a0 k
  obtain ⟨ih0, ih1⟩ := impl_Crc32.mono_l k
  unfold impl_Crc32.f
  repeat' first
      | (with_reducible exact ih0 _ _ _ _)
      | (with_reducible exact ih1 _ _ _ _ _)
      | (with_reducible exact LeO.refl _)
      | (with_reducible exact LeO.none _)
      | (with_reducible refine LeO.ite ?_ ?_)
      | (with_reducible refine LeO.bind ?_ (fun _ => ?_))
      | exact ih0 _ _ _ _
      | exact ih1 _ _ _ _ _
      | exact LeO.none _
      | refine LeO.ite ?_ ?_
      | refine LeO.bind ?_ (fun _ => ?_)
set_option maxHeartbeats 8000000 in
set_option maxRecDepth 100000 in
theorem impl_Crc32.calls (k : Nat) (A0 : Option Addr) (c0 : Nat) (l0 : List Int) (r : Int) (w : World) (hr0 : Kd.C (Kd.int .u8) w A0 l0.length l0) (hc0 : l0.length ≤ c0) (h : impl_Crc32.f k l0 = some r) :
    Calls Tryd.prog 106 #[.slice A0 l0.length c0] w fun e w' => e = .returned (.int .u32 r) ∧ Drawn0 w w' := by
  have HR0 := Aside0.mk hr0
  have HC0 := Aside0.mk hc0
  clear hr0 hc0
  have H : (impl_Crc32.l0 k 4294967295 l0 (l0.length : Int) 0) = some r := h
  clear h
  have H' := Aside0.mk H
  clear H
  go_enter Tryd.func106, Tryd.ntmps106
  go_wp2
  go_loopg [3, 8] k (fun kq v3 v8 w' => ∃ (x3_1 : Int) (x8_1 : Int), v3 = .int .u32 x3_1 ∧ v8 = .int .i64 x8_1 ∧ Aside0 (impl_Crc32.l0 kq x3_1 l0 (l0.length : Int) x8_1 = some r) ∧ Aside0 (kq ≤ k) ∧ Drawn0 w w')
  case atStart => exact ⟨(4294967295), (0), (by first | rfl | (simp; done) | (simp [*]; done)), (by first | rfl | (simp; done) | (simp [*]; done)), H', ⟨Nat.le_refl _⟩, by repeat (first | exact Drawn0.refl _ | apply Drawn0.step)⟩
  case round =>
    clear H'
    try clear c1
    obtain ⟨x3_1, x8_1, rfl, rfl, HA, HK1, ⟨m1, rfl⟩⟩ := hrel
    cases gk with
    | zero => exact absurd HA.out (by first | (intro h_; cases h_; done) | simp [impl_Crc32.l0])
    | succ k1 =>
      have H := HA.out
      clear HA
      simp only [impl_Crc32.l0] at H
      by_cases c2 : x8_1 < (l0.length : Int)
      · rw [if_pos c2] at H
        have c2b0 : decide (x8_1 < (l0.length : Int)) = true := decide_eq_true c2
        clear c2
        by_cases c3 : 0 ≤ x8_1
        · rw [if_pos c3] at H
          have c3b0 : decide (0 ≤ x8_1) = true := decide_eq_true c3
          clear c3
          by_cases c4 : x8_1 < (l0.length : Int)
          · rw [if_pos c4] at H
            have c4b0 : decide (x8_1 < (l0.length : Int)) = true := decide_eq_true c4
            clear c4
            have H' := Aside0.mk H
            clear H
            have p167 : 0 ≤ (x8_1 : Int) := of_decide_eq_true (by first | (with_reducible assumption) | assumption)
            have q167 : x8_1 < (l0.length : Int) := of_decide_eq_true (by first | (with_reducible assumption) | assumption)
            obtain ⟨ad167, e167, hx167_0⟩ := Kd.at_int HR0.out x8_1 p167 q167
            cases e167
            replace p167 := eq_true p167
            replace q167 := eq_true q167
            go_wp2
            go_loopg [3, 16] k1 (fun kq v3 v16 w' => ∃ (x3_2 : Int) (x16_2 : Int), v3 = .int .u32 x3_2 ∧ v16 = .int .i64 x16_2 ∧ Aside0 (impl_Crc32.l1 kq x3_2 l0 (l0.length : Int) x8_1 x16_2 = some r) ∧ Aside0 (kq ≤ k1) ∧ Drawn0 w w')
            case atStart => exact ⟨(Go.bits .xor .u32 x3_1 ((rd l0 x8_1) % 4294967296)), (0), (by first | rfl | (simp; done) | (simp [*]; done)), (by first | rfl | (simp; done) | (simp [*]; done)), H', ⟨Nat.le_refl _⟩, by repeat (first | exact Drawn0.refl _ | apply Drawn0.step)⟩
            case round =>
              clear H'
              try clear c1
              try clear p1
              try clear q1
              try clear hx1
              try clear c2
              try clear c2b0
              try clear p2
              try clear c3
              try clear c3b0
              try clear c4
              try clear c4b0
              try clear hx167_0
              try clear p167
              try clear q167
              obtain ⟨x3_2, x16_2, rfl, rfl, HA, HK2, ⟨m2, rfl⟩⟩ := hrel
              cases gk with
              | zero => exact absurd HA.out (by first | (intro h_; cases h_; done) | simp [impl_Crc32.l1])
              | succ k2 =>
                have H := HA.out
                clear HA
                simp only [impl_Crc32.l1] at H
                by_cases c5 : x16_2 < 8
                · rw [if_pos c5] at H
                  have c5b0 : decide (x16_2 < 8) = true := decide_eq_true c5
                  clear c5
                  by_cases c6 : (Go.bits .and .u32 x3_2 1) = 1
                  · rw [if_pos c6] at H
                    have c6b0 : ((Go.bits .and .u32 x3_2 1) == 1) = true := beq_iff_eq.mpr c6
                    have c6b1 : ((Go.bits .and .u32 x3_2 1) != 1) = false := bne_eq_false_iff_eq.mpr c6
                    clear c6
                    have H' := Aside0.mk H
                    clear H
                    go_wp2
                    go_roundg k2
                    case measure => have := HK1.out; have := HK2.out; omega
                    case rel => exact ⟨(Go.bits .xor .u32 (x3_2 / 2) 3988292384), (wrap64 (x16_2 + 1)), (by first | rfl | (simp; done) | (simp [*]; done)), (by first | rfl | (simp; done) | (simp [*]; done)), H', ⟨by have := HK1.out; have := HK2.out; omega⟩, by repeat (first | exact Drawn0.refl _ | apply Drawn0.step)⟩
                  · rw [if_neg c6] at H
                    have c6b0 : ((Go.bits .and .u32 x3_2 1) == 1) = false := beq_eq_false_iff_ne.mpr c6
                    have c6b1 : ((Go.bits .and .u32 x3_2 1) != 1) = true := bne_iff_ne.mpr c6
                    have H' := Aside0.mk H
                    clear H
                    go_wp2
                    go_roundg k2
                    case measure => have := HK1.out; have := HK2.out; omega
                    case rel => exact ⟨(x3_2 / 2), (wrap64 (x16_2 + 1)), (by first | rfl | (simp; done) | (simp [*]; done)), (by first | rfl | (simp; done) | (simp [*]; done)), H', ⟨by have := HK1.out; have := HK2.out; omega⟩, by repeat (first | exact Drawn0.refl _ | apply Drawn0.step)⟩
                · rw [if_neg c5] at H
                  have c5b0 : decide (x16_2 < 8) = false := decide_eq_false c5
                  clear c5
                  have H' := Aside0.mk H
                  clear H
                  go_wp2
                  go_roundg k2
                  case measure => have := HK1.out; have := HK2.out; omega
                  case rel => exact ⟨(x3_2), (wrap64 (x8_1 + 1)), (by first | rfl | (simp; done) | (simp [*]; done)), (by first | rfl | (simp; done) | (simp [*]; done)), H', ⟨by have := HK1.out; have := HK2.out; omega⟩, by repeat (first | exact Drawn0.refl _ | apply Drawn0.step)⟩
          · rw [if_neg c4] at H
            exact absurd H (by simp)
        · rw [if_neg c3] at H
          exact absurd H (by simp)
      · rw [if_neg c2] at H
        have c2b0 : decide (x8_1 < (l0.length : Int)) = false := decide_eq_false c2
        clear c2
        obtain rfl := Option.some.inj H
        go_wp2
        go_ret
        exact ⟨by first | rfl | (simp; done) | (simp [*]; done), by repeat (first | exact Drawn0.refl _ | apply Drawn0.step)⟩

end Go.Proofs.YtnkgclcmjojeiaaDoor.PFnExactEncodeSuper
