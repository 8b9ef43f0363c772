-- Written by a program of this session (after the kit's print) out of the translation. Nothing here is trusted: Lean checks it.
import Derived.Test.YtnkgclcmjojeiaaVPFnDeviceReadsx0
import Derived.Test.YtnkgclcmjojeiaaVPFnDeviceReadsx2
namespace Go.Proofs.Ytnkgclcmjojeiaa.PFnDeviceReads
open Go.RowKit Go.Proofs.YtnkgclcmjojeiaaW.PrintWords Go.Proofs.YtnkgclcmjojeiaaW.PrintLast Go.Proofs.YtnkgclcmjojeiaaW.PrintMore
attribute [local go_sem] max2_int min2_int max_two min_two max_three min_three max_four min_four   -- for this text's walks alone
set_option linter.unusedVariables false
set_option linter.unusedSimpArgs false

/-! ### spec_l1DrawDevice: function 13 -/
mutual
def spec_l1DrawDevice.j0 : Nat → Int → List Int → Int → Int → Int → List Int → List (S32) → Option (Int × List Int × (List (S32)) × Int × Int)
  | 0, _, _, _, _, _, _, _ => none
  | k + 1, x5, x1000, x1001, x1002, x176000, x176001, x176002 => (spec_l1DrawBlock.f k x1000 x1001 x1002).bind fun bt185 => (spec_l1DrawDevice.l0 k x5 bt185.1 0 x1000 bt185.2.1 bt185.2.2 x176000 x176001 x176002)
def spec_l1DrawDevice.l0 : Nat → Int → List Int → Int → List Int → Int → Int → Int → List Int → List (S32) → Option (Int × List Int × (List (S32)) × Int × Int)
  | 0, _, _, _, _, _, _, _, _, _ => none
  | k + 1, x5, x6, x7, x1000, x1001, x1002, x176000, x176001, x176002 => if x7 < x5 then (if x7 < 14 then ((spec_l1DrawBlock.f k x1000 x1001 x1002).bind fun bt190 => (spec_l1DrawDevice.j2 k x5 bt190.1 x7 x1000 bt190.2.1 bt190.2.2 x176000 x176001 x176002)) else (spec_l1DrawDevice.j2 k x5 x6 x7 x1000 x1001 x1002 x176000 x176001 x176002)) else ((spec_l1Next.f x1000 x1001 x1002 6).bind fun bt216 => (if bt216.1 = 0 then ((spec_l1Next.f x1000 bt216.2.1 bt216.2.2 5).bind fun bt219 => (if bt219.1 = 0 then (if 1 ≤ (x176001.length : Int) then (some (x176000, (x176001.drop (1 : Int).toNat), x176002, bt219.2.1, bt219.2.2)) else (none)) else (if bt219.1 = 1 then (some (wrap64 (x176000 + 1), x176001, x176002, bt219.2.1, bt219.2.2)) else (if bt219.1 = 2 then ((spec_l1Copy.f k x6).bind fun t225 => (if x176002.length < 4398046511104 then (some (x176000, x176001, (x176002 ++ [(⟨x176000, t225⟩ : S32)]), bt219.2.1, bt219.2.2)) else (none))) else (if bt219.1 = 3 then ((spec_l1Copy.f k x6).bind fun t231 => (if x176002.length < 4398046511104 then (some (x176000, x176001, (x176002 ++ [(⟨(-1), t231⟩ : S32)]), bt219.2.1, bt219.2.2)) else (none))) else (if 1 ≤ (x6.length : Int) then (if x176002.length < 4398046511104 then (some (x176000, x176001, (x176002 ++ [(⟨0, (x6.drop 1)⟩ : S32)]), bt219.2.1, bt219.2.2)) else (none)) else (none))))))) else (some (x176000, x176001, x176002, bt216.2.1, bt216.2.2))))
def spec_l1DrawDevice.j2 : Nat → Int → List Int → Int → List Int → Int → Int → Int → List Int → List (S32) → Option (Int × List Int × (List (S32)) × Int × Int)
  | 0, _, _, _, _, _, _, _, _, _ => none
  | k + 1, x5, x6, x7, x1000, x1001, x1002, x176000, x176001, x176002 => (spec_l1Next.f x1000 x1001 x1002 x176000).bind fun bt195 => ((spec_l1Next.f x1000 bt195.2.1 bt195.2.2 2).bind fun bt198 => (if bt198.1 = 0 then ((spec_l1Next.f x1000 bt198.2.1 bt198.2.2 4).bind fun bt201 => ((spec_l1Copy.f k x6).bind fun t204 => (if x176002.length < 4398046511104 then (spec_l1DrawDevice.l0 k x5 x6 (wrap64 (x7 + 1)) x1000 bt201.2.1 bt201.2.2 x176000 x176001 (x176002 ++ [(⟨bt201.1, t204⟩ : S32)])) else (none)))) else ((spec_l1Copy.f k x6).bind fun t210 => (if x176002.length < 4398046511104 then (spec_l1DrawDevice.l0 k x5 x6 (wrap64 (x7 + 1)) x1000 bt198.2.1 bt198.2.2 x176000 x176001 (x176002 ++ [(⟨bt195.1, t210⟩ : S32)])) else (none)))))
end
def spec_l1DrawDevice.f (k : Nat) (s0_0 : List Int) (s0_1 : Int) (s0_2 : Int) : Option (Int × List Int × (List (S32)) × Int × Int) := (spec_l1DrawBlocks.f s0_0 s0_1 s0_2).bind fun bt156 => ((spec_l1Next.f s0_0 bt156.2.1 bt156.2.2 40).bind fun bt159 => ((spec_l1DrawBytes.f k s0_0 bt159.2.1 bt159.2.2 bt159.1).bind fun bt162 => ((spec_NewDevice.f k bt156.1 bt162.1).bind fun bt167 => ((spec_l1Next.f s0_0 bt162.2.1 bt162.2.2 14).bind fun bt176 => ((spec_l1Next.f s0_0 bt176.2.1 bt176.2.2 30).bind fun bt179 => (if bt179.1 = 0 then ((spec_l1Next.f s0_0 bt179.2.1 bt179.2.2 2).bind fun bt182 => (spec_l1DrawDevice.j0 k (wrap64 (2048 - bt182.1)) s0_0 bt182.2.1 bt182.2.2 bt167.1 bt167.2.1 bt167.2.2.1)) else (spec_l1DrawDevice.j0 k bt176.1 s0_0 bt179.2.1 bt179.2.2 bt167.1 bt167.2.1 bt167.2.2.1)))))))
theorem spec_l1DrawDevice.mono_l : ∀ k, (∀ y0 y1 y2 y3 y4 y5 y6, LeO (spec_l1DrawDevice.j0 k y0 y1 y2 y3 y4 y5 y6) (spec_l1DrawDevice.j0 (k + 1) y0 y1 y2 y3 y4 y5 y6)) ∧ (∀ y0 y1 y2 y3 y4 y5 y6 y7 y8, LeO (spec_l1DrawDevice.l0 k y0 y1 y2 y3 y4 y5 y6 y7 y8) (spec_l1DrawDevice.l0 (k + 1) y0 y1 y2 y3 y4 y5 y6 y7 y8)) ∧ (∀ y0 y1 y2 y3 y4 y5 y6 y7 y8, LeO (spec_l1DrawDevice.j2 k y0 y1 y2 y3 y4 y5 y6 y7 y8) (spec_l1DrawDevice.j2 (k + 1) y0 y1 y2 y3 y4 y5 y6 y7 y8))
  | 0 => ⟨fun _ _ _ _ _ _ _ r h => by simp [spec_l1DrawDevice.j0] at h, fun _ _ _ _ _ _ _ _ _ r h => by simp [spec_l1DrawDevice.l0] at h, fun _ _ _ _ _ _ _ _ _ r h => by simp [spec_l1DrawDevice.j2] at h⟩
  | k + 1 => by
    obtain ⟨ih0, ih1, ih2⟩ := spec_l1DrawDevice.mono_l k
    refine ⟨?_, ?_, ?_⟩
    · intro y0 y1 y2 y3 y4 y5 y6
      unfold spec_l1DrawDevice.j0
      repeat' first
      | (with_reducible exact ih0 _ _ _ _ _ _ _)
      | (with_reducible exact ih1 _ _ _ _ _ _ _ _ _)
      | (with_reducible exact ih2 _ _ _ _ _ _ _ _ _)
      | (with_reducible exact spec_NewDevice.mono _ _ _)
      | (with_reducible exact spec_l1Copy.mono _ _)
      | (with_reducible exact spec_l1DrawBlock.mono _ _ _ _)
      | (with_reducible exact spec_l1DrawBytes.mono _ _ _ _ _)
      | (with_reducible exact LeO.refl _)
      | (with_reducible exact LeO.none _)
      | (with_reducible refine LeO.ite ?_ ?_)
      | (with_reducible refine LeO.bind ?_ (fun _ => ?_))
      | exact ih0 _ _ _ _ _ _ _
      | exact ih1 _ _ _ _ _ _ _ _ _
      | exact ih2 _ _ _ _ _ _ _ _ _
      | exact spec_NewDevice.mono _ _ _
      | exact spec_l1Copy.mono _ _
      | exact spec_l1DrawBlock.mono _ _ _ _
      | exact spec_l1DrawBytes.mono _ _ _ _ _
      | exact LeO.none _
      | refine LeO.ite ?_ ?_
      | refine LeO.bind ?_ (fun _ => ?_)
    · intro y0 y1 y2 y3 y4 y5 y6 y7 y8
      unfold spec_l1DrawDevice.l0
      repeat' first
      | (with_reducible exact ih0 _ _ _ _ _ _ _)
      | (with_reducible exact ih1 _ _ _ _ _ _ _ _ _)
      | (with_reducible exact ih2 _ _ _ _ _ _ _ _ _)
      | (with_reducible exact spec_NewDevice.mono _ _ _)
      | (with_reducible exact spec_l1Copy.mono _ _)
      | (with_reducible exact spec_l1DrawBlock.mono _ _ _ _)
      | (with_reducible exact spec_l1DrawBytes.mono _ _ _ _ _)
      | (with_reducible exact LeO.refl _)
      | (with_reducible exact LeO.none _)
      | (with_reducible refine LeO.ite ?_ ?_)
      | (with_reducible refine LeO.bind ?_ (fun _ => ?_))
      | exact ih0 _ _ _ _ _ _ _
      | exact ih1 _ _ _ _ _ _ _ _ _
      | exact ih2 _ _ _ _ _ _ _ _ _
      | exact spec_NewDevice.mono _ _ _
      | exact spec_l1Copy.mono _ _
      | exact spec_l1DrawBlock.mono _ _ _ _
      | exact spec_l1DrawBytes.mono _ _ _ _ _
      | exact LeO.none _
      | refine LeO.ite ?_ ?_
      | refine LeO.bind ?_ (fun _ => ?_)
    · intro y0 y1 y2 y3 y4 y5 y6 y7 y8
      unfold spec_l1DrawDevice.j2
      repeat' first
      | (with_reducible exact ih0 _ _ _ _ _ _ _)
      | (with_reducible exact ih1 _ _ _ _ _ _ _ _ _)
      | (with_reducible exact ih2 _ _ _ _ _ _ _ _ _)
      | (with_reducible exact spec_NewDevice.mono _ _ _)
      | (with_reducible exact spec_l1Copy.mono _ _)
      | (with_reducible exact spec_l1DrawBlock.mono _ _ _ _)
      | (with_reducible exact spec_l1DrawBytes.mono _ _ _ _ _)
      | (with_reducible exact LeO.refl _)
      | (with_reducible exact LeO.none _)
      | (with_reducible refine LeO.ite ?_ ?_)
      | (with_reducible refine LeO.bind ?_ (fun _ => ?_))
      | exact ih0 _ _ _ _ _ _ _
      | exact ih1 _ _ _ _ _ _ _ _ _
      | exact ih2 _ _ _ _ _ _ _ _ _
      | exact spec_NewDevice.mono _ _ _
      | exact spec_l1Copy.mono _ _
      | exact spec_l1DrawBlock.mono _ _ _ _
      | exact spec_l1DrawBytes.mono _ _ _ _ _
      | exact LeO.none _
      | refine LeO.ite ?_ ?_
      | refine LeO.bind ?_ (fun _ => ?_)
theorem spec_l1DrawDevice.mono : ∀ a0 a1 a2 k, LeO (spec_l1DrawDevice.f k a0 a1 a2) (spec_l1DrawDevice.f (k + 1) a0 a1 a2) := by
  intro a0 a1 a2 k
  obtain ⟨ih0, ih1, ih2⟩ := spec_l1DrawDevice.mono_l k
  unfold spec_l1DrawDevice.f
  repeat' first
      | (with_reducible exact ih0 _ _ _ _ _ _ _)
      | (with_reducible exact ih1 _ _ _ _ _ _ _ _ _)
      | (with_reducible exact ih2 _ _ _ _ _ _ _ _ _)
      | (with_reducible exact spec_NewDevice.mono _ _ _)
      | (with_reducible exact spec_l1Copy.mono _ _)
      | (with_reducible exact spec_l1DrawBlock.mono _ _ _ _)
      | (with_reducible exact spec_l1DrawBytes.mono _ _ _ _ _)
      | (with_reducible exact LeO.refl _)
      | (with_reducible exact LeO.none _)
      | (with_reducible refine LeO.ite ?_ ?_)
      | (with_reducible refine LeO.bind ?_ (fun _ => ?_))
      | exact ih0 _ _ _ _ _ _ _
      | exact ih1 _ _ _ _ _ _ _ _ _
      | exact ih2 _ _ _ _ _ _ _ _ _
      | exact spec_NewDevice.mono _ _ _
      | exact spec_l1Copy.mono _ _
      | exact spec_l1DrawBlock.mono _ _ _ _
      | exact spec_l1DrawBytes.mono _ _ _ _ _
      | exact LeO.none _
      | refine LeO.ite ?_ ?_
      | refine LeO.bind ?_ (fun _ => ?_)
def spec_l1DrawDevice.T14 : Bool × List (List Nat × List Nat) := (true, [([], []), ([0], [0]), ([], []), ([], []), ([3], [3]), ([2, 4], [2, 4]), ([5], [5]), ([1, 6, 4], [1, 6]), ([0, 1, 2, 3, 4, 5, 6, 7], []), ([8, 7, 7, 0, 1, 2, 3, 4, 5, 6, 7], [7, 8])])
def spec_l1DrawDevice.B14 : List Nat := [0, 1, 0, 0, 8, 28, 60, 127, 255, 511]
theorem spec_l1DrawDevice.tab14 : rtab .any (opsOf Try.f13 14) = spec_l1DrawDevice.T14 := by kernel_rfl
theorem spec_l1DrawDevice.bits14 : waitsOk spec_l1DrawDevice.T14.2 spec_l1DrawDevice.B14 = true := by kernel_rfl
def spec_l1DrawDevice.T22 : Bool × List (List Nat × List Nat) := (true, [([], []), ([0], [0]), ([], []), ([2], [2]), ([], []), ([4], [4]), ([3, 5], [3, 5]), ([6], [6]), ([1, 7, 5], [1, 7]), ([0, 1, 2, 3, 4, 5, 6, 7, 8], []), ([9, 8, 8, 0, 1, 2, 3, 4, 5, 6, 7, 8], [8, 9])])
def spec_l1DrawDevice.B22 : List Nat := [0, 1, 0, 4, 0, 16, 60, 124, 255, 511, 1023]
theorem spec_l1DrawDevice.tab22 : rtab .any (opsOf Try.f13 22) = spec_l1DrawDevice.T22 := by kernel_rfl
theorem spec_l1DrawDevice.bits22 : waitsOk spec_l1DrawDevice.T22.2 spec_l1DrawDevice.B22 = true := by kernel_rfl
def spec_l1DrawDevice.T24 : Bool × List (List Nat × List Nat) := (true, [([], []), ([0], [0]), ([], []), ([2], [2]), ([3], [3]), ([4], [4]), ([1, 5, 3], [1, 5]), ([0, 1, 2, 3, 4, 5, 6], []), ([7, 6, 6, 0, 1, 2, 3, 4, 5, 6], [6, 7])])
def spec_l1DrawDevice.B24 : List Nat := [0, 1, 0, 4, 12, 28, 63, 127, 255]
theorem spec_l1DrawDevice.tab24 : rtab .any (opsOf Try.f13 24) = spec_l1DrawDevice.T24 := by kernel_rfl
theorem spec_l1DrawDevice.bits24 : waitsOk spec_l1DrawDevice.T24.2 spec_l1DrawDevice.B24 = true := by kernel_rfl
def spec_l1DrawDevice.T25 : Bool × List (List Nat × List Nat) := (true, [([], []), ([0], [0]), ([], []), ([2], [2]), ([3], [3]), ([4], [4]), ([1, 5], [1, 5]), ([0, 1, 2, 3, 4, 5, 6], []), ([7, 6, 6, 0, 1, 2, 3, 4, 5, 6], [6, 7])])
def spec_l1DrawDevice.B25 : List Nat := [0, 1, 0, 4, 12, 28, 63, 127, 255]
theorem spec_l1DrawDevice.tab25 : rtab .any (opsOf Try.f13 25) = spec_l1DrawDevice.T25 := by kernel_rfl
theorem spec_l1DrawDevice.bits25 : waitsOk spec_l1DrawDevice.T25.2 spec_l1DrawDevice.B25 = true := by kernel_rfl
set_option maxHeartbeats 8000000 in
set_option maxRecDepth 100000 in
theorem spec_l1DrawDevice.calls (k : Nat) (g : Nat) (s0_0 : List Int) (s0_1 : Int) (s0_2 : Int) (r1 : Int) (r2 : List Int) (r3 : List (S32)) (r4 : Int) (r5 : Int) (w0 w : World) (hI : IsS45 w0 w g s0_0 s0_1 s0_2) (hB : Below w0.heap.size w0 w) (h : spec_l1DrawDevice.f k s0_0 s0_1 s0_2 = some (r1, r2, r3, r4, r5)) :
    Calls Try.prog 13 #[.pointer (some ⟨g, 0, none⟩)] w fun e w' => ∃ v1_ v2_ : Value, e = .returned (.agg #[.int .i64 r1, v1_, v2_]) ∧ Kd.Q (Kd.int .u8) 5 w' w.heap.size (fun k_ => (w.heap.size ≤ k_)) v1_ r2 ∧ Kd.N k32 32 w' w.heap.size (fun k_ => (w.heap.size ≤ k_) ∧ some k_ ≠ (v1_ : Value).ownBlock) v2_ r3 ∧ IsS45 w0 w' g s0_0 r4 r5 ∧ Below w0.heap.size w0 w' ∧ KeepBut w w' g none := by
  have hu25 := Try.underlying25
  have hu32 := Try.underlying32
  have HI0 := Aside0.mk hI
  have HK := Aside0.mk (KeepBut.refl w g none)
  have HL := Aside0.mk hB.size
  clear hI
  have HW0 := Aside0.mk hB.size
  have HB := Aside0.mk hB
  clear hB
  have H : ((spec_l1DrawBlocks.f s0_0 s0_1 s0_2).bind fun bt156 => ((spec_l1Next.f s0_0 bt156.2.1 bt156.2.2 40).bind fun bt159 => ((spec_l1DrawBytes.f k s0_0 bt159.2.1 bt159.2.2 bt159.1).bind fun bt162 => ((spec_NewDevice.f k bt156.1 bt162.1).bind fun bt167 => ((spec_l1Next.f s0_0 bt162.2.1 bt162.2.2 14).bind fun bt176 => ((spec_l1Next.f s0_0 bt176.2.1 bt176.2.2 30).bind fun bt179 => (if bt179.1 = 0 then ((spec_l1Next.f s0_0 bt179.2.1 bt179.2.2 2).bind fun bt182 => (spec_l1DrawDevice.j0 k (wrap64 (2048 - bt182.1)) s0_0 bt182.2.1 bt182.2.2 bt167.1 bt167.2.1 bt167.2.2.1)) else (spec_l1DrawDevice.j0 k bt176.1 s0_0 bt179.2.1 bt179.2.2 bt167.1 bt167.2.1 bt167.2.2.1)))))))) = some (r1, r2, r3, r4, r5) := h
  clear h
  replace H := Option.bind_eq_some_iff.mp H
  obtain ⟨⟨t156, t157, t158⟩, A20, H⟩ := H
  replace H : ((spec_l1Next.f s0_0 t157 t158 40).bind fun bt159 => ((spec_l1DrawBytes.f k s0_0 bt159.2.1 bt159.2.2 bt159.1).bind fun bt162 => ((spec_NewDevice.f k t156 bt162.1).bind fun bt167 => ((spec_l1Next.f s0_0 bt162.2.1 bt162.2.2 14).bind fun bt176 => ((spec_l1Next.f s0_0 bt176.2.1 bt176.2.2 30).bind fun bt179 => (if bt179.1 = 0 then ((spec_l1Next.f s0_0 bt179.2.1 bt179.2.2 2).bind fun bt182 => (spec_l1DrawDevice.j0 k (wrap64 (2048 - bt182.1)) s0_0 bt182.2.1 bt182.2.2 bt167.1 bt167.2.1 bt167.2.2.1)) else (spec_l1DrawDevice.j0 k bt176.1 s0_0 bt179.2.1 bt179.2.2 bt167.1 bt167.2.1 bt167.2.2.1))))))) = some (r1, r2, r3, r4, r5) := H
  have A2 := Aside0.mk A20
  clear A20
  replace H := Option.bind_eq_some_iff.mp H
  obtain ⟨⟨t159, t160, t161⟩, A30, H⟩ := H
  replace H : ((spec_l1DrawBytes.f k s0_0 t160 t161 t159).bind fun bt162 => ((spec_NewDevice.f k t156 bt162.1).bind fun bt167 => ((spec_l1Next.f s0_0 bt162.2.1 bt162.2.2 14).bind fun bt176 => ((spec_l1Next.f s0_0 bt176.2.1 bt176.2.2 30).bind fun bt179 => (if bt179.1 = 0 then ((spec_l1Next.f s0_0 bt179.2.1 bt179.2.2 2).bind fun bt182 => (spec_l1DrawDevice.j0 k (wrap64 (2048 - bt182.1)) s0_0 bt182.2.1 bt182.2.2 bt167.1 bt167.2.1 bt167.2.2.1)) else (spec_l1DrawDevice.j0 k bt176.1 s0_0 bt179.2.1 bt179.2.2 bt167.1 bt167.2.1 bt167.2.2.1)))))) = some (r1, r2, r3, r4, r5) := H
  have A3 := Aside0.mk A30
  clear A30
  replace H := Option.bind_eq_some_iff.mp H
  obtain ⟨⟨t162, t165, t166⟩, A40, H⟩ := H
  replace H : ((spec_NewDevice.f k t156 t162).bind fun bt167 => ((spec_l1Next.f s0_0 t165 t166 14).bind fun bt176 => ((spec_l1Next.f s0_0 bt176.2.1 bt176.2.2 30).bind fun bt179 => (if bt179.1 = 0 then ((spec_l1Next.f s0_0 bt179.2.1 bt179.2.2 2).bind fun bt182 => (spec_l1DrawDevice.j0 k (wrap64 (2048 - bt182.1)) s0_0 bt182.2.1 bt182.2.2 bt167.1 bt167.2.1 bt167.2.2.1)) else (spec_l1DrawDevice.j0 k bt176.1 s0_0 bt179.2.1 bt179.2.2 bt167.1 bt167.2.1 bt167.2.2.1))))) = some (r1, r2, r3, r4, r5) := H
  have A4 := Aside0.mk A40
  clear A40
  replace H := Option.bind_eq_some_iff.mp H
  obtain ⟨⟨t167, t168, t171, t174⟩, A50, H⟩ := H
  replace H : ((spec_l1Next.f s0_0 t165 t166 14).bind fun bt176 => ((spec_l1Next.f s0_0 bt176.2.1 bt176.2.2 30).bind fun bt179 => (if bt179.1 = 0 then ((spec_l1Next.f s0_0 bt179.2.1 bt179.2.2 2).bind fun bt182 => (spec_l1DrawDevice.j0 k (wrap64 (2048 - bt182.1)) s0_0 bt182.2.1 bt182.2.2 t167 t168 t171)) else (spec_l1DrawDevice.j0 k bt176.1 s0_0 bt179.2.1 bt179.2.2 t167 t168 t171)))) = some (r1, r2, r3, r4, r5) := H
  have A5 := Aside0.mk A50
  clear A50
  replace H := Option.bind_eq_some_iff.mp H
  obtain ⟨⟨t176, t177, t178⟩, A60, H⟩ := H
  replace H : ((spec_l1Next.f s0_0 t177 t178 30).bind fun bt179 => (if bt179.1 = 0 then ((spec_l1Next.f s0_0 bt179.2.1 bt179.2.2 2).bind fun bt182 => (spec_l1DrawDevice.j0 k (wrap64 (2048 - bt182.1)) s0_0 bt182.2.1 bt182.2.2 t167 t168 t171)) else (spec_l1DrawDevice.j0 k t176 s0_0 bt179.2.1 bt179.2.2 t167 t168 t171))) = some (r1, r2, r3, r4, r5) := H
  have A6 := Aside0.mk A60
  clear A60
  replace H := Option.bind_eq_some_iff.mp H
  obtain ⟨⟨t179, t180, t181⟩, A70, H⟩ := H
  replace H : (if t179 = 0 then ((spec_l1Next.f s0_0 t180 t181 2).bind fun bt182 => (spec_l1DrawDevice.j0 k (wrap64 (2048 - bt182.1)) s0_0 bt182.2.1 bt182.2.2 t167 t168 t171)) else (spec_l1DrawDevice.j0 k t176 s0_0 t180 t181 t167 t168 t171)) = some (r1, r2, r3, r4, r5) := H
  have A7 := Aside0.mk A70
  clear A70
  have HC8 := Aside0.mk H
  clear H
  go_enter Try.func13, Try.ntmps13
  go_upto_if 24 with (first | ((with_reducible refine gate_dst (N := 2) rfl ?_); refine box_event ?hg (N := 2) ?hd (cs := #[.int .i64 0, .slice none 0 0, .slice none 0 0]) (t := 25) ?hr ?_; (case hd => rfl); (case hg => rfl); (case hr => first | (go_simp; done) | (go_simp; rfl)); intro gb155 hg w9 hbox hb; have n0_ := Aside0.mk (IsS45.below (by repeat (first | (with_reducible first | exact HI0.out | apply IsS45.alloc | apply IsS45.drewN | apply IsS45.drew | apply IsS45.set_1 | apply IsS45.set_2) | exact HI0.out)) hb); have n1_ := Aside0.mk (KeepBut.trans (by repeat (first | (with_reducible first | exact HK.out | apply KeepBut.set_ | apply keep_drewN | apply keep_drew | apply keep_alloc) | exact HK.out)) (KeepBut.of_below hb g none) (.inl rfl)); have n2_ := Aside0.mk (below_step (by repeat (first | (with_reducible first | exact HB.out | apply below_alloc | apply pw_below_drewN | apply below_drew1 | refine below_set ?_ (IsS45.ge HI0.out)) | exact HB.out)) hb); have n3_ := Aside0.mk (hbox); have n4_ := Aside0.mk ((by rw [hg]; exact (keep_size (w := w) (g := g) (row := none) (by repeat (first | (with_reducible first | exact HK.out | apply KeepBut.set_ | apply keep_drewN | apply keep_drew | apply keep_alloc) | exact HK.out))) : w.heap.size ≤ gb155)); have n5_ := Aside0.mk ((Nat.le_trans HW0.out (by rw [hg]; exact (keep_size (w := w) (g := g) (row := none) (by repeat (first | (with_reducible first | exact HK.out | apply KeepBut.set_ | apply keep_drewN | apply keep_drew | apply keep_alloc) | exact HK.out))) : w.heap.size ≤ gb155) : w0.heap.size ≤ gb155)); have n6_ := Aside0.mk ((by rw [hg]; exact Nat.ne_of_lt (IsS45.lt (show IsS45 w0 _ g s0_0 s0_1 s0_2 from by repeat (first | (with_reducible first | exact HI0.out | apply IsS45.alloc | apply IsS45.drewN | apply IsS45.drew | apply IsS45.set_1 | apply IsS45.set_2) | exact HI0.out))) : g ≠ gb155)); have n7_ := Aside0.mk ((by rw [hg]; exact Nat.ne_of_gt (IsS45.lt (show IsS45 w0 _ g s0_0 s0_1 s0_2 from by repeat (first | (with_reducible first | exact HI0.out | apply IsS45.alloc | apply IsS45.drewN | apply IsS45.drew | apply IsS45.set_1 | apply IsS45.set_2) | exact HI0.out))) : gb155 ≠ g)); clear HI0; clear HK; clear HB; have HI0 := n0_; have HK := n1_; have HB := n2_; have BK155 := n3_; have GW155 := n4_; have GE155 := n5_; have NB0_155 := n6_; have NB155_0 := n7_; clear n0_ n1_ n2_ n3_ n4_ n5_ n6_ n7_; clear hb hbox hg) | ((with_reducible refine gate_callee (f := 28) rfl ?_); refine goesL_ (some 12) rfl rfl Try.func28 (by kernel_rfl) rfl #[.pointer (some ⟨g, 0, none⟩)] rfl (by (try simp only [List.map_toArray, List.map_cons, List.map_nil]); first | done | rfl | (simp only [List.length_drop, List.length_take]; rfl)) ?_; (with_reducible refine (spec_l1DrawBlocks.calls g s0_0 s0_1 s0_2 t156 t157 t158 w0 _ ?side1 ?side2 A2.out).mono ?_); (case side1 => repeat (first | (with_reducible first | exact HI0.out | apply IsS45.alloc | apply IsS45.drewN | apply IsS45.drew | apply IsS45.set_1 | apply IsS45.set_2 | refine IsS45.far ?_ NB0_155.out _) | exact HI0.out)); (case side2 => repeat (first | (with_reducible first | exact HB.out | apply below_alloc | apply pw_below_drewN | apply below_drew1 | refine below_set ?_ (IsS45.ge HI0.out) | refine below_set ?_ GE155.out) | exact HB.out)); rintro e w10 ⟨rfl, hi, hb, hk⟩; refine ⟨_, rfl, ?_⟩; have n0_ := Aside0.mk (KeepBut.blk hk (g' := gb155) (o := .cells #[.int .i64 0, .slice none 0 0, .slice none 0 0] 25 (0, 0)) (by (with_reducible repeat (first | refine blk_drewN ?_ _ | refine blk_drew ?_ | refine blk_alloc ?_ _)); exact BK155.out) NB155_0.out (by simp)); have n1_ := Aside0.mk (KeepBut.trans (by repeat (first | (with_reducible first | exact HK.out | apply KeepBut.set_ | apply keep_drewN | apply keep_drew | apply keep_alloc | refine keep_far ?_ GW155.out _) | exact HK.out)) hk (.inl rfl)); have n2_ := Aside0.mk (hb); have n3_ := Aside0.mk (hi); clear BK155; clear HK; clear HB; clear HI0; have BK155 := n0_; have HK := n1_; have HB := n2_; have HI0 := n3_; clear n0_ n1_ n2_ n3_; (try clear hb); (try clear hb2); (try clear hk); (try clear hi)) | ((with_reducible refine gate_callee (f := 15) rfl ?_); refine goesL_ (some 15) rfl rfl Try.func15 (by kernel_rfl) rfl #[.pointer (some ⟨g, 0, none⟩), .int .i64 40] rfl (by (try simp only [List.map_toArray, List.map_cons, List.map_nil]); first | done | rfl | (simp only [List.length_drop, List.length_take]; rfl)) ?_; (with_reducible refine (spec_l1Next.calls g s0_0 t157 t158 40 t159 t160 t161 w0 _ ?side1 ?side2 A3.out).mono ?_); (case side1 => repeat (first | (with_reducible first | exact HI0.out | apply IsS45.alloc | apply IsS45.drewN | apply IsS45.drew | apply IsS45.set_1 | apply IsS45.set_2 | refine IsS45.far ?_ NB0_155.out _) | exact HI0.out)); (case side2 => repeat (first | (with_reducible first | exact HB.out | apply below_alloc | apply pw_below_drewN | apply below_drew1 | refine below_set ?_ (IsS45.ge HI0.out) | refine below_set ?_ GE155.out) | exact HB.out)); rintro e w11 ⟨rfl, hi, hb, hk⟩; refine ⟨_, rfl, ?_⟩; have n0_ := Aside0.mk (KeepBut.blk hk (g' := gb155) (o := .cells #[.int .i64 0, .slice none 0 0, .slice none 0 0] 25 (0, 0)) (by (with_reducible repeat (first | refine blk_drewN ?_ _ | refine blk_drew ?_ | refine blk_alloc ?_ _)); exact BK155.out) NB155_0.out (by simp)); have n1_ := Aside0.mk (KeepBut.trans (by repeat (first | (with_reducible first | exact HK.out | apply KeepBut.set_ | apply keep_drewN | apply keep_drew | apply keep_alloc | refine keep_far ?_ GW155.out _) | exact HK.out)) hk (.inl rfl)); have n2_ := Aside0.mk (hb); have n3_ := Aside0.mk (hi); clear BK155; clear HK; clear HB; clear HI0; have BK155 := n0_; have HK := n1_; have HB := n2_; have HI0 := n3_; clear n0_ n1_ n2_ n3_; (try clear hb); (try clear hb2); (try clear hk); (try clear hi)) | ((with_reducible refine gate_callee (f := 29) rfl ?_); refine goesL_ (some 16) rfl rfl Try.func29 (by kernel_rfl) rfl #[.pointer (some ⟨g, 0, none⟩), .int .i64 t159] rfl (by (try simp only [List.map_toArray, List.map_cons, List.map_nil]); first | done | rfl | (simp only [List.length_drop, List.length_take]; rfl)) ?_; (with_reducible refine (spec_l1DrawBytes.calls k g s0_0 t160 t161 t159 t162 t165 t166 w0 _ ?side1 ?side2 A4.out).mono ?_); (case side1 => repeat (first | (with_reducible first | exact HI0.out | apply IsS45.alloc | apply IsS45.drewN | apply IsS45.drew | apply IsS45.set_1 | apply IsS45.set_2 | refine IsS45.far ?_ NB0_155.out _) | exact HI0.out)); (case side2 => repeat (first | (with_reducible first | exact HB.out | apply below_alloc | apply pw_below_drewN | apply below_drew1 | refine below_set ?_ (IsS45.ge HI0.out) | refine below_set ?_ GE155.out) | exact HB.out)); rintro e w12 ⟨v163, rfl, ho0, hi, hb, hk⟩; refine ⟨_, rfl, ?_⟩; have n0_ := Aside0.mk (KeepBut.blk hk (g' := gb155) (o := .cells #[.int .i64 0, .slice none 0 0, .slice none 0 0] 25 (0, 0)) (by (with_reducible repeat (first | refine blk_drewN ?_ _ | refine blk_drew ?_ | refine blk_alloc ?_ _)); exact BK155.out) NB155_0.out (by simp)); have n1_ := Aside0.mk (Kd.R_lower (Kd.R_newM (M := fun k_ => (w.heap.size ≤ k_)) ho0 (keep_size (w := w) (g := g) (row := none) (by repeat (first | (with_reducible first | exact HK.out | apply KeepBut.set_ | apply keep_drewN | apply keep_drew | apply keep_alloc | refine keep_far ?_ GW155.out _) | exact HK.out))) (fun k_ h_ => h_)) (keep_size (w := w) (g := g) (row := none) (by repeat (first | (with_reducible first | exact HK.out | apply KeepBut.set_ | apply keep_drewN | apply keep_drew | apply keep_alloc | refine keep_far ?_ GW155.out _) | exact HK.out)))); have n2_ := Aside0.mk (KeepBut.trans (by repeat (first | (with_reducible first | exact HK.out | apply KeepBut.set_ | apply keep_drewN | apply keep_drew | apply keep_alloc | refine keep_far ?_ GW155.out _) | exact HK.out)) hk (.inl rfl)); have n3_ := Aside0.mk (hb); have n4_ := Aside0.mk (hi); clear BK155; clear HK; clear HB; clear HI0; have BK155 := n0_; have HO164 := n1_; have HK := n2_; have HB := n3_; have HI0 := n4_; clear n0_ n1_ n2_ n3_ n4_; (try clear hb); (try clear hb2); (try clear hk); (try clear hi); (try clear ho0); obtain ⟨Ao13, co13, eo13⟩ := Kd.R_slice HO164.out; subst eo13) | ((with_reducible refine gate_callee (f := 27) rfl ?_); refine goesL_ (some 17) rfl rfl Try.func27 (by kernel_rfl) rfl #[.int .i64 t156, .slice Ao13 t162.length co13] rfl (by (try simp only [List.map_toArray, List.map_cons, List.map_nil]); first | done | rfl | (simp only [List.length_drop, List.length_take]; rfl)) ?_; (with_reducible refine (spec_NewDevice.calls k t156 _ _ t162 t167 t168 t171 t174 _ ?side1 ?side2 A5.out).mono ?_); (case side1 => repeat (first | exact (Kd.R_reads' HO164.out).2.2 | (with_reducible refine Kd.C_alloc ?_ _) | (with_reducible refine Kd.C_drewN ?_ _) | (with_reducible refine Kd.C_drew ?_))); (case side2 => exact (Kd.R_reads' HO164.out).2.1); rintro e w14 ⟨v169, v172, rfl, ho0, ho1, hb⟩; refine ⟨_, rfl, ?_⟩; have n0_ := Aside0.mk (Kd.R_elder' (by (with_reducible repeat (first | apply Kd.R_alloc | apply Kd.R_drewN | apply Kd.R_drew)); exact HO164.out) (Kd.R_base ho0) hb); have n1_ := Aside0.mk (Kd.R_lower (Kd.R_new' (Kd.R_newM (M := fun k_ => (w.heap.size ≤ k_)) ho0 (keep_size (w := w) (g := g) (row := none) (by repeat (first | (with_reducible first | exact HK.out | apply KeepBut.set_ | apply keep_drewN | apply keep_drew | apply keep_alloc | refine keep_far ?_ GW155.out _) | exact HK.out))) (fun k_ h_ => h_)) (Kd.R_lt (by (with_reducible repeat (first | apply Kd.R_alloc | apply Kd.R_drewN | apply Kd.R_drew)); exact HO164.out))) (keep_size (w := w) (g := g) (row := none) (by repeat (first | (with_reducible first | exact HK.out | apply KeepBut.set_ | apply keep_drewN | apply keep_drew | apply keep_alloc | refine keep_far ?_ GW155.out _) | exact HK.out)))); have n2_ := Aside0.mk (Kd.N_lower (Kd.N_mono (ok' := fun k_ => (w.heap.size ≤ k_) ∧ some k_ ≠ (v169 : Value).ownBlock ∧ some k_ ≠ (.slice Ao13 t162.length co13 : Value).ownBlock ∧ k_ ≠ gb155 ∧ k_ ≠ g) (Kd.S_N (Kd.S_bound ho1)) (fun k_ hk_ => ⟨(Nat.le_trans (keep_size (w := w) (g := g) (row := none) (by repeat (first | (with_reducible first | exact HK.out | apply KeepBut.set_ | apply keep_drewN | apply keep_drew | apply keep_alloc | refine keep_far ?_ GW155.out _) | exact HK.out))) hk_.2.1), hk_.1, (Kd.fresh' (Kd.R_lt (by (with_reducible repeat (first | apply Kd.R_alloc | apply Kd.R_drewN | apply Kd.R_drew)); exact HO164.out)) k_ hk_.2.1), (Kd.freshB (g := gb155) (o := .cells #[.int .i64 0, .slice none 0 0, .slice none 0 0] 25 (0, 0)) (by (with_reducible repeat (first | refine blk_drewN ?_ _ | refine blk_drew ?_ | refine blk_alloc ?_ _)); exact BK155.out) k_ hk_.2.1), (IsS45.fresh (by repeat (first | (with_reducible first | exact HI0.out | apply IsS45.alloc | apply IsS45.drewN | apply IsS45.drew | apply IsS45.set_1 | apply IsS45.set_2 | refine IsS45.far ?_ NB0_155.out _) | exact HI0.out)) k_ hk_.2.1)⟩)) (keep_size (w := w) (g := g) (row := none) (by repeat (first | (with_reducible first | exact HK.out | apply KeepBut.set_ | apply keep_drewN | apply keep_drew | apply keep_alloc | refine keep_far ?_ GW155.out _) | exact HK.out)))); have n3_ := Aside0.mk (IsS45.below (by repeat (first | (with_reducible first | exact HI0.out | apply IsS45.alloc | apply IsS45.drewN | apply IsS45.drew | apply IsS45.set_1 | apply IsS45.set_2 | refine IsS45.far ?_ NB0_155.out _) | exact HI0.out)) hb); have n4_ := Aside0.mk (blk_below (g := gb155) (o := .cells #[.int .i64 0, .slice none 0 0, .slice none 0 0] 25 (0, 0)) (by (with_reducible repeat (first | refine blk_drewN ?_ _ | refine blk_drew ?_ | refine blk_alloc ?_ _)); exact BK155.out) hb); have n5_ := Aside0.mk (KeepBut.trans (by repeat (first | (with_reducible first | exact HK.out | apply KeepBut.set_ | apply keep_drewN | apply keep_drew | apply keep_alloc | refine keep_far ?_ GW155.out _) | exact HK.out)) (KeepBut.of_below hb g none) (.inl rfl)); have n6_ := Aside0.mk (below_step (by repeat (first | (with_reducible first | exact HB.out | apply below_alloc | apply pw_below_drewN | apply below_drew1 | refine below_set ?_ (IsS45.ge HI0.out) | refine below_set ?_ GE155.out) | exact HB.out)) hb); clear HO164; clear HI0; clear BK155; clear HK; clear HB; have HO164 := n0_; have HO170 := n1_; have HO173 := n2_; have HI0 := n3_; have BK155 := n4_; have HK := n5_; have HB := n6_; clear n0_ n1_ n2_ n3_ n4_ n5_ n6_; (try clear hb); (try clear hb2); (try clear hk); (try clear hi); (try clear ho0); (try clear ho1)) | ((with_reducible refine gate_dst (N := 3) rfl ?_); refine box_event ?hg (N := 3) ?hd (cs := #[.int .i64 0, .slice none 0 0, .slice none 0 0]) (t := 25) ?hr ?_; (case hd => rfl); (case hg => rfl); (case hr => first | (go_simp; done) | (go_simp; rfl)); intro gb175 hg w15 hbox hb; have n0_ := Aside0.mk (Kd.R_below (by (with_reducible repeat (first | apply Kd.R_alloc | apply Kd.R_drewN | apply Kd.R_drew)); exact HO164.out) hb); have n1_ := Aside0.mk (Kd.R_below (by (with_reducible repeat (first | apply Kd.R_alloc | apply Kd.R_drewN | apply Kd.R_drew)); exact HO170.out) hb); have n2_ := Aside0.mk (Kd.N_below (Kd.N_elderB (by (with_reducible repeat (first | apply Kd.N_alloc | apply Kd.N_drewN | apply Kd.N_drew)); exact HO173.out) gb175 (Nat.le_of_eq hg.symm)) hb); have n3_ := Aside0.mk (IsS45.below (by repeat (first | (with_reducible first | exact HI0.out | apply IsS45.alloc | apply IsS45.drewN | apply IsS45.drew | apply IsS45.set_1 | apply IsS45.set_2 | refine IsS45.far ?_ NB0_155.out _) | exact HI0.out)) hb); have n4_ := Aside0.mk (blk_below (g := gb155) (o := .cells #[.int .i64 0, .slice none 0 0, .slice none 0 0] 25 (0, 0)) (by (with_reducible repeat (first | refine blk_drewN ?_ _ | refine blk_drew ?_ | refine blk_alloc ?_ _)); exact BK155.out) hb); have n5_ := Aside0.mk (KeepBut.trans (by repeat (first | (with_reducible first | exact HK.out | apply KeepBut.set_ | apply keep_drewN | apply keep_drew | apply keep_alloc | refine keep_far ?_ GW155.out _) | exact HK.out)) (KeepBut.of_below hb g none) (.inl rfl)); have n6_ := Aside0.mk (below_step (by repeat (first | (with_reducible first | exact HB.out | apply below_alloc | apply pw_below_drewN | apply below_drew1 | refine below_set ?_ (IsS45.ge HI0.out) | refine below_set ?_ GE155.out) | exact HB.out)) hb); have n7_ := Aside0.mk (hbox); have n8_ := Aside0.mk ((by rw [hg]; exact (keep_size (w := w) (g := g) (row := none) (by repeat (first | (with_reducible first | exact HK.out | apply KeepBut.set_ | apply keep_drewN | apply keep_drew | apply keep_alloc | refine keep_far ?_ GW155.out _) | exact HK.out))) : w.heap.size ≤ gb175)); have n9_ := Aside0.mk ((Nat.le_trans HW0.out (by rw [hg]; exact (keep_size (w := w) (g := g) (row := none) (by repeat (first | (with_reducible first | exact HK.out | apply KeepBut.set_ | apply keep_drewN | apply keep_drew | apply keep_alloc | refine keep_far ?_ GW155.out _) | exact HK.out))) : w.heap.size ≤ gb175) : w0.heap.size ≤ gb175)); have n10_ := Aside0.mk ((by rw [hg]; exact Nat.ne_of_lt (blk_lt (g := gb155) (o := .cells #[.int .i64 0, .slice none 0 0, .slice none 0 0] 25 (0, 0)) (by (with_reducible repeat (first | refine blk_drewN ?_ _ | refine blk_drew ?_ | refine blk_alloc ?_ _)); exact BK155.out)) : gb155 ≠ gb175)); have n11_ := Aside0.mk ((by rw [hg]; exact Nat.ne_of_gt (blk_lt (g := gb155) (o := .cells #[.int .i64 0, .slice none 0 0, .slice none 0 0] 25 (0, 0)) (by (with_reducible repeat (first | refine blk_drewN ?_ _ | refine blk_drew ?_ | refine blk_alloc ?_ _)); exact BK155.out)) : gb175 ≠ gb155)); have n12_ := Aside0.mk ((by rw [hg]; exact Nat.ne_of_lt (IsS45.lt (show IsS45 w0 _ g s0_0 t165 t166 from by repeat (first | (with_reducible first | exact HI0.out | apply IsS45.alloc | apply IsS45.drewN | apply IsS45.drew | apply IsS45.set_1 | apply IsS45.set_2 | refine IsS45.far ?_ NB0_155.out _) | exact HI0.out))) : g ≠ gb175)); have n13_ := Aside0.mk ((by rw [hg]; exact Nat.ne_of_gt (IsS45.lt (show IsS45 w0 _ g s0_0 t165 t166 from by repeat (first | (with_reducible first | exact HI0.out | apply IsS45.alloc | apply IsS45.drewN | apply IsS45.drew | apply IsS45.set_1 | apply IsS45.set_2 | refine IsS45.far ?_ NB0_155.out _) | exact HI0.out))) : gb175 ≠ g)); clear HO164; clear HO170; clear HO173; clear HI0; clear BK155; clear HK; clear HB; have HO164 := n0_; have HO170 := n1_; have HO173 := n2_; have HI0 := n3_; have BK155 := n4_; have HK := n5_; have HB := n6_; have BK175 := n7_; have GW175 := n8_; have GE175 := n9_; have NB155_175 := n10_; have NB175_155 := n11_; have NB0_175 := n12_; have NB175_0 := n13_; clear n0_ n1_ n2_ n3_ n4_ n5_ n6_ n7_ n8_ n9_ n10_ n11_ n12_ n13_; clear hb hbox hg; have hnb16 := NB175_155.out; have hnc16 := NB155_175.out; have hnb17 := NB175_0.out; have hnc17 := NB0_175.out; have hcz18_0 : w15.cell? ⟨gb175, 0, none⟩ = some (.int .i64 0) := (blk_cell BK175.out 0).trans rfl; have hcz18_1 : w15.cell? ⟨gb175, 1, none⟩ = some (.slice none 0 0) := (blk_cell BK175.out 1).trans rfl; have hcz18_2 : w15.cell? ⟨gb175, 2, none⟩ = some (.slice none 0 0) := (blk_cell BK175.out 2).trans rfl; have hfz18_0 := blk_frozen BK175.out 0; have hfz18_1 := blk_frozen BK175.out 1; have hfz18_2 := blk_frozen BK175.out 2; obtain ⟨Ao19, co19, eo19⟩ := Kd.R_slice HO170.out; subst eo19; obtain ⟨Ao20, co20, eo20⟩ := Kd.N_slice HO173.out; subst eo20) | ((with_reducible refine gate_callee (f := 15) rfl ?_); refine goesL_ (some 21) rfl rfl Try.func15 (by kernel_rfl) rfl #[.pointer (some ⟨g, 0, none⟩), .int .i64 14] rfl (by (try simp only [List.map_toArray, List.map_cons, List.map_nil]); first | done | rfl | (simp only [List.length_drop, List.length_take]; rfl)) ?_; (with_reducible refine (spec_l1Next.calls g s0_0 t165 t166 14 t176 t177 t178 w0 _ ?side1 ?side2 A6.out).mono ?_); (case side1 => repeat (first | (with_reducible first | exact HI0.out | apply IsS45.alloc | apply IsS45.drewN | apply IsS45.drew | apply IsS45.set_1 | apply IsS45.set_2 | refine IsS45.far ?_ NB0_155.out _ | refine IsS45.far ?_ NB0_175.out _) | exact HI0.out)); (case side2 => repeat (first | (with_reducible first | exact HB.out | apply below_alloc | apply pw_below_drewN | apply below_drew1 | refine below_set ?_ (IsS45.ge HI0.out) | refine below_set ?_ GE155.out | refine below_set ?_ GE175.out) | exact HB.out)); rintro e w21 ⟨rfl, hi, hb, hk⟩; refine ⟨_, rfl, ?_⟩; have n0_ := Aside0.mk (KeepBut.blk hk (g' := gb155) (o := .cells #[.int .i64 0, .slice none 0 0, .slice none 0 0] 25 (0, 0)) (by (with_reducible repeat (first | refine blk_drewN ?_ _ | refine blk_drew ?_ | refine blk_alloc ?_ _)); refine blk_far ?_ NB155_175.out _; (with_reducible repeat (first | refine blk_drewN ?_ _ | refine blk_drew ?_ | refine blk_alloc ?_ _)); refine blk_far ?_ NB155_175.out _; (with_reducible repeat (first | refine blk_drewN ?_ _ | refine blk_drew ?_ | refine blk_alloc ?_ _)); refine blk_far ?_ NB155_175.out _; (with_reducible repeat (first | refine blk_drewN ?_ _ | refine blk_drew ?_ | refine blk_alloc ?_ _)); exact BK155.out) NB155_0.out (by simp)); have n1_ := Aside0.mk (Kd.R_mono (Kd.R_keep (IsS45.apart (show IsS45 w0 _ g s0_0 t165 t166 from by repeat (first | (with_reducible first | exact HI0.out | apply IsS45.alloc | apply IsS45.drewN | apply IsS45.drew | apply IsS45.set_1 | apply IsS45.set_2 | refine IsS45.far ?_ NB0_155.out _ | refine IsS45.far ?_ NB0_175.out _) | exact HI0.out)) (by (with_reducible repeat (first | apply Kd.R_alloc | apply Kd.R_drewN | apply Kd.R_drew)); exact (Kd.R_mono (Kd.R_far (p := ⟨gb175, 2, none⟩) (Kd.R_far (p := ⟨gb175, 1, none⟩) (Kd.R_far (p := ⟨gb175, 0, none⟩) (Kd.R_types HO164.out BK175.out (by decide)) (fun _ hk => hk.2) (.int .i64 t167)) (fun _ hk => hk.2) (.slice Ao19 t168.length co19)) (fun _ hk => hk.2) (.slice Ao20 t171.length co20)) (fun _ h_ => h_.1))) (by decide)) hk (fun _ h => h.2)) (fun _ h => h.1)); have n2_ := Aside0.mk (Kd.R_mono (Kd.R_keep (IsS45.apart (show IsS45 w0 _ g s0_0 t165 t166 from by repeat (first | (with_reducible first | exact HI0.out | apply IsS45.alloc | apply IsS45.drewN | apply IsS45.drew | apply IsS45.set_1 | apply IsS45.set_2 | refine IsS45.far ?_ NB0_155.out _ | refine IsS45.far ?_ NB0_175.out _) | exact HI0.out)) (by (with_reducible repeat (first | apply Kd.R_alloc | apply Kd.R_drewN | apply Kd.R_drew)); exact (Kd.R_mono (Kd.R_far (p := ⟨gb175, 2, none⟩) (Kd.R_far (p := ⟨gb175, 1, none⟩) (Kd.R_far (p := ⟨gb175, 0, none⟩) (Kd.R_types HO170.out BK175.out (by decide)) (fun _ hk => hk.2) (.int .i64 t167)) (fun _ hk => hk.2) (.slice Ao19 t168.length co19)) (fun _ hk => hk.2) (.slice Ao20 t171.length co20)) (fun _ h_ => h_.1))) (by decide)) hk (fun _ h => h.2)) (fun _ h => h.1)); have n3_ := Aside0.mk (Kd.N_mono (Kd.N_keep (Kd.N_mono (ok := fun k_ => ((((w.heap.size ≤ k_)) ∧ (some k_ ≠ (.slice Ao19 t168.length co19 : Value).ownBlock ∧ (some k_ ≠ (.slice Ao13 t162.length co13 : Value).ownBlock ∧ (k_ ≠ gb155 ∧ k_ ≠ g)))) ∧ k_ ≠ gb175)) (by (with_reducible repeat (first | apply Kd.N_alloc | apply Kd.N_drewN | apply Kd.N_drew)); exact (Kd.N_mono (Kd.N_far (p := ⟨gb175, 2, none⟩) (Kd.N_far (p := ⟨gb175, 1, none⟩) (Kd.N_far (p := ⟨gb175, 0, none⟩) (Kd.N_mono HO173.out (fun k_ hk => (⟨hk, hk.2⟩ : _ ∧ k_ ≠ gb175))) (fun _ hk => hk.2) (.int .i64 t167)) (fun _ hk => hk.2) (.slice Ao19 t168.length co19)) (fun _ hk => hk.2) (.slice Ao20 t171.length co20)) (fun _ h_ => h_.1))) (fun k_ hk_ => (⟨hk_, hk_.1.2.2.2.2⟩ : _ ∧ k_ ≠ g))) hk (fun _ h => h.2)) (fun _ h => h.1)); have n4_ := Aside0.mk (KeepBut.blk hk (g' := gb175) (o := .cells #[.int .i64 t167, .slice Ao19 t168.length co19, .slice Ao20 t171.length co20] 25 (0, 0)) (by (with_reducible repeat (first | refine blk_drewN ?_ _ | refine blk_drew ?_ | refine blk_alloc ?_ _)); refine blk_put (cs := #[.int .i64 t167, .slice Ao19 t168.length co19, .slice none 0 0]) ?_ 2 _ rfl; (with_reducible repeat (first | refine blk_drewN ?_ _ | refine blk_drew ?_ | refine blk_alloc ?_ _)); refine blk_put (cs := #[.int .i64 t167, .slice none 0 0, .slice none 0 0]) ?_ 1 _ rfl; (with_reducible repeat (first | refine blk_drewN ?_ _ | refine blk_drew ?_ | refine blk_alloc ?_ _)); refine blk_put (cs := #[.int .i64 0, .slice none 0 0, .slice none 0 0]) ?_ 0 _ rfl; (with_reducible repeat (first | refine blk_drewN ?_ _ | refine blk_drew ?_ | refine blk_alloc ?_ _)); exact BK175.out) NB175_0.out (by simp)); have n5_ := Aside0.mk (KeepBut.trans (by repeat (first | (with_reducible first | exact HK.out | apply KeepBut.set_ | apply keep_drewN | apply keep_drew | apply keep_alloc | refine keep_far ?_ GW155.out _ | refine keep_far ?_ GW175.out _) | exact HK.out)) hk (.inl rfl)); have n6_ := Aside0.mk (hb); have n7_ := Aside0.mk (hi); clear BK155; clear HO164; clear HO170; clear HO173; clear BK175; clear HK; clear HB; clear HI0; have BK155 := n0_; have HO164 := n1_; have HO170 := n2_; have HO173 := n3_; have BK175 := n4_; have HK := n5_; have HB := n6_; have HI0 := n7_; clear n0_ n1_ n2_ n3_ n4_ n5_ n6_ n7_; (try clear hb); (try clear hb2); (try clear hk); (try clear hi)) | ((with_reducible refine gate_callee (f := 15) rfl ?_); refine goesL_ (some 23) rfl rfl Try.func15 (by kernel_rfl) rfl #[.pointer (some ⟨g, 0, none⟩), .int .i64 30] rfl (by (try simp only [List.map_toArray, List.map_cons, List.map_nil]); first | done | rfl | (simp only [List.length_drop, List.length_take]; rfl)) ?_; (with_reducible refine (spec_l1Next.calls g s0_0 t177 t178 30 t179 t180 t181 w0 _ ?side1 ?side2 A7.out).mono ?_); (case side1 => repeat (first | (with_reducible first | exact HI0.out | apply IsS45.alloc | apply IsS45.drewN | apply IsS45.drew | apply IsS45.set_1 | apply IsS45.set_2 | refine IsS45.far ?_ NB0_155.out _ | refine IsS45.far ?_ NB0_175.out _) | exact HI0.out)); (case side2 => repeat (first | (with_reducible first | exact HB.out | apply below_alloc | apply pw_below_drewN | apply below_drew1 | refine below_set ?_ (IsS45.ge HI0.out) | refine below_set ?_ GE155.out | refine below_set ?_ GE175.out) | exact HB.out)); rintro e w22 ⟨rfl, hi, hb, hk⟩; refine ⟨_, rfl, ?_⟩; have n0_ := Aside0.mk (KeepBut.blk hk (g' := gb155) (o := .cells #[.int .i64 0, .slice none 0 0, .slice none 0 0] 25 (0, 0)) (by (with_reducible repeat (first | refine blk_drewN ?_ _ | refine blk_drew ?_ | refine blk_alloc ?_ _)); exact BK155.out) NB155_0.out (by simp)); have n1_ := Aside0.mk (Kd.R_mono (Kd.R_keep (IsS45.apart (show IsS45 w0 _ g s0_0 t177 t178 from by repeat (first | (with_reducible first | exact HI0.out | apply IsS45.alloc | apply IsS45.drewN | apply IsS45.drew | apply IsS45.set_1 | apply IsS45.set_2 | refine IsS45.far ?_ NB0_155.out _ | refine IsS45.far ?_ NB0_175.out _) | exact HI0.out)) (by (with_reducible repeat (first | apply Kd.R_alloc | apply Kd.R_drewN | apply Kd.R_drew)); exact HO164.out) (by decide)) hk (fun _ h => h.2)) (fun _ h => h.1)); have n2_ := Aside0.mk (Kd.R_mono (Kd.R_keep (IsS45.apart (show IsS45 w0 _ g s0_0 t177 t178 from by repeat (first | (with_reducible first | exact HI0.out | apply IsS45.alloc | apply IsS45.drewN | apply IsS45.drew | apply IsS45.set_1 | apply IsS45.set_2 | refine IsS45.far ?_ NB0_155.out _ | refine IsS45.far ?_ NB0_175.out _) | exact HI0.out)) (by (with_reducible repeat (first | apply Kd.R_alloc | apply Kd.R_drewN | apply Kd.R_drew)); exact HO170.out) (by decide)) hk (fun _ h => h.2)) (fun _ h => h.1)); have n3_ := Aside0.mk (Kd.N_mono (Kd.N_keep (Kd.N_mono (ok := fun k_ => ((((w.heap.size ≤ k_)) ∧ (some k_ ≠ (.slice Ao19 t168.length co19 : Value).ownBlock ∧ (some k_ ≠ (.slice Ao13 t162.length co13 : Value).ownBlock ∧ (k_ ≠ gb155 ∧ k_ ≠ g)))) ∧ k_ ≠ gb175)) (by (with_reducible repeat (first | apply Kd.N_alloc | apply Kd.N_drewN | apply Kd.N_drew)); exact HO173.out) (fun k_ hk_ => (⟨hk_, hk_.1.2.2.2.2⟩ : _ ∧ k_ ≠ g))) hk (fun _ h => h.2)) (fun _ h => h.1)); have n4_ := Aside0.mk (KeepBut.blk hk (g' := gb175) (o := .cells #[.int .i64 t167, .slice Ao19 t168.length co19, .slice Ao20 t171.length co20] 25 (0, 0)) (by (with_reducible repeat (first | refine blk_drewN ?_ _ | refine blk_drew ?_ | refine blk_alloc ?_ _)); exact BK175.out) NB175_0.out (by simp)); have n5_ := Aside0.mk (KeepBut.trans (by repeat (first | (with_reducible first | exact HK.out | apply KeepBut.set_ | apply keep_drewN | apply keep_drew | apply keep_alloc | refine keep_far ?_ GW155.out _ | refine keep_far ?_ GW175.out _) | exact HK.out)) hk (.inl rfl)); have n6_ := Aside0.mk (hb); have n7_ := Aside0.mk (hi); clear BK155; clear HO164; clear HO170; clear HO173; clear BK175; clear HK; clear HB; clear HI0; have BK155 := n0_; have HO164 := n1_; have HO170 := n2_; have HO173 := n3_; have BK175 := n4_; have HK := n5_; have HB := n6_; have HI0 := n7_; clear n0_ n1_ n2_ n3_ n4_ n5_ n6_ n7_; (try clear hb); (try clear hb2); (try clear hk); (try clear hi)))
  (try simp only [Act.put, List.setIfInBounds_toArray, List.set_cons_zero, List.set_cons_succ])
  go_cut [5] (fun v5 wc => ∃ (kq : Nat) (x5_7 : Int) (x1001_7 : Int) (x1002_7 : Int), v5 = .int .i64 x5_7 ∧ Aside0 (spec_l1DrawDevice.j0 kq x5_7 s0_0 x1001_7 x1002_7 t167 t168 t171 = some (r1, r2, r3, r4, r5)) ∧ Aside0 (kq ≤ k) ∧ Aside0 (Kd.Q (Kd.int .u8) 5 wc w.heap.size (fun k_ => (w.heap.size ≤ k_)) (.slice Ao19 t168.length co19) t168) ∧ Aside0 (Kd.N k32 32 wc w.heap.size (fun k_ => (w.heap.size ≤ k_) ∧ some k_ ≠ ((.slice Ao19 t168.length co19) : Value).ownBlock ∧ k_ ≠ gb155 ∧ k_ ≠ gb175 ∧ k_ ≠ g) (.slice Ao20 t171.length co20) t171) ∧ Aside0 (wc.heap[gb155]? = some (.cells #[.int .i64 0, (.slice none 0 0), (.slice none 0 0)] 25 (0, 0))) ∧ Aside0 (wc.heap[gb175]? = some (.cells #[.int .i64 t167, (.slice Ao19 t168.length co19), (.slice Ao20 t171.length co20)] 25 (0, 0))) ∧ Aside0 (IsS45 w0 wc g s0_0 x1001_7 x1002_7) ∧ Aside0 (KeepBut w wc g none) ∧ Aside0 (Below w0.heap.size w0 wc))
  case first =>
    have H := HC8.out
    clear HC8
    by_cases c23 : t179 = 0
    · rw [if_pos c23] at H
      have c23b0 : (t179 == 0) = true := beq_iff_eq.mpr c23
      have c23b1 : (t179 != 0) = false := bne_eq_false_iff_eq.mpr c23
      clear c23
      (first | rw [c23b0] | (simp only [i64_w, i32_w]; rw [c23b0]) | skip)
      replace H := Option.bind_eq_some_iff.mp H
      obtain ⟨⟨t182, t183, t184⟩, A240, H⟩ := H
      replace H : (spec_l1DrawDevice.j0 k (wrap64 (2048 - t182)) s0_0 t183 t184 t167 t168 t171) = some (r1, r2, r3, r4, r5) := H
      have A24 := Aside0.mk A240
      clear A240
      have H' := Aside0.mk H
      clear H
      go_wp2_with (first | ((with_reducible refine gate_callee (f := 15) rfl ?_); refine goesL_ (some 26) rfl rfl Try.func15 (by kernel_rfl) rfl #[.pointer (some ⟨g, 0, none⟩), .int .i64 2] rfl (by (try simp only [List.map_toArray, List.map_cons, List.map_nil]); first | done | rfl | (simp only [List.length_drop, List.length_take]; rfl)) ?_; (with_reducible refine (spec_l1Next.calls g s0_0 t180 t181 2 t182 t183 t184 w0 _ ?side1 ?side2 A24.out).mono ?_); (case side1 => repeat (first | (with_reducible first | exact HI0.out | apply IsS45.alloc | apply IsS45.drewN | apply IsS45.drew | apply IsS45.set_1 | apply IsS45.set_2 | refine IsS45.far ?_ NB0_155.out _ | refine IsS45.far ?_ NB0_175.out _) | exact HI0.out)); (case side2 => repeat (first | (with_reducible first | exact HB.out | apply below_alloc | apply pw_below_drewN | apply below_drew1 | refine below_set ?_ (IsS45.ge HI0.out) | refine below_set ?_ GE155.out | refine below_set ?_ GE175.out) | exact HB.out)); rintro e w25 ⟨rfl, hi, hb, hk⟩; refine ⟨_, rfl, ?_⟩; have n0_ := Aside0.mk (KeepBut.blk hk (g' := gb155) (o := .cells #[.int .i64 0, .slice none 0 0, .slice none 0 0] 25 (0, 0)) (by (with_reducible repeat (first | refine blk_drewN ?_ _ | refine blk_drew ?_ | refine blk_alloc ?_ _)); exact BK155.out) NB155_0.out (by simp)); have n1_ := Aside0.mk (Kd.R_mono (Kd.R_keep (IsS45.apart (show IsS45 w0 _ g s0_0 t180 t181 from by repeat (first | (with_reducible first | exact HI0.out | apply IsS45.alloc | apply IsS45.drewN | apply IsS45.drew | apply IsS45.set_1 | apply IsS45.set_2 | refine IsS45.far ?_ NB0_155.out _ | refine IsS45.far ?_ NB0_175.out _) | exact HI0.out)) (by (with_reducible repeat (first | apply Kd.R_alloc | apply Kd.R_drewN | apply Kd.R_drew)); exact HO164.out) (by decide)) hk (fun _ h => h.2)) (fun _ h => h.1)); have n2_ := Aside0.mk (Kd.R_mono (Kd.R_keep (IsS45.apart (show IsS45 w0 _ g s0_0 t180 t181 from by repeat (first | (with_reducible first | exact HI0.out | apply IsS45.alloc | apply IsS45.drewN | apply IsS45.drew | apply IsS45.set_1 | apply IsS45.set_2 | refine IsS45.far ?_ NB0_155.out _ | refine IsS45.far ?_ NB0_175.out _) | exact HI0.out)) (by (with_reducible repeat (first | apply Kd.R_alloc | apply Kd.R_drewN | apply Kd.R_drew)); exact HO170.out) (by decide)) hk (fun _ h => h.2)) (fun _ h => h.1)); have n3_ := Aside0.mk (Kd.N_mono (Kd.N_keep (Kd.N_mono (ok := fun k_ => ((((w.heap.size ≤ k_)) ∧ (some k_ ≠ (.slice Ao19 t168.length co19 : Value).ownBlock ∧ (some k_ ≠ (.slice Ao13 t162.length co13 : Value).ownBlock ∧ (k_ ≠ gb155 ∧ k_ ≠ g)))) ∧ k_ ≠ gb175)) (by (with_reducible repeat (first | apply Kd.N_alloc | apply Kd.N_drewN | apply Kd.N_drew)); exact HO173.out) (fun k_ hk_ => (⟨hk_, hk_.1.2.2.2.2⟩ : _ ∧ k_ ≠ g))) hk (fun _ h => h.2)) (fun _ h => h.1)); have n4_ := Aside0.mk (KeepBut.blk hk (g' := gb175) (o := .cells #[.int .i64 t167, .slice Ao19 t168.length co19, .slice Ao20 t171.length co20] 25 (0, 0)) (by (with_reducible repeat (first | refine blk_drewN ?_ _ | refine blk_drew ?_ | refine blk_alloc ?_ _)); exact BK175.out) NB175_0.out (by simp)); have n5_ := Aside0.mk (KeepBut.trans (by repeat (first | (with_reducible first | exact HK.out | apply KeepBut.set_ | apply keep_drewN | apply keep_drew | apply keep_alloc | refine keep_far ?_ GW155.out _ | refine keep_far ?_ GW175.out _) | exact HK.out)) hk (.inl rfl)); have n6_ := Aside0.mk (hb); have n7_ := Aside0.mk (hi); clear BK155; clear HO164; clear HO170; clear HO173; clear BK175; clear HK; clear HB; clear HI0; have BK155 := n0_; have HO164 := n1_; have HO170 := n2_; have HO173 := n3_; have BK175 := n4_; have HK := n5_; have HB := n6_; have HI0 := n7_; clear n0_ n1_ n2_ n3_ n4_ n5_ n6_ n7_; (try clear hb); (try clear hb2); (try clear hk); (try clear hi)))
      go_meet
      case rel => exact ⟨_, (wrap64 (2048 - t182)), (t183), (t184), (by first | rfl | (simp; done) | (simp [*]; done)), H', ⟨by first | omega | exact Nat.le_refl _⟩, ⟨Kd.Q_of_R (by (with_reducible repeat (first | apply Kd.R_alloc | apply Kd.R_drewN | apply Kd.R_drew)); exact Kd.R_mono HO170.out (fun _ hk => hk.1.1))⟩, ⟨by (with_reducible repeat (first | apply Kd.N_alloc | apply Kd.N_drewN | apply Kd.N_drew)); exact Kd.N_mono HO173.out (fun _ hk => ⟨hk.1.1, ⟨hk.1.2.1, ⟨hk.1.2.2.2.1, ⟨hk.2, hk.1.2.2.2.2⟩⟩⟩⟩)⟩, ⟨by (with_reducible repeat (first | refine blk_drewN ?_ _ | refine blk_drew ?_ | refine blk_alloc ?_ _)); exact BK155.out⟩, ⟨by (with_reducible repeat (first | refine blk_drewN ?_ _ | refine blk_drew ?_ | refine blk_alloc ?_ _)); exact BK175.out⟩, ⟨by repeat (first | (with_reducible first | exact HI0.out | apply IsS45.alloc | apply IsS45.drewN | apply IsS45.drew | apply IsS45.set_1 | apply IsS45.set_2 | refine IsS45.far ?_ NB0_155.out _ | refine IsS45.far ?_ NB0_175.out _) | exact HI0.out)⟩, ⟨by repeat (first | (with_reducible first | exact HK.out | apply KeepBut.set_ | apply keep_drewN | apply keep_drew | apply keep_alloc | refine keep_far ?_ GW155.out _ | refine keep_far ?_ GW175.out _) | exact HK.out)⟩, ⟨by repeat (first | (with_reducible first | exact HB.out | apply below_alloc | apply pw_below_drewN | apply below_drew1 | refine below_set ?_ (IsS45.ge HI0.out) | refine below_set ?_ GE155.out | refine below_set ?_ GE175.out) | exact HB.out)⟩⟩
    · rw [if_neg c23] at H
      have c23b0 : (t179 == 0) = false := beq_eq_false_iff_ne.mpr c23
      have c23b1 : (t179 != 0) = true := bne_iff_ne.mpr c23
      (first | rw [c23b0] | (simp only [i64_w, i32_w]; rw [c23b0]) | skip)
      have H' := Aside0.mk H
      clear H
      go_wp2
      go_meet
      case rel => exact ⟨_, (t176), (t180), (t181), (by first | rfl | (simp; done) | (simp [*]; done)), H', ⟨by first | omega | exact Nat.le_refl _⟩, ⟨Kd.Q_of_R (by (with_reducible repeat (first | apply Kd.R_alloc | apply Kd.R_drewN | apply Kd.R_drew)); exact Kd.R_mono HO170.out (fun _ hk => hk.1.1))⟩, ⟨by (with_reducible repeat (first | apply Kd.N_alloc | apply Kd.N_drewN | apply Kd.N_drew)); exact Kd.N_mono HO173.out (fun _ hk => ⟨hk.1.1, ⟨hk.1.2.1, ⟨hk.1.2.2.2.1, ⟨hk.2, hk.1.2.2.2.2⟩⟩⟩⟩)⟩, ⟨by (with_reducible repeat (first | refine blk_drewN ?_ _ | refine blk_drew ?_ | refine blk_alloc ?_ _)); exact BK155.out⟩, ⟨by (with_reducible repeat (first | refine blk_drewN ?_ _ | refine blk_drew ?_ | refine blk_alloc ?_ _)); exact BK175.out⟩, ⟨by repeat (first | (with_reducible first | exact HI0.out | apply IsS45.alloc | apply IsS45.drewN | apply IsS45.drew | apply IsS45.set_1 | apply IsS45.set_2 | refine IsS45.far ?_ NB0_155.out _ | refine IsS45.far ?_ NB0_175.out _) | exact HI0.out)⟩, ⟨by repeat (first | (with_reducible first | exact HK.out | apply KeepBut.set_ | apply keep_drewN | apply keep_drew | apply keep_alloc | refine keep_far ?_ GW155.out _ | refine keep_far ?_ GW175.out _) | exact HK.out)⟩, ⟨by repeat (first | (with_reducible first | exact HB.out | apply below_alloc | apply pw_below_drewN | apply below_drew1 | refine below_set ?_ (IsS45.ge HI0.out) | refine below_set ?_ GE155.out | refine below_set ?_ GE175.out) | exact HB.out)⟩⟩
  case rest =>
    clear HC8
    try clear c1
    try clear c2
    try clear p2
    try clear p6
    try clear c13
    try clear c15
    try clear c16
    try clear c17
    try clear c23
    try clear c23b0
    try clear c23b1
    try clear hcz18_0
    try clear hcz18_1
    try clear hcz18_2
    try clear hfz18_0
    try clear hfz18_1
    try clear hfz18_2
    obtain ⟨kq, x5_7, x1001_7, x1002_7, rfl, HA, HJ7, HO_176001, HO_176002, BK155, BK175, HI0, HK, HB⟩ := hcut
    cases kq with
    | zero => exact absurd HA.out (by simp [spec_l1DrawDevice.j0])
    | succ kj7 =>
      have H := HA.out
      clear HA
      simp only [spec_l1DrawDevice.j0] at H
      replace H := Option.bind_eq_some_iff.mp H
      obtain ⟨⟨t185, t188, t189⟩, A260, H⟩ := H
      replace H : (spec_l1DrawDevice.l0 kj7 x5_7 t185 0 s0_0 t188 t189 t167 t168 t171) = some (r1, r2, r3, r4, r5) := H
      have A26 := Aside0.mk A260
      clear A260
      have H' := Aside0.mk H
      clear H
      go_wp2_with (first | ((with_reducible refine gate_callee (f := 14) rfl ?_); refine goesL_ (some 29) rfl rfl Try.func14 (by kernel_rfl) rfl #[.pointer (some ⟨g, 0, none⟩)] rfl (by (try simp only [List.map_toArray, List.map_cons, List.map_nil]); first | done | rfl | (simp only [List.length_drop, List.length_take]; rfl)) ?_; (with_reducible refine (spec_l1DrawBlock.calls kj7 g s0_0 x1001_7 x1002_7 t185 t188 t189 w0 _ ?side1 ?side2 A26.out).mono ?_); (case side1 => repeat (first | (with_reducible first | exact HI0.out | apply IsS45.alloc | apply IsS45.drewN | apply IsS45.drew | apply IsS45.set_1 | apply IsS45.set_2 | refine IsS45.far ?_ NB0_155.out _ | refine IsS45.far ?_ NB0_175.out _) | exact HI0.out)); (case side2 => repeat (first | (with_reducible first | exact HB.out | apply below_alloc | apply pw_below_drewN | apply below_drew1 | refine below_set ?_ (IsS45.ge HI0.out) | refine below_set ?_ GE155.out | refine below_set ?_ GE175.out) | exact HB.out)); rintro e w27 ⟨v186, rfl, ho0, hi, hb, hk⟩; refine ⟨_, rfl, ?_⟩; have n0_ := Aside0.mk (Kd.Q_mono (Kd.Q_told (Kd.Q_oldK (IsS45.apartQ (show IsS45 w0 _ g s0_0 x1001_7 x1002_7 from by repeat (first | (with_reducible first | exact HI0.out | apply IsS45.alloc | apply IsS45.drewN | apply IsS45.drew | apply IsS45.set_1 | apply IsS45.set_2 | refine IsS45.far ?_ NB0_155.out _ | refine IsS45.far ?_ NB0_175.out _) | exact HI0.out)) (by (with_reducible repeat (first | apply Kd.Q_alloc | apply Kd.Q_drewN | apply Kd.Q_drew)); exact HO_176001.out) (by decide)) hk) (Kd.R_base ho0)) (fun _ h_ => h_.1)); have n1_ := Aside0.mk (Kd.N_mono (Kd.N_told (Kd.N_oldK (Kd.N_mono (ok := fun k_ => (((w.heap.size ≤ k_)) ∧ (some k_ ≠ (.slice Ao19 t168.length co19 : Value).ownBlock ∧ (k_ ≠ gb155 ∧ (k_ ≠ gb175 ∧ k_ ≠ g))))) (by (with_reducible repeat (first | apply Kd.N_alloc | apply Kd.N_drewN | apply Kd.N_drew)); exact HO_176002.out) (fun k_ hk_ => (⟨hk_, hk_.2.2.2.2⟩ : _ ∧ k_ ≠ g))) hk) (Kd.R_base ho0)) (fun _ h_ => h_.1)); have n2_ := Aside0.mk (KeepBut.blk hk (g' := gb155) (o := .cells #[.int .i64 0, .slice none 0 0, .slice none 0 0] 25 (0, 0)) (by (with_reducible repeat (first | refine blk_drewN ?_ _ | refine blk_drew ?_ | refine blk_alloc ?_ _)); exact BK155.out) NB155_0.out (by simp)); have n3_ := Aside0.mk (KeepBut.blk hk (g' := gb175) (o := .cells #[.int .i64 t167, .slice Ao19 t168.length co19, .slice Ao20 t171.length co20] 25 (0, 0)) (by (with_reducible repeat (first | refine blk_drewN ?_ _ | refine blk_drew ?_ | refine blk_alloc ?_ _)); exact BK175.out) NB175_0.out (by simp)); have n4_ := Aside0.mk (Kd.R_lower (Kd.R_new' (Kd.R_newM (M := fun k_ => (w.heap.size ≤ k_)) ho0 (keep_size (w := w) (g := g) (row := none) (by repeat (first | (with_reducible first | exact HK.out | apply KeepBut.set_ | apply keep_drewN | apply keep_drew | apply keep_alloc | refine keep_far ?_ GW155.out _ | refine keep_far ?_ GW175.out _) | exact HK.out))) (fun k_ h_ => h_)) (Kd.Q_lt (by (with_reducible repeat (first | apply Kd.Q_alloc | apply Kd.Q_drewN | apply Kd.Q_drew)); exact HO_176001.out))) (keep_size (w := w) (g := g) (row := none) (by repeat (first | (with_reducible first | exact HK.out | apply KeepBut.set_ | apply keep_drewN | apply keep_drew | apply keep_alloc | refine keep_far ?_ GW155.out _ | refine keep_far ?_ GW175.out _) | exact HK.out)))); have n5_ := Aside0.mk (KeepBut.trans (by repeat (first | (with_reducible first | exact HK.out | apply KeepBut.set_ | apply keep_drewN | apply keep_drew | apply keep_alloc | refine keep_far ?_ GW155.out _ | refine keep_far ?_ GW175.out _) | exact HK.out)) hk (.inl rfl)); have n6_ := Aside0.mk (hb); have n7_ := Aside0.mk (hi); clear HO_176001; clear HO_176002; clear BK155; clear BK175; clear HK; clear HB; clear HI0; have HO_176001 := n0_; have HO_176002 := n1_; have BK155 := n2_; have BK175 := n3_; have HO187 := n4_; have HK := n5_; have HB := n6_; have HI0 := n7_; clear n0_ n1_ n2_ n3_ n4_ n5_ n6_ n7_; (try clear hb); (try clear hb2); (try clear hk); (try clear hi); (try clear ho0)))
      go_loopg [6, 7] kj7 (fun kq v6 v7 w' => ∃ (x6_2 : List Int) (x7_2 : Int) (x1001_2 : Int) (x1002_2 : Int) (x176002_2 : List (S32)) (u176002 : Value), v7 = .int .i64 x7_2 ∧ Aside0 (spec_l1DrawDevice.l0 kq x5_7 x6_2 x7_2 s0_0 x1001_2 x1002_2 t167 t168 x176002_2 = some (r1, r2, r3, r4, r5)) ∧ Aside0 (kq ≤ kj7) ∧ Aside0 (Kd.R (Kd.int .u8) 5 w' w.heap.size (fun k_ => (w.heap.size ≤ k_) ∧ some k_ ≠ ((.slice Ao19 t168.length co19) : Value).ownBlock) v6 x6_2) ∧ Aside0 (Kd.Q (Kd.int .u8) 5 w' w.heap.size (fun k_ => (w.heap.size ≤ k_) ∧ some k_ ≠ (v6 : Value).ownBlock) (.slice Ao19 t168.length co19) t168) ∧ Aside0 (Kd.N k32 32 w' w.heap.size (fun k_ => (w.heap.size ≤ k_) ∧ some k_ ≠ (v6 : Value).ownBlock ∧ some k_ ≠ ((.slice Ao19 t168.length co19) : Value).ownBlock ∧ k_ ≠ gb155 ∧ k_ ≠ gb175 ∧ k_ ≠ g) u176002 x176002_2) ∧ Aside0 (w'.heap[gb155]? = some (.cells #[.int .i64 0, (.slice none 0 0), (.slice none 0 0)] 25 (0, 0))) ∧ Aside0 (w'.heap[gb175]? = some (.cells #[.int .i64 t167, (.slice Ao19 t168.length co19), u176002] 25 (0, 0))) ∧ Aside0 (IsS45 w0 w' g s0_0 x1001_2 x1002_2) ∧ Aside0 (KeepBut w w' g none) ∧ Aside0 (Below w0.heap.size w0 w'))
      case atStart => exact ⟨(t185), (0), (t188), (t189), (t171), (.slice Ao20 t171.length co20), (by first | rfl | (simp; done) | (simp [*]; done)), H', ⟨Nat.le_refl _⟩, ⟨by (with_reducible repeat (first | apply Kd.R_alloc | apply Kd.R_drewN | apply Kd.R_drew)); exact Kd.R_mono HO187.out (fun _ hk => ⟨hk.1.1, hk.2⟩)⟩, ⟨by (with_reducible repeat (first | apply Kd.Q_alloc | apply Kd.Q_drewN | apply Kd.Q_drew)); exact HO_176001.out⟩, ⟨by (with_reducible repeat (first | apply Kd.N_alloc | apply Kd.N_drewN | apply Kd.N_drew)); exact Kd.N_mono HO_176002.out (fun _ hk => ⟨hk.1.1, ⟨hk.2, ⟨hk.1.2.1, ⟨hk.1.2.2.1, ⟨hk.1.2.2.2.1, hk.1.2.2.2.2⟩⟩⟩⟩⟩)⟩, ⟨by (with_reducible repeat (first | refine blk_drewN ?_ _ | refine blk_drew ?_ | refine blk_alloc ?_ _)); exact BK155.out⟩, ⟨by (with_reducible repeat (first | refine blk_drewN ?_ _ | refine blk_drew ?_ | refine blk_alloc ?_ _)); exact BK175.out⟩, ⟨by repeat (first | (with_reducible first | exact HI0.out | apply IsS45.alloc | apply IsS45.drewN | apply IsS45.drew | apply IsS45.set_1 | apply IsS45.set_2 | refine IsS45.far ?_ NB0_155.out _ | refine IsS45.far ?_ NB0_175.out _) | exact HI0.out)⟩, ⟨by repeat (first | (with_reducible first | exact HK.out | apply KeepBut.set_ | apply keep_drewN | apply keep_drew | apply keep_alloc | refine keep_far ?_ GW155.out _ | refine keep_far ?_ GW175.out _) | exact HK.out)⟩, ⟨by repeat (first | (with_reducible first | exact HB.out | apply below_alloc | apply pw_below_drewN | apply below_drew1 | refine below_set ?_ (IsS45.ge HI0.out) | refine below_set ?_ GE155.out | refine below_set ?_ GE175.out) | exact HB.out)⟩⟩
      case round =>
        clear H'
        try clear c1
        try clear c2
        try clear p2
        try clear p6
        try clear c13
        try clear c14
        try clear c15
        try clear c16
        try clear c17
        try clear c23
        try clear c23b0
        try clear c23b1
        try clear c27
        try clear hcz18_0
        try clear hcz18_1
        try clear hcz18_2
        try clear hfz18_0
        try clear hfz18_1
        try clear hfz18_2
        try clear p2
        try clear p6
        obtain ⟨x6_2, x7_2, x1001_2, x1002_2, x176002_2, u176002, rfl, HA, HK2, HO_6, HO_176001, HO_176002, BK155, BK175, HI0, HK, HB⟩ := hrel
        cases gk with
        | zero => exact absurd HA.out (by simp [spec_l1DrawDevice.l0])
        | succ k2 =>
          have H := HA.out
          clear HA
          simp only [spec_l1DrawDevice.l0] at H
          by_cases c28 : x7_2 < x5_7
          · rw [if_pos c28] at H
            have c28b0 : decide (x7_2 < x5_7) = true := decide_eq_true c28
            clear c28
            have HC29 := Aside0.mk H
            clear H
            go_upto_if 36 with (fail)
            go_cut [6] (fun v6 wc => ∃ (kq : Nat) (x6_28 : List Int) (x1001_28 : Int) (x1002_28 : Int), Aside0 (spec_l1DrawDevice.j2 kq x5_7 x6_28 x7_2 s0_0 x1001_28 x1002_28 t167 t168 x176002_2 = some (r1, r2, r3, r4, r5)) ∧ Aside0 (kq ≤ k2) ∧ Aside0 (Kd.R (Kd.int .u8) 5 wc w.heap.size (fun k_ => (w.heap.size ≤ k_) ∧ some k_ ≠ ((.slice Ao19 t168.length co19) : Value).ownBlock) v6 x6_28) ∧ Aside0 (Kd.Q (Kd.int .u8) 5 wc w.heap.size (fun k_ => (w.heap.size ≤ k_) ∧ some k_ ≠ (v6 : Value).ownBlock) (.slice Ao19 t168.length co19) t168) ∧ Aside0 (Kd.N k32 32 wc w.heap.size (fun k_ => (w.heap.size ≤ k_) ∧ some k_ ≠ (v6 : Value).ownBlock ∧ some k_ ≠ ((.slice Ao19 t168.length co19) : Value).ownBlock ∧ k_ ≠ gb155 ∧ k_ ≠ gb175 ∧ k_ ≠ g) u176002 x176002_2) ∧ Aside0 (wc.heap[gb155]? = some (.cells #[.int .i64 0, (.slice none 0 0), (.slice none 0 0)] 25 (0, 0))) ∧ Aside0 (wc.heap[gb175]? = some (.cells #[.int .i64 t167, (.slice Ao19 t168.length co19), u176002] 25 (0, 0))) ∧ Aside0 (IsS45 w0 wc g s0_0 x1001_28 x1002_28) ∧ Aside0 (KeepBut w wc g none) ∧ Aside0 (Below w0.heap.size w0 wc))
            case first =>
              have H := HC29.out
              clear HC29
              by_cases c30 : x7_2 < 14
              · rw [if_pos c30] at H
                have c30b0 : decide (x7_2 < 14) = true := decide_eq_true c30
                clear c30
                (first | rw [c30b0] | (simp only [i64_w, i32_w]; rw [c30b0]) | skip)
                replace H := Option.bind_eq_some_iff.mp H
                obtain ⟨⟨t190, t193, t194⟩, A310, H⟩ := H
                replace H : (spec_l1DrawDevice.j2 k2 x5_7 t190 x7_2 s0_0 t193 t194 t167 t168 x176002_2) = some (r1, r2, r3, r4, r5) := H
                have A31 := Aside0.mk A310
                clear A310
                have H' := Aside0.mk H
                clear H
                go_wp2_with (first | ((with_reducible refine gate_callee (f := 14) rfl ?_); refine goesL_ (some 38) rfl rfl Try.func14 (by kernel_rfl) rfl #[.pointer (some ⟨g, 0, none⟩)] rfl (by (try simp only [List.map_toArray, List.map_cons, List.map_nil]); first | done | rfl | (simp only [List.length_drop, List.length_take]; rfl)) ?_; (with_reducible refine (spec_l1DrawBlock.calls k2 g s0_0 x1001_2 x1002_2 t190 t193 t194 w0 _ ?side1 ?side2 A31.out).mono ?_); (case side1 => repeat (first | (with_reducible first | exact HI0.out | apply IsS45.alloc | apply IsS45.drewN | apply IsS45.drew | apply IsS45.set_1 | apply IsS45.set_2 | refine IsS45.far ?_ NB0_155.out _ | refine IsS45.far ?_ NB0_175.out _) | exact HI0.out)); (case side2 => repeat (first | (with_reducible first | exact HB.out | apply below_alloc | apply pw_below_drewN | apply below_drew1 | refine below_set ?_ (IsS45.ge HI0.out) | refine below_set ?_ GE155.out | refine below_set ?_ GE175.out) | exact HB.out)); rintro e w32 ⟨v191, rfl, ho0, hi, hb, hk⟩; refine ⟨_, rfl, ?_⟩; have n0_ := Aside0.mk (Kd.R_mono (Kd.R_told (Kd.R_oldK (IsS45.apart (show IsS45 w0 _ g s0_0 x1001_2 x1002_2 from by repeat (first | (with_reducible first | exact HI0.out | apply IsS45.alloc | apply IsS45.drewN | apply IsS45.drew | apply IsS45.set_1 | apply IsS45.set_2 | refine IsS45.far ?_ NB0_155.out _ | refine IsS45.far ?_ NB0_175.out _) | exact HI0.out)) (by (with_reducible repeat (first | apply Kd.R_alloc | apply Kd.R_drewN | apply Kd.R_drew)); exact HO_6.out) (by decide)) hk) (Kd.R_base ho0)) (fun _ h_ => h_.1)); have n1_ := Aside0.mk (Kd.Q_mono (Kd.Q_told (Kd.Q_oldK (IsS45.apartQ (show IsS45 w0 _ g s0_0 x1001_2 x1002_2 from by repeat (first | (with_reducible first | exact HI0.out | apply IsS45.alloc | apply IsS45.drewN | apply IsS45.drew | apply IsS45.set_1 | apply IsS45.set_2 | refine IsS45.far ?_ NB0_155.out _ | refine IsS45.far ?_ NB0_175.out _) | exact HI0.out)) (by (with_reducible repeat (first | apply Kd.Q_alloc | apply Kd.Q_drewN | apply Kd.Q_drew)); exact HO_176001.out) (by decide)) hk) (Kd.R_base ho0)) (fun _ h_ => h_.1)); have n2_ := Aside0.mk (Kd.N_mono (Kd.N_told (Kd.N_oldK (Kd.N_mono (ok := fun k_ => (((w.heap.size ≤ k_)) ∧ (some k_ ≠ (u6 : Value).ownBlock ∧ (some k_ ≠ (.slice Ao19 t168.length co19 : Value).ownBlock ∧ (k_ ≠ gb155 ∧ (k_ ≠ gb175 ∧ k_ ≠ g)))))) (by (with_reducible repeat (first | apply Kd.N_alloc | apply Kd.N_drewN | apply Kd.N_drew)); exact HO_176002.out) (fun k_ hk_ => (⟨hk_, hk_.2.2.2.2.2⟩ : _ ∧ k_ ≠ g))) hk) (Kd.R_base ho0)) (fun _ h_ => h_.1)); have n3_ := Aside0.mk (KeepBut.blk hk (g' := gb155) (o := .cells #[.int .i64 0, .slice none 0 0, .slice none 0 0] 25 (0, 0)) (by (with_reducible repeat (first | refine blk_drewN ?_ _ | refine blk_drew ?_ | refine blk_alloc ?_ _)); exact BK155.out) NB155_0.out (by simp)); have n4_ := Aside0.mk (KeepBut.blk hk (g' := gb175) (o := .cells #[.int .i64 t167, .slice Ao19 t168.length co19, u176002] 25 (0, 0)) (by (with_reducible repeat (first | refine blk_drewN ?_ _ | refine blk_drew ?_ | refine blk_alloc ?_ _)); exact BK175.out) NB175_0.out (by simp)); have n5_ := Aside0.mk (Kd.R_lower (Kd.R_new' (Kd.R_new' (Kd.R_newM (M := fun k_ => (w.heap.size ≤ k_)) ho0 (keep_size (w := w) (g := g) (row := none) (by repeat (first | (with_reducible first | exact HK.out | apply KeepBut.set_ | apply keep_drewN | apply keep_drew | apply keep_alloc | refine keep_far ?_ GW155.out _ | refine keep_far ?_ GW175.out _) | exact HK.out))) (fun k_ h_ => h_)) (Kd.R_lt (by (with_reducible repeat (first | apply Kd.R_alloc | apply Kd.R_drewN | apply Kd.R_drew)); exact HO_6.out))) (Kd.Q_lt (by (with_reducible repeat (first | apply Kd.Q_alloc | apply Kd.Q_drewN | apply Kd.Q_drew)); exact HO_176001.out))) (keep_size (w := w) (g := g) (row := none) (by repeat (first | (with_reducible first | exact HK.out | apply KeepBut.set_ | apply keep_drewN | apply keep_drew | apply keep_alloc | refine keep_far ?_ GW155.out _ | refine keep_far ?_ GW175.out _) | exact HK.out)))); have n6_ := Aside0.mk (KeepBut.trans (by repeat (first | (with_reducible first | exact HK.out | apply KeepBut.set_ | apply keep_drewN | apply keep_drew | apply keep_alloc | refine keep_far ?_ GW155.out _ | refine keep_far ?_ GW175.out _) | exact HK.out)) hk (.inl rfl)); have n7_ := Aside0.mk (hb); have n8_ := Aside0.mk (hi); clear HO_6; clear HO_176001; clear HO_176002; clear BK155; clear BK175; clear HK; clear HB; clear HI0; have HO_6 := n0_; have HO_176001 := n1_; have HO_176002 := n2_; have BK155 := n3_; have BK175 := n4_; have HO192 := n5_; have HK := n6_; have HB := n7_; have HI0 := n8_; clear n0_ n1_ n2_ n3_ n4_ n5_ n6_ n7_ n8_; (try clear hb); (try clear hb2); (try clear hk); (try clear hi); (try clear ho0)))
                go_meet
                case rel => exact ⟨_, (t190), (t193), (t194), H', ⟨by have := HJ7.out; have := HK2.out; first | omega | exact Nat.le_refl _⟩, ⟨by (with_reducible repeat (first | apply Kd.R_alloc | apply Kd.R_drewN | apply Kd.R_drew)); exact Kd.R_mono HO192.out (fun _ hk => ⟨hk.1.1.1, hk.2⟩)⟩, ⟨by (with_reducible repeat (first | apply Kd.Q_alloc | apply Kd.Q_drewN | apply Kd.Q_drew)); exact Kd.Q_mono HO_176001.out (fun _ hk => ⟨hk.1.1, hk.2⟩)⟩, ⟨by (with_reducible repeat (first | apply Kd.N_alloc | apply Kd.N_drewN | apply Kd.N_drew)); exact Kd.N_mono HO_176002.out (fun _ hk => ⟨hk.1.1, ⟨hk.2, ⟨hk.1.2.2.1, ⟨hk.1.2.2.2.1, ⟨hk.1.2.2.2.2.1, hk.1.2.2.2.2.2⟩⟩⟩⟩⟩)⟩, ⟨by (with_reducible repeat (first | refine blk_drewN ?_ _ | refine blk_drew ?_ | refine blk_alloc ?_ _)); exact BK155.out⟩, ⟨by (with_reducible repeat (first | refine blk_drewN ?_ _ | refine blk_drew ?_ | refine blk_alloc ?_ _)); exact BK175.out⟩, ⟨by repeat (first | (with_reducible first | exact HI0.out | apply IsS45.alloc | apply IsS45.drewN | apply IsS45.drew | apply IsS45.set_1 | apply IsS45.set_2 | refine IsS45.far ?_ NB0_155.out _ | refine IsS45.far ?_ NB0_175.out _) | exact HI0.out)⟩, ⟨by repeat (first | (with_reducible first | exact HK.out | apply KeepBut.set_ | apply keep_drewN | apply keep_drew | apply keep_alloc | refine keep_far ?_ GW155.out _ | refine keep_far ?_ GW175.out _) | exact HK.out)⟩, ⟨by repeat (first | (with_reducible first | exact HB.out | apply below_alloc | apply pw_below_drewN | apply below_drew1 | refine below_set ?_ (IsS45.ge HI0.out) | refine below_set ?_ GE155.out | refine below_set ?_ GE175.out) | exact HB.out)⟩⟩
              · rw [if_neg c30] at H
                have c30b0 : decide (x7_2 < 14) = false := decide_eq_false c30
                clear c30
                (first | rw [c30b0] | (simp only [i64_w, i32_w]; rw [c30b0]) | skip)
                have H' := Aside0.mk H
                clear H
                go_wp2
                go_meet
                case rel => exact ⟨_, (x6_2), (x1001_2), (x1002_2), H', ⟨by have := HJ7.out; have := HK2.out; first | omega | exact Nat.le_refl _⟩, ⟨by (with_reducible repeat (first | apply Kd.R_alloc | apply Kd.R_drewN | apply Kd.R_drew)); exact HO_6.out⟩, ⟨by (with_reducible repeat (first | apply Kd.Q_alloc | apply Kd.Q_drewN | apply Kd.Q_drew)); exact HO_176001.out⟩, ⟨by (with_reducible repeat (first | apply Kd.N_alloc | apply Kd.N_drewN | apply Kd.N_drew)); exact HO_176002.out⟩, ⟨by (with_reducible repeat (first | refine blk_drewN ?_ _ | refine blk_drew ?_ | refine blk_alloc ?_ _)); exact BK155.out⟩, ⟨by (with_reducible repeat (first | refine blk_drewN ?_ _ | refine blk_drew ?_ | refine blk_alloc ?_ _)); exact BK175.out⟩, ⟨by repeat (first | (with_reducible first | exact HI0.out | apply IsS45.alloc | apply IsS45.drewN | apply IsS45.drew | apply IsS45.set_1 | apply IsS45.set_2 | refine IsS45.far ?_ NB0_155.out _ | refine IsS45.far ?_ NB0_175.out _) | exact HI0.out)⟩, ⟨by repeat (first | (with_reducible first | exact HK.out | apply KeepBut.set_ | apply keep_drewN | apply keep_drew | apply keep_alloc | refine keep_far ?_ GW155.out _ | refine keep_far ?_ GW175.out _) | exact HK.out)⟩, ⟨by repeat (first | (with_reducible first | exact HB.out | apply below_alloc | apply pw_below_drewN | apply below_drew1 | refine below_set ?_ (IsS45.ge HI0.out) | refine below_set ?_ GE155.out | refine below_set ?_ GE175.out) | exact HB.out)⟩⟩
            case rest =>
              clear HC29
              try clear c1
              try clear c2
              try clear p2
              try clear c3
              try clear p6
              try clear c13
              try clear c14
              try clear c15
              try clear c16
              try clear c17
              try clear c23
              try clear c23b0
              try clear c23b1
              try clear c27
              try clear c28
              try clear c28b0
              try clear c29
              try clear c30
              try clear c30b0
              try clear hcz18_0
              try clear hcz18_1
              try clear hcz18_2
              try clear hfz18_0
              try clear hfz18_1
              try clear hfz18_2
              try clear p2
              try clear p6
              obtain ⟨kq, x6_28, x1001_28, x1002_28, HA, HJ28, HO_6, HO_176001, HO_176002, BK155, BK175, HI0, HK, HB⟩ := hcut
              cases kq with
              | zero => exact absurd HA.out (by simp [spec_l1DrawDevice.j2])
              | succ kj28 =>
                have H := HA.out
                clear HA
                simp only [spec_l1DrawDevice.j2] at H
                replace H := Option.bind_eq_some_iff.mp H
                obtain ⟨⟨t195, t196, t197⟩, A330, H⟩ := H
                replace H : ((spec_l1Next.f s0_0 t196 t197 2).bind fun bt198 => (if bt198.1 = 0 then ((spec_l1Next.f s0_0 bt198.2.1 bt198.2.2 4).bind fun bt201 => ((spec_l1Copy.f kj28 x6_28).bind fun t204 => (if x176002_2.length < 4398046511104 then (spec_l1DrawDevice.l0 kj28 x5_7 x6_28 (wrap64 (x7_2 + 1)) s0_0 bt201.2.1 bt201.2.2 t167 t168 (x176002_2 ++ [(⟨bt201.1, t204⟩ : S32)])) else (none)))) else ((spec_l1Copy.f kj28 x6_28).bind fun t210 => (if x176002_2.length < 4398046511104 then (spec_l1DrawDevice.l0 kj28 x5_7 x6_28 (wrap64 (x7_2 + 1)) s0_0 bt198.2.1 bt198.2.2 t167 t168 (x176002_2 ++ [(⟨t195, t210⟩ : S32)])) else (none))))) = some (r1, r2, r3, r4, r5) := H
                have A33 := Aside0.mk A330
                clear A330
                replace H := Option.bind_eq_some_iff.mp H
                obtain ⟨⟨t198, t199, t200⟩, A340, H⟩ := H
                replace H : (if t198 = 0 then ((spec_l1Next.f s0_0 t199 t200 4).bind fun bt201 => ((spec_l1Copy.f kj28 x6_28).bind fun t204 => (if x176002_2.length < 4398046511104 then (spec_l1DrawDevice.l0 kj28 x5_7 x6_28 (wrap64 (x7_2 + 1)) s0_0 bt201.2.1 bt201.2.2 t167 t168 (x176002_2 ++ [(⟨bt201.1, t204⟩ : S32)])) else (none)))) else ((spec_l1Copy.f kj28 x6_28).bind fun t210 => (if x176002_2.length < 4398046511104 then (spec_l1DrawDevice.l0 kj28 x5_7 x6_28 (wrap64 (x7_2 + 1)) s0_0 t199 t200 t167 t168 (x176002_2 ++ [(⟨t195, t210⟩ : S32)])) else (none)))) = some (r1, r2, r3, r4, r5) := H
                have A34 := Aside0.mk A340
                clear A340
                by_cases c35 : t198 = 0
                · rw [if_pos c35] at H
                  have c35b0 : (t198 == 0) = true := beq_iff_eq.mpr c35
                  have c35b1 : (t198 != 0) = false := bne_eq_false_iff_eq.mpr c35
                  clear c35
                  replace H := Option.bind_eq_some_iff.mp H
                  obtain ⟨⟨t201, t202, t203⟩, A360, H⟩ := H
                  replace H : ((spec_l1Copy.f kj28 x6_28).bind fun t204 => (if x176002_2.length < 4398046511104 then (spec_l1DrawDevice.l0 kj28 x5_7 x6_28 (wrap64 (x7_2 + 1)) s0_0 t202 t203 t167 t168 (x176002_2 ++ [(⟨t201, t204⟩ : S32)])) else (none))) = some (r1, r2, r3, r4, r5) := H
                  have A36 := Aside0.mk A360
                  clear A360
                  replace H := Option.bind_eq_some_iff.mp H
                  obtain ⟨t204, A370, H⟩ := H
                  replace H : (if x176002_2.length < 4398046511104 then (spec_l1DrawDevice.l0 kj28 x5_7 x6_28 (wrap64 (x7_2 + 1)) s0_0 t202 t203 t167 t168 (x176002_2 ++ [(⟨t201, t204⟩ : S32)])) else (none)) = some (r1, r2, r3, r4, r5) := H
                  have A37 := Aside0.mk A370
                  clear A370
                  by_cases c38 : x176002_2.length < 4398046511104
                  · rw [if_pos c38] at H
                    have LMc38 := Aside0.mk c38
                    clear c38
                    obtain ⟨y207, hy207⟩ : ∃ y_ : List (S32), y_ = (x176002_2 ++ [(⟨t201, t204⟩ : S32)]) := ⟨_, rfl⟩
                    replace H : (spec_l1DrawDevice.l0 kj28 x5_7 x6_28 (wrap64 (x7_2 + 1)) s0_0 t202 t203 t167 t168 y207) = some (r1, r2, r3, r4, r5) := by first | (rw [hy207]; with_reducible exact H) | (have H2_ := (Option.bind_some _ _).symm.trans H; rw [hy207]; with_reducible exact H2_) | (have H2_ := (Option.bind_some _ _).symm.trans H; with_reducible exact H2_) | with_reducible exact H | (rw [hy207]; exact H) | exact H
                    have Ny207 := Aside0.mk hy207
                    clear hy207
                    have H' := Aside0.mk H
                    clear H
                    have hnb39 := NB175_155.out
                    have hnc39 := NB155_175.out
                    have hnb40 := NB175_0.out
                    have hnc40 := NB0_175.out
                    have hcz41_0 : wc.cell? ⟨gb175, 0, none⟩ = some (.int .i64 t167) := (blk_cell BK175.out 0).trans rfl
                    have hcz41_1 : wc.cell? ⟨gb175, 1, none⟩ = some (.slice Ao19 t168.length co19) := (blk_cell BK175.out 1).trans rfl
                    have hcz41_2 : wc.cell? ⟨gb175, 2, none⟩ = some (u176002) := (blk_cell BK175.out 2).trans rfl
                    have hfz41_0 := blk_frozen BK175.out 0
                    have hfz41_1 := blk_frozen BK175.out 1
                    have hfz41_2 := blk_frozen BK175.out 2
                    try go_wp2_with (first | ((with_reducible refine gate_callee (f := 15) rfl ?_); refine goesL_ (some 42) rfl rfl Try.func15 (by kernel_rfl) rfl #[.pointer (some ⟨g, 0, none⟩), .int .i64 t167] rfl (by (try simp only [List.map_toArray, List.map_cons, List.map_nil]); first | done | rfl | (simp only [List.length_drop, List.length_take]; rfl)) ?_; (with_reducible refine (spec_l1Next.calls g s0_0 x1001_28 x1002_28 t167 t195 t196 t197 w0 _ ?side1 ?side2 A33.out).mono ?_); (case side1 => repeat (first | (with_reducible first | exact HI0.out | apply IsS45.alloc | apply IsS45.drewN | apply IsS45.drew | apply IsS45.set_1 | apply IsS45.set_2 | refine IsS45.far ?_ NB0_155.out _ | refine IsS45.far ?_ NB0_175.out _) | exact HI0.out)); (case side2 => repeat (first | (with_reducible first | exact HB.out | apply below_alloc | apply pw_below_drewN | apply below_drew1 | refine below_set ?_ (IsS45.ge HI0.out) | refine below_set ?_ GE155.out | refine below_set ?_ GE175.out) | exact HB.out)); rintro e w42 ⟨rfl, hi, hb, hk⟩; refine ⟨_, rfl, ?_⟩; have n0_ := Aside0.mk (Kd.R_mono (Kd.R_keep (IsS45.apart (show IsS45 w0 _ g s0_0 x1001_28 x1002_28 from by repeat (first | (with_reducible first | exact HI0.out | apply IsS45.alloc | apply IsS45.drewN | apply IsS45.drew | apply IsS45.set_1 | apply IsS45.set_2 | refine IsS45.far ?_ NB0_155.out _ | refine IsS45.far ?_ NB0_175.out _) | exact HI0.out)) (by (with_reducible repeat (first | apply Kd.R_alloc | apply Kd.R_drewN | apply Kd.R_drew)); exact HO_6.out) (by decide)) hk (fun _ h => h.2)) (fun _ h => h.1)); have n1_ := Aside0.mk (Kd.Q_mono (Kd.Q_keep (IsS45.apartQ (show IsS45 w0 _ g s0_0 x1001_28 x1002_28 from by repeat (first | (with_reducible first | exact HI0.out | apply IsS45.alloc | apply IsS45.drewN | apply IsS45.drew | apply IsS45.set_1 | apply IsS45.set_2 | refine IsS45.far ?_ NB0_155.out _ | refine IsS45.far ?_ NB0_175.out _) | exact HI0.out)) (by (with_reducible repeat (first | apply Kd.Q_alloc | apply Kd.Q_drewN | apply Kd.Q_drew)); exact HO_176001.out) (by decide)) hk (fun _ h => h.2)) (fun _ h => h.1)); have n2_ := Aside0.mk (Kd.N_mono (Kd.N_keep (Kd.N_mono (ok := fun k_ => (((w.heap.size ≤ k_)) ∧ (some k_ ≠ (u6 : Value).ownBlock ∧ (some k_ ≠ (.slice Ao19 t168.length co19 : Value).ownBlock ∧ (k_ ≠ gb155 ∧ (k_ ≠ gb175 ∧ k_ ≠ g)))))) (by (with_reducible repeat (first | apply Kd.N_alloc | apply Kd.N_drewN | apply Kd.N_drew)); exact HO_176002.out) (fun k_ hk_ => (⟨hk_, hk_.2.2.2.2.2⟩ : _ ∧ k_ ≠ g))) hk (fun _ h => h.2)) (fun _ h => h.1)); have n3_ := Aside0.mk (KeepBut.blk hk (g' := gb155) (o := .cells #[.int .i64 0, .slice none 0 0, .slice none 0 0] 25 (0, 0)) (by (with_reducible repeat (first | refine blk_drewN ?_ _ | refine blk_drew ?_ | refine blk_alloc ?_ _)); exact BK155.out) NB155_0.out (by simp)); have n4_ := Aside0.mk (KeepBut.blk hk (g' := gb175) (o := .cells #[.int .i64 t167, .slice Ao19 t168.length co19, u176002] 25 (0, 0)) (by (with_reducible repeat (first | refine blk_drewN ?_ _ | refine blk_drew ?_ | refine blk_alloc ?_ _)); exact BK175.out) NB175_0.out (by simp)); have n5_ := Aside0.mk (KeepBut.trans (by repeat (first | (with_reducible first | exact HK.out | apply KeepBut.set_ | apply keep_drewN | apply keep_drew | apply keep_alloc | refine keep_far ?_ GW155.out _ | refine keep_far ?_ GW175.out _) | exact HK.out)) hk (.inl rfl)); have n6_ := Aside0.mk (hb); have n7_ := Aside0.mk (hi); clear HO_6; clear HO_176001; clear HO_176002; clear BK155; clear BK175; clear HK; clear HB; clear HI0; have HO_6 := n0_; have HO_176001 := n1_; have HO_176002 := n2_; have BK155 := n3_; have BK175 := n4_; have HK := n5_; have HB := n6_; have HI0 := n7_; clear n0_ n1_ n2_ n3_ n4_ n5_ n6_ n7_; (try clear hb); (try clear hb2); (try clear hk); (try clear hi)) | ((with_reducible refine gate_callee (f := 15) rfl ?_); refine goesL_ (some 44) rfl rfl Try.func15 (by kernel_rfl) rfl #[.pointer (some ⟨g, 0, none⟩), .int .i64 2] rfl (by (try simp only [List.map_toArray, List.map_cons, List.map_nil]); first | done | rfl | (simp only [List.length_drop, List.length_take]; rfl)) ?_; (with_reducible refine (spec_l1Next.calls g s0_0 t196 t197 2 t198 t199 t200 w0 _ ?side1 ?side2 A34.out).mono ?_); (case side1 => repeat (first | (with_reducible first | exact HI0.out | apply IsS45.alloc | apply IsS45.drewN | apply IsS45.drew | apply IsS45.set_1 | apply IsS45.set_2 | refine IsS45.far ?_ NB0_155.out _ | refine IsS45.far ?_ NB0_175.out _) | exact HI0.out)); (case side2 => repeat (first | (with_reducible first | exact HB.out | apply below_alloc | apply pw_below_drewN | apply below_drew1 | refine below_set ?_ (IsS45.ge HI0.out) | refine below_set ?_ GE155.out | refine below_set ?_ GE175.out) | exact HB.out)); rintro e w43 ⟨rfl, hi, hb, hk⟩; refine ⟨_, rfl, ?_⟩; have n0_ := Aside0.mk (Kd.R_mono (Kd.R_keep (IsS45.apart (show IsS45 w0 _ g s0_0 t196 t197 from by repeat (first | (with_reducible first | exact HI0.out | apply IsS45.alloc | apply IsS45.drewN | apply IsS45.drew | apply IsS45.set_1 | apply IsS45.set_2 | refine IsS45.far ?_ NB0_155.out _ | refine IsS45.far ?_ NB0_175.out _) | exact HI0.out)) (by (with_reducible repeat (first | apply Kd.R_alloc | apply Kd.R_drewN | apply Kd.R_drew)); exact HO_6.out) (by decide)) hk (fun _ h => h.2)) (fun _ h => h.1)); have n1_ := Aside0.mk (Kd.Q_mono (Kd.Q_keep (IsS45.apartQ (show IsS45 w0 _ g s0_0 t196 t197 from by repeat (first | (with_reducible first | exact HI0.out | apply IsS45.alloc | apply IsS45.drewN | apply IsS45.drew | apply IsS45.set_1 | apply IsS45.set_2 | refine IsS45.far ?_ NB0_155.out _ | refine IsS45.far ?_ NB0_175.out _) | exact HI0.out)) (by (with_reducible repeat (first | apply Kd.Q_alloc | apply Kd.Q_drewN | apply Kd.Q_drew)); exact HO_176001.out) (by decide)) hk (fun _ h => h.2)) (fun _ h => h.1)); have n2_ := Aside0.mk (Kd.N_mono (Kd.N_keep (Kd.N_mono (ok := fun k_ => (((w.heap.size ≤ k_)) ∧ (some k_ ≠ (u6 : Value).ownBlock ∧ (some k_ ≠ (.slice Ao19 t168.length co19 : Value).ownBlock ∧ (k_ ≠ gb155 ∧ (k_ ≠ gb175 ∧ k_ ≠ g)))))) (by (with_reducible repeat (first | apply Kd.N_alloc | apply Kd.N_drewN | apply Kd.N_drew)); exact HO_176002.out) (fun k_ hk_ => (⟨hk_, hk_.2.2.2.2.2⟩ : _ ∧ k_ ≠ g))) hk (fun _ h => h.2)) (fun _ h => h.1)); have n3_ := Aside0.mk (KeepBut.blk hk (g' := gb155) (o := .cells #[.int .i64 0, .slice none 0 0, .slice none 0 0] 25 (0, 0)) (by (with_reducible repeat (first | refine blk_drewN ?_ _ | refine blk_drew ?_ | refine blk_alloc ?_ _)); exact BK155.out) NB155_0.out (by simp)); have n4_ := Aside0.mk (KeepBut.blk hk (g' := gb175) (o := .cells #[.int .i64 t167, .slice Ao19 t168.length co19, u176002] 25 (0, 0)) (by (with_reducible repeat (first | refine blk_drewN ?_ _ | refine blk_drew ?_ | refine blk_alloc ?_ _)); exact BK175.out) NB175_0.out (by simp)); have n5_ := Aside0.mk (KeepBut.trans (by repeat (first | (with_reducible first | exact HK.out | apply KeepBut.set_ | apply keep_drewN | apply keep_drew | apply keep_alloc | refine keep_far ?_ GW155.out _ | refine keep_far ?_ GW175.out _) | exact HK.out)) hk (.inl rfl)); have n6_ := Aside0.mk (hb); have n7_ := Aside0.mk (hi); clear HO_6; clear HO_176001; clear HO_176002; clear BK155; clear BK175; clear HK; clear HB; clear HI0; have HO_6 := n0_; have HO_176001 := n1_; have HO_176002 := n2_; have BK155 := n3_; have BK175 := n4_; have HK := n5_; have HB := n6_; have HI0 := n7_; clear n0_ n1_ n2_ n3_ n4_ n5_ n6_ n7_; (try clear hb); (try clear hb2); (try clear hk); (try clear hi)) | ((with_reducible refine gate_callee (f := 15) rfl ?_); refine goesL_ (some 47) rfl rfl Try.func15 (by kernel_rfl) rfl #[.pointer (some ⟨g, 0, none⟩), .int .i64 4] rfl (by (try simp only [List.map_toArray, List.map_cons, List.map_nil]); first | done | rfl | (simp only [List.length_drop, List.length_take]; rfl)) ?_; (with_reducible refine (spec_l1Next.calls g s0_0 t199 t200 4 t201 t202 t203 w0 _ ?side1 ?side2 A36.out).mono ?_); (case side1 => repeat (first | (with_reducible first | exact HI0.out | apply IsS45.alloc | apply IsS45.drewN | apply IsS45.drew | apply IsS45.set_1 | apply IsS45.set_2 | refine IsS45.far ?_ NB0_155.out _ | refine IsS45.far ?_ NB0_175.out _) | exact HI0.out)); (case side2 => repeat (first | (with_reducible first | exact HB.out | apply below_alloc | apply pw_below_drewN | apply below_drew1 | refine below_set ?_ (IsS45.ge HI0.out) | refine below_set ?_ GE155.out | refine below_set ?_ GE175.out) | exact HB.out)); rintro e w44 ⟨rfl, hi, hb, hk⟩; refine ⟨_, rfl, ?_⟩; have n0_ := Aside0.mk (Kd.R_mono (Kd.R_keep (IsS45.apart (show IsS45 w0 _ g s0_0 t199 t200 from by repeat (first | (with_reducible first | exact HI0.out | apply IsS45.alloc | apply IsS45.drewN | apply IsS45.drew | apply IsS45.set_1 | apply IsS45.set_2 | refine IsS45.far ?_ NB0_155.out _ | refine IsS45.far ?_ NB0_175.out _) | exact HI0.out)) (by (with_reducible repeat (first | apply Kd.R_alloc | apply Kd.R_drewN | apply Kd.R_drew)); exact HO_6.out) (by decide)) hk (fun _ h => h.2)) (fun _ h => h.1)); have n1_ := Aside0.mk (Kd.Q_mono (Kd.Q_keep (IsS45.apartQ (show IsS45 w0 _ g s0_0 t199 t200 from by repeat (first | (with_reducible first | exact HI0.out | apply IsS45.alloc | apply IsS45.drewN | apply IsS45.drew | apply IsS45.set_1 | apply IsS45.set_2 | refine IsS45.far ?_ NB0_155.out _ | refine IsS45.far ?_ NB0_175.out _) | exact HI0.out)) (by (with_reducible repeat (first | apply Kd.Q_alloc | apply Kd.Q_drewN | apply Kd.Q_drew)); exact HO_176001.out) (by decide)) hk (fun _ h => h.2)) (fun _ h => h.1)); have n2_ := Aside0.mk (Kd.N_mono (Kd.N_keep (Kd.N_mono (ok := fun k_ => (((w.heap.size ≤ k_)) ∧ (some k_ ≠ (u6 : Value).ownBlock ∧ (some k_ ≠ (.slice Ao19 t168.length co19 : Value).ownBlock ∧ (k_ ≠ gb155 ∧ (k_ ≠ gb175 ∧ k_ ≠ g)))))) (by (with_reducible repeat (first | apply Kd.N_alloc | apply Kd.N_drewN | apply Kd.N_drew)); exact HO_176002.out) (fun k_ hk_ => (⟨hk_, hk_.2.2.2.2.2⟩ : _ ∧ k_ ≠ g))) hk (fun _ h => h.2)) (fun _ h => h.1)); have n3_ := Aside0.mk (KeepBut.blk hk (g' := gb155) (o := .cells #[.int .i64 0, .slice none 0 0, .slice none 0 0] 25 (0, 0)) (by (with_reducible repeat (first | refine blk_drewN ?_ _ | refine blk_drew ?_ | refine blk_alloc ?_ _)); exact BK155.out) NB155_0.out (by simp)); have n4_ := Aside0.mk (KeepBut.blk hk (g' := gb175) (o := .cells #[.int .i64 t167, .slice Ao19 t168.length co19, u176002] 25 (0, 0)) (by (with_reducible repeat (first | refine blk_drewN ?_ _ | refine blk_drew ?_ | refine blk_alloc ?_ _)); exact BK175.out) NB175_0.out (by simp)); have n5_ := Aside0.mk (KeepBut.trans (by repeat (first | (with_reducible first | exact HK.out | apply KeepBut.set_ | apply keep_drewN | apply keep_drew | apply keep_alloc | refine keep_far ?_ GW155.out _ | refine keep_far ?_ GW175.out _) | exact HK.out)) hk (.inl rfl)); have n6_ := Aside0.mk (hb); have n7_ := Aside0.mk (hi); clear HO_6; clear HO_176001; clear HO_176002; clear BK155; clear BK175; clear HK; clear HB; clear HI0; have HO_6 := n0_; have HO_176001 := n1_; have HO_176002 := n2_; have BK155 := n3_; have BK175 := n4_; have HK := n5_; have HB := n6_; have HI0 := n7_; clear n0_ n1_ n2_ n3_ n4_ n5_ n6_ n7_; (try clear hb); (try clear hb2); (try clear hk); (try clear hi)))
                    have n0_ := Aside0.mk (Kd.R_drew HO_6.out)
                    have n1_ := Aside0.mk (Kd.Q_drew HO_176001.out)
                    have n2_ := Aside0.mk (Kd.N_drew HO_176002.out)
                    have n3_ := Aside0.mk (blk_drew BK155.out)
                    have n4_ := Aside0.mk (blk_drew BK175.out)
                    have n5_ := Aside0.mk (IsS45.drew HI0.out)
                    have n6_ := Aside0.mk (keep_drew HK.out)
                    have n7_ := Aside0.mk (below_drew1 HB.out)
                    clear HO_6
                    clear HO_176001
                    clear HO_176002
                    clear BK155
                    clear BK175
                    clear HI0
                    clear HK
                    clear HB
                    have HO_6 := n0_
                    have HO_176001 := n1_
                    have HO_176002 := n2_
                    have BK155 := n3_
                    have BK175 := n4_
                    have HI0 := n5_
                    have HK := n6_
                    have HB := n7_
                    clear n0_ n1_ n2_ n3_ n4_ n5_ n6_ n7_
                    obtain ⟨Ao46, co46, eo46⟩ := Kd.R_slice HO_6.out
                    (first | subst eo46 | (injection eo46 with f1_ f2_ f3_; have f4_ := f1_.symm; have f5_ := f3_.symm; clear f1_ f2_ f3_; subst f4_; subst f5_))
                    refine start_ (n := 10) (S := fun w' => w'.cell? ⟨gb175, 0, none⟩ = some (.int .i64 t167) ∧ w'.cell? ⟨gb175, 1, none⟩ = some (.slice Ao19 t168.length co19) ∧ w'.cell? ⟨gb175, 2, none⟩ = some (u176002)) (ds := [9]) #[false, false, false, false, false, false, false, false, false, false] (by kernel_rfl) rfl rfl ⟨(blk_cell BK175.out 0).trans rfl, (blk_cell BK175.out 1).trans rfl, (blk_cell BK175.out 2).trans rfl⟩ (fun hHeld => ?_); refine with_tabW spec_l1DrawDevice.tab14 spec_l1DrawDevice.bits14 (fun HT_ HW_ => ?_)
                    generalize w44.drew = w45 at HO_6 HO_176001 HO_176002 BK155 BK175 HI0 HK HB hHeld ⊢
                    refine pure_ (i := 0) (N := some 48) (v := ?_) (a' := ?_) #[true, false, false, false, false, false, false, false, false, false] rfl rfl (any_of HT_.out (by kernel_rfl)) (fun _ _ _ h => h) (Or.inl ⟨by rfl, ?_⟩) ?_ ?_
                    rotate_left
                    · intro w'
                      go_simp
                      with_reducible rfl
                    rotate_left
                    · simp only [Act.put, List.setIfInBounds_toArray, List.set_cons_zero, List.set_cons_succ, i64_w, i32_w]
                      rfl
                    refine pure_ (i := 2) (N := some 50) (v := ?_) (a' := ?_) #[true, false, true, false, false, false, false, false, false, false] rfl rfl (any_of HT_.out (by kernel_rfl)) (fun _ _ _ h => h) (Or.inl ⟨by rfl, ?_⟩) ?_ ?_
                    rotate_left
                    · intro w'
                      go_simp
                      with_reducible rfl
                    rotate_left
                    · simp only [Act.put, List.setIfInBounds_toArray, List.set_cons_zero, List.set_cons_succ, i64_w, i32_w]
                      rfl
                    refine pure_ (i := 3) (N := some 51) (v := ?_) (a' := ?_) #[true, false, true, true, false, false, false, false, false, false] rfl rfl (any_of HT_.out (by kernel_rfl)) (fun _ _ _ h => h) (Or.inl ⟨by rfl, ?_⟩) ?_ ?_
                    rotate_left
                    · intro w'
                      go_simp
                      with_reducible rfl
                    rotate_left
                    · simp only [Act.put, List.setIfInBounds_toArray, List.set_cons_zero, List.set_cons_succ, i64_w, i32_w]
                      rfl
                    refine take_ (i := 1) (N := some 49) (v := ?_) (a' := ?_) #[true, true, true, true, false, false, false, false, false, false] rfl rfl (take_ofW HT_.out HW_.out (by kernel_rfl)) (fun _ _ _ h => h) (Or.inl ⟨by rfl, ?_⟩) hHeld ?_ ?_
                    rotate_left
                    · rintro w' ⟨s0, s1, s2⟩
                      go_simp
                      with_reducible rfl
                    rotate_left
                    · simp only [Act.put, List.setIfInBounds_toArray, List.set_cons_zero, List.set_cons_succ, i64_w, i32_w]
                      rfl
                    refine one_ (i := 4) (N := some 52) #[true, true, true, true, true, false, false, false, false, false] rfl rfl (one_of HT_.out (by kernel_rfl)) (by decide) (fun K hK => ?_)
                    refine goes_ Try.func19 (by kernel_rfl) rfl #[.slice Ao46 x6_28.length co46] (by rfl) rfl rfl (by (try simp only [List.map_toArray, List.map_cons, List.map_nil]); first | done | rfl | (simp only [List.length_drop, List.length_take]; rfl)) ?_
                    with_reducible refine (spec_l1Copy.calls kj28 _ _ x6_28 t204 _ ?side1 ?side2 A37.out).mono ?_
                    (case side1 => repeat (first | exact (Kd.R_reads' HO_6.out).2.2 | (with_reducible refine Kd.C_alloc ?_ _) | (with_reducible refine Kd.C_drewN ?_ _) | (with_reducible refine Kd.C_drew ?_)))
                    (case side2 => exact (Kd.R_reads' HO_6.out).2.1)
                    rintro e w47 ⟨v205, rfl, ho0, hb⟩
                    refine ⟨_, rfl, ?_⟩
                    have n0_ := Aside0.mk (Kd.R_elder' (by (with_reducible repeat (first | apply Kd.R_alloc | apply Kd.R_drewN | apply Kd.R_drew)); exact HO_6.out) (Kd.R_base ho0) hb)
                    have n1_ := Aside0.mk (Kd.Q_elder' (by (with_reducible repeat (first | apply Kd.Q_alloc | apply Kd.Q_drewN | apply Kd.Q_drew)); exact HO_176001.out) (Kd.R_base ho0) hb)
                    have n2_ := Aside0.mk (Kd.N_elder' (by (with_reducible repeat (first | apply Kd.N_alloc | apply Kd.N_drewN | apply Kd.N_drew)); exact HO_176002.out) (Kd.R_base ho0) hb)
                    have n3_ := Aside0.mk (Kd.R_lower (Kd.R_new' (Kd.R_new' (Kd.R_newM (M := fun k_ => (w.heap.size ≤ k_)) ho0 (keep_size (w := w) (g := g) (row := none) (by repeat (first | (with_reducible first | exact HK.out | apply KeepBut.set_ | apply keep_drewN | apply keep_drew | apply keep_alloc | refine keep_far ?_ GW155.out _ | refine keep_far ?_ GW175.out _) | exact HK.out))) (fun k_ h_ => h_)) (Kd.R_lt (by (with_reducible repeat (first | apply Kd.R_alloc | apply Kd.R_drewN | apply Kd.R_drew)); exact HO_6.out))) (Kd.Q_lt (by (with_reducible repeat (first | apply Kd.Q_alloc | apply Kd.Q_drewN | apply Kd.Q_drew)); exact HO_176001.out))) (keep_size (w := w) (g := g) (row := none) (by repeat (first | (with_reducible first | exact HK.out | apply KeepBut.set_ | apply keep_drewN | apply keep_drew | apply keep_alloc | refine keep_far ?_ GW155.out _ | refine keep_far ?_ GW175.out _) | exact HK.out))))
                    have n4_ := Aside0.mk (blk_below (g := gb155) (o := .cells #[.int .i64 0, .slice none 0 0, .slice none 0 0] 25 (0, 0)) (by (with_reducible repeat (first | refine blk_drewN ?_ _ | refine blk_drew ?_ | refine blk_alloc ?_ _)); exact BK155.out) hb)
                    have n5_ := Aside0.mk (blk_below (g := gb175) (o := .cells #[.int .i64 t167, .slice Ao19 t168.length co19, u176002] 25 (0, 0)) (by (with_reducible repeat (first | refine blk_drewN ?_ _ | refine blk_drew ?_ | refine blk_alloc ?_ _)); exact BK175.out) hb)
                    have n6_ := Aside0.mk (IsS45.below (by repeat (first | (with_reducible first | exact HI0.out | apply IsS45.alloc | apply IsS45.drewN | apply IsS45.drew | apply IsS45.set_1 | apply IsS45.set_2 | refine IsS45.far ?_ NB0_155.out _ | refine IsS45.far ?_ NB0_175.out _) | exact HI0.out)) hb)
                    have n7_ := Aside0.mk (KeepBut.trans (by repeat (first | (with_reducible first | exact HK.out | apply KeepBut.set_ | apply keep_drewN | apply keep_drew | apply keep_alloc | refine keep_far ?_ GW155.out _ | refine keep_far ?_ GW175.out _) | exact HK.out)) (KeepBut.of_below hb g none) (.inl rfl))
                    have n8_ := Aside0.mk (below_step (by repeat (first | (with_reducible first | exact HB.out | apply below_alloc | apply pw_below_drewN | apply below_drew1 | refine below_set ?_ (IsS45.ge HI0.out) | refine below_set ?_ GE155.out | refine below_set ?_ GE175.out) | exact HB.out)) hb)
                    clear HO_6
                    clear HO_176001
                    clear HO_176002
                    clear BK155
                    clear BK175
                    clear HI0
                    clear HK
                    clear HB
                    have HO_6 := n0_
                    have HO_176001 := n1_
                    have HO_176002 := n2_
                    have HO206 := n3_
                    have BK155 := n4_
                    have BK175 := n5_
                    have HI0 := n6_
                    have HK := n7_
                    have HB := n8_
                    clear n0_ n1_ n2_ n3_ n4_ n5_ n6_ n7_ n8_
                    (try clear hb)
                    (try clear hb2)
                    (try clear hk)
                    (try clear hi)
                    (try clear ho0)
                    obtain ⟨Ao48, co48, eo48⟩ := Kd.R_slice HO206.out
                    (first | subst eo48 | (injection eo48 with f1_ f2_ f3_; have f4_ := f1_.symm; have f5_ := f3_.symm; clear f1_ f2_ f3_; subst f4_; subst f5_))
                    refine hK.out _ _ ⟨(blk_cell BK175.out 0).trans rfl, (blk_cell BK175.out 1).trans rfl, (blk_cell BK175.out 2).trans rfl⟩ (fun hHeld => ?_)
                    clear hK K
                    refine norm_ (a' := ?_) ?_ ?_
                    rotate_left
                    · show Act.put _ (some 52) _ = _
                      simp only [Act.put, List.setIfInBounds_toArray, List.set_cons_zero, List.set_cons_succ, i64_w, i32_w]
                      rfl
                    refine pure_ (i := 5) (N := some 53) (v := ?_) (a' := ?_) #[true, true, true, true, true, true, false, false, false, false] rfl rfl (any_of HT_.out (by kernel_rfl)) (fun _ _ _ h => h) (Or.inl ⟨by rfl, ?_⟩) ?_ ?_
                    rotate_left
                    · intro w'
                      go_simp
                      with_reducible rfl
                    rotate_left
                    · simp only [Act.put, List.setIfInBounds_toArray, List.set_cons_zero, List.set_cons_succ, i64_w, i32_w]
                      rfl
                    refine one_ (i := 6) (N := some 54) #[true, true, true, true, true, true, true, false, false, false] rfl rfl (one_of HT_.out (by kernel_rfl)) (by decide) (fun K hK => ?_)
                    refine value_ (w1 := ?_) (v := ?_) (by rfl) rfl ?_ ?_
                    rotate_left 2
                    · go_simp
                      constructor
                      · rfl
                      · rfl
                    refine hK.out _ _ ⟨(blk_cell (blk_alloc BK175.out _) 0).trans rfl, (blk_cell (blk_alloc BK175.out _) 1).trans rfl, (blk_cell (blk_alloc BK175.out _) 2).trans rfl⟩ (fun hHeld => ?_)
                    clear hK K
                    refine norm_ (a' := ?_) ?_ ?_
                    rotate_left
                    · show Act.put _ (some 54) _ = _
                      simp only [Act.put, List.setIfInBounds_toArray, List.set_cons_zero, List.set_cons_succ, i64_w, i32_w]
                      rfl
                    refine one_ (i := 7) (N := some 55) #[true, true, true, true, true, true, true, true, false, false] rfl rfl (one_of HT_.out (by kernel_rfl)) (by decide) (fun K hK => ?_)
                    refine Kd.N_append_step k32 w.heap.size (by rfl) (.tmp 49) (.tmp 54) 23 32 (.agg #[(.int .i64 0), (.slice none 0 0)]) 32 rfl Try.underlying23 info32 rfl (by decide) (by omega) u176002 x176002_2 (⟨t201, t204⟩ : S32) [.int .i64 t201, .slice Ao48 t204.length co48] (fun k_ => (w.heap.size ≤ k_) ∧ some k_ ≠ (.slice Ao46 x6_28.length co46 : Value).ownBlock ∧ some k_ ≠ (.slice Ao19 t168.length co19 : Value).ownBlock ∧ k_ ≠ gb155 ∧ k_ ≠ gb175 ∧ k_ ≠ g) (fun k_ => ((fun k_ => (w.heap.size ≤ k_) ∧ some k_ ≠ (.slice Ao46 x6_28.length co46 : Value).ownBlock ∧ some k_ ≠ (.slice Ao19 t168.length co19 : Value).ownBlock ∧ k_ ≠ gb155 ∧ k_ ≠ gb175 ∧ k_ ≠ g)) k_ ∧ some k_ ≠ (u176002 : Value).ownBlock) rfl rfl ?aP (fun _ hk => hk) ?aF ?aO (Below.refl _ _) ?aS ?aL ?_
                    (case aP => exact (k32_mkF _ _ (⟨t201, t204⟩ : S32) (Kd.R_reads' (Kd.R_mono (ok' := (fun k_ => ((fun k_ => (w.heap.size ≤ k_) ∧ some k_ ≠ (.slice Ao46 x6_28.length co46 : Value).ownBlock ∧ some k_ ≠ (.slice Ao19 t168.length co19 : Value).ownBlock ∧ k_ ≠ gb155 ∧ k_ ≠ gb175 ∧ k_ ≠ g)) k_ ∧ some k_ ≠ (u176002 : Value).ownBlock)) (IsS45.apart HI0.out (Kd.R_types (Kd.R_types (Kd.R_apart' (HO206.out) (Kd.N_typed HO_176002.out) (by decide)) BK155.out (by decide)) BK175.out (by decide)) (by decide)) (fun k_ hk => ⟨⟨hk.1.1.1.1.1.1.1, ⟨hk.1.1.1.1.1.2, ⟨hk.1.1.1.1.2, ⟨hk.1.1.2, ⟨hk.1.2, hk.2⟩⟩⟩⟩⟩, hk.1.1.1.2⟩))).2.1 (Kd.R_F (Kd.R_mono (ok' := (fun k_ => ((fun k_ => (w.heap.size ≤ k_) ∧ some k_ ≠ (.slice Ao46 x6_28.length co46 : Value).ownBlock ∧ some k_ ≠ (.slice Ao19 t168.length co19 : Value).ownBlock ∧ k_ ≠ gb155 ∧ k_ ≠ gb175 ∧ k_ ≠ g)) k_ ∧ some k_ ≠ (u176002 : Value).ownBlock)) (IsS45.apart HI0.out (Kd.R_types (Kd.R_types (Kd.R_apart' (HO206.out) (Kd.N_typed HO_176002.out) (by decide)) BK155.out (by decide)) BK175.out (by decide)) (by decide)) (fun k_ hk => ⟨⟨hk.1.1.1.1.1.1.1, ⟨hk.1.1.1.1.1.2, ⟨hk.1.1.1.1.2, ⟨hk.1.1.2, ⟨hk.1.2, hk.2⟩⟩⟩⟩⟩, hk.1.1.1.2⟩)))))
                    (case aF => exact (fun k_ hk => ⟨(Nat.le_trans (keep_size (w := w) (g := g) (row := none) (by repeat (first | (with_reducible first | exact HK.out | apply KeepBut.set_ | apply keep_drewN | apply keep_drew | apply keep_alloc | refine keep_far ?_ GW155.out _ | refine keep_far ?_ GW175.out _) | exact HK.out))) hk), Kd.fresh' (Kd.R_lt (by (with_reducible repeat (first | apply Kd.R_alloc | apply Kd.R_drewN | apply Kd.R_drew)); exact HO_6.out)) k_ hk, Kd.fresh' (Kd.Q_lt (by (with_reducible repeat (first | apply Kd.Q_alloc | apply Kd.Q_drewN | apply Kd.Q_drew)); exact HO_176001.out)) k_ hk, Kd.freshB (g := gb155) (o := .cells #[.int .i64 0, .slice none 0 0, .slice none 0 0] 25 (0, 0)) (by (with_reducible repeat (first | refine blk_drewN ?_ _ | refine blk_drew ?_ | refine blk_alloc ?_ _)); exact BK155.out) k_ hk, Kd.freshB (g := gb175) (o := .cells #[.int .i64 t167, .slice Ao19 t168.length co19, u176002] 25 (0, 0)) (by (with_reducible repeat (first | refine blk_drewN ?_ _ | refine blk_drew ?_ | refine blk_alloc ?_ _)); exact BK175.out) k_ hk, IsS45.fresh (by repeat (first | (with_reducible first | exact HI0.out | apply IsS45.alloc | apply IsS45.drewN | apply IsS45.drew | apply IsS45.set_1 | apply IsS45.set_2 | refine IsS45.far ?_ NB0_155.out _ | refine IsS45.far ?_ NB0_175.out _) | exact HI0.out)) k_ hk⟩))
                    (case aO => exact (by (with_reducible repeat (first | apply Kd.N_alloc | apply Kd.N_drewN | apply Kd.N_drew)); exact Kd.N_mono HO_176002.out (fun _ hk => ⟨hk.1.1, ⟨hk.1.2.1, ⟨hk.1.2.2.1, ⟨hk.1.2.2.2.1, ⟨hk.1.2.2.2.2.1, hk.1.2.2.2.2.2⟩⟩⟩⟩⟩)))
                    (case aS => exact (keep_size (w := w) (g := g) (row := none) (by repeat (first | (with_reducible first | exact HK.out | apply KeepBut.set_ | apply keep_drewN | apply keep_drew | apply keep_alloc | refine keep_far ?_ GW155.out _ | refine keep_far ?_ GW175.out _) | exact HK.out))))
                    (case aL => have := LMc38.out; omega)
                    intro v208 w49 ho hb hg hat
                    rw [← Ny207.out] at ho
                    have n0_ := Aside0.mk (Kd.R_over' (by (with_reducible repeat (first | apply Kd.R_alloc | apply Kd.R_drewN | apply Kd.R_drew)); exact HO_6.out) (Kd.N_typed (by (with_reducible repeat (first | apply Kd.N_alloc | apply Kd.N_drewN | apply Kd.N_drew)); exact HO_176002.out)) (by decide) hg)
                    have n1_ := Aside0.mk (Kd.Q_over' (by (with_reducible repeat (first | apply Kd.Q_alloc | apply Kd.Q_drewN | apply Kd.Q_drew)); exact HO_176001.out) (Kd.N_typed (by (with_reducible repeat (first | apply Kd.N_alloc | apply Kd.N_drewN | apply Kd.N_drew)); exact HO_176002.out)) (by decide) hg)
                    have n2_ := Aside0.mk (blk_grown (g := gb155) (o := .cells #[.int .i64 0, .slice none 0 0, .slice none 0 0] 25 (0, 0)) (by (with_reducible repeat (first | refine blk_drewN ?_ _ | refine blk_drew ?_ | refine blk_alloc ?_ _)); exact BK155.out) hg (Kd.N_ne HO_176002.out BK155.out (by decide)))
                    have n3_ := Aside0.mk (blk_grown (g := gb175) (o := .cells #[.int .i64 t167, .slice Ao19 t168.length co19, u176002] 25 (0, 0)) (by (with_reducible repeat (first | refine blk_drewN ?_ _ | refine blk_drew ?_ | refine blk_alloc ?_ _)); exact BK175.out) hg (Kd.N_ne HO_176002.out BK175.out (by decide)))
                    have n4_ := Aside0.mk (IsS45.grown (by repeat (first | (with_reducible first | exact HI0.out | apply IsS45.alloc | apply IsS45.drewN | apply IsS45.drew | apply IsS45.set_1 | apply IsS45.set_2 | refine IsS45.far ?_ NB0_155.out _ | refine IsS45.far ?_ NB0_175.out _) | exact HI0.out)) hg (IsS45.own_neN HI0.out HO_176002.out (by decide)))
                    have n5_ := Aside0.mk (below_weaken (by repeat (first | (with_reducible first | exact HB.out | apply below_alloc | apply pw_below_drewN | apply below_drew1 | refine below_set ?_ (IsS45.ge HI0.out) | refine below_set ?_ GE155.out | refine below_set ?_ GE175.out) | exact HB.out)) HL.out hb)
                    have n6_ := Aside0.mk (KeepBut.trans (by repeat (first | (with_reducible first | exact HK.out | apply KeepBut.set_ | apply keep_drewN | apply keep_drew | apply keep_alloc | refine keep_far ?_ GW155.out _ | refine keep_far ?_ GW175.out _) | exact HK.out)) (KeepBut.of_grown hg g) (Kd.N_base2 HO_176002.out))
                    have n7_ := Aside0.mk (ho)
                    clear HO_6
                    clear HO_176001
                    clear BK155
                    clear BK175
                    clear HI0
                    clear HB
                    clear HK
                    clear HO_176002
                    clear HO206
                    have HO_6 := n0_
                    have HO_176001 := n1_
                    have BK155 := n2_
                    have BK175 := n3_
                    have HI0 := n4_
                    have HB := n5_
                    have HK := n6_
                    have HO209 := n7_
                    clear n0_ n1_ n2_ n3_ n4_ n5_ n6_ n7_
                    clear ho hb hg hat
                    obtain ⟨Ao50, co50, eo50⟩ := Kd.N_slice HO209.out
                    (first | subst eo50 | (injection eo50 with f1_ f2_ f3_; have f4_ := f1_.symm; have f5_ := f3_.symm; clear f1_ f2_ f3_; subst f4_; subst f5_))
                    refine hK.out _ _ ⟨(blk_cell BK175.out 0).trans rfl, (blk_cell BK175.out 1).trans rfl, (blk_cell BK175.out 2).trans rfl⟩ (fun hHeld => ?_)
                    clear hK K
                    refine norm_ (a' := ?_) ?_ ?_
                    rotate_left
                    · show Act.put _ (some 55) _ = _
                      simp only [Act.put, List.setIfInBounds_toArray, List.set_cons_zero, List.set_cons_succ, i64_w, i32_w]
                      rfl
                    refine pure_ (i := 8) (N := some 56) (v := ?_) (a' := ?_) #[true, true, true, true, true, true, true, true, true, false] rfl rfl (any_of HT_.out (by kernel_rfl)) (fun _ _ _ h => h) (Or.inl ⟨by rfl, ?_⟩) ?_ ?_
                    rotate_left
                    · intro w'
                      go_simp
                      with_reducible rfl
                    rotate_left
                    · simp only [Act.put, List.setIfInBounds_toArray, List.set_cons_zero, List.set_cons_succ, i64_w, i32_w]
                      rfl
                    refine last_ (i := 9) (N := none) #[true, true, true, true, true, true, true, true, true, true] rfl rfl (one_of HT_.out (by kernel_rfl)) (by decide) (fun K hK => ?_)
                    have hs51 : w49.cell? ⟨gb175, 2, none⟩ = some (u176002) := (blk_cell BK175.out 2).trans rfl
                    have hfs51 := blk_frozen BK175.out 2
                    have hns51_0 := NB155_175.out
                    have hms51_0 := NB175_155.out
                    refine skip_ (w1 := ?_) (by rfl) rfl ?_ ?_
                    rotate_left
                    · go_simp
                      rfl
                    refine hK.out _ _ ?_
                    clear hK K
                    refine done_ (done_of HT_.out (by kernel_rfl)) ?_
                    try go_wp2
                    go_roundg kj28
                    case measure => have := HJ7.out; have := HK2.out; have := HJ28.out; omega
                    case rel => exact ⟨(x6_28), (wrap64 (x7_2 + 1)), (t202), (t203), (y207), (.slice Ao50 y207.length co50), (by first | rfl | (simp; done) | (simp [*]; done)), H', ⟨by have := HJ7.out; have := HK2.out; have := HJ28.out; omega⟩, ⟨by (with_reducible repeat (first | apply Kd.R_alloc | apply Kd.R_drewN | apply Kd.R_drew)); exact Kd.R_mono (Kd.R_far (p := ⟨gb175, 2, none⟩) (Kd.R_types HO_6.out BK175.out (by decide)) (fun _ hk => hk.2) (.slice Ao50 y207.length co50)) (fun _ hk => ⟨hk.1.1.1, hk.1.1.2⟩)⟩, ⟨by (with_reducible repeat (first | apply Kd.Q_alloc | apply Kd.Q_drewN | apply Kd.Q_drew)); exact Kd.Q_mono (Kd.Q_far (p := ⟨gb175, 2, none⟩) (Kd.Q_types HO_176001.out BK175.out (by decide)) (fun _ hk => hk.2) (.slice Ao50 y207.length co50)) (fun _ hk => ⟨hk.1.1.1, hk.1.1.2⟩)⟩, ⟨by (with_reducible repeat (first | apply Kd.N_alloc | apply Kd.N_drewN | apply Kd.N_drew)); exact Kd.N_mono (Kd.N_far (p := ⟨gb175, 2, none⟩) (Kd.N_mono HO209.out (fun k_ hk => (⟨hk, hk.2.2.2.2.1⟩ : _ ∧ k_ ≠ gb175))) (fun _ hk => hk.2) (.slice Ao50 y207.length co50)) (fun _ hk => ⟨hk.1.1, ⟨hk.1.2.1, ⟨hk.1.2.2.1, ⟨hk.1.2.2.2.1, ⟨hk.1.2.2.2.2.1, hk.1.2.2.2.2.2⟩⟩⟩⟩⟩)⟩, ⟨by (with_reducible repeat (first | refine blk_drewN ?_ _ | refine blk_drew ?_ | refine blk_alloc ?_ _)); refine blk_far ?_ NB155_175.out _; (with_reducible repeat (first | refine blk_drewN ?_ _ | refine blk_drew ?_ | refine blk_alloc ?_ _)); exact BK155.out⟩, ⟨by (with_reducible repeat (first | refine blk_drewN ?_ _ | refine blk_drew ?_ | refine blk_alloc ?_ _)); refine blk_put (cs := #[.int .i64 t167, .slice Ao19 t168.length co19, u176002]) ?_ 2 _ rfl; (with_reducible repeat (first | refine blk_drewN ?_ _ | refine blk_drew ?_ | refine blk_alloc ?_ _)); exact BK175.out⟩, ⟨by repeat (first | (with_reducible first | exact HI0.out | apply IsS45.alloc | apply IsS45.drewN | apply IsS45.drew | apply IsS45.set_1 | apply IsS45.set_2 | refine IsS45.far ?_ NB0_155.out _ | refine IsS45.far ?_ NB0_175.out _) | exact HI0.out)⟩, ⟨by repeat (first | (with_reducible first | exact HK.out | apply KeepBut.set_ | apply keep_drewN | apply keep_drew | apply keep_alloc | refine keep_far ?_ GW155.out _ | refine keep_far ?_ GW175.out _) | exact HK.out)⟩, ⟨by repeat (first | (with_reducible first | exact HB.out | apply below_alloc | apply pw_below_drewN | apply below_drew1 | refine below_set ?_ (IsS45.ge HI0.out) | refine below_set ?_ GE155.out | refine below_set ?_ GE175.out) | exact HB.out)⟩⟩
                  · rw [if_neg c38] at H
                    exact absurd H (by simp)
                · rw [if_neg c35] at H
                  have c35b0 : (t198 == 0) = false := beq_eq_false_iff_ne.mpr c35
                  have c35b1 : (t198 != 0) = true := bne_iff_ne.mpr c35
                  replace H := Option.bind_eq_some_iff.mp H
                  obtain ⟨t210, A520, H⟩ := H
                  replace H : (if x176002_2.length < 4398046511104 then (spec_l1DrawDevice.l0 kj28 x5_7 x6_28 (wrap64 (x7_2 + 1)) s0_0 t199 t200 t167 t168 (x176002_2 ++ [(⟨t195, t210⟩ : S32)])) else (none)) = some (r1, r2, r3, r4, r5) := H
                  have A52 := Aside0.mk A520
                  clear A520
                  by_cases c53 : x176002_2.length < 4398046511104
                  · rw [if_pos c53] at H
                    have LMc53 := Aside0.mk c53
                    clear c53
                    obtain ⟨y213, hy213⟩ : ∃ y_ : List (S32), y_ = (x176002_2 ++ [(⟨t195, t210⟩ : S32)]) := ⟨_, rfl⟩
                    replace H : (spec_l1DrawDevice.l0 kj28 x5_7 x6_28 (wrap64 (x7_2 + 1)) s0_0 t199 t200 t167 t168 y213) = some (r1, r2, r3, r4, r5) := by first | (rw [hy213]; with_reducible exact H) | (have H2_ := (Option.bind_some _ _).symm.trans H; rw [hy213]; with_reducible exact H2_) | (have H2_ := (Option.bind_some _ _).symm.trans H; with_reducible exact H2_) | with_reducible exact H | (rw [hy213]; exact H) | exact H
                    have Ny213 := Aside0.mk hy213
                    clear hy213
                    have H' := Aside0.mk H
                    clear H
                    have hnb54 := NB175_155.out
                    have hnc54 := NB155_175.out
                    have hnb55 := NB175_0.out
                    have hnc55 := NB0_175.out
                    have hcz56_0 : wc.cell? ⟨gb175, 0, none⟩ = some (.int .i64 t167) := (blk_cell BK175.out 0).trans rfl
                    have hcz56_1 : wc.cell? ⟨gb175, 1, none⟩ = some (.slice Ao19 t168.length co19) := (blk_cell BK175.out 1).trans rfl
                    have hcz56_2 : wc.cell? ⟨gb175, 2, none⟩ = some (u176002) := (blk_cell BK175.out 2).trans rfl
                    have hfz56_0 := blk_frozen BK175.out 0
                    have hfz56_1 := blk_frozen BK175.out 1
                    have hfz56_2 := blk_frozen BK175.out 2
                    try go_wp2_with (first | ((with_reducible refine gate_callee (f := 15) rfl ?_); refine goesL_ (some 42) rfl rfl Try.func15 (by kernel_rfl) rfl #[.pointer (some ⟨g, 0, none⟩), .int .i64 t167] rfl (by (try simp only [List.map_toArray, List.map_cons, List.map_nil]); first | done | rfl | (simp only [List.length_drop, List.length_take]; rfl)) ?_; (with_reducible refine (spec_l1Next.calls g s0_0 x1001_28 x1002_28 t167 t195 t196 t197 w0 _ ?side1 ?side2 A33.out).mono ?_); (case side1 => repeat (first | (with_reducible first | exact HI0.out | apply IsS45.alloc | apply IsS45.drewN | apply IsS45.drew | apply IsS45.set_1 | apply IsS45.set_2 | refine IsS45.far ?_ NB0_155.out _ | refine IsS45.far ?_ NB0_175.out _) | exact HI0.out)); (case side2 => repeat (first | (with_reducible first | exact HB.out | apply below_alloc | apply pw_below_drewN | apply below_drew1 | refine below_set ?_ (IsS45.ge HI0.out) | refine below_set ?_ GE155.out | refine below_set ?_ GE175.out) | exact HB.out)); rintro e w57 ⟨rfl, hi, hb, hk⟩; refine ⟨_, rfl, ?_⟩; have n0_ := Aside0.mk (Kd.R_mono (Kd.R_keep (IsS45.apart (show IsS45 w0 _ g s0_0 x1001_28 x1002_28 from by repeat (first | (with_reducible first | exact HI0.out | apply IsS45.alloc | apply IsS45.drewN | apply IsS45.drew | apply IsS45.set_1 | apply IsS45.set_2 | refine IsS45.far ?_ NB0_155.out _ | refine IsS45.far ?_ NB0_175.out _) | exact HI0.out)) (by (with_reducible repeat (first | apply Kd.R_alloc | apply Kd.R_drewN | apply Kd.R_drew)); exact HO_6.out) (by decide)) hk (fun _ h => h.2)) (fun _ h => h.1)); have n1_ := Aside0.mk (Kd.Q_mono (Kd.Q_keep (IsS45.apartQ (show IsS45 w0 _ g s0_0 x1001_28 x1002_28 from by repeat (first | (with_reducible first | exact HI0.out | apply IsS45.alloc | apply IsS45.drewN | apply IsS45.drew | apply IsS45.set_1 | apply IsS45.set_2 | refine IsS45.far ?_ NB0_155.out _ | refine IsS45.far ?_ NB0_175.out _) | exact HI0.out)) (by (with_reducible repeat (first | apply Kd.Q_alloc | apply Kd.Q_drewN | apply Kd.Q_drew)); exact HO_176001.out) (by decide)) hk (fun _ h => h.2)) (fun _ h => h.1)); have n2_ := Aside0.mk (Kd.N_mono (Kd.N_keep (Kd.N_mono (ok := fun k_ => (((w.heap.size ≤ k_)) ∧ (some k_ ≠ (u6 : Value).ownBlock ∧ (some k_ ≠ (.slice Ao19 t168.length co19 : Value).ownBlock ∧ (k_ ≠ gb155 ∧ (k_ ≠ gb175 ∧ k_ ≠ g)))))) (by (with_reducible repeat (first | apply Kd.N_alloc | apply Kd.N_drewN | apply Kd.N_drew)); exact HO_176002.out) (fun k_ hk_ => (⟨hk_, hk_.2.2.2.2.2⟩ : _ ∧ k_ ≠ g))) hk (fun _ h => h.2)) (fun _ h => h.1)); have n3_ := Aside0.mk (KeepBut.blk hk (g' := gb155) (o := .cells #[.int .i64 0, .slice none 0 0, .slice none 0 0] 25 (0, 0)) (by (with_reducible repeat (first | refine blk_drewN ?_ _ | refine blk_drew ?_ | refine blk_alloc ?_ _)); exact BK155.out) NB155_0.out (by simp)); have n4_ := Aside0.mk (KeepBut.blk hk (g' := gb175) (o := .cells #[.int .i64 t167, .slice Ao19 t168.length co19, u176002] 25 (0, 0)) (by (with_reducible repeat (first | refine blk_drewN ?_ _ | refine blk_drew ?_ | refine blk_alloc ?_ _)); exact BK175.out) NB175_0.out (by simp)); have n5_ := Aside0.mk (KeepBut.trans (by repeat (first | (with_reducible first | exact HK.out | apply KeepBut.set_ | apply keep_drewN | apply keep_drew | apply keep_alloc | refine keep_far ?_ GW155.out _ | refine keep_far ?_ GW175.out _) | exact HK.out)) hk (.inl rfl)); have n6_ := Aside0.mk (hb); have n7_ := Aside0.mk (hi); clear HO_6; clear HO_176001; clear HO_176002; clear BK155; clear BK175; clear HK; clear HB; clear HI0; have HO_6 := n0_; have HO_176001 := n1_; have HO_176002 := n2_; have BK155 := n3_; have BK175 := n4_; have HK := n5_; have HB := n6_; have HI0 := n7_; clear n0_ n1_ n2_ n3_ n4_ n5_ n6_ n7_; (try clear hb); (try clear hb2); (try clear hk); (try clear hi)) | ((with_reducible refine gate_callee (f := 15) rfl ?_); refine goesL_ (some 44) rfl rfl Try.func15 (by kernel_rfl) rfl #[.pointer (some ⟨g, 0, none⟩), .int .i64 2] rfl (by (try simp only [List.map_toArray, List.map_cons, List.map_nil]); first | done | rfl | (simp only [List.length_drop, List.length_take]; rfl)) ?_; (with_reducible refine (spec_l1Next.calls g s0_0 t196 t197 2 t198 t199 t200 w0 _ ?side1 ?side2 A34.out).mono ?_); (case side1 => repeat (first | (with_reducible first | exact HI0.out | apply IsS45.alloc | apply IsS45.drewN | apply IsS45.drew | apply IsS45.set_1 | apply IsS45.set_2 | refine IsS45.far ?_ NB0_155.out _ | refine IsS45.far ?_ NB0_175.out _) | exact HI0.out)); (case side2 => repeat (first | (with_reducible first | exact HB.out | apply below_alloc | apply pw_below_drewN | apply below_drew1 | refine below_set ?_ (IsS45.ge HI0.out) | refine below_set ?_ GE155.out | refine below_set ?_ GE175.out) | exact HB.out)); rintro e w58 ⟨rfl, hi, hb, hk⟩; refine ⟨_, rfl, ?_⟩; have n0_ := Aside0.mk (Kd.R_mono (Kd.R_keep (IsS45.apart (show IsS45 w0 _ g s0_0 t196 t197 from by repeat (first | (with_reducible first | exact HI0.out | apply IsS45.alloc | apply IsS45.drewN | apply IsS45.drew | apply IsS45.set_1 | apply IsS45.set_2 | refine IsS45.far ?_ NB0_155.out _ | refine IsS45.far ?_ NB0_175.out _) | exact HI0.out)) (by (with_reducible repeat (first | apply Kd.R_alloc | apply Kd.R_drewN | apply Kd.R_drew)); exact HO_6.out) (by decide)) hk (fun _ h => h.2)) (fun _ h => h.1)); have n1_ := Aside0.mk (Kd.Q_mono (Kd.Q_keep (IsS45.apartQ (show IsS45 w0 _ g s0_0 t196 t197 from by repeat (first | (with_reducible first | exact HI0.out | apply IsS45.alloc | apply IsS45.drewN | apply IsS45.drew | apply IsS45.set_1 | apply IsS45.set_2 | refine IsS45.far ?_ NB0_155.out _ | refine IsS45.far ?_ NB0_175.out _) | exact HI0.out)) (by (with_reducible repeat (first | apply Kd.Q_alloc | apply Kd.Q_drewN | apply Kd.Q_drew)); exact HO_176001.out) (by decide)) hk (fun _ h => h.2)) (fun _ h => h.1)); have n2_ := Aside0.mk (Kd.N_mono (Kd.N_keep (Kd.N_mono (ok := fun k_ => (((w.heap.size ≤ k_)) ∧ (some k_ ≠ (u6 : Value).ownBlock ∧ (some k_ ≠ (.slice Ao19 t168.length co19 : Value).ownBlock ∧ (k_ ≠ gb155 ∧ (k_ ≠ gb175 ∧ k_ ≠ g)))))) (by (with_reducible repeat (first | apply Kd.N_alloc | apply Kd.N_drewN | apply Kd.N_drew)); exact HO_176002.out) (fun k_ hk_ => (⟨hk_, hk_.2.2.2.2.2⟩ : _ ∧ k_ ≠ g))) hk (fun _ h => h.2)) (fun _ h => h.1)); have n3_ := Aside0.mk (KeepBut.blk hk (g' := gb155) (o := .cells #[.int .i64 0, .slice none 0 0, .slice none 0 0] 25 (0, 0)) (by (with_reducible repeat (first | refine blk_drewN ?_ _ | refine blk_drew ?_ | refine blk_alloc ?_ _)); exact BK155.out) NB155_0.out (by simp)); have n4_ := Aside0.mk (KeepBut.blk hk (g' := gb175) (o := .cells #[.int .i64 t167, .slice Ao19 t168.length co19, u176002] 25 (0, 0)) (by (with_reducible repeat (first | refine blk_drewN ?_ _ | refine blk_drew ?_ | refine blk_alloc ?_ _)); exact BK175.out) NB175_0.out (by simp)); have n5_ := Aside0.mk (KeepBut.trans (by repeat (first | (with_reducible first | exact HK.out | apply KeepBut.set_ | apply keep_drewN | apply keep_drew | apply keep_alloc | refine keep_far ?_ GW155.out _ | refine keep_far ?_ GW175.out _) | exact HK.out)) hk (.inl rfl)); have n6_ := Aside0.mk (hb); have n7_ := Aside0.mk (hi); clear HO_6; clear HO_176001; clear HO_176002; clear BK155; clear BK175; clear HK; clear HB; clear HI0; have HO_6 := n0_; have HO_176001 := n1_; have HO_176002 := n2_; have BK155 := n3_; have BK175 := n4_; have HK := n5_; have HB := n6_; have HI0 := n7_; clear n0_ n1_ n2_ n3_ n4_ n5_ n6_ n7_; (try clear hb); (try clear hb2); (try clear hk); (try clear hi)))
                    have n0_ := Aside0.mk (Kd.R_drew HO_6.out)
                    have n1_ := Aside0.mk (Kd.Q_drew HO_176001.out)
                    have n2_ := Aside0.mk (Kd.N_drew HO_176002.out)
                    have n3_ := Aside0.mk (blk_drew BK155.out)
                    have n4_ := Aside0.mk (blk_drew BK175.out)
                    have n5_ := Aside0.mk (IsS45.drew HI0.out)
                    have n6_ := Aside0.mk (keep_drew HK.out)
                    have n7_ := Aside0.mk (below_drew1 HB.out)
                    clear HO_6
                    clear HO_176001
                    clear HO_176002
                    clear BK155
                    clear BK175
                    clear HI0
                    clear HK
                    clear HB
                    have HO_6 := n0_
                    have HO_176001 := n1_
                    have HO_176002 := n2_
                    have BK155 := n3_
                    have BK175 := n4_
                    have HI0 := n5_
                    have HK := n6_
                    have HB := n7_
                    clear n0_ n1_ n2_ n3_ n4_ n5_ n6_ n7_
                    obtain ⟨Ao60, co60, eo60⟩ := Kd.R_slice HO_6.out
                    (first | subst eo60 | (injection eo60 with f1_ f2_ f3_; have f4_ := f1_.symm; have f5_ := f3_.symm; clear f1_ f2_ f3_; subst f4_; subst f5_))
                    refine start_ (n := 10) (S := fun w' => w'.cell? ⟨gb175, 0, none⟩ = some (.int .i64 t167) ∧ w'.cell? ⟨gb175, 1, none⟩ = some (.slice Ao19 t168.length co19) ∧ w'.cell? ⟨gb175, 2, none⟩ = some (u176002)) (ds := [9]) #[false, false, false, false, false, false, false, false, false, false] (by kernel_rfl) rfl rfl ⟨(blk_cell BK175.out 0).trans rfl, (blk_cell BK175.out 1).trans rfl, (blk_cell BK175.out 2).trans rfl⟩ (fun hHeld => ?_); refine with_tabW spec_l1DrawDevice.tab14 spec_l1DrawDevice.bits14 (fun HT_ HW_ => ?_)
                    generalize w58.drew = w59 at HO_6 HO_176001 HO_176002 BK155 BK175 HI0 HK HB hHeld ⊢
                    refine pure_ (i := 0) (N := some 48) (v := ?_) (a' := ?_) #[true, false, false, false, false, false, false, false, false, false] rfl rfl (any_of HT_.out (by kernel_rfl)) (fun _ _ _ h => h) (Or.inl ⟨by rfl, ?_⟩) ?_ ?_
                    rotate_left
                    · intro w'
                      go_simp
                      with_reducible rfl
                    rotate_left
                    · simp only [Act.put, List.setIfInBounds_toArray, List.set_cons_zero, List.set_cons_succ, i64_w, i32_w]
                      rfl
                    refine pure_ (i := 2) (N := some 50) (v := ?_) (a' := ?_) #[true, false, true, false, false, false, false, false, false, false] rfl rfl (any_of HT_.out (by kernel_rfl)) (fun _ _ _ h => h) (Or.inl ⟨by rfl, ?_⟩) ?_ ?_
                    rotate_left
                    · intro w'
                      go_simp
                      with_reducible rfl
                    rotate_left
                    · simp only [Act.put, List.setIfInBounds_toArray, List.set_cons_zero, List.set_cons_succ, i64_w, i32_w]
                      rfl
                    refine pure_ (i := 3) (N := some 51) (v := ?_) (a' := ?_) #[true, false, true, true, false, false, false, false, false, false] rfl rfl (any_of HT_.out (by kernel_rfl)) (fun _ _ _ h => h) (Or.inl ⟨by rfl, ?_⟩) ?_ ?_
                    rotate_left
                    · intro w'
                      go_simp
                      with_reducible rfl
                    rotate_left
                    · simp only [Act.put, List.setIfInBounds_toArray, List.set_cons_zero, List.set_cons_succ, i64_w, i32_w]
                      rfl
                    refine take_ (i := 1) (N := some 49) (v := ?_) (a' := ?_) #[true, true, true, true, false, false, false, false, false, false] rfl rfl (take_ofW HT_.out HW_.out (by kernel_rfl)) (fun _ _ _ h => h) (Or.inl ⟨by rfl, ?_⟩) hHeld ?_ ?_
                    rotate_left
                    · rintro w' ⟨s0, s1, s2⟩
                      go_simp
                      with_reducible rfl
                    rotate_left
                    · simp only [Act.put, List.setIfInBounds_toArray, List.set_cons_zero, List.set_cons_succ, i64_w, i32_w]
                      rfl
                    refine one_ (i := 4) (N := some 52) #[true, true, true, true, true, false, false, false, false, false] rfl rfl (one_of HT_.out (by kernel_rfl)) (by decide) (fun K hK => ?_)
                    refine goes_ Try.func19 (by kernel_rfl) rfl #[.slice Ao60 x6_28.length co60] (by rfl) rfl rfl (by (try simp only [List.map_toArray, List.map_cons, List.map_nil]); first | done | rfl | (simp only [List.length_drop, List.length_take]; rfl)) ?_
                    with_reducible refine (spec_l1Copy.calls kj28 _ _ x6_28 t210 _ ?side1 ?side2 A52.out).mono ?_
                    (case side1 => repeat (first | exact (Kd.R_reads' HO_6.out).2.2 | (with_reducible refine Kd.C_alloc ?_ _) | (with_reducible refine Kd.C_drewN ?_ _) | (with_reducible refine Kd.C_drew ?_)))
                    (case side2 => exact (Kd.R_reads' HO_6.out).2.1)
                    rintro e w61 ⟨v211, rfl, ho0, hb⟩
                    refine ⟨_, rfl, ?_⟩
                    have n0_ := Aside0.mk (Kd.R_elder' (by (with_reducible repeat (first | apply Kd.R_alloc | apply Kd.R_drewN | apply Kd.R_drew)); exact HO_6.out) (Kd.R_base ho0) hb)
                    have n1_ := Aside0.mk (Kd.Q_elder' (by (with_reducible repeat (first | apply Kd.Q_alloc | apply Kd.Q_drewN | apply Kd.Q_drew)); exact HO_176001.out) (Kd.R_base ho0) hb)
                    have n2_ := Aside0.mk (Kd.N_elder' (by (with_reducible repeat (first | apply Kd.N_alloc | apply Kd.N_drewN | apply Kd.N_drew)); exact HO_176002.out) (Kd.R_base ho0) hb)
                    have n3_ := Aside0.mk (Kd.R_lower (Kd.R_new' (Kd.R_new' (Kd.R_newM (M := fun k_ => (w.heap.size ≤ k_)) ho0 (keep_size (w := w) (g := g) (row := none) (by repeat (first | (with_reducible first | exact HK.out | apply KeepBut.set_ | apply keep_drewN | apply keep_drew | apply keep_alloc | refine keep_far ?_ GW155.out _ | refine keep_far ?_ GW175.out _) | exact HK.out))) (fun k_ h_ => h_)) (Kd.R_lt (by (with_reducible repeat (first | apply Kd.R_alloc | apply Kd.R_drewN | apply Kd.R_drew)); exact HO_6.out))) (Kd.Q_lt (by (with_reducible repeat (first | apply Kd.Q_alloc | apply Kd.Q_drewN | apply Kd.Q_drew)); exact HO_176001.out))) (keep_size (w := w) (g := g) (row := none) (by repeat (first | (with_reducible first | exact HK.out | apply KeepBut.set_ | apply keep_drewN | apply keep_drew | apply keep_alloc | refine keep_far ?_ GW155.out _ | refine keep_far ?_ GW175.out _) | exact HK.out))))
                    have n4_ := Aside0.mk (blk_below (g := gb155) (o := .cells #[.int .i64 0, .slice none 0 0, .slice none 0 0] 25 (0, 0)) (by (with_reducible repeat (first | refine blk_drewN ?_ _ | refine blk_drew ?_ | refine blk_alloc ?_ _)); exact BK155.out) hb)
                    have n5_ := Aside0.mk (blk_below (g := gb175) (o := .cells #[.int .i64 t167, .slice Ao19 t168.length co19, u176002] 25 (0, 0)) (by (with_reducible repeat (first | refine blk_drewN ?_ _ | refine blk_drew ?_ | refine blk_alloc ?_ _)); exact BK175.out) hb)
                    have n6_ := Aside0.mk (IsS45.below (by repeat (first | (with_reducible first | exact HI0.out | apply IsS45.alloc | apply IsS45.drewN | apply IsS45.drew | apply IsS45.set_1 | apply IsS45.set_2 | refine IsS45.far ?_ NB0_155.out _ | refine IsS45.far ?_ NB0_175.out _) | exact HI0.out)) hb)
                    have n7_ := Aside0.mk (KeepBut.trans (by repeat (first | (with_reducible first | exact HK.out | apply KeepBut.set_ | apply keep_drewN | apply keep_drew | apply keep_alloc | refine keep_far ?_ GW155.out _ | refine keep_far ?_ GW175.out _) | exact HK.out)) (KeepBut.of_below hb g none) (.inl rfl))
                    have n8_ := Aside0.mk (below_step (by repeat (first | (with_reducible first | exact HB.out | apply below_alloc | apply pw_below_drewN | apply below_drew1 | refine below_set ?_ (IsS45.ge HI0.out) | refine below_set ?_ GE155.out | refine below_set ?_ GE175.out) | exact HB.out)) hb)
                    clear HO_6
                    clear HO_176001
                    clear HO_176002
                    clear BK155
                    clear BK175
                    clear HI0
                    clear HK
                    clear HB
                    have HO_6 := n0_
                    have HO_176001 := n1_
                    have HO_176002 := n2_
                    have HO212 := n3_
                    have BK155 := n4_
                    have BK175 := n5_
                    have HI0 := n6_
                    have HK := n7_
                    have HB := n8_
                    clear n0_ n1_ n2_ n3_ n4_ n5_ n6_ n7_ n8_
                    (try clear hb)
                    (try clear hb2)
                    (try clear hk)
                    (try clear hi)
                    (try clear ho0)
                    obtain ⟨Ao62, co62, eo62⟩ := Kd.R_slice HO212.out
                    (first | subst eo62 | (injection eo62 with f1_ f2_ f3_; have f4_ := f1_.symm; have f5_ := f3_.symm; clear f1_ f2_ f3_; subst f4_; subst f5_))
                    refine hK.out _ _ ⟨(blk_cell BK175.out 0).trans rfl, (blk_cell BK175.out 1).trans rfl, (blk_cell BK175.out 2).trans rfl⟩ (fun hHeld => ?_)
                    clear hK K
                    refine norm_ (a' := ?_) ?_ ?_
                    rotate_left
                    · show Act.put _ (some 52) _ = _
                      simp only [Act.put, List.setIfInBounds_toArray, List.set_cons_zero, List.set_cons_succ, i64_w, i32_w]
                      rfl
                    refine pure_ (i := 5) (N := some 53) (v := ?_) (a' := ?_) #[true, true, true, true, true, true, false, false, false, false] rfl rfl (any_of HT_.out (by kernel_rfl)) (fun _ _ _ h => h) (Or.inl ⟨by rfl, ?_⟩) ?_ ?_
                    rotate_left
                    · intro w'
                      go_simp
                      with_reducible rfl
                    rotate_left
                    · simp only [Act.put, List.setIfInBounds_toArray, List.set_cons_zero, List.set_cons_succ, i64_w, i32_w]
                      rfl
                    refine one_ (i := 6) (N := some 54) #[true, true, true, true, true, true, true, false, false, false] rfl rfl (one_of HT_.out (by kernel_rfl)) (by decide) (fun K hK => ?_)
                    refine value_ (w1 := ?_) (v := ?_) (by rfl) rfl ?_ ?_
                    rotate_left 2
                    · go_simp
                      constructor
                      · rfl
                      · rfl
                    refine hK.out _ _ ⟨(blk_cell (blk_alloc BK175.out _) 0).trans rfl, (blk_cell (blk_alloc BK175.out _) 1).trans rfl, (blk_cell (blk_alloc BK175.out _) 2).trans rfl⟩ (fun hHeld => ?_)
                    clear hK K
                    refine norm_ (a' := ?_) ?_ ?_
                    rotate_left
                    · show Act.put _ (some 54) _ = _
                      simp only [Act.put, List.setIfInBounds_toArray, List.set_cons_zero, List.set_cons_succ, i64_w, i32_w]
                      rfl
                    refine one_ (i := 7) (N := some 55) #[true, true, true, true, true, true, true, true, false, false] rfl rfl (one_of HT_.out (by kernel_rfl)) (by decide) (fun K hK => ?_)
                    refine Kd.N_append_step k32 w.heap.size (by rfl) (.tmp 49) (.tmp 54) 23 32 (.agg #[(.int .i64 0), (.slice none 0 0)]) 32 rfl Try.underlying23 info32 rfl (by decide) (by omega) u176002 x176002_2 (⟨t195, t210⟩ : S32) [.int .i64 t195, .slice Ao62 t210.length co62] (fun k_ => (w.heap.size ≤ k_) ∧ some k_ ≠ (.slice Ao60 x6_28.length co60 : Value).ownBlock ∧ some k_ ≠ (.slice Ao19 t168.length co19 : Value).ownBlock ∧ k_ ≠ gb155 ∧ k_ ≠ gb175 ∧ k_ ≠ g) (fun k_ => ((fun k_ => (w.heap.size ≤ k_) ∧ some k_ ≠ (.slice Ao60 x6_28.length co60 : Value).ownBlock ∧ some k_ ≠ (.slice Ao19 t168.length co19 : Value).ownBlock ∧ k_ ≠ gb155 ∧ k_ ≠ gb175 ∧ k_ ≠ g)) k_ ∧ some k_ ≠ (u176002 : Value).ownBlock) rfl rfl ?aP (fun _ hk => hk) ?aF ?aO (Below.refl _ _) ?aS ?aL ?_
                    (case aP => exact (k32_mkF _ _ (⟨t195, t210⟩ : S32) (Kd.R_reads' (Kd.R_mono (ok' := (fun k_ => ((fun k_ => (w.heap.size ≤ k_) ∧ some k_ ≠ (.slice Ao60 x6_28.length co60 : Value).ownBlock ∧ some k_ ≠ (.slice Ao19 t168.length co19 : Value).ownBlock ∧ k_ ≠ gb155 ∧ k_ ≠ gb175 ∧ k_ ≠ g)) k_ ∧ some k_ ≠ (u176002 : Value).ownBlock)) (IsS45.apart HI0.out (Kd.R_types (Kd.R_types (Kd.R_apart' (HO212.out) (Kd.N_typed HO_176002.out) (by decide)) BK155.out (by decide)) BK175.out (by decide)) (by decide)) (fun k_ hk => ⟨⟨hk.1.1.1.1.1.1.1, ⟨hk.1.1.1.1.1.2, ⟨hk.1.1.1.1.2, ⟨hk.1.1.2, ⟨hk.1.2, hk.2⟩⟩⟩⟩⟩, hk.1.1.1.2⟩))).2.1 (Kd.R_F (Kd.R_mono (ok' := (fun k_ => ((fun k_ => (w.heap.size ≤ k_) ∧ some k_ ≠ (.slice Ao60 x6_28.length co60 : Value).ownBlock ∧ some k_ ≠ (.slice Ao19 t168.length co19 : Value).ownBlock ∧ k_ ≠ gb155 ∧ k_ ≠ gb175 ∧ k_ ≠ g)) k_ ∧ some k_ ≠ (u176002 : Value).ownBlock)) (IsS45.apart HI0.out (Kd.R_types (Kd.R_types (Kd.R_apart' (HO212.out) (Kd.N_typed HO_176002.out) (by decide)) BK155.out (by decide)) BK175.out (by decide)) (by decide)) (fun k_ hk => ⟨⟨hk.1.1.1.1.1.1.1, ⟨hk.1.1.1.1.1.2, ⟨hk.1.1.1.1.2, ⟨hk.1.1.2, ⟨hk.1.2, hk.2⟩⟩⟩⟩⟩, hk.1.1.1.2⟩)))))
                    (case aF => exact (fun k_ hk => ⟨(Nat.le_trans (keep_size (w := w) (g := g) (row := none) (by repeat (first | (with_reducible first | exact HK.out | apply KeepBut.set_ | apply keep_drewN | apply keep_drew | apply keep_alloc | refine keep_far ?_ GW155.out _ | refine keep_far ?_ GW175.out _) | exact HK.out))) hk), Kd.fresh' (Kd.R_lt (by (with_reducible repeat (first | apply Kd.R_alloc | apply Kd.R_drewN | apply Kd.R_drew)); exact HO_6.out)) k_ hk, Kd.fresh' (Kd.Q_lt (by (with_reducible repeat (first | apply Kd.Q_alloc | apply Kd.Q_drewN | apply Kd.Q_drew)); exact HO_176001.out)) k_ hk, Kd.freshB (g := gb155) (o := .cells #[.int .i64 0, .slice none 0 0, .slice none 0 0] 25 (0, 0)) (by (with_reducible repeat (first | refine blk_drewN ?_ _ | refine blk_drew ?_ | refine blk_alloc ?_ _)); exact BK155.out) k_ hk, Kd.freshB (g := gb175) (o := .cells #[.int .i64 t167, .slice Ao19 t168.length co19, u176002] 25 (0, 0)) (by (with_reducible repeat (first | refine blk_drewN ?_ _ | refine blk_drew ?_ | refine blk_alloc ?_ _)); exact BK175.out) k_ hk, IsS45.fresh (by repeat (first | (with_reducible first | exact HI0.out | apply IsS45.alloc | apply IsS45.drewN | apply IsS45.drew | apply IsS45.set_1 | apply IsS45.set_2 | refine IsS45.far ?_ NB0_155.out _ | refine IsS45.far ?_ NB0_175.out _) | exact HI0.out)) k_ hk⟩))
                    (case aO => exact (by (with_reducible repeat (first | apply Kd.N_alloc | apply Kd.N_drewN | apply Kd.N_drew)); exact Kd.N_mono HO_176002.out (fun _ hk => ⟨hk.1.1, ⟨hk.1.2.1, ⟨hk.1.2.2.1, ⟨hk.1.2.2.2.1, ⟨hk.1.2.2.2.2.1, hk.1.2.2.2.2.2⟩⟩⟩⟩⟩)))
                    (case aS => exact (keep_size (w := w) (g := g) (row := none) (by repeat (first | (with_reducible first | exact HK.out | apply KeepBut.set_ | apply keep_drewN | apply keep_drew | apply keep_alloc | refine keep_far ?_ GW155.out _ | refine keep_far ?_ GW175.out _) | exact HK.out))))
                    (case aL => have := LMc53.out; omega)
                    intro v214 w63 ho hb hg hat
                    rw [← Ny213.out] at ho
                    have n0_ := Aside0.mk (Kd.R_over' (by (with_reducible repeat (first | apply Kd.R_alloc | apply Kd.R_drewN | apply Kd.R_drew)); exact HO_6.out) (Kd.N_typed (by (with_reducible repeat (first | apply Kd.N_alloc | apply Kd.N_drewN | apply Kd.N_drew)); exact HO_176002.out)) (by decide) hg)
                    have n1_ := Aside0.mk (Kd.Q_over' (by (with_reducible repeat (first | apply Kd.Q_alloc | apply Kd.Q_drewN | apply Kd.Q_drew)); exact HO_176001.out) (Kd.N_typed (by (with_reducible repeat (first | apply Kd.N_alloc | apply Kd.N_drewN | apply Kd.N_drew)); exact HO_176002.out)) (by decide) hg)
                    have n2_ := Aside0.mk (blk_grown (g := gb155) (o := .cells #[.int .i64 0, .slice none 0 0, .slice none 0 0] 25 (0, 0)) (by (with_reducible repeat (first | refine blk_drewN ?_ _ | refine blk_drew ?_ | refine blk_alloc ?_ _)); exact BK155.out) hg (Kd.N_ne HO_176002.out BK155.out (by decide)))
                    have n3_ := Aside0.mk (blk_grown (g := gb175) (o := .cells #[.int .i64 t167, .slice Ao19 t168.length co19, u176002] 25 (0, 0)) (by (with_reducible repeat (first | refine blk_drewN ?_ _ | refine blk_drew ?_ | refine blk_alloc ?_ _)); exact BK175.out) hg (Kd.N_ne HO_176002.out BK175.out (by decide)))
                    have n4_ := Aside0.mk (IsS45.grown (by repeat (first | (with_reducible first | exact HI0.out | apply IsS45.alloc | apply IsS45.drewN | apply IsS45.drew | apply IsS45.set_1 | apply IsS45.set_2 | refine IsS45.far ?_ NB0_155.out _ | refine IsS45.far ?_ NB0_175.out _) | exact HI0.out)) hg (IsS45.own_neN HI0.out HO_176002.out (by decide)))
                    have n5_ := Aside0.mk (below_weaken (by repeat (first | (with_reducible first | exact HB.out | apply below_alloc | apply pw_below_drewN | apply below_drew1 | refine below_set ?_ (IsS45.ge HI0.out) | refine below_set ?_ GE155.out | refine below_set ?_ GE175.out) | exact HB.out)) HL.out hb)
                    have n6_ := Aside0.mk (KeepBut.trans (by repeat (first | (with_reducible first | exact HK.out | apply KeepBut.set_ | apply keep_drewN | apply keep_drew | apply keep_alloc | refine keep_far ?_ GW155.out _ | refine keep_far ?_ GW175.out _) | exact HK.out)) (KeepBut.of_grown hg g) (Kd.N_base2 HO_176002.out))
                    have n7_ := Aside0.mk (ho)
                    clear HO_6
                    clear HO_176001
                    clear BK155
                    clear BK175
                    clear HI0
                    clear HB
                    clear HK
                    clear HO_176002
                    clear HO212
                    have HO_6 := n0_
                    have HO_176001 := n1_
                    have BK155 := n2_
                    have BK175 := n3_
                    have HI0 := n4_
                    have HB := n5_
                    have HK := n6_
                    have HO215 := n7_
                    clear n0_ n1_ n2_ n3_ n4_ n5_ n6_ n7_
                    clear ho hb hg hat
                    obtain ⟨Ao64, co64, eo64⟩ := Kd.N_slice HO215.out
                    (first | subst eo64 | (injection eo64 with f1_ f2_ f3_; have f4_ := f1_.symm; have f5_ := f3_.symm; clear f1_ f2_ f3_; subst f4_; subst f5_))
                    refine hK.out _ _ ⟨(blk_cell BK175.out 0).trans rfl, (blk_cell BK175.out 1).trans rfl, (blk_cell BK175.out 2).trans rfl⟩ (fun hHeld => ?_)
                    clear hK K
                    refine norm_ (a' := ?_) ?_ ?_
                    rotate_left
                    · show Act.put _ (some 55) _ = _
                      simp only [Act.put, List.setIfInBounds_toArray, List.set_cons_zero, List.set_cons_succ, i64_w, i32_w]
                      rfl
                    refine pure_ (i := 8) (N := some 56) (v := ?_) (a' := ?_) #[true, true, true, true, true, true, true, true, true, false] rfl rfl (any_of HT_.out (by kernel_rfl)) (fun _ _ _ h => h) (Or.inl ⟨by rfl, ?_⟩) ?_ ?_
                    rotate_left
                    · intro w'
                      go_simp
                      with_reducible rfl
                    rotate_left
                    · simp only [Act.put, List.setIfInBounds_toArray, List.set_cons_zero, List.set_cons_succ, i64_w, i32_w]
                      rfl
                    refine last_ (i := 9) (N := none) #[true, true, true, true, true, true, true, true, true, true] rfl rfl (one_of HT_.out (by kernel_rfl)) (by decide) (fun K hK => ?_)
                    have hs65 : w63.cell? ⟨gb175, 2, none⟩ = some (u176002) := (blk_cell BK175.out 2).trans rfl
                    have hfs65 := blk_frozen BK175.out 2
                    have hns65_0 := NB155_175.out
                    have hms65_0 := NB175_155.out
                    refine skip_ (w1 := ?_) (by rfl) rfl ?_ ?_
                    rotate_left
                    · go_simp
                      rfl
                    refine hK.out _ _ ?_
                    clear hK K
                    refine done_ (done_of HT_.out (by kernel_rfl)) ?_
                    try go_wp2
                    go_roundg kj28
                    case measure => have := HJ7.out; have := HK2.out; have := HJ28.out; omega
                    case rel => exact ⟨(x6_28), (wrap64 (x7_2 + 1)), (t199), (t200), (y213), (.slice Ao64 y213.length co64), (by first | rfl | (simp; done) | (simp [*]; done)), H', ⟨by have := HJ7.out; have := HK2.out; have := HJ28.out; omega⟩, ⟨by (with_reducible repeat (first | apply Kd.R_alloc | apply Kd.R_drewN | apply Kd.R_drew)); exact Kd.R_mono (Kd.R_far (p := ⟨gb175, 2, none⟩) (Kd.R_types HO_6.out BK175.out (by decide)) (fun _ hk => hk.2) (.slice Ao64 y213.length co64)) (fun _ hk => ⟨hk.1.1.1, hk.1.1.2⟩)⟩, ⟨by (with_reducible repeat (first | apply Kd.Q_alloc | apply Kd.Q_drewN | apply Kd.Q_drew)); exact Kd.Q_mono (Kd.Q_far (p := ⟨gb175, 2, none⟩) (Kd.Q_types HO_176001.out BK175.out (by decide)) (fun _ hk => hk.2) (.slice Ao64 y213.length co64)) (fun _ hk => ⟨hk.1.1.1, hk.1.1.2⟩)⟩, ⟨by (with_reducible repeat (first | apply Kd.N_alloc | apply Kd.N_drewN | apply Kd.N_drew)); exact Kd.N_mono (Kd.N_far (p := ⟨gb175, 2, none⟩) (Kd.N_mono HO215.out (fun k_ hk => (⟨hk, hk.2.2.2.2.1⟩ : _ ∧ k_ ≠ gb175))) (fun _ hk => hk.2) (.slice Ao64 y213.length co64)) (fun _ hk => ⟨hk.1.1, ⟨hk.1.2.1, ⟨hk.1.2.2.1, ⟨hk.1.2.2.2.1, ⟨hk.1.2.2.2.2.1, hk.1.2.2.2.2.2⟩⟩⟩⟩⟩)⟩, ⟨by (with_reducible repeat (first | refine blk_drewN ?_ _ | refine blk_drew ?_ | refine blk_alloc ?_ _)); refine blk_far ?_ NB155_175.out _; (with_reducible repeat (first | refine blk_drewN ?_ _ | refine blk_drew ?_ | refine blk_alloc ?_ _)); exact BK155.out⟩, ⟨by (with_reducible repeat (first | refine blk_drewN ?_ _ | refine blk_drew ?_ | refine blk_alloc ?_ _)); refine blk_put (cs := #[.int .i64 t167, .slice Ao19 t168.length co19, u176002]) ?_ 2 _ rfl; (with_reducible repeat (first | refine blk_drewN ?_ _ | refine blk_drew ?_ | refine blk_alloc ?_ _)); exact BK175.out⟩, ⟨by repeat (first | (with_reducible first | exact HI0.out | apply IsS45.alloc | apply IsS45.drewN | apply IsS45.drew | apply IsS45.set_1 | apply IsS45.set_2 | refine IsS45.far ?_ NB0_155.out _ | refine IsS45.far ?_ NB0_175.out _) | exact HI0.out)⟩, ⟨by repeat (first | (with_reducible first | exact HK.out | apply KeepBut.set_ | apply keep_drewN | apply keep_drew | apply keep_alloc | refine keep_far ?_ GW155.out _ | refine keep_far ?_ GW175.out _) | exact HK.out)⟩, ⟨by repeat (first | (with_reducible first | exact HB.out | apply below_alloc | apply pw_below_drewN | apply below_drew1 | refine below_set ?_ (IsS45.ge HI0.out) | refine below_set ?_ GE155.out | refine below_set ?_ GE175.out) | exact HB.out)⟩⟩
                  · rw [if_neg c53] at H
                    exact absurd H (by simp)
          · rw [if_neg c28] at H
            have c28b0 : decide (x7_2 < x5_7) = false := decide_eq_false c28
            clear c28
            replace H := Option.bind_eq_some_iff.mp H
            obtain ⟨⟨t216, t217, t218⟩, A660, H⟩ := H
            replace H : (if t216 = 0 then ((spec_l1Next.f s0_0 t217 t218 5).bind fun bt219 => (if bt219.1 = 0 then (if 1 ≤ (t168.length : Int) then (some (t167, (t168.drop (1 : Int).toNat), x176002_2, bt219.2.1, bt219.2.2)) else (none)) else (if bt219.1 = 1 then (some (wrap64 (t167 + 1), t168, x176002_2, bt219.2.1, bt219.2.2)) else (if bt219.1 = 2 then ((spec_l1Copy.f k2 x6_2).bind fun t225 => (if x176002_2.length < 4398046511104 then (some (t167, t168, (x176002_2 ++ [(⟨t167, t225⟩ : S32)]), bt219.2.1, bt219.2.2)) else (none))) else (if bt219.1 = 3 then ((spec_l1Copy.f k2 x6_2).bind fun t231 => (if x176002_2.length < 4398046511104 then (some (t167, t168, (x176002_2 ++ [(⟨(-1), t231⟩ : S32)]), bt219.2.1, bt219.2.2)) else (none))) else (if 1 ≤ (x6_2.length : Int) then (if x176002_2.length < 4398046511104 then (some (t167, t168, (x176002_2 ++ [(⟨0, (x6_2.drop 1)⟩ : S32)]), bt219.2.1, bt219.2.2)) else (none)) else (none))))))) else (some (t167, t168, x176002_2, t217, t218))) = some (r1, r2, r3, r4, r5) := H
            have A66 := Aside0.mk A660
            clear A660
            by_cases c67 : t216 = 0
            · rw [if_pos c67] at H
              have c67b0 : (t216 == 0) = true := beq_iff_eq.mpr c67
              have c67b1 : (t216 != 0) = false := bne_eq_false_iff_eq.mpr c67
              clear c67
              replace H := Option.bind_eq_some_iff.mp H
              obtain ⟨⟨t219, t220, t221⟩, A680, H⟩ := H
              replace H : (if t219 = 0 then (if 1 ≤ (t168.length : Int) then (some (t167, (t168.drop (1 : Int).toNat), x176002_2, t220, t221)) else (none)) else (if t219 = 1 then (some (wrap64 (t167 + 1), t168, x176002_2, t220, t221)) else (if t219 = 2 then ((spec_l1Copy.f k2 x6_2).bind fun t225 => (if x176002_2.length < 4398046511104 then (some (t167, t168, (x176002_2 ++ [(⟨t167, t225⟩ : S32)]), t220, t221)) else (none))) else (if t219 = 3 then ((spec_l1Copy.f k2 x6_2).bind fun t231 => (if x176002_2.length < 4398046511104 then (some (t167, t168, (x176002_2 ++ [(⟨(-1), t231⟩ : S32)]), t220, t221)) else (none))) else (if 1 ≤ (x6_2.length : Int) then (if x176002_2.length < 4398046511104 then (some (t167, t168, (x176002_2 ++ [(⟨0, (x6_2.drop 1)⟩ : S32)]), t220, t221)) else (none)) else (none)))))) = some (r1, r2, r3, r4, r5) := H
              have A68 := Aside0.mk A680
              clear A680
              by_cases c69 : t219 = 0
              · rw [if_pos c69] at H
                have c69b0 : (t219 == 0) = true := beq_iff_eq.mpr c69
                have c69b1 : (t219 != 0) = false := bne_eq_false_iff_eq.mpr c69
                clear c69
                by_cases c70 : 1 ≤ (t168.length : Int)
                · rw [if_pos c70] at H
                  have c70b0 := eq_true c70
                  have c70b1 : decide (1 ≤ (t168.length : Int)) = true := decide_eq_true c70
                  clear c70
                  obtain ⟨y222, hy222⟩ : ∃ y_ : List Int, y_ = (t168.drop (1 : Int).toNat) := ⟨_, rfl⟩
                  replace H : (some (t167, y222, x176002_2, t220, t221)) = some (r1, r2, r3, r4, r5) := by first | (rw [hy222]; with_reducible exact H) | (have H2_ := (Option.bind_some _ _).symm.trans H; rw [hy222]; with_reducible exact H2_) | (have H2_ := (Option.bind_some _ _).symm.trans H; with_reducible exact H2_) | with_reducible exact H | (rw [hy222]; exact H) | exact H
                  have Ny222 := Aside0.mk hy222
                  clear hy222
                  simp only [Option.some.injEq, Prod.mk.injEq] at H
                  obtain ⟨rfl, rfl, rfl, rfl, rfl⟩ := H
                  go_wp2_with (first | ((with_reducible refine gate_callee (f := 15) rfl ?_); refine goesL_ (some 58) rfl rfl Try.func15 (by kernel_rfl) rfl #[.pointer (some ⟨g, 0, none⟩), .int .i64 6] rfl (by (try simp only [List.map_toArray, List.map_cons, List.map_nil]); first | done | rfl | (simp only [List.length_drop, List.length_take]; rfl)) ?_; (with_reducible refine (spec_l1Next.calls g s0_0 x1001_2 x1002_2 6 t216 t217 t218 w0 _ ?side1 ?side2 A66.out).mono ?_); (case side1 => repeat (first | (with_reducible first | exact HI0.out | apply IsS45.alloc | apply IsS45.drewN | apply IsS45.drew | apply IsS45.set_1 | apply IsS45.set_2 | refine IsS45.far ?_ NB0_155.out _ | refine IsS45.far ?_ NB0_175.out _) | exact HI0.out)); (case side2 => repeat (first | (with_reducible first | exact HB.out | apply below_alloc | apply pw_below_drewN | apply below_drew1 | refine below_set ?_ (IsS45.ge HI0.out) | refine below_set ?_ GE155.out | refine below_set ?_ GE175.out) | exact HB.out)); rintro e w71 ⟨rfl, hi, hb, hk⟩; refine ⟨_, rfl, ?_⟩; have n0_ := Aside0.mk (Kd.R_mono (Kd.R_keep (IsS45.apart (show IsS45 w0 _ g s0_0 x1001_2 x1002_2 from by repeat (first | (with_reducible first | exact HI0.out | apply IsS45.alloc | apply IsS45.drewN | apply IsS45.drew | apply IsS45.set_1 | apply IsS45.set_2 | refine IsS45.far ?_ NB0_155.out _ | refine IsS45.far ?_ NB0_175.out _) | exact HI0.out)) (by (with_reducible repeat (first | apply Kd.R_alloc | apply Kd.R_drewN | apply Kd.R_drew)); exact HO_6.out) (by decide)) hk (fun _ h => h.2)) (fun _ h => h.1)); have n1_ := Aside0.mk (Kd.Q_mono (Kd.Q_keep (IsS45.apartQ (show IsS45 w0 _ g s0_0 x1001_2 x1002_2 from by repeat (first | (with_reducible first | exact HI0.out | apply IsS45.alloc | apply IsS45.drewN | apply IsS45.drew | apply IsS45.set_1 | apply IsS45.set_2 | refine IsS45.far ?_ NB0_155.out _ | refine IsS45.far ?_ NB0_175.out _) | exact HI0.out)) (by (with_reducible repeat (first | apply Kd.Q_alloc | apply Kd.Q_drewN | apply Kd.Q_drew)); exact HO_176001.out) (by decide)) hk (fun _ h => h.2)) (fun _ h => h.1)); have n2_ := Aside0.mk (Kd.N_mono (Kd.N_keep (Kd.N_mono (ok := fun k_ => (((w.heap.size ≤ k_)) ∧ (some k_ ≠ (u6 : Value).ownBlock ∧ (some k_ ≠ (.slice Ao19 t168.length co19 : Value).ownBlock ∧ (k_ ≠ gb155 ∧ (k_ ≠ gb175 ∧ k_ ≠ g)))))) (by (with_reducible repeat (first | apply Kd.N_alloc | apply Kd.N_drewN | apply Kd.N_drew)); exact HO_176002.out) (fun k_ hk_ => (⟨hk_, hk_.2.2.2.2.2⟩ : _ ∧ k_ ≠ g))) hk (fun _ h => h.2)) (fun _ h => h.1)); have n3_ := Aside0.mk (KeepBut.blk hk (g' := gb155) (o := .cells #[.int .i64 0, .slice none 0 0, .slice none 0 0] 25 (0, 0)) (by (with_reducible repeat (first | refine blk_drewN ?_ _ | refine blk_drew ?_ | refine blk_alloc ?_ _)); exact BK155.out) NB155_0.out (by simp)); have n4_ := Aside0.mk (KeepBut.blk hk (g' := gb175) (o := .cells #[.int .i64 t167, .slice Ao19 t168.length co19, u176002] 25 (0, 0)) (by (with_reducible repeat (first | refine blk_drewN ?_ _ | refine blk_drew ?_ | refine blk_alloc ?_ _)); exact BK175.out) NB175_0.out (by simp)); have n5_ := Aside0.mk (KeepBut.trans (by repeat (first | (with_reducible first | exact HK.out | apply KeepBut.set_ | apply keep_drewN | apply keep_drew | apply keep_alloc | refine keep_far ?_ GW155.out _ | refine keep_far ?_ GW175.out _) | exact HK.out)) hk (.inl rfl)); have n6_ := Aside0.mk (hb); have n7_ := Aside0.mk (hi); clear HO_6; clear HO_176001; clear HO_176002; clear BK155; clear BK175; clear HK; clear HB; clear HI0; have HO_6 := n0_; have HO_176001 := n1_; have HO_176002 := n2_; have BK155 := n3_; have BK175 := n4_; have HK := n5_; have HB := n6_; have HI0 := n7_; clear n0_ n1_ n2_ n3_ n4_ n5_ n6_ n7_; (try clear hb); (try clear hb2); (try clear hk); (try clear hi)) | ((with_reducible refine gate_callee (f := 15) rfl ?_); refine goesL_ (some 61) rfl rfl Try.func15 (by kernel_rfl) rfl #[.pointer (some ⟨g, 0, none⟩), .int .i64 5] rfl (by (try simp only [List.map_toArray, List.map_cons, List.map_nil]); first | done | rfl | (simp only [List.length_drop, List.length_take]; rfl)) ?_; (with_reducible refine (spec_l1Next.calls g s0_0 t217 t218 5 t219 t220 t221 w0 _ ?side1 ?side2 A68.out).mono ?_); (case side1 => repeat (first | (with_reducible first | exact HI0.out | apply IsS45.alloc | apply IsS45.drewN | apply IsS45.drew | apply IsS45.set_1 | apply IsS45.set_2 | refine IsS45.far ?_ NB0_155.out _ | refine IsS45.far ?_ NB0_175.out _) | exact HI0.out)); (case side2 => repeat (first | (with_reducible first | exact HB.out | apply below_alloc | apply pw_below_drewN | apply below_drew1 | refine below_set ?_ (IsS45.ge HI0.out) | refine below_set ?_ GE155.out | refine below_set ?_ GE175.out) | exact HB.out)); rintro e w72 ⟨rfl, hi, hb, hk⟩; refine ⟨_, rfl, ?_⟩; have n0_ := Aside0.mk (Kd.R_mono (Kd.R_keep (IsS45.apart (show IsS45 w0 _ g s0_0 t217 t218 from by repeat (first | (with_reducible first | exact HI0.out | apply IsS45.alloc | apply IsS45.drewN | apply IsS45.drew | apply IsS45.set_1 | apply IsS45.set_2 | refine IsS45.far ?_ NB0_155.out _ | refine IsS45.far ?_ NB0_175.out _) | exact HI0.out)) (by (with_reducible repeat (first | apply Kd.R_alloc | apply Kd.R_drewN | apply Kd.R_drew)); exact HO_6.out) (by decide)) hk (fun _ h => h.2)) (fun _ h => h.1)); have n1_ := Aside0.mk (Kd.Q_mono (Kd.Q_keep (IsS45.apartQ (show IsS45 w0 _ g s0_0 t217 t218 from by repeat (first | (with_reducible first | exact HI0.out | apply IsS45.alloc | apply IsS45.drewN | apply IsS45.drew | apply IsS45.set_1 | apply IsS45.set_2 | refine IsS45.far ?_ NB0_155.out _ | refine IsS45.far ?_ NB0_175.out _) | exact HI0.out)) (by (with_reducible repeat (first | apply Kd.Q_alloc | apply Kd.Q_drewN | apply Kd.Q_drew)); exact HO_176001.out) (by decide)) hk (fun _ h => h.2)) (fun _ h => h.1)); have n2_ := Aside0.mk (Kd.N_mono (Kd.N_keep (Kd.N_mono (ok := fun k_ => (((w.heap.size ≤ k_)) ∧ (some k_ ≠ (u6 : Value).ownBlock ∧ (some k_ ≠ (.slice Ao19 t168.length co19 : Value).ownBlock ∧ (k_ ≠ gb155 ∧ (k_ ≠ gb175 ∧ k_ ≠ g)))))) (by (with_reducible repeat (first | apply Kd.N_alloc | apply Kd.N_drewN | apply Kd.N_drew)); exact HO_176002.out) (fun k_ hk_ => (⟨hk_, hk_.2.2.2.2.2⟩ : _ ∧ k_ ≠ g))) hk (fun _ h => h.2)) (fun _ h => h.1)); have n3_ := Aside0.mk (KeepBut.blk hk (g' := gb155) (o := .cells #[.int .i64 0, .slice none 0 0, .slice none 0 0] 25 (0, 0)) (by (with_reducible repeat (first | refine blk_drewN ?_ _ | refine blk_drew ?_ | refine blk_alloc ?_ _)); exact BK155.out) NB155_0.out (by simp)); have n4_ := Aside0.mk (KeepBut.blk hk (g' := gb175) (o := .cells #[.int .i64 t167, .slice Ao19 t168.length co19, u176002] 25 (0, 0)) (by (with_reducible repeat (first | refine blk_drewN ?_ _ | refine blk_drew ?_ | refine blk_alloc ?_ _)); exact BK175.out) NB175_0.out (by simp)); have n5_ := Aside0.mk (KeepBut.trans (by repeat (first | (with_reducible first | exact HK.out | apply KeepBut.set_ | apply keep_drewN | apply keep_drew | apply keep_alloc | refine keep_far ?_ GW155.out _ | refine keep_far ?_ GW175.out _) | exact HK.out)) hk (.inl rfl)); have n6_ := Aside0.mk (hb); have n7_ := Aside0.mk (hi); clear HO_6; clear HO_176001; clear HO_176002; clear BK155; clear BK175; clear HK; clear HB; clear HI0; have HO_6 := n0_; have HO_176001 := n1_; have HO_176002 := n2_; have BK155 := n3_; have BK175 := n4_; have HK := n5_; have HB := n6_; have HI0 := n7_; clear n0_ n1_ n2_ n3_ n4_ n5_ n6_ n7_; (try clear hb); (try clear hb2); (try clear hk); (try clear hi); have hnb73 := NB175_155.out; have hnc73 := NB155_175.out; have hnb74 := NB175_0.out; have hnc74 := NB0_175.out; have hcz75_0 : w72.cell? ⟨gb175, 0, none⟩ = some (.int .i64 t167) := (blk_cell BK175.out 0).trans rfl; have hcz75_1 : w72.cell? ⟨gb175, 1, none⟩ = some (.slice Ao19 t168.length co19) := (blk_cell BK175.out 1).trans rfl; have hcz75_2 : w72.cell? ⟨gb175, 2, none⟩ = some (u176002) := (blk_cell BK175.out 2).trans rfl; have hfz75_0 := blk_frozen BK175.out 0; have hfz75_1 := blk_frozen BK175.out 1; have hfz75_2 := blk_frozen BK175.out 2; have q76 : (1 : Int) ≤ ((t168.length : Int) : Int) := of_decide_eq_true (by first | (with_reducible assumption) | assumption); obtain ⟨i076, hi076, _, hsz76, _⟩ := info_parts info5; have hcut76 := cut_from (P := Try.prog) 22 5 .i64 Try.underlying22 hi076 1 hsz76 Ao19 t168.length co19 1 (by omega) q76; have hr76 := Kd.Q_drop (k := (1 : Int).toNat) HO_176001.out (by omega); obtain ⟨A76, hA76⟩ : ∃ A1, A1 = (if co19 = (1 : Int).toNat then Ao19 else (Ao19 : Option Addr).map (·.add ((1 : Int).toNat * 1))) := ⟨_, rfl⟩; obtain ⟨c76, hc76⟩ : ∃ c1, c1 = co19 - (1 : Int).toNat := ⟨_, rfl⟩; have hy76 : y222.length = t168.length - (1 : Int).toNat := (by rw [Ny222.out, List.length_drop]); rw [← Ny222.out] at hr76; rw [← hy76, ← hA76, ← hc76] at hcut76; replace hr76 : Kd.Q (Kd.int .u8) 5 w72 w.heap.size (fun k_ => (w.heap.size ≤ k_) ∧ some k_ ≠ (u6 : Value).ownBlock) (.slice A76 y222.length c76) y222 := (by rw [hA76, hc76, hy76]; exact hr76); have HE76 : Aside0 ((Value.slice A76 y222.length c76).ownBlock = (.slice Ao19 t168.length co19 : Value).ownBlock) := ⟨by rw [hA76]; split <;> (cases (Ao19 : Option Addr) <;> rfl)⟩; clear hy76 hi076 hsz76 HO_176001 hA76 hc76; have HO224 := Aside0.mk hr76; clear hr76; replace q76 := eq_true q76; have n_ := Aside0.mk (Kd.R_mono (ok' := fun k_ => (((w.heap.size ≤ k_)) ∧ some k_ ≠ (.slice A76 y222.length c76 : Value).ownBlock)) HO_6.out (fun k_ hk => ⟨hk.1, (by rw [HE76.out]; exact hk.2)⟩)); clear HO_6; have HO_6 := n_; clear n_; have n_ := Aside0.mk (Kd.N_mono (ok' := fun k_ => (((w.heap.size ≤ k_)) ∧ (some k_ ≠ (u6 : Value).ownBlock ∧ (some k_ ≠ (.slice A76 y222.length c76 : Value).ownBlock ∧ (k_ ≠ gb155 ∧ (k_ ≠ gb175 ∧ k_ ≠ g)))))) HO_176002.out (fun k_ hk => ⟨hk.1, ⟨hk.2.1, ⟨(by rw [HE76.out]; exact hk.2.2.1), ⟨hk.2.2.2.1, ⟨hk.2.2.2.2.1, hk.2.2.2.2.2⟩⟩⟩⟩⟩)); clear HO_176002; have HO_176002 := n_; clear n_; have hnb77 := NB155_0.out; have hnc77 := NB0_155.out; have hcz78_0 : w72.cell? ⟨gb155, 0, none⟩ = some (.int .i64 0) := (blk_cell BK155.out 0).trans rfl; have hcz78_1 : w72.cell? ⟨gb155, 1, none⟩ = some (.slice none 0 0) := (blk_cell BK155.out 1).trans rfl; have hcz78_2 : w72.cell? ⟨gb155, 2, none⟩ = some (.slice none 0 0) := (blk_cell BK155.out 2).trans rfl; have hfz78_0 := blk_frozen BK155.out 0; have hfz78_1 := blk_frozen BK155.out 1; have hfz78_2 := blk_frozen BK155.out 2; obtain ⟨Ao79, co79, eo79⟩ := Kd.N_slice HO_176002.out; subst eo79))
                  refine bodyPost_ret (results_cell_row rfl _ _ gb155 25 #[.int .i64 t167, .slice A76 y222.length c76, .slice Ao79 x176002_2.length co79] (0, 0) _ rfl (by (with_reducible repeat (first | refine blk_drewN ?_ _ | refine blk_drew ?_ | refine blk_alloc ?_ _)); refine blk_put (cs := #[.int .i64 t167, .slice A76 y222.length c76, .slice none 0 0]) ?_ 2 _ rfl; (with_reducible repeat (first | refine blk_drewN ?_ _ | refine blk_drew ?_ | refine blk_alloc ?_ _)); refine blk_put (cs := #[.int .i64 t167, .slice none 0 0, .slice none 0 0]) ?_ 1 _ rfl; (with_reducible repeat (first | refine blk_drewN ?_ _ | refine blk_drew ?_ | refine blk_alloc ?_ _)); refine blk_put (cs := #[.int .i64 0, .slice none 0 0, .slice none 0 0]) ?_ 0 _ rfl; (with_reducible repeat (first | refine blk_drewN ?_ _ | refine blk_drew ?_ | refine blk_alloc ?_ _)); refine blk_far ?_ NB155_175.out _; (with_reducible repeat (first | refine blk_drewN ?_ _ | refine blk_drew ?_ | refine blk_alloc ?_ _)); exact BK155.out) Try.underlying25 rfl (by kernel_rfl)) rfl ?_
                  exact ⟨_, _, by first | rfl | (simp [errW_none, errW_some] <;> rfl) | (simp [*, errW_none, errW_some] <;> rfl), by (with_reducible repeat (first | apply Kd.Q_alloc | apply Kd.Q_drewN | apply Kd.Q_drew)); exact Kd.Q_mono (Kd.Q_far (p := ⟨gb155, 2, none⟩) (Kd.Q_far (p := ⟨gb155, 1, none⟩) (Kd.Q_far (p := ⟨gb155, 0, none⟩) (Kd.Q_far (p := ⟨gb175, 1, none⟩) (Kd.Q_types (Kd.Q_types HO224.out BK175.out (by decide)) BK155.out (by decide)) (fun _ hk => hk.1.2) (.slice A76 y222.length c76)) (fun _ hk => hk.2) (.int .i64 t167)) (fun _ hk => hk.2) (.slice A76 y222.length c76)) (fun _ hk => hk.2) (.slice Ao79 x176002_2.length co79)) (fun _ hk => hk.1.1.1), by (with_reducible repeat (first | apply Kd.N_alloc | apply Kd.N_drewN | apply Kd.N_drew)); exact Kd.N_mono (Kd.N_far (p := ⟨gb155, 2, none⟩) (Kd.N_far (p := ⟨gb155, 1, none⟩) (Kd.N_far (p := ⟨gb155, 0, none⟩) (Kd.N_far (p := ⟨gb175, 1, none⟩) (Kd.N_mono (Kd.N_mono HO_176002.out (fun k_ hk => (⟨hk, hk.2.2.2.2.1⟩ : _ ∧ k_ ≠ gb175))) (fun k_ hk => (⟨hk, hk.1.2.2.2.1⟩ : _ ∧ k_ ≠ gb155))) (fun _ hk => hk.1.2) (.slice A76 y222.length c76)) (fun _ hk => hk.2) (.int .i64 t167)) (fun _ hk => hk.2) (.slice A76 y222.length c76)) (fun _ hk => hk.2) (.slice Ao79 x176002_2.length co79)) (fun _ hk => ⟨hk.1.1.1, hk.1.1.2.2.1⟩), by repeat (first | (with_reducible first | exact HI0.out | apply IsS45.alloc | apply IsS45.drewN | apply IsS45.drew | apply IsS45.set_1 | apply IsS45.set_2 | refine IsS45.far ?_ NB0_155.out _ | refine IsS45.far ?_ NB0_175.out _) | exact HI0.out), by repeat (first | (with_reducible first | exact HB.out | apply below_alloc | apply pw_below_drewN | apply below_drew1 | refine below_set ?_ (IsS45.ge HI0.out) | refine below_set ?_ GE155.out | refine below_set ?_ GE175.out) | exact HB.out), by repeat (first | (with_reducible first | exact HK.out | apply KeepBut.set_ | apply keep_drewN | apply keep_drew | apply keep_alloc | refine keep_far ?_ GW155.out _ | refine keep_far ?_ GW175.out _) | exact HK.out)⟩
                · rw [if_neg c70] at H
                  exact absurd H (by simp)
              · rw [if_neg c69] at H
                have c69b0 : (t219 == 0) = false := beq_eq_false_iff_ne.mpr c69
                have c69b1 : (t219 != 0) = true := bne_iff_ne.mpr c69
                by_cases c80 : t219 = 1
                · rw [if_pos c80] at H
                  have c80b0 : (t219 == 1) = true := beq_iff_eq.mpr c80
                  have c80b1 : (t219 != 1) = false := bne_eq_false_iff_eq.mpr c80
                  clear c80
                  simp only [Option.some.injEq, Prod.mk.injEq] at H
                  obtain ⟨rfl, rfl, rfl, rfl, rfl⟩ := H
                  go_wp2_with (first | ((with_reducible refine gate_callee (f := 15) rfl ?_); refine goesL_ (some 58) rfl rfl Try.func15 (by kernel_rfl) rfl #[.pointer (some ⟨g, 0, none⟩), .int .i64 6] rfl (by (try simp only [List.map_toArray, List.map_cons, List.map_nil]); first | done | rfl | (simp only [List.length_drop, List.length_take]; rfl)) ?_; (with_reducible refine (spec_l1Next.calls g s0_0 x1001_2 x1002_2 6 t216 t217 t218 w0 _ ?side1 ?side2 A66.out).mono ?_); (case side1 => repeat (first | (with_reducible first | exact HI0.out | apply IsS45.alloc | apply IsS45.drewN | apply IsS45.drew | apply IsS45.set_1 | apply IsS45.set_2 | refine IsS45.far ?_ NB0_155.out _ | refine IsS45.far ?_ NB0_175.out _) | exact HI0.out)); (case side2 => repeat (first | (with_reducible first | exact HB.out | apply below_alloc | apply pw_below_drewN | apply below_drew1 | refine below_set ?_ (IsS45.ge HI0.out) | refine below_set ?_ GE155.out | refine below_set ?_ GE175.out) | exact HB.out)); rintro e w81 ⟨rfl, hi, hb, hk⟩; refine ⟨_, rfl, ?_⟩; have n0_ := Aside0.mk (Kd.R_mono (Kd.R_keep (IsS45.apart (show IsS45 w0 _ g s0_0 x1001_2 x1002_2 from by repeat (first | (with_reducible first | exact HI0.out | apply IsS45.alloc | apply IsS45.drewN | apply IsS45.drew | apply IsS45.set_1 | apply IsS45.set_2 | refine IsS45.far ?_ NB0_155.out _ | refine IsS45.far ?_ NB0_175.out _) | exact HI0.out)) (by (with_reducible repeat (first | apply Kd.R_alloc | apply Kd.R_drewN | apply Kd.R_drew)); exact HO_6.out) (by decide)) hk (fun _ h => h.2)) (fun _ h => h.1)); have n1_ := Aside0.mk (Kd.Q_mono (Kd.Q_keep (IsS45.apartQ (show IsS45 w0 _ g s0_0 x1001_2 x1002_2 from by repeat (first | (with_reducible first | exact HI0.out | apply IsS45.alloc | apply IsS45.drewN | apply IsS45.drew | apply IsS45.set_1 | apply IsS45.set_2 | refine IsS45.far ?_ NB0_155.out _ | refine IsS45.far ?_ NB0_175.out _) | exact HI0.out)) (by (with_reducible repeat (first | apply Kd.Q_alloc | apply Kd.Q_drewN | apply Kd.Q_drew)); exact HO_176001.out) (by decide)) hk (fun _ h => h.2)) (fun _ h => h.1)); have n2_ := Aside0.mk (Kd.N_mono (Kd.N_keep (Kd.N_mono (ok := fun k_ => (((w.heap.size ≤ k_)) ∧ (some k_ ≠ (u6 : Value).ownBlock ∧ (some k_ ≠ (.slice Ao19 t168.length co19 : Value).ownBlock ∧ (k_ ≠ gb155 ∧ (k_ ≠ gb175 ∧ k_ ≠ g)))))) (by (with_reducible repeat (first | apply Kd.N_alloc | apply Kd.N_drewN | apply Kd.N_drew)); exact HO_176002.out) (fun k_ hk_ => (⟨hk_, hk_.2.2.2.2.2⟩ : _ ∧ k_ ≠ g))) hk (fun _ h => h.2)) (fun _ h => h.1)); have n3_ := Aside0.mk (KeepBut.blk hk (g' := gb155) (o := .cells #[.int .i64 0, .slice none 0 0, .slice none 0 0] 25 (0, 0)) (by (with_reducible repeat (first | refine blk_drewN ?_ _ | refine blk_drew ?_ | refine blk_alloc ?_ _)); exact BK155.out) NB155_0.out (by simp)); have n4_ := Aside0.mk (KeepBut.blk hk (g' := gb175) (o := .cells #[.int .i64 t167, .slice Ao19 t168.length co19, u176002] 25 (0, 0)) (by (with_reducible repeat (first | refine blk_drewN ?_ _ | refine blk_drew ?_ | refine blk_alloc ?_ _)); exact BK175.out) NB175_0.out (by simp)); have n5_ := Aside0.mk (KeepBut.trans (by repeat (first | (with_reducible first | exact HK.out | apply KeepBut.set_ | apply keep_drewN | apply keep_drew | apply keep_alloc | refine keep_far ?_ GW155.out _ | refine keep_far ?_ GW175.out _) | exact HK.out)) hk (.inl rfl)); have n6_ := Aside0.mk (hb); have n7_ := Aside0.mk (hi); clear HO_6; clear HO_176001; clear HO_176002; clear BK155; clear BK175; clear HK; clear HB; clear HI0; have HO_6 := n0_; have HO_176001 := n1_; have HO_176002 := n2_; have BK155 := n3_; have BK175 := n4_; have HK := n5_; have HB := n6_; have HI0 := n7_; clear n0_ n1_ n2_ n3_ n4_ n5_ n6_ n7_; (try clear hb); (try clear hb2); (try clear hk); (try clear hi)) | ((with_reducible refine gate_callee (f := 15) rfl ?_); refine goesL_ (some 61) rfl rfl Try.func15 (by kernel_rfl) rfl #[.pointer (some ⟨g, 0, none⟩), .int .i64 5] rfl (by (try simp only [List.map_toArray, List.map_cons, List.map_nil]); first | done | rfl | (simp only [List.length_drop, List.length_take]; rfl)) ?_; (with_reducible refine (spec_l1Next.calls g s0_0 t217 t218 5 t219 t220 t221 w0 _ ?side1 ?side2 A68.out).mono ?_); (case side1 => repeat (first | (with_reducible first | exact HI0.out | apply IsS45.alloc | apply IsS45.drewN | apply IsS45.drew | apply IsS45.set_1 | apply IsS45.set_2 | refine IsS45.far ?_ NB0_155.out _ | refine IsS45.far ?_ NB0_175.out _) | exact HI0.out)); (case side2 => repeat (first | (with_reducible first | exact HB.out | apply below_alloc | apply pw_below_drewN | apply below_drew1 | refine below_set ?_ (IsS45.ge HI0.out) | refine below_set ?_ GE155.out | refine below_set ?_ GE175.out) | exact HB.out)); rintro e w82 ⟨rfl, hi, hb, hk⟩; refine ⟨_, rfl, ?_⟩; have n0_ := Aside0.mk (Kd.R_mono (Kd.R_keep (IsS45.apart (show IsS45 w0 _ g s0_0 t217 t218 from by repeat (first | (with_reducible first | exact HI0.out | apply IsS45.alloc | apply IsS45.drewN | apply IsS45.drew | apply IsS45.set_1 | apply IsS45.set_2 | refine IsS45.far ?_ NB0_155.out _ | refine IsS45.far ?_ NB0_175.out _) | exact HI0.out)) (by (with_reducible repeat (first | apply Kd.R_alloc | apply Kd.R_drewN | apply Kd.R_drew)); exact HO_6.out) (by decide)) hk (fun _ h => h.2)) (fun _ h => h.1)); have n1_ := Aside0.mk (Kd.Q_mono (Kd.Q_keep (IsS45.apartQ (show IsS45 w0 _ g s0_0 t217 t218 from by repeat (first | (with_reducible first | exact HI0.out | apply IsS45.alloc | apply IsS45.drewN | apply IsS45.drew | apply IsS45.set_1 | apply IsS45.set_2 | refine IsS45.far ?_ NB0_155.out _ | refine IsS45.far ?_ NB0_175.out _) | exact HI0.out)) (by (with_reducible repeat (first | apply Kd.Q_alloc | apply Kd.Q_drewN | apply Kd.Q_drew)); exact HO_176001.out) (by decide)) hk (fun _ h => h.2)) (fun _ h => h.1)); have n2_ := Aside0.mk (Kd.N_mono (Kd.N_keep (Kd.N_mono (ok := fun k_ => (((w.heap.size ≤ k_)) ∧ (some k_ ≠ (u6 : Value).ownBlock ∧ (some k_ ≠ (.slice Ao19 t168.length co19 : Value).ownBlock ∧ (k_ ≠ gb155 ∧ (k_ ≠ gb175 ∧ k_ ≠ g)))))) (by (with_reducible repeat (first | apply Kd.N_alloc | apply Kd.N_drewN | apply Kd.N_drew)); exact HO_176002.out) (fun k_ hk_ => (⟨hk_, hk_.2.2.2.2.2⟩ : _ ∧ k_ ≠ g))) hk (fun _ h => h.2)) (fun _ h => h.1)); have n3_ := Aside0.mk (KeepBut.blk hk (g' := gb155) (o := .cells #[.int .i64 0, .slice none 0 0, .slice none 0 0] 25 (0, 0)) (by (with_reducible repeat (first | refine blk_drewN ?_ _ | refine blk_drew ?_ | refine blk_alloc ?_ _)); exact BK155.out) NB155_0.out (by simp)); have n4_ := Aside0.mk (KeepBut.blk hk (g' := gb175) (o := .cells #[.int .i64 t167, .slice Ao19 t168.length co19, u176002] 25 (0, 0)) (by (with_reducible repeat (first | refine blk_drewN ?_ _ | refine blk_drew ?_ | refine blk_alloc ?_ _)); exact BK175.out) NB175_0.out (by simp)); have n5_ := Aside0.mk (KeepBut.trans (by repeat (first | (with_reducible first | exact HK.out | apply KeepBut.set_ | apply keep_drewN | apply keep_drew | apply keep_alloc | refine keep_far ?_ GW155.out _ | refine keep_far ?_ GW175.out _) | exact HK.out)) hk (.inl rfl)); have n6_ := Aside0.mk (hb); have n7_ := Aside0.mk (hi); clear HO_6; clear HO_176001; clear HO_176002; clear BK155; clear BK175; clear HK; clear HB; clear HI0; have HO_6 := n0_; have HO_176001 := n1_; have HO_176002 := n2_; have BK155 := n3_; have BK175 := n4_; have HK := n5_; have HB := n6_; have HI0 := n7_; clear n0_ n1_ n2_ n3_ n4_ n5_ n6_ n7_; (try clear hb); (try clear hb2); (try clear hk); (try clear hi); have hnb83 := NB175_155.out; have hnc83 := NB155_175.out; have hnb84 := NB175_0.out; have hnc84 := NB0_175.out; have hcz85_0 : w82.cell? ⟨gb175, 0, none⟩ = some (.int .i64 t167) := (blk_cell BK175.out 0).trans rfl; have hcz85_1 : w82.cell? ⟨gb175, 1, none⟩ = some (.slice Ao19 t168.length co19) := (blk_cell BK175.out 1).trans rfl; have hcz85_2 : w82.cell? ⟨gb175, 2, none⟩ = some (u176002) := (blk_cell BK175.out 2).trans rfl; have hfz85_0 := blk_frozen BK175.out 0; have hfz85_1 := blk_frozen BK175.out 1; have hfz85_2 := blk_frozen BK175.out 2; have hnb86 := NB155_0.out; have hnc86 := NB0_155.out; have hcz87_0 : w82.cell? ⟨gb155, 0, none⟩ = some (.int .i64 0) := (blk_cell BK155.out 0).trans rfl; have hcz87_1 : w82.cell? ⟨gb155, 1, none⟩ = some (.slice none 0 0) := (blk_cell BK155.out 1).trans rfl; have hcz87_2 : w82.cell? ⟨gb155, 2, none⟩ = some (.slice none 0 0) := (blk_cell BK155.out 2).trans rfl; have hfz87_0 := blk_frozen BK155.out 0; have hfz87_1 := blk_frozen BK155.out 1; have hfz87_2 := blk_frozen BK155.out 2; obtain ⟨Ao88, co88, eo88⟩ := Kd.N_slice HO_176002.out; subst eo88))
                  refine bodyPost_ret (results_cell_row rfl _ _ gb155 25 #[.int .i64 (wrap64 (t167 + 1)), .slice Ao19 t168.length co19, .slice Ao88 x176002_2.length co88] (0, 0) _ rfl (by (with_reducible repeat (first | refine blk_drewN ?_ _ | refine blk_drew ?_ | refine blk_alloc ?_ _)); refine blk_put (cs := #[.int .i64 (wrap64 (t167 + 1)), .slice Ao19 t168.length co19, .slice none 0 0]) ?_ 2 _ rfl; (with_reducible repeat (first | refine blk_drewN ?_ _ | refine blk_drew ?_ | refine blk_alloc ?_ _)); refine blk_put (cs := #[.int .i64 (wrap64 (t167 + 1)), .slice none 0 0, .slice none 0 0]) ?_ 1 _ rfl; (with_reducible repeat (first | refine blk_drewN ?_ _ | refine blk_drew ?_ | refine blk_alloc ?_ _)); refine blk_put (cs := #[.int .i64 0, .slice none 0 0, .slice none 0 0]) ?_ 0 _ rfl; (with_reducible repeat (first | refine blk_drewN ?_ _ | refine blk_drew ?_ | refine blk_alloc ?_ _)); refine blk_far ?_ NB155_175.out _; (with_reducible repeat (first | refine blk_drewN ?_ _ | refine blk_drew ?_ | refine blk_alloc ?_ _)); exact BK155.out) Try.underlying25 rfl (by kernel_rfl)) rfl ?_
                  exact ⟨_, _, by first | rfl | (simp [errW_none, errW_some] <;> rfl) | (simp [*, errW_none, errW_some] <;> rfl), by (with_reducible repeat (first | apply Kd.Q_alloc | apply Kd.Q_drewN | apply Kd.Q_drew)); exact Kd.Q_mono (Kd.Q_far (p := ⟨gb155, 2, none⟩) (Kd.Q_far (p := ⟨gb155, 1, none⟩) (Kd.Q_far (p := ⟨gb155, 0, none⟩) (Kd.Q_far (p := ⟨gb175, 0, none⟩) (Kd.Q_types (Kd.Q_types HO_176001.out BK175.out (by decide)) BK155.out (by decide)) (fun _ hk => hk.1.2) (.int .i64 (wrap64 (t167 + 1)))) (fun _ hk => hk.2) (.int .i64 (wrap64 (t167 + 1)))) (fun _ hk => hk.2) (.slice Ao19 t168.length co19)) (fun _ hk => hk.2) (.slice Ao88 x176002_2.length co88)) (fun _ hk => hk.1.1.1), by (with_reducible repeat (first | apply Kd.N_alloc | apply Kd.N_drewN | apply Kd.N_drew)); exact Kd.N_mono (Kd.N_far (p := ⟨gb155, 2, none⟩) (Kd.N_far (p := ⟨gb155, 1, none⟩) (Kd.N_far (p := ⟨gb155, 0, none⟩) (Kd.N_far (p := ⟨gb175, 0, none⟩) (Kd.N_mono (Kd.N_mono HO_176002.out (fun k_ hk => (⟨hk, hk.2.2.2.2.1⟩ : _ ∧ k_ ≠ gb175))) (fun k_ hk => (⟨hk, hk.1.2.2.2.1⟩ : _ ∧ k_ ≠ gb155))) (fun _ hk => hk.1.2) (.int .i64 (wrap64 (t167 + 1)))) (fun _ hk => hk.2) (.int .i64 (wrap64 (t167 + 1)))) (fun _ hk => hk.2) (.slice Ao19 t168.length co19)) (fun _ hk => hk.2) (.slice Ao88 x176002_2.length co88)) (fun _ hk => ⟨hk.1.1.1, hk.1.1.2.2.1⟩), by repeat (first | (with_reducible first | exact HI0.out | apply IsS45.alloc | apply IsS45.drewN | apply IsS45.drew | apply IsS45.set_1 | apply IsS45.set_2 | refine IsS45.far ?_ NB0_155.out _ | refine IsS45.far ?_ NB0_175.out _) | exact HI0.out), by repeat (first | (with_reducible first | exact HB.out | apply below_alloc | apply pw_below_drewN | apply below_drew1 | refine below_set ?_ (IsS45.ge HI0.out) | refine below_set ?_ GE155.out | refine below_set ?_ GE175.out) | exact HB.out), by repeat (first | (with_reducible first | exact HK.out | apply KeepBut.set_ | apply keep_drewN | apply keep_drew | apply keep_alloc | refine keep_far ?_ GW155.out _ | refine keep_far ?_ GW175.out _) | exact HK.out)⟩
                · rw [if_neg c80] at H
                  have c80b0 : (t219 == 1) = false := beq_eq_false_iff_ne.mpr c80
                  have c80b1 : (t219 != 1) = true := bne_iff_ne.mpr c80
                  by_cases c89 : t219 = 2
                  · rw [if_pos c89] at H
                    have c89b0 : (t219 == 2) = true := beq_iff_eq.mpr c89
                    have c89b1 : (t219 != 2) = false := bne_eq_false_iff_eq.mpr c89
                    clear c89
                    replace H := Option.bind_eq_some_iff.mp H
                    obtain ⟨t225, A900, H⟩ := H
                    replace H : (if x176002_2.length < 4398046511104 then (some (t167, t168, (x176002_2 ++ [(⟨t167, t225⟩ : S32)]), t220, t221)) else (none)) = some (r1, r2, r3, r4, r5) := H
                    have A90 := Aside0.mk A900
                    clear A900
                    by_cases c91 : x176002_2.length < 4398046511104
                    · rw [if_pos c91] at H
                      have LMc91 := Aside0.mk c91
                      clear c91
                      obtain ⟨y228, hy228⟩ : ∃ y_ : List (S32), y_ = (x176002_2 ++ [(⟨t167, t225⟩ : S32)]) := ⟨_, rfl⟩
                      replace H : (some (t167, t168, y228, t220, t221)) = some (r1, r2, r3, r4, r5) := by first | (rw [hy228]; with_reducible exact H) | (have H2_ := (Option.bind_some _ _).symm.trans H; rw [hy228]; with_reducible exact H2_) | (have H2_ := (Option.bind_some _ _).symm.trans H; with_reducible exact H2_) | with_reducible exact H | (rw [hy228]; exact H) | exact H
                      have Ny228 := Aside0.mk hy228
                      clear hy228
                      simp only [Option.some.injEq, Prod.mk.injEq] at H
                      obtain ⟨rfl, rfl, rfl, rfl, rfl⟩ := H
                      try go_wp2_with (first | ((with_reducible refine gate_callee (f := 15) rfl ?_); refine goesL_ (some 58) rfl rfl Try.func15 (by kernel_rfl) rfl #[.pointer (some ⟨g, 0, none⟩), .int .i64 6] rfl (by (try simp only [List.map_toArray, List.map_cons, List.map_nil]); first | done | rfl | (simp only [List.length_drop, List.length_take]; rfl)) ?_; (with_reducible refine (spec_l1Next.calls g s0_0 x1001_2 x1002_2 6 t216 t217 t218 w0 _ ?side1 ?side2 A66.out).mono ?_); (case side1 => repeat (first | (with_reducible first | exact HI0.out | apply IsS45.alloc | apply IsS45.drewN | apply IsS45.drew | apply IsS45.set_1 | apply IsS45.set_2 | refine IsS45.far ?_ NB0_155.out _ | refine IsS45.far ?_ NB0_175.out _) | exact HI0.out)); (case side2 => repeat (first | (with_reducible first | exact HB.out | apply below_alloc | apply pw_below_drewN | apply below_drew1 | refine below_set ?_ (IsS45.ge HI0.out) | refine below_set ?_ GE155.out | refine below_set ?_ GE175.out) | exact HB.out)); rintro e w92 ⟨rfl, hi, hb, hk⟩; refine ⟨_, rfl, ?_⟩; have n0_ := Aside0.mk (Kd.R_mono (Kd.R_keep (IsS45.apart (show IsS45 w0 _ g s0_0 x1001_2 x1002_2 from by repeat (first | (with_reducible first | exact HI0.out | apply IsS45.alloc | apply IsS45.drewN | apply IsS45.drew | apply IsS45.set_1 | apply IsS45.set_2 | refine IsS45.far ?_ NB0_155.out _ | refine IsS45.far ?_ NB0_175.out _) | exact HI0.out)) (by (with_reducible repeat (first | apply Kd.R_alloc | apply Kd.R_drewN | apply Kd.R_drew)); exact HO_6.out) (by decide)) hk (fun _ h => h.2)) (fun _ h => h.1)); have n1_ := Aside0.mk (Kd.Q_mono (Kd.Q_keep (IsS45.apartQ (show IsS45 w0 _ g s0_0 x1001_2 x1002_2 from by repeat (first | (with_reducible first | exact HI0.out | apply IsS45.alloc | apply IsS45.drewN | apply IsS45.drew | apply IsS45.set_1 | apply IsS45.set_2 | refine IsS45.far ?_ NB0_155.out _ | refine IsS45.far ?_ NB0_175.out _) | exact HI0.out)) (by (with_reducible repeat (first | apply Kd.Q_alloc | apply Kd.Q_drewN | apply Kd.Q_drew)); exact HO_176001.out) (by decide)) hk (fun _ h => h.2)) (fun _ h => h.1)); have n2_ := Aside0.mk (Kd.N_mono (Kd.N_keep (Kd.N_mono (ok := fun k_ => (((w.heap.size ≤ k_)) ∧ (some k_ ≠ (u6 : Value).ownBlock ∧ (some k_ ≠ (.slice Ao19 t168.length co19 : Value).ownBlock ∧ (k_ ≠ gb155 ∧ (k_ ≠ gb175 ∧ k_ ≠ g)))))) (by (with_reducible repeat (first | apply Kd.N_alloc | apply Kd.N_drewN | apply Kd.N_drew)); exact HO_176002.out) (fun k_ hk_ => (⟨hk_, hk_.2.2.2.2.2⟩ : _ ∧ k_ ≠ g))) hk (fun _ h => h.2)) (fun _ h => h.1)); have n3_ := Aside0.mk (KeepBut.blk hk (g' := gb155) (o := .cells #[.int .i64 0, .slice none 0 0, .slice none 0 0] 25 (0, 0)) (by (with_reducible repeat (first | refine blk_drewN ?_ _ | refine blk_drew ?_ | refine blk_alloc ?_ _)); exact BK155.out) NB155_0.out (by simp)); have n4_ := Aside0.mk (KeepBut.blk hk (g' := gb175) (o := .cells #[.int .i64 t167, .slice Ao19 t168.length co19, u176002] 25 (0, 0)) (by (with_reducible repeat (first | refine blk_drewN ?_ _ | refine blk_drew ?_ | refine blk_alloc ?_ _)); exact BK175.out) NB175_0.out (by simp)); have n5_ := Aside0.mk (KeepBut.trans (by repeat (first | (with_reducible first | exact HK.out | apply KeepBut.set_ | apply keep_drewN | apply keep_drew | apply keep_alloc | refine keep_far ?_ GW155.out _ | refine keep_far ?_ GW175.out _) | exact HK.out)) hk (.inl rfl)); have n6_ := Aside0.mk (hb); have n7_ := Aside0.mk (hi); clear HO_6; clear HO_176001; clear HO_176002; clear BK155; clear BK175; clear HK; clear HB; clear HI0; have HO_6 := n0_; have HO_176001 := n1_; have HO_176002 := n2_; have BK155 := n3_; have BK175 := n4_; have HK := n5_; have HB := n6_; have HI0 := n7_; clear n0_ n1_ n2_ n3_ n4_ n5_ n6_ n7_; (try clear hb); (try clear hb2); (try clear hk); (try clear hi)) | ((with_reducible refine gate_callee (f := 15) rfl ?_); refine goesL_ (some 61) rfl rfl Try.func15 (by kernel_rfl) rfl #[.pointer (some ⟨g, 0, none⟩), .int .i64 5] rfl (by (try simp only [List.map_toArray, List.map_cons, List.map_nil]); first | done | rfl | (simp only [List.length_drop, List.length_take]; rfl)) ?_; (with_reducible refine (spec_l1Next.calls g s0_0 t217 t218 5 t219 t220 t221 w0 _ ?side1 ?side2 A68.out).mono ?_); (case side1 => repeat (first | (with_reducible first | exact HI0.out | apply IsS45.alloc | apply IsS45.drewN | apply IsS45.drew | apply IsS45.set_1 | apply IsS45.set_2 | refine IsS45.far ?_ NB0_155.out _ | refine IsS45.far ?_ NB0_175.out _) | exact HI0.out)); (case side2 => repeat (first | (with_reducible first | exact HB.out | apply below_alloc | apply pw_below_drewN | apply below_drew1 | refine below_set ?_ (IsS45.ge HI0.out) | refine below_set ?_ GE155.out | refine below_set ?_ GE175.out) | exact HB.out)); rintro e w93 ⟨rfl, hi, hb, hk⟩; refine ⟨_, rfl, ?_⟩; have n0_ := Aside0.mk (Kd.R_mono (Kd.R_keep (IsS45.apart (show IsS45 w0 _ g s0_0 t217 t218 from by repeat (first | (with_reducible first | exact HI0.out | apply IsS45.alloc | apply IsS45.drewN | apply IsS45.drew | apply IsS45.set_1 | apply IsS45.set_2 | refine IsS45.far ?_ NB0_155.out _ | refine IsS45.far ?_ NB0_175.out _) | exact HI0.out)) (by (with_reducible repeat (first | apply Kd.R_alloc | apply Kd.R_drewN | apply Kd.R_drew)); exact HO_6.out) (by decide)) hk (fun _ h => h.2)) (fun _ h => h.1)); have n1_ := Aside0.mk (Kd.Q_mono (Kd.Q_keep (IsS45.apartQ (show IsS45 w0 _ g s0_0 t217 t218 from by repeat (first | (with_reducible first | exact HI0.out | apply IsS45.alloc | apply IsS45.drewN | apply IsS45.drew | apply IsS45.set_1 | apply IsS45.set_2 | refine IsS45.far ?_ NB0_155.out _ | refine IsS45.far ?_ NB0_175.out _) | exact HI0.out)) (by (with_reducible repeat (first | apply Kd.Q_alloc | apply Kd.Q_drewN | apply Kd.Q_drew)); exact HO_176001.out) (by decide)) hk (fun _ h => h.2)) (fun _ h => h.1)); have n2_ := Aside0.mk (Kd.N_mono (Kd.N_keep (Kd.N_mono (ok := fun k_ => (((w.heap.size ≤ k_)) ∧ (some k_ ≠ (u6 : Value).ownBlock ∧ (some k_ ≠ (.slice Ao19 t168.length co19 : Value).ownBlock ∧ (k_ ≠ gb155 ∧ (k_ ≠ gb175 ∧ k_ ≠ g)))))) (by (with_reducible repeat (first | apply Kd.N_alloc | apply Kd.N_drewN | apply Kd.N_drew)); exact HO_176002.out) (fun k_ hk_ => (⟨hk_, hk_.2.2.2.2.2⟩ : _ ∧ k_ ≠ g))) hk (fun _ h => h.2)) (fun _ h => h.1)); have n3_ := Aside0.mk (KeepBut.blk hk (g' := gb155) (o := .cells #[.int .i64 0, .slice none 0 0, .slice none 0 0] 25 (0, 0)) (by (with_reducible repeat (first | refine blk_drewN ?_ _ | refine blk_drew ?_ | refine blk_alloc ?_ _)); exact BK155.out) NB155_0.out (by simp)); have n4_ := Aside0.mk (KeepBut.blk hk (g' := gb175) (o := .cells #[.int .i64 t167, .slice Ao19 t168.length co19, u176002] 25 (0, 0)) (by (with_reducible repeat (first | refine blk_drewN ?_ _ | refine blk_drew ?_ | refine blk_alloc ?_ _)); exact BK175.out) NB175_0.out (by simp)); have n5_ := Aside0.mk (KeepBut.trans (by repeat (first | (with_reducible first | exact HK.out | apply KeepBut.set_ | apply keep_drewN | apply keep_drew | apply keep_alloc | refine keep_far ?_ GW155.out _ | refine keep_far ?_ GW175.out _) | exact HK.out)) hk (.inl rfl)); have n6_ := Aside0.mk (hb); have n7_ := Aside0.mk (hi); clear HO_6; clear HO_176001; clear HO_176002; clear BK155; clear BK175; clear HK; clear HB; clear HI0; have HO_6 := n0_; have HO_176001 := n1_; have HO_176002 := n2_; have BK155 := n3_; have BK175 := n4_; have HK := n5_; have HB := n6_; have HI0 := n7_; clear n0_ n1_ n2_ n3_ n4_ n5_ n6_ n7_; (try clear hb); (try clear hb2); (try clear hk); (try clear hi)))
                      have n0_ := Aside0.mk (Kd.R_drew HO_6.out)
                      have n1_ := Aside0.mk (Kd.Q_drew HO_176001.out)
                      have n2_ := Aside0.mk (Kd.N_drew HO_176002.out)
                      have n3_ := Aside0.mk (blk_drew BK155.out)
                      have n4_ := Aside0.mk (blk_drew BK175.out)
                      have n5_ := Aside0.mk (IsS45.drew HI0.out)
                      have n6_ := Aside0.mk (keep_drew HK.out)
                      have n7_ := Aside0.mk (below_drew1 HB.out)
                      clear HO_6
                      clear HO_176001
                      clear HO_176002
                      clear BK155
                      clear BK175
                      clear HI0
                      clear HK
                      clear HB
                      have HO_6 := n0_
                      have HO_176001 := n1_
                      have HO_176002 := n2_
                      have BK155 := n3_
                      have BK175 := n4_
                      have HI0 := n5_
                      have HK := n6_
                      have HB := n7_
                      clear n0_ n1_ n2_ n3_ n4_ n5_ n6_ n7_
                      obtain ⟨Ao95, co95, eo95⟩ := Kd.R_slice HO_6.out
                      (first | subst eo95 | (injection eo95 with f1_ f2_ f3_; have f4_ := f1_.symm; have f5_ := f3_.symm; clear f1_ f2_ f3_; subst f4_; subst f5_))
                      refine start_ (n := 11) (S := fun w' => w'.cell? ⟨gb175, 0, none⟩ = some (.int .i64 t167) ∧ w'.cell? ⟨gb175, 1, none⟩ = some (.slice Ao19 t168.length co19) ∧ w'.cell? ⟨gb175, 2, none⟩ = some (u176002)) (ds := [10]) #[false, false, false, false, false, false, false, false, false, false, false] (by kernel_rfl) rfl rfl ⟨(blk_cell BK175.out 0).trans rfl, (blk_cell BK175.out 1).trans rfl, (blk_cell BK175.out 2).trans rfl⟩ (fun hHeld => ?_); refine with_tabW spec_l1DrawDevice.tab22 spec_l1DrawDevice.bits22 (fun HT_ HW_ => ?_)
                      generalize w93.drew = w94 at HO_6 HO_176001 HO_176002 BK155 BK175 HI0 HK HB hHeld ⊢
                      refine pure_ (i := 0) (N := some 76) (v := ?_) (a' := ?_) #[true, false, false, false, false, false, false, false, false, false, false] rfl rfl (any_of HT_.out (by kernel_rfl)) (fun _ _ _ h => h) (Or.inl ⟨by rfl, ?_⟩) ?_ ?_
                      rotate_left
                      · intro w'
                        go_simp
                        with_reducible rfl
                      rotate_left
                      · simp only [Act.put, List.setIfInBounds_toArray, List.set_cons_zero, List.set_cons_succ, i64_w, i32_w]
                        rfl
                      refine pure_ (i := 2) (N := some 78) (v := ?_) (a' := ?_) #[true, false, true, false, false, false, false, false, false, false, false] rfl rfl (any_of HT_.out (by kernel_rfl)) (fun _ _ _ h => h) (Or.inl ⟨by rfl, ?_⟩) ?_ ?_
                      rotate_left
                      · intro w'
                        go_simp
                        with_reducible rfl
                      rotate_left
                      · simp only [Act.put, List.setIfInBounds_toArray, List.set_cons_zero, List.set_cons_succ, i64_w, i32_w]
                        rfl
                      refine pure_ (i := 4) (N := some 80) (v := ?_) (a' := ?_) #[true, false, true, false, true, false, false, false, false, false, false] rfl rfl (any_of HT_.out (by kernel_rfl)) (fun _ _ _ h => h) (Or.inl ⟨by rfl, ?_⟩) ?_ ?_
                      rotate_left
                      · intro w'
                        go_simp
                        with_reducible rfl
                      rotate_left
                      · simp only [Act.put, List.setIfInBounds_toArray, List.set_cons_zero, List.set_cons_succ, i64_w, i32_w]
                        rfl
                      refine take_ (i := 1) (N := some 77) (v := ?_) (a' := ?_) #[true, true, true, false, true, false, false, false, false, false, false] rfl rfl (take_ofW HT_.out HW_.out (by kernel_rfl)) (fun _ _ _ h => h) (Or.inl ⟨by rfl, ?_⟩) hHeld ?_ ?_
                      rotate_left
                      · rintro w' ⟨s0, s1, s2⟩
                        go_simp
                        with_reducible rfl
                      rotate_left
                      · simp only [Act.put, List.setIfInBounds_toArray, List.set_cons_zero, List.set_cons_succ, i64_w, i32_w]
                        rfl
                      refine take_ (i := 3) (N := some 79) (v := ?_) (a' := ?_) #[true, true, true, true, true, false, false, false, false, false, false] rfl rfl (take_ofW HT_.out HW_.out (by kernel_rfl)) (fun _ _ _ h => h) (Or.inl ⟨by rfl, ?_⟩) hHeld ?_ ?_
                      rotate_left
                      · rintro w' ⟨s0, s1, s2⟩
                        go_simp
                        with_reducible rfl
                      rotate_left
                      · simp only [Act.put, List.setIfInBounds_toArray, List.set_cons_zero, List.set_cons_succ, i64_w, i32_w]
                        rfl
                      refine one_ (i := 5) (N := some 81) #[true, true, true, true, true, true, false, false, false, false, false] rfl rfl (one_of HT_.out (by kernel_rfl)) (by decide) (fun K hK => ?_)
                      refine goes_ Try.func19 (by kernel_rfl) rfl #[.slice Ao95 x6_2.length co95] (by rfl) rfl rfl (by (try simp only [List.map_toArray, List.map_cons, List.map_nil]); first | done | rfl | (simp only [List.length_drop, List.length_take]; rfl)) ?_
                      with_reducible refine (spec_l1Copy.calls k2 _ _ x6_2 t225 _ ?side1 ?side2 A90.out).mono ?_
                      (case side1 => repeat (first | exact (Kd.R_reads' HO_6.out).2.2 | (with_reducible refine Kd.C_alloc ?_ _) | (with_reducible refine Kd.C_drewN ?_ _) | (with_reducible refine Kd.C_drew ?_)))
                      (case side2 => exact (Kd.R_reads' HO_6.out).2.1)
                      rintro e w96 ⟨v226, rfl, ho0, hb⟩
                      refine ⟨_, rfl, ?_⟩
                      have n0_ := Aside0.mk (Kd.R_elder' (by (with_reducible repeat (first | apply Kd.R_alloc | apply Kd.R_drewN | apply Kd.R_drew)); exact HO_6.out) (Kd.R_base ho0) hb)
                      have n1_ := Aside0.mk (Kd.Q_elder' (by (with_reducible repeat (first | apply Kd.Q_alloc | apply Kd.Q_drewN | apply Kd.Q_drew)); exact HO_176001.out) (Kd.R_base ho0) hb)
                      have n2_ := Aside0.mk (Kd.N_elder' (by (with_reducible repeat (first | apply Kd.N_alloc | apply Kd.N_drewN | apply Kd.N_drew)); exact HO_176002.out) (Kd.R_base ho0) hb)
                      have n3_ := Aside0.mk (Kd.R_lower (Kd.R_new' (Kd.R_new' (Kd.R_newM (M := fun k_ => (w.heap.size ≤ k_)) ho0 (keep_size (w := w) (g := g) (row := none) (by repeat (first | (with_reducible first | exact HK.out | apply KeepBut.set_ | apply keep_drewN | apply keep_drew | apply keep_alloc | refine keep_far ?_ GW155.out _ | refine keep_far ?_ GW175.out _) | exact HK.out))) (fun k_ h_ => h_)) (Kd.R_lt (by (with_reducible repeat (first | apply Kd.R_alloc | apply Kd.R_drewN | apply Kd.R_drew)); exact HO_6.out))) (Kd.Q_lt (by (with_reducible repeat (first | apply Kd.Q_alloc | apply Kd.Q_drewN | apply Kd.Q_drew)); exact HO_176001.out))) (keep_size (w := w) (g := g) (row := none) (by repeat (first | (with_reducible first | exact HK.out | apply KeepBut.set_ | apply keep_drewN | apply keep_drew | apply keep_alloc | refine keep_far ?_ GW155.out _ | refine keep_far ?_ GW175.out _) | exact HK.out))))
                      have n4_ := Aside0.mk (blk_below (g := gb155) (o := .cells #[.int .i64 0, .slice none 0 0, .slice none 0 0] 25 (0, 0)) (by (with_reducible repeat (first | refine blk_drewN ?_ _ | refine blk_drew ?_ | refine blk_alloc ?_ _)); exact BK155.out) hb)
                      have n5_ := Aside0.mk (blk_below (g := gb175) (o := .cells #[.int .i64 t167, .slice Ao19 t168.length co19, u176002] 25 (0, 0)) (by (with_reducible repeat (first | refine blk_drewN ?_ _ | refine blk_drew ?_ | refine blk_alloc ?_ _)); exact BK175.out) hb)
                      have n6_ := Aside0.mk (IsS45.below (by repeat (first | (with_reducible first | exact HI0.out | apply IsS45.alloc | apply IsS45.drewN | apply IsS45.drew | apply IsS45.set_1 | apply IsS45.set_2 | refine IsS45.far ?_ NB0_155.out _ | refine IsS45.far ?_ NB0_175.out _) | exact HI0.out)) hb)
                      have n7_ := Aside0.mk (KeepBut.trans (by repeat (first | (with_reducible first | exact HK.out | apply KeepBut.set_ | apply keep_drewN | apply keep_drew | apply keep_alloc | refine keep_far ?_ GW155.out _ | refine keep_far ?_ GW175.out _) | exact HK.out)) (KeepBut.of_below hb g none) (.inl rfl))
                      have n8_ := Aside0.mk (below_step (by repeat (first | (with_reducible first | exact HB.out | apply below_alloc | apply pw_below_drewN | apply below_drew1 | refine below_set ?_ (IsS45.ge HI0.out) | refine below_set ?_ GE155.out | refine below_set ?_ GE175.out) | exact HB.out)) hb)
                      clear HO_6
                      clear HO_176001
                      clear HO_176002
                      clear BK155
                      clear BK175
                      clear HI0
                      clear HK
                      clear HB
                      have HO_6 := n0_
                      have HO_176001 := n1_
                      have HO_176002 := n2_
                      have HO227 := n3_
                      have BK155 := n4_
                      have BK175 := n5_
                      have HI0 := n6_
                      have HK := n7_
                      have HB := n8_
                      clear n0_ n1_ n2_ n3_ n4_ n5_ n6_ n7_ n8_
                      (try clear hb)
                      (try clear hb2)
                      (try clear hk)
                      (try clear hi)
                      (try clear ho0)
                      obtain ⟨Ao97, co97, eo97⟩ := Kd.R_slice HO227.out
                      (first | subst eo97 | (injection eo97 with f1_ f2_ f3_; have f4_ := f1_.symm; have f5_ := f3_.symm; clear f1_ f2_ f3_; subst f4_; subst f5_))
                      refine hK.out _ _ ⟨(blk_cell BK175.out 0).trans rfl, (blk_cell BK175.out 1).trans rfl, (blk_cell BK175.out 2).trans rfl⟩ (fun hHeld => ?_)
                      clear hK K
                      refine norm_ (a' := ?_) ?_ ?_
                      rotate_left
                      · show Act.put _ (some 81) _ = _
                        simp only [Act.put, List.setIfInBounds_toArray, List.set_cons_zero, List.set_cons_succ, i64_w, i32_w]
                        rfl
                      refine pure_ (i := 6) (N := some 82) (v := ?_) (a' := ?_) #[true, true, true, true, true, true, true, false, false, false, false] rfl rfl (any_of HT_.out (by kernel_rfl)) (fun _ _ _ h => h) (Or.inl ⟨by rfl, ?_⟩) ?_ ?_
                      rotate_left
                      · intro w'
                        go_simp
                        with_reducible rfl
                      rotate_left
                      · simp only [Act.put, List.setIfInBounds_toArray, List.set_cons_zero, List.set_cons_succ, i64_w, i32_w]
                        rfl
                      refine one_ (i := 7) (N := some 83) #[true, true, true, true, true, true, true, true, false, false, false] rfl rfl (one_of HT_.out (by kernel_rfl)) (by decide) (fun K hK => ?_)
                      refine value_ (w1 := ?_) (v := ?_) (by rfl) rfl ?_ ?_
                      rotate_left 2
                      · go_simp
                        constructor
                        · rfl
                        · rfl
                      refine hK.out _ _ ⟨(blk_cell (blk_alloc BK175.out _) 0).trans rfl, (blk_cell (blk_alloc BK175.out _) 1).trans rfl, (blk_cell (blk_alloc BK175.out _) 2).trans rfl⟩ (fun hHeld => ?_)
                      clear hK K
                      refine norm_ (a' := ?_) ?_ ?_
                      rotate_left
                      · show Act.put _ (some 83) _ = _
                        simp only [Act.put, List.setIfInBounds_toArray, List.set_cons_zero, List.set_cons_succ, i64_w, i32_w]
                        rfl
                      refine one_ (i := 8) (N := some 84) #[true, true, true, true, true, true, true, true, true, false, false] rfl rfl (one_of HT_.out (by kernel_rfl)) (by decide) (fun K hK => ?_)
                      refine Kd.N_append_step k32 w.heap.size (by rfl) (.tmp 77) (.tmp 83) 23 32 (.agg #[(.int .i64 0), (.slice none 0 0)]) 32 rfl Try.underlying23 info32 rfl (by decide) (by omega) u176002 x176002_2 (⟨t167, t225⟩ : S32) [.int .i64 t167, .slice Ao97 t225.length co97] (fun k_ => (w.heap.size ≤ k_) ∧ some k_ ≠ (.slice Ao95 x6_2.length co95 : Value).ownBlock ∧ some k_ ≠ (.slice Ao19 t168.length co19 : Value).ownBlock ∧ k_ ≠ gb155 ∧ k_ ≠ gb175 ∧ k_ ≠ g) (fun k_ => ((fun k_ => (w.heap.size ≤ k_) ∧ some k_ ≠ (.slice Ao95 x6_2.length co95 : Value).ownBlock ∧ some k_ ≠ (.slice Ao19 t168.length co19 : Value).ownBlock ∧ k_ ≠ gb155 ∧ k_ ≠ gb175 ∧ k_ ≠ g)) k_ ∧ some k_ ≠ (u176002 : Value).ownBlock) rfl rfl ?aP (fun _ hk => hk) ?aF ?aO (Below.refl _ _) ?aS ?aL ?_
                      (case aP => exact (k32_mkF _ _ (⟨t167, t225⟩ : S32) (Kd.R_reads' (Kd.R_mono (ok' := (fun k_ => ((fun k_ => (w.heap.size ≤ k_) ∧ some k_ ≠ (.slice Ao95 x6_2.length co95 : Value).ownBlock ∧ some k_ ≠ (.slice Ao19 t168.length co19 : Value).ownBlock ∧ k_ ≠ gb155 ∧ k_ ≠ gb175 ∧ k_ ≠ g)) k_ ∧ some k_ ≠ (u176002 : Value).ownBlock)) (IsS45.apart HI0.out (Kd.R_types (Kd.R_types (Kd.R_apart' (HO227.out) (Kd.N_typed HO_176002.out) (by decide)) BK155.out (by decide)) BK175.out (by decide)) (by decide)) (fun k_ hk => ⟨⟨hk.1.1.1.1.1.1.1, ⟨hk.1.1.1.1.1.2, ⟨hk.1.1.1.1.2, ⟨hk.1.1.2, ⟨hk.1.2, hk.2⟩⟩⟩⟩⟩, hk.1.1.1.2⟩))).2.1 (Kd.R_F (Kd.R_mono (ok' := (fun k_ => ((fun k_ => (w.heap.size ≤ k_) ∧ some k_ ≠ (.slice Ao95 x6_2.length co95 : Value).ownBlock ∧ some k_ ≠ (.slice Ao19 t168.length co19 : Value).ownBlock ∧ k_ ≠ gb155 ∧ k_ ≠ gb175 ∧ k_ ≠ g)) k_ ∧ some k_ ≠ (u176002 : Value).ownBlock)) (IsS45.apart HI0.out (Kd.R_types (Kd.R_types (Kd.R_apart' (HO227.out) (Kd.N_typed HO_176002.out) (by decide)) BK155.out (by decide)) BK175.out (by decide)) (by decide)) (fun k_ hk => ⟨⟨hk.1.1.1.1.1.1.1, ⟨hk.1.1.1.1.1.2, ⟨hk.1.1.1.1.2, ⟨hk.1.1.2, ⟨hk.1.2, hk.2⟩⟩⟩⟩⟩, hk.1.1.1.2⟩)))))
                      (case aF => exact (fun k_ hk => ⟨(Nat.le_trans (keep_size (w := w) (g := g) (row := none) (by repeat (first | (with_reducible first | exact HK.out | apply KeepBut.set_ | apply keep_drewN | apply keep_drew | apply keep_alloc | refine keep_far ?_ GW155.out _ | refine keep_far ?_ GW175.out _) | exact HK.out))) hk), Kd.fresh' (Kd.R_lt (by (with_reducible repeat (first | apply Kd.R_alloc | apply Kd.R_drewN | apply Kd.R_drew)); exact HO_6.out)) k_ hk, Kd.fresh' (Kd.Q_lt (by (with_reducible repeat (first | apply Kd.Q_alloc | apply Kd.Q_drewN | apply Kd.Q_drew)); exact HO_176001.out)) k_ hk, Kd.freshB (g := gb155) (o := .cells #[.int .i64 0, .slice none 0 0, .slice none 0 0] 25 (0, 0)) (by (with_reducible repeat (first | refine blk_drewN ?_ _ | refine blk_drew ?_ | refine blk_alloc ?_ _)); exact BK155.out) k_ hk, Kd.freshB (g := gb175) (o := .cells #[.int .i64 t167, .slice Ao19 t168.length co19, u176002] 25 (0, 0)) (by (with_reducible repeat (first | refine blk_drewN ?_ _ | refine blk_drew ?_ | refine blk_alloc ?_ _)); exact BK175.out) k_ hk, IsS45.fresh (by repeat (first | (with_reducible first | exact HI0.out | apply IsS45.alloc | apply IsS45.drewN | apply IsS45.drew | apply IsS45.set_1 | apply IsS45.set_2 | refine IsS45.far ?_ NB0_155.out _ | refine IsS45.far ?_ NB0_175.out _) | exact HI0.out)) k_ hk⟩))
                      (case aO => exact (by (with_reducible repeat (first | apply Kd.N_alloc | apply Kd.N_drewN | apply Kd.N_drew)); exact Kd.N_mono HO_176002.out (fun _ hk => ⟨hk.1.1, ⟨hk.1.2.1, ⟨hk.1.2.2.1, ⟨hk.1.2.2.2.1, ⟨hk.1.2.2.2.2.1, hk.1.2.2.2.2.2⟩⟩⟩⟩⟩)))
                      (case aS => exact (keep_size (w := w) (g := g) (row := none) (by repeat (first | (with_reducible first | exact HK.out | apply KeepBut.set_ | apply keep_drewN | apply keep_drew | apply keep_alloc | refine keep_far ?_ GW155.out _ | refine keep_far ?_ GW175.out _) | exact HK.out))))
                      (case aL => have := LMc91.out; omega)
                      intro v229 w98 ho hb hg hat
                      rw [← Ny228.out] at ho
                      have n0_ := Aside0.mk (Kd.R_over' (by (with_reducible repeat (first | apply Kd.R_alloc | apply Kd.R_drewN | apply Kd.R_drew)); exact HO_6.out) (Kd.N_typed (by (with_reducible repeat (first | apply Kd.N_alloc | apply Kd.N_drewN | apply Kd.N_drew)); exact HO_176002.out)) (by decide) hg)
                      have n1_ := Aside0.mk (Kd.Q_over' (by (with_reducible repeat (first | apply Kd.Q_alloc | apply Kd.Q_drewN | apply Kd.Q_drew)); exact HO_176001.out) (Kd.N_typed (by (with_reducible repeat (first | apply Kd.N_alloc | apply Kd.N_drewN | apply Kd.N_drew)); exact HO_176002.out)) (by decide) hg)
                      have n2_ := Aside0.mk (blk_grown (g := gb155) (o := .cells #[.int .i64 0, .slice none 0 0, .slice none 0 0] 25 (0, 0)) (by (with_reducible repeat (first | refine blk_drewN ?_ _ | refine blk_drew ?_ | refine blk_alloc ?_ _)); exact BK155.out) hg (Kd.N_ne HO_176002.out BK155.out (by decide)))
                      have n3_ := Aside0.mk (blk_grown (g := gb175) (o := .cells #[.int .i64 t167, .slice Ao19 t168.length co19, u176002] 25 (0, 0)) (by (with_reducible repeat (first | refine blk_drewN ?_ _ | refine blk_drew ?_ | refine blk_alloc ?_ _)); exact BK175.out) hg (Kd.N_ne HO_176002.out BK175.out (by decide)))
                      have n4_ := Aside0.mk (IsS45.grown (by repeat (first | (with_reducible first | exact HI0.out | apply IsS45.alloc | apply IsS45.drewN | apply IsS45.drew | apply IsS45.set_1 | apply IsS45.set_2 | refine IsS45.far ?_ NB0_155.out _ | refine IsS45.far ?_ NB0_175.out _) | exact HI0.out)) hg (IsS45.own_neN HI0.out HO_176002.out (by decide)))
                      have n5_ := Aside0.mk (below_weaken (by repeat (first | (with_reducible first | exact HB.out | apply below_alloc | apply pw_below_drewN | apply below_drew1 | refine below_set ?_ (IsS45.ge HI0.out) | refine below_set ?_ GE155.out | refine below_set ?_ GE175.out) | exact HB.out)) HL.out hb)
                      have n6_ := Aside0.mk (KeepBut.trans (by repeat (first | (with_reducible first | exact HK.out | apply KeepBut.set_ | apply keep_drewN | apply keep_drew | apply keep_alloc | refine keep_far ?_ GW155.out _ | refine keep_far ?_ GW175.out _) | exact HK.out)) (KeepBut.of_grown hg g) (Kd.N_base2 HO_176002.out))
                      have n7_ := Aside0.mk (ho)
                      clear HO_6
                      clear HO_176001
                      clear BK155
                      clear BK175
                      clear HI0
                      clear HB
                      clear HK
                      clear HO_176002
                      clear HO227
                      have HO_6 := n0_
                      have HO_176001 := n1_
                      have BK155 := n2_
                      have BK175 := n3_
                      have HI0 := n4_
                      have HB := n5_
                      have HK := n6_
                      have HO230 := n7_
                      clear n0_ n1_ n2_ n3_ n4_ n5_ n6_ n7_
                      clear ho hb hg hat
                      obtain ⟨Ao99, co99, eo99⟩ := Kd.N_slice HO230.out
                      (first | subst eo99 | (injection eo99 with f1_ f2_ f3_; have f4_ := f1_.symm; have f5_ := f3_.symm; clear f1_ f2_ f3_; subst f4_; subst f5_))
                      refine hK.out _ _ ⟨(blk_cell BK175.out 0).trans rfl, (blk_cell BK175.out 1).trans rfl, (blk_cell BK175.out 2).trans rfl⟩ (fun hHeld => ?_)
                      clear hK K
                      refine norm_ (a' := ?_) ?_ ?_
                      rotate_left
                      · show Act.put _ (some 84) _ = _
                        simp only [Act.put, List.setIfInBounds_toArray, List.set_cons_zero, List.set_cons_succ, i64_w, i32_w]
                        rfl
                      refine pure_ (i := 9) (N := some 85) (v := ?_) (a' := ?_) #[true, true, true, true, true, true, true, true, true, true, false] rfl rfl (any_of HT_.out (by kernel_rfl)) (fun _ _ _ h => h) (Or.inl ⟨by rfl, ?_⟩) ?_ ?_
                      rotate_left
                      · intro w'
                        go_simp
                        with_reducible rfl
                      rotate_left
                      · simp only [Act.put, List.setIfInBounds_toArray, List.set_cons_zero, List.set_cons_succ, i64_w, i32_w]
                        rfl
                      refine last_ (i := 10) (N := none) #[true, true, true, true, true, true, true, true, true, true, true] rfl rfl (one_of HT_.out (by kernel_rfl)) (by decide) (fun K hK => ?_)
                      have hs100 : w98.cell? ⟨gb175, 2, none⟩ = some (u176002) := (blk_cell BK175.out 2).trans rfl
                      have hfs100 := blk_frozen BK175.out 2
                      have hns100_0 := NB155_175.out
                      have hms100_0 := NB175_155.out
                      refine skip_ (w1 := ?_) (by rfl) rfl ?_ ?_
                      rotate_left
                      · go_simp
                        rfl
                      refine hK.out _ _ ?_
                      clear hK K
                      refine done_ (done_of HT_.out (by kernel_rfl)) ?_
                      have hnb101 := NB175_155.out
                      have hnc101 := NB155_175.out
                      have hnb102 := NB175_0.out
                      have hnc102 := NB0_175.out
                      have hcz103_0 : w98.cell? ⟨gb175, 0, none⟩ = some (.int .i64 t167) := (blk_cell BK175.out 0).trans rfl
                      have hcz103_1 : w98.cell? ⟨gb175, 1, none⟩ = some (.slice Ao19 t168.length co19) := (blk_cell BK175.out 1).trans rfl
                      have hcz103_2 : w98.cell? ⟨gb175, 2, none⟩ = some (u176002) := (blk_cell BK175.out 2).trans rfl
                      have hfz103_0 := blk_frozen BK175.out 0
                      have hfz103_1 := blk_frozen BK175.out 1
                      have hfz103_2 := blk_frozen BK175.out 2
                      have hnb104 := NB155_0.out
                      have hnc104 := NB0_155.out
                      have hcz105_0 : w98.cell? ⟨gb155, 0, none⟩ = some (.int .i64 0) := (blk_cell BK155.out 0).trans rfl
                      have hcz105_1 : w98.cell? ⟨gb155, 1, none⟩ = some (.slice none 0 0) := (blk_cell BK155.out 1).trans rfl
                      have hcz105_2 : w98.cell? ⟨gb155, 2, none⟩ = some (.slice none 0 0) := (blk_cell BK155.out 2).trans rfl
                      have hfz105_0 := blk_frozen BK155.out 0
                      have hfz105_1 := blk_frozen BK155.out 1
                      have hfz105_2 := blk_frozen BK155.out 2
                      try go_wp2
                      refine bodyPost_ret (results_cell_row rfl _ _ gb155 25 #[.int .i64 t167, .slice Ao19 t168.length co19, .slice Ao99 y228.length co99] (0, 0) _ rfl (by (with_reducible repeat (first | refine blk_drewN ?_ _ | refine blk_drew ?_ | refine blk_alloc ?_ _)); refine blk_put (cs := #[.int .i64 t167, .slice Ao19 t168.length co19, .slice none 0 0]) ?_ 2 _ rfl; (with_reducible repeat (first | refine blk_drewN ?_ _ | refine blk_drew ?_ | refine blk_alloc ?_ _)); refine blk_put (cs := #[.int .i64 t167, .slice none 0 0, .slice none 0 0]) ?_ 1 _ rfl; (with_reducible repeat (first | refine blk_drewN ?_ _ | refine blk_drew ?_ | refine blk_alloc ?_ _)); refine blk_put (cs := #[.int .i64 0, .slice none 0 0, .slice none 0 0]) ?_ 0 _ rfl; (with_reducible repeat (first | refine blk_drewN ?_ _ | refine blk_drew ?_ | refine blk_alloc ?_ _)); refine blk_far ?_ NB155_175.out _; (with_reducible repeat (first | refine blk_drewN ?_ _ | refine blk_drew ?_ | refine blk_alloc ?_ _)); exact BK155.out) Try.underlying25 rfl (by kernel_rfl)) rfl ?_
                      exact ⟨_, _, by first | rfl | (simp [errW_none, errW_some] <;> rfl) | (simp [*, errW_none, errW_some] <;> rfl), by (with_reducible repeat (first | apply Kd.Q_alloc | apply Kd.Q_drewN | apply Kd.Q_drew)); exact Kd.Q_mono (Kd.Q_far (p := ⟨gb155, 2, none⟩) (Kd.Q_far (p := ⟨gb155, 1, none⟩) (Kd.Q_far (p := ⟨gb155, 0, none⟩) (Kd.Q_far (p := ⟨gb175, 2, none⟩) (Kd.Q_types (Kd.Q_types HO_176001.out BK175.out (by decide)) BK155.out (by decide)) (fun _ hk => hk.1.2) (.slice Ao99 y228.length co99)) (fun _ hk => hk.2) (.int .i64 t167)) (fun _ hk => hk.2) (.slice Ao19 t168.length co19)) (fun _ hk => hk.2) (.slice Ao99 y228.length co99)) (fun _ hk => hk.1.1.1.1), by (with_reducible repeat (first | apply Kd.N_alloc | apply Kd.N_drewN | apply Kd.N_drew)); exact Kd.N_mono (Kd.N_far (p := ⟨gb155, 2, none⟩) (Kd.N_far (p := ⟨gb155, 1, none⟩) (Kd.N_far (p := ⟨gb155, 0, none⟩) (Kd.N_far (p := ⟨gb175, 2, none⟩) (Kd.N_mono (Kd.N_mono HO230.out (fun k_ hk => (⟨hk, hk.2.2.2.2.1⟩ : _ ∧ k_ ≠ gb175))) (fun k_ hk => (⟨hk, hk.1.2.2.2.1⟩ : _ ∧ k_ ≠ gb155))) (fun _ hk => hk.1.2) (.slice Ao99 y228.length co99)) (fun _ hk => hk.2) (.int .i64 t167)) (fun _ hk => hk.2) (.slice Ao19 t168.length co19)) (fun _ hk => hk.2) (.slice Ao99 y228.length co99)) (fun _ hk => ⟨hk.1.1.1, hk.1.1.2.2.1⟩), by repeat (first | (with_reducible first | exact HI0.out | apply IsS45.alloc | apply IsS45.drewN | apply IsS45.drew | apply IsS45.set_1 | apply IsS45.set_2 | refine IsS45.far ?_ NB0_155.out _ | refine IsS45.far ?_ NB0_175.out _) | exact HI0.out), by repeat (first | (with_reducible first | exact HB.out | apply below_alloc | apply pw_below_drewN | apply below_drew1 | refine below_set ?_ (IsS45.ge HI0.out) | refine below_set ?_ GE155.out | refine below_set ?_ GE175.out) | exact HB.out), by repeat (first | (with_reducible first | exact HK.out | apply KeepBut.set_ | apply keep_drewN | apply keep_drew | apply keep_alloc | refine keep_far ?_ GW155.out _ | refine keep_far ?_ GW175.out _) | exact HK.out)⟩
                    · rw [if_neg c91] at H
                      exact absurd H (by simp)
                  · rw [if_neg c89] at H
                    have c89b0 : (t219 == 2) = false := beq_eq_false_iff_ne.mpr c89
                    have c89b1 : (t219 != 2) = true := bne_iff_ne.mpr c89
                    by_cases c106 : t219 = 3
                    · rw [if_pos c106] at H
                      have c106b0 : (t219 == 3) = true := beq_iff_eq.mpr c106
                      have c106b1 : (t219 != 3) = false := bne_eq_false_iff_eq.mpr c106
                      clear c106
                      replace H := Option.bind_eq_some_iff.mp H
                      obtain ⟨t231, A1070, H⟩ := H
                      replace H : (if x176002_2.length < 4398046511104 then (some (t167, t168, (x176002_2 ++ [(⟨(-1), t231⟩ : S32)]), t220, t221)) else (none)) = some (r1, r2, r3, r4, r5) := H
                      have A107 := Aside0.mk A1070
                      clear A1070
                      by_cases c108 : x176002_2.length < 4398046511104
                      · rw [if_pos c108] at H
                        have LMc108 := Aside0.mk c108
                        clear c108
                        obtain ⟨y234, hy234⟩ : ∃ y_ : List (S32), y_ = (x176002_2 ++ [(⟨(-1), t231⟩ : S32)]) := ⟨_, rfl⟩
                        replace H : (some (t167, t168, y234, t220, t221)) = some (r1, r2, r3, r4, r5) := by first | (rw [hy234]; with_reducible exact H) | (have H2_ := (Option.bind_some _ _).symm.trans H; rw [hy234]; with_reducible exact H2_) | (have H2_ := (Option.bind_some _ _).symm.trans H; with_reducible exact H2_) | with_reducible exact H | (rw [hy234]; exact H) | exact H
                        have Ny234 := Aside0.mk hy234
                        clear hy234
                        simp only [Option.some.injEq, Prod.mk.injEq] at H
                        obtain ⟨rfl, rfl, rfl, rfl, rfl⟩ := H
                        try go_wp2_with (first | ((with_reducible refine gate_callee (f := 15) rfl ?_); refine goesL_ (some 58) rfl rfl Try.func15 (by kernel_rfl) rfl #[.pointer (some ⟨g, 0, none⟩), .int .i64 6] rfl (by (try simp only [List.map_toArray, List.map_cons, List.map_nil]); first | done | rfl | (simp only [List.length_drop, List.length_take]; rfl)) ?_; (with_reducible refine (spec_l1Next.calls g s0_0 x1001_2 x1002_2 6 t216 t217 t218 w0 _ ?side1 ?side2 A66.out).mono ?_); (case side1 => repeat (first | (with_reducible first | exact HI0.out | apply IsS45.alloc | apply IsS45.drewN | apply IsS45.drew | apply IsS45.set_1 | apply IsS45.set_2 | refine IsS45.far ?_ NB0_155.out _ | refine IsS45.far ?_ NB0_175.out _) | exact HI0.out)); (case side2 => repeat (first | (with_reducible first | exact HB.out | apply below_alloc | apply pw_below_drewN | apply below_drew1 | refine below_set ?_ (IsS45.ge HI0.out) | refine below_set ?_ GE155.out | refine below_set ?_ GE175.out) | exact HB.out)); rintro e w109 ⟨rfl, hi, hb, hk⟩; refine ⟨_, rfl, ?_⟩; have n0_ := Aside0.mk (Kd.R_mono (Kd.R_keep (IsS45.apart (show IsS45 w0 _ g s0_0 x1001_2 x1002_2 from by repeat (first | (with_reducible first | exact HI0.out | apply IsS45.alloc | apply IsS45.drewN | apply IsS45.drew | apply IsS45.set_1 | apply IsS45.set_2 | refine IsS45.far ?_ NB0_155.out _ | refine IsS45.far ?_ NB0_175.out _) | exact HI0.out)) (by (with_reducible repeat (first | apply Kd.R_alloc | apply Kd.R_drewN | apply Kd.R_drew)); exact HO_6.out) (by decide)) hk (fun _ h => h.2)) (fun _ h => h.1)); have n1_ := Aside0.mk (Kd.Q_mono (Kd.Q_keep (IsS45.apartQ (show IsS45 w0 _ g s0_0 x1001_2 x1002_2 from by repeat (first | (with_reducible first | exact HI0.out | apply IsS45.alloc | apply IsS45.drewN | apply IsS45.drew | apply IsS45.set_1 | apply IsS45.set_2 | refine IsS45.far ?_ NB0_155.out _ | refine IsS45.far ?_ NB0_175.out _) | exact HI0.out)) (by (with_reducible repeat (first | apply Kd.Q_alloc | apply Kd.Q_drewN | apply Kd.Q_drew)); exact HO_176001.out) (by decide)) hk (fun _ h => h.2)) (fun _ h => h.1)); have n2_ := Aside0.mk (Kd.N_mono (Kd.N_keep (Kd.N_mono (ok := fun k_ => (((w.heap.size ≤ k_)) ∧ (some k_ ≠ (u6 : Value).ownBlock ∧ (some k_ ≠ (.slice Ao19 t168.length co19 : Value).ownBlock ∧ (k_ ≠ gb155 ∧ (k_ ≠ gb175 ∧ k_ ≠ g)))))) (by (with_reducible repeat (first | apply Kd.N_alloc | apply Kd.N_drewN | apply Kd.N_drew)); exact HO_176002.out) (fun k_ hk_ => (⟨hk_, hk_.2.2.2.2.2⟩ : _ ∧ k_ ≠ g))) hk (fun _ h => h.2)) (fun _ h => h.1)); have n3_ := Aside0.mk (KeepBut.blk hk (g' := gb155) (o := .cells #[.int .i64 0, .slice none 0 0, .slice none 0 0] 25 (0, 0)) (by (with_reducible repeat (first | refine blk_drewN ?_ _ | refine blk_drew ?_ | refine blk_alloc ?_ _)); exact BK155.out) NB155_0.out (by simp)); have n4_ := Aside0.mk (KeepBut.blk hk (g' := gb175) (o := .cells #[.int .i64 t167, .slice Ao19 t168.length co19, u176002] 25 (0, 0)) (by (with_reducible repeat (first | refine blk_drewN ?_ _ | refine blk_drew ?_ | refine blk_alloc ?_ _)); exact BK175.out) NB175_0.out (by simp)); have n5_ := Aside0.mk (KeepBut.trans (by repeat (first | (with_reducible first | exact HK.out | apply KeepBut.set_ | apply keep_drewN | apply keep_drew | apply keep_alloc | refine keep_far ?_ GW155.out _ | refine keep_far ?_ GW175.out _) | exact HK.out)) hk (.inl rfl)); have n6_ := Aside0.mk (hb); have n7_ := Aside0.mk (hi); clear HO_6; clear HO_176001; clear HO_176002; clear BK155; clear BK175; clear HK; clear HB; clear HI0; have HO_6 := n0_; have HO_176001 := n1_; have HO_176002 := n2_; have BK155 := n3_; have BK175 := n4_; have HK := n5_; have HB := n6_; have HI0 := n7_; clear n0_ n1_ n2_ n3_ n4_ n5_ n6_ n7_; (try clear hb); (try clear hb2); (try clear hk); (try clear hi)) | ((with_reducible refine gate_callee (f := 15) rfl ?_); refine goesL_ (some 61) rfl rfl Try.func15 (by kernel_rfl) rfl #[.pointer (some ⟨g, 0, none⟩), .int .i64 5] rfl (by (try simp only [List.map_toArray, List.map_cons, List.map_nil]); first | done | rfl | (simp only [List.length_drop, List.length_take]; rfl)) ?_; (with_reducible refine (spec_l1Next.calls g s0_0 t217 t218 5 t219 t220 t221 w0 _ ?side1 ?side2 A68.out).mono ?_); (case side1 => repeat (first | (with_reducible first | exact HI0.out | apply IsS45.alloc | apply IsS45.drewN | apply IsS45.drew | apply IsS45.set_1 | apply IsS45.set_2 | refine IsS45.far ?_ NB0_155.out _ | refine IsS45.far ?_ NB0_175.out _) | exact HI0.out)); (case side2 => repeat (first | (with_reducible first | exact HB.out | apply below_alloc | apply pw_below_drewN | apply below_drew1 | refine below_set ?_ (IsS45.ge HI0.out) | refine below_set ?_ GE155.out | refine below_set ?_ GE175.out) | exact HB.out)); rintro e w110 ⟨rfl, hi, hb, hk⟩; refine ⟨_, rfl, ?_⟩; have n0_ := Aside0.mk (Kd.R_mono (Kd.R_keep (IsS45.apart (show IsS45 w0 _ g s0_0 t217 t218 from by repeat (first | (with_reducible first | exact HI0.out | apply IsS45.alloc | apply IsS45.drewN | apply IsS45.drew | apply IsS45.set_1 | apply IsS45.set_2 | refine IsS45.far ?_ NB0_155.out _ | refine IsS45.far ?_ NB0_175.out _) | exact HI0.out)) (by (with_reducible repeat (first | apply Kd.R_alloc | apply Kd.R_drewN | apply Kd.R_drew)); exact HO_6.out) (by decide)) hk (fun _ h => h.2)) (fun _ h => h.1)); have n1_ := Aside0.mk (Kd.Q_mono (Kd.Q_keep (IsS45.apartQ (show IsS45 w0 _ g s0_0 t217 t218 from by repeat (first | (with_reducible first | exact HI0.out | apply IsS45.alloc | apply IsS45.drewN | apply IsS45.drew | apply IsS45.set_1 | apply IsS45.set_2 | refine IsS45.far ?_ NB0_155.out _ | refine IsS45.far ?_ NB0_175.out _) | exact HI0.out)) (by (with_reducible repeat (first | apply Kd.Q_alloc | apply Kd.Q_drewN | apply Kd.Q_drew)); exact HO_176001.out) (by decide)) hk (fun _ h => h.2)) (fun _ h => h.1)); have n2_ := Aside0.mk (Kd.N_mono (Kd.N_keep (Kd.N_mono (ok := fun k_ => (((w.heap.size ≤ k_)) ∧ (some k_ ≠ (u6 : Value).ownBlock ∧ (some k_ ≠ (.slice Ao19 t168.length co19 : Value).ownBlock ∧ (k_ ≠ gb155 ∧ (k_ ≠ gb175 ∧ k_ ≠ g)))))) (by (with_reducible repeat (first | apply Kd.N_alloc | apply Kd.N_drewN | apply Kd.N_drew)); exact HO_176002.out) (fun k_ hk_ => (⟨hk_, hk_.2.2.2.2.2⟩ : _ ∧ k_ ≠ g))) hk (fun _ h => h.2)) (fun _ h => h.1)); have n3_ := Aside0.mk (KeepBut.blk hk (g' := gb155) (o := .cells #[.int .i64 0, .slice none 0 0, .slice none 0 0] 25 (0, 0)) (by (with_reducible repeat (first | refine blk_drewN ?_ _ | refine blk_drew ?_ | refine blk_alloc ?_ _)); exact BK155.out) NB155_0.out (by simp)); have n4_ := Aside0.mk (KeepBut.blk hk (g' := gb175) (o := .cells #[.int .i64 t167, .slice Ao19 t168.length co19, u176002] 25 (0, 0)) (by (with_reducible repeat (first | refine blk_drewN ?_ _ | refine blk_drew ?_ | refine blk_alloc ?_ _)); exact BK175.out) NB175_0.out (by simp)); have n5_ := Aside0.mk (KeepBut.trans (by repeat (first | (with_reducible first | exact HK.out | apply KeepBut.set_ | apply keep_drewN | apply keep_drew | apply keep_alloc | refine keep_far ?_ GW155.out _ | refine keep_far ?_ GW175.out _) | exact HK.out)) hk (.inl rfl)); have n6_ := Aside0.mk (hb); have n7_ := Aside0.mk (hi); clear HO_6; clear HO_176001; clear HO_176002; clear BK155; clear BK175; clear HK; clear HB; clear HI0; have HO_6 := n0_; have HO_176001 := n1_; have HO_176002 := n2_; have BK155 := n3_; have BK175 := n4_; have HK := n5_; have HB := n6_; have HI0 := n7_; clear n0_ n1_ n2_ n3_ n4_ n5_ n6_ n7_; (try clear hb); (try clear hb2); (try clear hk); (try clear hi)))
                        have n0_ := Aside0.mk (Kd.R_drew HO_6.out)
                        have n1_ := Aside0.mk (Kd.Q_drew HO_176001.out)
                        have n2_ := Aside0.mk (Kd.N_drew HO_176002.out)
                        have n3_ := Aside0.mk (blk_drew BK155.out)
                        have n4_ := Aside0.mk (blk_drew BK175.out)
                        have n5_ := Aside0.mk (IsS45.drew HI0.out)
                        have n6_ := Aside0.mk (keep_drew HK.out)
                        have n7_ := Aside0.mk (below_drew1 HB.out)
                        clear HO_6
                        clear HO_176001
                        clear HO_176002
                        clear BK155
                        clear BK175
                        clear HI0
                        clear HK
                        clear HB
                        have HO_6 := n0_
                        have HO_176001 := n1_
                        have HO_176002 := n2_
                        have BK155 := n3_
                        have BK175 := n4_
                        have HI0 := n5_
                        have HK := n6_
                        have HB := n7_
                        clear n0_ n1_ n2_ n3_ n4_ n5_ n6_ n7_
                        obtain ⟨Ao112, co112, eo112⟩ := Kd.R_slice HO_6.out
                        (first | subst eo112 | (injection eo112 with f1_ f2_ f3_; have f4_ := f1_.symm; have f5_ := f3_.symm; clear f1_ f2_ f3_; subst f4_; subst f5_))
                        refine start_ (n := 9) (S := fun w' => w'.cell? ⟨gb175, 0, none⟩ = some (.int .i64 t167) ∧ w'.cell? ⟨gb175, 1, none⟩ = some (.slice Ao19 t168.length co19) ∧ w'.cell? ⟨gb175, 2, none⟩ = some (u176002)) (ds := [8]) #[false, false, false, false, false, false, false, false, false] (by kernel_rfl) rfl rfl ⟨(blk_cell BK175.out 0).trans rfl, (blk_cell BK175.out 1).trans rfl, (blk_cell BK175.out 2).trans rfl⟩ (fun hHeld => ?_); refine with_tabW spec_l1DrawDevice.tab24 spec_l1DrawDevice.bits24 (fun HT_ HW_ => ?_)
                        generalize w110.drew = w111 at HO_6 HO_176001 HO_176002 BK155 BK175 HI0 HK HB hHeld ⊢
                        refine pure_ (i := 0) (N := some 88) (v := ?_) (a' := ?_) #[true, false, false, false, false, false, false, false, false] rfl rfl (any_of HT_.out (by kernel_rfl)) (fun _ _ _ h => h) (Or.inl ⟨by rfl, ?_⟩) ?_ ?_
                        rotate_left
                        · intro w'
                          go_simp
                          with_reducible rfl
                        rotate_left
                        · simp only [Act.put, List.setIfInBounds_toArray, List.set_cons_zero, List.set_cons_succ, i64_w, i32_w]
                          rfl
                        refine pure_ (i := 2) (N := some 90) (v := ?_) (a' := ?_) #[true, false, true, false, false, false, false, false, false] rfl rfl (any_of HT_.out (by kernel_rfl)) (fun _ _ _ h => h) (Or.inl ⟨by rfl, ?_⟩) ?_ ?_
                        rotate_left
                        · intro w'
                          go_simp
                          with_reducible rfl
                        rotate_left
                        · simp only [Act.put, List.setIfInBounds_toArray, List.set_cons_zero, List.set_cons_succ, i64_w, i32_w]
                          rfl
                        refine take_ (i := 1) (N := some 89) (v := ?_) (a' := ?_) #[true, true, true, false, false, false, false, false, false] rfl rfl (take_ofW HT_.out HW_.out (by kernel_rfl)) (fun _ _ _ h => h) (Or.inl ⟨by rfl, ?_⟩) hHeld ?_ ?_
                        rotate_left
                        · rintro w' ⟨s0, s1, s2⟩
                          go_simp
                          with_reducible rfl
                        rotate_left
                        · simp only [Act.put, List.setIfInBounds_toArray, List.set_cons_zero, List.set_cons_succ, i64_w, i32_w]
                          rfl
                        refine one_ (i := 3) (N := some 91) #[true, true, true, true, false, false, false, false, false] rfl rfl (one_of HT_.out (by kernel_rfl)) (by decide) (fun K hK => ?_)
                        refine goes_ Try.func19 (by kernel_rfl) rfl #[.slice Ao112 x6_2.length co112] (by rfl) rfl rfl (by (try simp only [List.map_toArray, List.map_cons, List.map_nil]); first | done | rfl | (simp only [List.length_drop, List.length_take]; rfl)) ?_
                        with_reducible refine (spec_l1Copy.calls k2 _ _ x6_2 t231 _ ?side1 ?side2 A107.out).mono ?_
                        (case side1 => repeat (first | exact (Kd.R_reads' HO_6.out).2.2 | (with_reducible refine Kd.C_alloc ?_ _) | (with_reducible refine Kd.C_drewN ?_ _) | (with_reducible refine Kd.C_drew ?_)))
                        (case side2 => exact (Kd.R_reads' HO_6.out).2.1)
                        rintro e w113 ⟨v232, rfl, ho0, hb⟩
                        refine ⟨_, rfl, ?_⟩
                        have n0_ := Aside0.mk (Kd.R_elder' (by (with_reducible repeat (first | apply Kd.R_alloc | apply Kd.R_drewN | apply Kd.R_drew)); exact HO_6.out) (Kd.R_base ho0) hb)
                        have n1_ := Aside0.mk (Kd.Q_elder' (by (with_reducible repeat (first | apply Kd.Q_alloc | apply Kd.Q_drewN | apply Kd.Q_drew)); exact HO_176001.out) (Kd.R_base ho0) hb)
                        have n2_ := Aside0.mk (Kd.N_elder' (by (with_reducible repeat (first | apply Kd.N_alloc | apply Kd.N_drewN | apply Kd.N_drew)); exact HO_176002.out) (Kd.R_base ho0) hb)
                        have n3_ := Aside0.mk (Kd.R_lower (Kd.R_new' (Kd.R_new' (Kd.R_newM (M := fun k_ => (w.heap.size ≤ k_)) ho0 (keep_size (w := w) (g := g) (row := none) (by repeat (first | (with_reducible first | exact HK.out | apply KeepBut.set_ | apply keep_drewN | apply keep_drew | apply keep_alloc | refine keep_far ?_ GW155.out _ | refine keep_far ?_ GW175.out _) | exact HK.out))) (fun k_ h_ => h_)) (Kd.R_lt (by (with_reducible repeat (first | apply Kd.R_alloc | apply Kd.R_drewN | apply Kd.R_drew)); exact HO_6.out))) (Kd.Q_lt (by (with_reducible repeat (first | apply Kd.Q_alloc | apply Kd.Q_drewN | apply Kd.Q_drew)); exact HO_176001.out))) (keep_size (w := w) (g := g) (row := none) (by repeat (first | (with_reducible first | exact HK.out | apply KeepBut.set_ | apply keep_drewN | apply keep_drew | apply keep_alloc | refine keep_far ?_ GW155.out _ | refine keep_far ?_ GW175.out _) | exact HK.out))))
                        have n4_ := Aside0.mk (blk_below (g := gb155) (o := .cells #[.int .i64 0, .slice none 0 0, .slice none 0 0] 25 (0, 0)) (by (with_reducible repeat (first | refine blk_drewN ?_ _ | refine blk_drew ?_ | refine blk_alloc ?_ _)); exact BK155.out) hb)
                        have n5_ := Aside0.mk (blk_below (g := gb175) (o := .cells #[.int .i64 t167, .slice Ao19 t168.length co19, u176002] 25 (0, 0)) (by (with_reducible repeat (first | refine blk_drewN ?_ _ | refine blk_drew ?_ | refine blk_alloc ?_ _)); exact BK175.out) hb)
                        have n6_ := Aside0.mk (IsS45.below (by repeat (first | (with_reducible first | exact HI0.out | apply IsS45.alloc | apply IsS45.drewN | apply IsS45.drew | apply IsS45.set_1 | apply IsS45.set_2 | refine IsS45.far ?_ NB0_155.out _ | refine IsS45.far ?_ NB0_175.out _) | exact HI0.out)) hb)
                        have n7_ := Aside0.mk (KeepBut.trans (by repeat (first | (with_reducible first | exact HK.out | apply KeepBut.set_ | apply keep_drewN | apply keep_drew | apply keep_alloc | refine keep_far ?_ GW155.out _ | refine keep_far ?_ GW175.out _) | exact HK.out)) (KeepBut.of_below hb g none) (.inl rfl))
                        have n8_ := Aside0.mk (below_step (by repeat (first | (with_reducible first | exact HB.out | apply below_alloc | apply pw_below_drewN | apply below_drew1 | refine below_set ?_ (IsS45.ge HI0.out) | refine below_set ?_ GE155.out | refine below_set ?_ GE175.out) | exact HB.out)) hb)
                        clear HO_6
                        clear HO_176001
                        clear HO_176002
                        clear BK155
                        clear BK175
                        clear HI0
                        clear HK
                        clear HB
                        have HO_6 := n0_
                        have HO_176001 := n1_
                        have HO_176002 := n2_
                        have HO233 := n3_
                        have BK155 := n4_
                        have BK175 := n5_
                        have HI0 := n6_
                        have HK := n7_
                        have HB := n8_
                        clear n0_ n1_ n2_ n3_ n4_ n5_ n6_ n7_ n8_
                        (try clear hb)
                        (try clear hb2)
                        (try clear hk)
                        (try clear hi)
                        (try clear ho0)
                        obtain ⟨Ao114, co114, eo114⟩ := Kd.R_slice HO233.out
                        (first | subst eo114 | (injection eo114 with f1_ f2_ f3_; have f4_ := f1_.symm; have f5_ := f3_.symm; clear f1_ f2_ f3_; subst f4_; subst f5_))
                        refine hK.out _ _ ⟨(blk_cell BK175.out 0).trans rfl, (blk_cell BK175.out 1).trans rfl, (blk_cell BK175.out 2).trans rfl⟩ (fun hHeld => ?_)
                        clear hK K
                        refine norm_ (a' := ?_) ?_ ?_
                        rotate_left
                        · show Act.put _ (some 91) _ = _
                          simp only [Act.put, List.setIfInBounds_toArray, List.set_cons_zero, List.set_cons_succ, i64_w, i32_w]
                          rfl
                        refine pure_ (i := 4) (N := some 92) (v := ?_) (a' := ?_) #[true, true, true, true, true, false, false, false, false] rfl rfl (any_of HT_.out (by kernel_rfl)) (fun _ _ _ h => h) (Or.inl ⟨by rfl, ?_⟩) ?_ ?_
                        rotate_left
                        · intro w'
                          go_simp
                          with_reducible rfl
                        rotate_left
                        · simp only [Act.put, List.setIfInBounds_toArray, List.set_cons_zero, List.set_cons_succ, i64_w, i32_w]
                          rfl
                        refine one_ (i := 5) (N := some 93) #[true, true, true, true, true, true, false, false, false] rfl rfl (one_of HT_.out (by kernel_rfl)) (by decide) (fun K hK => ?_)
                        refine value_ (w1 := ?_) (v := ?_) (by rfl) rfl ?_ ?_
                        rotate_left 2
                        · go_simp
                          constructor
                          · rfl
                          · rfl
                        refine hK.out _ _ ⟨(blk_cell (blk_alloc BK175.out _) 0).trans rfl, (blk_cell (blk_alloc BK175.out _) 1).trans rfl, (blk_cell (blk_alloc BK175.out _) 2).trans rfl⟩ (fun hHeld => ?_)
                        clear hK K
                        refine norm_ (a' := ?_) ?_ ?_
                        rotate_left
                        · show Act.put _ (some 93) _ = _
                          simp only [Act.put, List.setIfInBounds_toArray, List.set_cons_zero, List.set_cons_succ, i64_w, i32_w]
                          rfl
                        refine one_ (i := 6) (N := some 94) #[true, true, true, true, true, true, true, false, false] rfl rfl (one_of HT_.out (by kernel_rfl)) (by decide) (fun K hK => ?_)
                        refine Kd.N_append_step k32 w.heap.size (by rfl) (.tmp 89) (.tmp 93) 23 32 (.agg #[(.int .i64 0), (.slice none 0 0)]) 32 rfl Try.underlying23 info32 rfl (by decide) (by omega) u176002 x176002_2 (⟨(-1), t231⟩ : S32) [.int .i64 (-1), .slice Ao114 t231.length co114] (fun k_ => (w.heap.size ≤ k_) ∧ some k_ ≠ (.slice Ao112 x6_2.length co112 : Value).ownBlock ∧ some k_ ≠ (.slice Ao19 t168.length co19 : Value).ownBlock ∧ k_ ≠ gb155 ∧ k_ ≠ gb175 ∧ k_ ≠ g) (fun k_ => ((fun k_ => (w.heap.size ≤ k_) ∧ some k_ ≠ (.slice Ao112 x6_2.length co112 : Value).ownBlock ∧ some k_ ≠ (.slice Ao19 t168.length co19 : Value).ownBlock ∧ k_ ≠ gb155 ∧ k_ ≠ gb175 ∧ k_ ≠ g)) k_ ∧ some k_ ≠ (u176002 : Value).ownBlock) rfl rfl ?aP (fun _ hk => hk) ?aF ?aO (Below.refl _ _) ?aS ?aL ?_
                        (case aP => exact (k32_mkF _ _ (⟨(-1), t231⟩ : S32) (Kd.R_reads' (Kd.R_mono (ok' := (fun k_ => ((fun k_ => (w.heap.size ≤ k_) ∧ some k_ ≠ (.slice Ao112 x6_2.length co112 : Value).ownBlock ∧ some k_ ≠ (.slice Ao19 t168.length co19 : Value).ownBlock ∧ k_ ≠ gb155 ∧ k_ ≠ gb175 ∧ k_ ≠ g)) k_ ∧ some k_ ≠ (u176002 : Value).ownBlock)) (IsS45.apart HI0.out (Kd.R_types (Kd.R_types (Kd.R_apart' (HO233.out) (Kd.N_typed HO_176002.out) (by decide)) BK155.out (by decide)) BK175.out (by decide)) (by decide)) (fun k_ hk => ⟨⟨hk.1.1.1.1.1.1.1, ⟨hk.1.1.1.1.1.2, ⟨hk.1.1.1.1.2, ⟨hk.1.1.2, ⟨hk.1.2, hk.2⟩⟩⟩⟩⟩, hk.1.1.1.2⟩))).2.1 (Kd.R_F (Kd.R_mono (ok' := (fun k_ => ((fun k_ => (w.heap.size ≤ k_) ∧ some k_ ≠ (.slice Ao112 x6_2.length co112 : Value).ownBlock ∧ some k_ ≠ (.slice Ao19 t168.length co19 : Value).ownBlock ∧ k_ ≠ gb155 ∧ k_ ≠ gb175 ∧ k_ ≠ g)) k_ ∧ some k_ ≠ (u176002 : Value).ownBlock)) (IsS45.apart HI0.out (Kd.R_types (Kd.R_types (Kd.R_apart' (HO233.out) (Kd.N_typed HO_176002.out) (by decide)) BK155.out (by decide)) BK175.out (by decide)) (by decide)) (fun k_ hk => ⟨⟨hk.1.1.1.1.1.1.1, ⟨hk.1.1.1.1.1.2, ⟨hk.1.1.1.1.2, ⟨hk.1.1.2, ⟨hk.1.2, hk.2⟩⟩⟩⟩⟩, hk.1.1.1.2⟩)))))
                        (case aF => exact (fun k_ hk => ⟨(Nat.le_trans (keep_size (w := w) (g := g) (row := none) (by repeat (first | (with_reducible first | exact HK.out | apply KeepBut.set_ | apply keep_drewN | apply keep_drew | apply keep_alloc | refine keep_far ?_ GW155.out _ | refine keep_far ?_ GW175.out _) | exact HK.out))) hk), Kd.fresh' (Kd.R_lt (by (with_reducible repeat (first | apply Kd.R_alloc | apply Kd.R_drewN | apply Kd.R_drew)); exact HO_6.out)) k_ hk, Kd.fresh' (Kd.Q_lt (by (with_reducible repeat (first | apply Kd.Q_alloc | apply Kd.Q_drewN | apply Kd.Q_drew)); exact HO_176001.out)) k_ hk, Kd.freshB (g := gb155) (o := .cells #[.int .i64 0, .slice none 0 0, .slice none 0 0] 25 (0, 0)) (by (with_reducible repeat (first | refine blk_drewN ?_ _ | refine blk_drew ?_ | refine blk_alloc ?_ _)); exact BK155.out) k_ hk, Kd.freshB (g := gb175) (o := .cells #[.int .i64 t167, .slice Ao19 t168.length co19, u176002] 25 (0, 0)) (by (with_reducible repeat (first | refine blk_drewN ?_ _ | refine blk_drew ?_ | refine blk_alloc ?_ _)); exact BK175.out) k_ hk, IsS45.fresh (by repeat (first | (with_reducible first | exact HI0.out | apply IsS45.alloc | apply IsS45.drewN | apply IsS45.drew | apply IsS45.set_1 | apply IsS45.set_2 | refine IsS45.far ?_ NB0_155.out _ | refine IsS45.far ?_ NB0_175.out _) | exact HI0.out)) k_ hk⟩))
                        (case aO => exact (by (with_reducible repeat (first | apply Kd.N_alloc | apply Kd.N_drewN | apply Kd.N_drew)); exact Kd.N_mono HO_176002.out (fun _ hk => ⟨hk.1.1, ⟨hk.1.2.1, ⟨hk.1.2.2.1, ⟨hk.1.2.2.2.1, ⟨hk.1.2.2.2.2.1, hk.1.2.2.2.2.2⟩⟩⟩⟩⟩)))
                        (case aS => exact (keep_size (w := w) (g := g) (row := none) (by repeat (first | (with_reducible first | exact HK.out | apply KeepBut.set_ | apply keep_drewN | apply keep_drew | apply keep_alloc | refine keep_far ?_ GW155.out _ | refine keep_far ?_ GW175.out _) | exact HK.out))))
                        (case aL => have := LMc108.out; omega)
                        intro v235 w115 ho hb hg hat
                        rw [← Ny234.out] at ho
                        have n0_ := Aside0.mk (Kd.R_over' (by (with_reducible repeat (first | apply Kd.R_alloc | apply Kd.R_drewN | apply Kd.R_drew)); exact HO_6.out) (Kd.N_typed (by (with_reducible repeat (first | apply Kd.N_alloc | apply Kd.N_drewN | apply Kd.N_drew)); exact HO_176002.out)) (by decide) hg)
                        have n1_ := Aside0.mk (Kd.Q_over' (by (with_reducible repeat (first | apply Kd.Q_alloc | apply Kd.Q_drewN | apply Kd.Q_drew)); exact HO_176001.out) (Kd.N_typed (by (with_reducible repeat (first | apply Kd.N_alloc | apply Kd.N_drewN | apply Kd.N_drew)); exact HO_176002.out)) (by decide) hg)
                        have n2_ := Aside0.mk (blk_grown (g := gb155) (o := .cells #[.int .i64 0, .slice none 0 0, .slice none 0 0] 25 (0, 0)) (by (with_reducible repeat (first | refine blk_drewN ?_ _ | refine blk_drew ?_ | refine blk_alloc ?_ _)); exact BK155.out) hg (Kd.N_ne HO_176002.out BK155.out (by decide)))
                        have n3_ := Aside0.mk (blk_grown (g := gb175) (o := .cells #[.int .i64 t167, .slice Ao19 t168.length co19, u176002] 25 (0, 0)) (by (with_reducible repeat (first | refine blk_drewN ?_ _ | refine blk_drew ?_ | refine blk_alloc ?_ _)); exact BK175.out) hg (Kd.N_ne HO_176002.out BK175.out (by decide)))
                        have n4_ := Aside0.mk (IsS45.grown (by repeat (first | (with_reducible first | exact HI0.out | apply IsS45.alloc | apply IsS45.drewN | apply IsS45.drew | apply IsS45.set_1 | apply IsS45.set_2 | refine IsS45.far ?_ NB0_155.out _ | refine IsS45.far ?_ NB0_175.out _) | exact HI0.out)) hg (IsS45.own_neN HI0.out HO_176002.out (by decide)))
                        have n5_ := Aside0.mk (below_weaken (by repeat (first | (with_reducible first | exact HB.out | apply below_alloc | apply pw_below_drewN | apply below_drew1 | refine below_set ?_ (IsS45.ge HI0.out) | refine below_set ?_ GE155.out | refine below_set ?_ GE175.out) | exact HB.out)) HL.out hb)
                        have n6_ := Aside0.mk (KeepBut.trans (by repeat (first | (with_reducible first | exact HK.out | apply KeepBut.set_ | apply keep_drewN | apply keep_drew | apply keep_alloc | refine keep_far ?_ GW155.out _ | refine keep_far ?_ GW175.out _) | exact HK.out)) (KeepBut.of_grown hg g) (Kd.N_base2 HO_176002.out))
                        have n7_ := Aside0.mk (ho)
                        clear HO_6
                        clear HO_176001
                        clear BK155
                        clear BK175
                        clear HI0
                        clear HB
                        clear HK
                        clear HO_176002
                        clear HO233
                        have HO_6 := n0_
                        have HO_176001 := n1_
                        have BK155 := n2_
                        have BK175 := n3_
                        have HI0 := n4_
                        have HB := n5_
                        have HK := n6_
                        have HO236 := n7_
                        clear n0_ n1_ n2_ n3_ n4_ n5_ n6_ n7_
                        clear ho hb hg hat
                        obtain ⟨Ao116, co116, eo116⟩ := Kd.N_slice HO236.out
                        (first | subst eo116 | (injection eo116 with f1_ f2_ f3_; have f4_ := f1_.symm; have f5_ := f3_.symm; clear f1_ f2_ f3_; subst f4_; subst f5_))
                        refine hK.out _ _ ⟨(blk_cell BK175.out 0).trans rfl, (blk_cell BK175.out 1).trans rfl, (blk_cell BK175.out 2).trans rfl⟩ (fun hHeld => ?_)
                        clear hK K
                        refine norm_ (a' := ?_) ?_ ?_
                        rotate_left
                        · show Act.put _ (some 94) _ = _
                          simp only [Act.put, List.setIfInBounds_toArray, List.set_cons_zero, List.set_cons_succ, i64_w, i32_w]
                          rfl
                        refine pure_ (i := 7) (N := some 95) (v := ?_) (a' := ?_) #[true, true, true, true, true, true, true, true, false] rfl rfl (any_of HT_.out (by kernel_rfl)) (fun _ _ _ h => h) (Or.inl ⟨by rfl, ?_⟩) ?_ ?_
                        rotate_left
                        · intro w'
                          go_simp
                          with_reducible rfl
                        rotate_left
                        · simp only [Act.put, List.setIfInBounds_toArray, List.set_cons_zero, List.set_cons_succ, i64_w, i32_w]
                          rfl
                        refine last_ (i := 8) (N := none) #[true, true, true, true, true, true, true, true, true] rfl rfl (one_of HT_.out (by kernel_rfl)) (by decide) (fun K hK => ?_)
                        have hs117 : w115.cell? ⟨gb175, 2, none⟩ = some (u176002) := (blk_cell BK175.out 2).trans rfl
                        have hfs117 := blk_frozen BK175.out 2
                        have hns117_0 := NB155_175.out
                        have hms117_0 := NB175_155.out
                        refine skip_ (w1 := ?_) (by rfl) rfl ?_ ?_
                        rotate_left
                        · go_simp
                          rfl
                        refine hK.out _ _ ?_
                        clear hK K
                        refine done_ (done_of HT_.out (by kernel_rfl)) ?_
                        have hnb118 := NB175_155.out
                        have hnc118 := NB155_175.out
                        have hnb119 := NB175_0.out
                        have hnc119 := NB0_175.out
                        have hcz120_0 : w115.cell? ⟨gb175, 0, none⟩ = some (.int .i64 t167) := (blk_cell BK175.out 0).trans rfl
                        have hcz120_1 : w115.cell? ⟨gb175, 1, none⟩ = some (.slice Ao19 t168.length co19) := (blk_cell BK175.out 1).trans rfl
                        have hcz120_2 : w115.cell? ⟨gb175, 2, none⟩ = some (u176002) := (blk_cell BK175.out 2).trans rfl
                        have hfz120_0 := blk_frozen BK175.out 0
                        have hfz120_1 := blk_frozen BK175.out 1
                        have hfz120_2 := blk_frozen BK175.out 2
                        have hnb121 := NB155_0.out
                        have hnc121 := NB0_155.out
                        have hcz122_0 : w115.cell? ⟨gb155, 0, none⟩ = some (.int .i64 0) := (blk_cell BK155.out 0).trans rfl
                        have hcz122_1 : w115.cell? ⟨gb155, 1, none⟩ = some (.slice none 0 0) := (blk_cell BK155.out 1).trans rfl
                        have hcz122_2 : w115.cell? ⟨gb155, 2, none⟩ = some (.slice none 0 0) := (blk_cell BK155.out 2).trans rfl
                        have hfz122_0 := blk_frozen BK155.out 0
                        have hfz122_1 := blk_frozen BK155.out 1
                        have hfz122_2 := blk_frozen BK155.out 2
                        try go_wp2
                        refine bodyPost_ret (results_cell_row rfl _ _ gb155 25 #[.int .i64 t167, .slice Ao19 t168.length co19, .slice Ao116 y234.length co116] (0, 0) _ rfl (by (with_reducible repeat (first | refine blk_drewN ?_ _ | refine blk_drew ?_ | refine blk_alloc ?_ _)); refine blk_put (cs := #[.int .i64 t167, .slice Ao19 t168.length co19, .slice none 0 0]) ?_ 2 _ rfl; (with_reducible repeat (first | refine blk_drewN ?_ _ | refine blk_drew ?_ | refine blk_alloc ?_ _)); refine blk_put (cs := #[.int .i64 t167, .slice none 0 0, .slice none 0 0]) ?_ 1 _ rfl; (with_reducible repeat (first | refine blk_drewN ?_ _ | refine blk_drew ?_ | refine blk_alloc ?_ _)); refine blk_put (cs := #[.int .i64 0, .slice none 0 0, .slice none 0 0]) ?_ 0 _ rfl; (with_reducible repeat (first | refine blk_drewN ?_ _ | refine blk_drew ?_ | refine blk_alloc ?_ _)); refine blk_far ?_ NB155_175.out _; (with_reducible repeat (first | refine blk_drewN ?_ _ | refine blk_drew ?_ | refine blk_alloc ?_ _)); exact BK155.out) Try.underlying25 rfl (by kernel_rfl)) rfl ?_
                        exact ⟨_, _, by first | rfl | (simp [errW_none, errW_some] <;> rfl) | (simp [*, errW_none, errW_some] <;> rfl), by (with_reducible repeat (first | apply Kd.Q_alloc | apply Kd.Q_drewN | apply Kd.Q_drew)); exact Kd.Q_mono (Kd.Q_far (p := ⟨gb155, 2, none⟩) (Kd.Q_far (p := ⟨gb155, 1, none⟩) (Kd.Q_far (p := ⟨gb155, 0, none⟩) (Kd.Q_far (p := ⟨gb175, 2, none⟩) (Kd.Q_types (Kd.Q_types HO_176001.out BK175.out (by decide)) BK155.out (by decide)) (fun _ hk => hk.1.2) (.slice Ao116 y234.length co116)) (fun _ hk => hk.2) (.int .i64 t167)) (fun _ hk => hk.2) (.slice Ao19 t168.length co19)) (fun _ hk => hk.2) (.slice Ao116 y234.length co116)) (fun _ hk => hk.1.1.1.1), by (with_reducible repeat (first | apply Kd.N_alloc | apply Kd.N_drewN | apply Kd.N_drew)); exact Kd.N_mono (Kd.N_far (p := ⟨gb155, 2, none⟩) (Kd.N_far (p := ⟨gb155, 1, none⟩) (Kd.N_far (p := ⟨gb155, 0, none⟩) (Kd.N_far (p := ⟨gb175, 2, none⟩) (Kd.N_mono (Kd.N_mono HO236.out (fun k_ hk => (⟨hk, hk.2.2.2.2.1⟩ : _ ∧ k_ ≠ gb175))) (fun k_ hk => (⟨hk, hk.1.2.2.2.1⟩ : _ ∧ k_ ≠ gb155))) (fun _ hk => hk.1.2) (.slice Ao116 y234.length co116)) (fun _ hk => hk.2) (.int .i64 t167)) (fun _ hk => hk.2) (.slice Ao19 t168.length co19)) (fun _ hk => hk.2) (.slice Ao116 y234.length co116)) (fun _ hk => ⟨hk.1.1.1, hk.1.1.2.2.1⟩), by repeat (first | (with_reducible first | exact HI0.out | apply IsS45.alloc | apply IsS45.drewN | apply IsS45.drew | apply IsS45.set_1 | apply IsS45.set_2 | refine IsS45.far ?_ NB0_155.out _ | refine IsS45.far ?_ NB0_175.out _) | exact HI0.out), by repeat (first | (with_reducible first | exact HB.out | apply below_alloc | apply pw_below_drewN | apply below_drew1 | refine below_set ?_ (IsS45.ge HI0.out) | refine below_set ?_ GE155.out | refine below_set ?_ GE175.out) | exact HB.out), by repeat (first | (with_reducible first | exact HK.out | apply KeepBut.set_ | apply keep_drewN | apply keep_drew | apply keep_alloc | refine keep_far ?_ GW155.out _ | refine keep_far ?_ GW175.out _) | exact HK.out)⟩
                      · rw [if_neg c108] at H
                        exact absurd H (by simp)
                    · rw [if_neg c106] at H
                      have c106b0 : (t219 == 3) = false := beq_eq_false_iff_ne.mpr c106
                      have c106b1 : (t219 != 3) = true := bne_iff_ne.mpr c106
                      by_cases c123 : 1 ≤ (x6_2.length : Int)
                      · rw [if_pos c123] at H
                        have c123b0 := eq_true c123
                        have c123b1 : decide (1 ≤ (x6_2.length : Int)) = true := decide_eq_true c123
                        clear c123
                        obtain ⟨y237, hy237⟩ : ∃ y_ : List Int, y_ = (x6_2.drop 1) := ⟨_, rfl⟩
                        replace H : (if x176002_2.length < 4398046511104 then (some (t167, t168, (x176002_2 ++ [(⟨0, y237⟩ : S32)]), t220, t221)) else (none)) = some (r1, r2, r3, r4, r5) := by first | (rw [hy237]; with_reducible exact H) | (have H2_ := (Option.bind_some _ _).symm.trans H; rw [hy237]; with_reducible exact H2_) | (have H2_ := (Option.bind_some _ _).symm.trans H; with_reducible exact H2_) | with_reducible exact H | (rw [hy237]; exact H) | exact H
                        have Ny237 := Aside0.mk hy237
                        clear hy237
                        by_cases c124 : x176002_2.length < 4398046511104
                        · rw [if_pos c124] at H
                          have LMc124 := Aside0.mk c124
                          clear c124
                          obtain ⟨y242, hy242⟩ : ∃ y_ : List (S32), y_ = (x176002_2 ++ [(⟨0, y237⟩ : S32)]) := ⟨_, rfl⟩
                          replace H : (some (t167, t168, y242, t220, t221)) = some (r1, r2, r3, r4, r5) := by first | (rw [hy242]; with_reducible exact H) | (have H2_ := (Option.bind_some _ _).symm.trans H; rw [hy242]; with_reducible exact H2_) | (have H2_ := (Option.bind_some _ _).symm.trans H; with_reducible exact H2_) | with_reducible exact H | (rw [hy242]; exact H) | exact H
                          have Ny242 := Aside0.mk hy242
                          clear hy242
                          simp only [Option.some.injEq, Prod.mk.injEq] at H
                          obtain ⟨rfl, rfl, rfl, rfl, rfl⟩ := H
                          try go_wp2_with (first | ((with_reducible refine gate_callee (f := 15) rfl ?_); refine goesL_ (some 58) rfl rfl Try.func15 (by kernel_rfl) rfl #[.pointer (some ⟨g, 0, none⟩), .int .i64 6] rfl (by (try simp only [List.map_toArray, List.map_cons, List.map_nil]); first | done | rfl | (simp only [List.length_drop, List.length_take]; rfl)) ?_; (with_reducible refine (spec_l1Next.calls g s0_0 x1001_2 x1002_2 6 t216 t217 t218 w0 _ ?side1 ?side2 A66.out).mono ?_); (case side1 => repeat (first | (with_reducible first | exact HI0.out | apply IsS45.alloc | apply IsS45.drewN | apply IsS45.drew | apply IsS45.set_1 | apply IsS45.set_2 | refine IsS45.far ?_ NB0_155.out _ | refine IsS45.far ?_ NB0_175.out _) | exact HI0.out)); (case side2 => repeat (first | (with_reducible first | exact HB.out | apply below_alloc | apply pw_below_drewN | apply below_drew1 | refine below_set ?_ (IsS45.ge HI0.out) | refine below_set ?_ GE155.out | refine below_set ?_ GE175.out) | exact HB.out)); rintro e w125 ⟨rfl, hi, hb, hk⟩; refine ⟨_, rfl, ?_⟩; have n0_ := Aside0.mk (Kd.R_mono (Kd.R_keep (IsS45.apart (show IsS45 w0 _ g s0_0 x1001_2 x1002_2 from by repeat (first | (with_reducible first | exact HI0.out | apply IsS45.alloc | apply IsS45.drewN | apply IsS45.drew | apply IsS45.set_1 | apply IsS45.set_2 | refine IsS45.far ?_ NB0_155.out _ | refine IsS45.far ?_ NB0_175.out _) | exact HI0.out)) (by (with_reducible repeat (first | apply Kd.R_alloc | apply Kd.R_drewN | apply Kd.R_drew)); exact HO_6.out) (by decide)) hk (fun _ h => h.2)) (fun _ h => h.1)); have n1_ := Aside0.mk (Kd.Q_mono (Kd.Q_keep (IsS45.apartQ (show IsS45 w0 _ g s0_0 x1001_2 x1002_2 from by repeat (first | (with_reducible first | exact HI0.out | apply IsS45.alloc | apply IsS45.drewN | apply IsS45.drew | apply IsS45.set_1 | apply IsS45.set_2 | refine IsS45.far ?_ NB0_155.out _ | refine IsS45.far ?_ NB0_175.out _) | exact HI0.out)) (by (with_reducible repeat (first | apply Kd.Q_alloc | apply Kd.Q_drewN | apply Kd.Q_drew)); exact HO_176001.out) (by decide)) hk (fun _ h => h.2)) (fun _ h => h.1)); have n2_ := Aside0.mk (Kd.N_mono (Kd.N_keep (Kd.N_mono (ok := fun k_ => (((w.heap.size ≤ k_)) ∧ (some k_ ≠ (u6 : Value).ownBlock ∧ (some k_ ≠ (.slice Ao19 t168.length co19 : Value).ownBlock ∧ (k_ ≠ gb155 ∧ (k_ ≠ gb175 ∧ k_ ≠ g)))))) (by (with_reducible repeat (first | apply Kd.N_alloc | apply Kd.N_drewN | apply Kd.N_drew)); exact HO_176002.out) (fun k_ hk_ => (⟨hk_, hk_.2.2.2.2.2⟩ : _ ∧ k_ ≠ g))) hk (fun _ h => h.2)) (fun _ h => h.1)); have n3_ := Aside0.mk (KeepBut.blk hk (g' := gb155) (o := .cells #[.int .i64 0, .slice none 0 0, .slice none 0 0] 25 (0, 0)) (by (with_reducible repeat (first | refine blk_drewN ?_ _ | refine blk_drew ?_ | refine blk_alloc ?_ _)); exact BK155.out) NB155_0.out (by simp)); have n4_ := Aside0.mk (KeepBut.blk hk (g' := gb175) (o := .cells #[.int .i64 t167, .slice Ao19 t168.length co19, u176002] 25 (0, 0)) (by (with_reducible repeat (first | refine blk_drewN ?_ _ | refine blk_drew ?_ | refine blk_alloc ?_ _)); exact BK175.out) NB175_0.out (by simp)); have n5_ := Aside0.mk (KeepBut.trans (by repeat (first | (with_reducible first | exact HK.out | apply KeepBut.set_ | apply keep_drewN | apply keep_drew | apply keep_alloc | refine keep_far ?_ GW155.out _ | refine keep_far ?_ GW175.out _) | exact HK.out)) hk (.inl rfl)); have n6_ := Aside0.mk (hb); have n7_ := Aside0.mk (hi); clear HO_6; clear HO_176001; clear HO_176002; clear BK155; clear BK175; clear HK; clear HB; clear HI0; have HO_6 := n0_; have HO_176001 := n1_; have HO_176002 := n2_; have BK155 := n3_; have BK175 := n4_; have HK := n5_; have HB := n6_; have HI0 := n7_; clear n0_ n1_ n2_ n3_ n4_ n5_ n6_ n7_; (try clear hb); (try clear hb2); (try clear hk); (try clear hi)) | ((with_reducible refine gate_callee (f := 15) rfl ?_); refine goesL_ (some 61) rfl rfl Try.func15 (by kernel_rfl) rfl #[.pointer (some ⟨g, 0, none⟩), .int .i64 5] rfl (by (try simp only [List.map_toArray, List.map_cons, List.map_nil]); first | done | rfl | (simp only [List.length_drop, List.length_take]; rfl)) ?_; (with_reducible refine (spec_l1Next.calls g s0_0 t217 t218 5 t219 t220 t221 w0 _ ?side1 ?side2 A68.out).mono ?_); (case side1 => repeat (first | (with_reducible first | exact HI0.out | apply IsS45.alloc | apply IsS45.drewN | apply IsS45.drew | apply IsS45.set_1 | apply IsS45.set_2 | refine IsS45.far ?_ NB0_155.out _ | refine IsS45.far ?_ NB0_175.out _) | exact HI0.out)); (case side2 => repeat (first | (with_reducible first | exact HB.out | apply below_alloc | apply pw_below_drewN | apply below_drew1 | refine below_set ?_ (IsS45.ge HI0.out) | refine below_set ?_ GE155.out | refine below_set ?_ GE175.out) | exact HB.out)); rintro e w126 ⟨rfl, hi, hb, hk⟩; refine ⟨_, rfl, ?_⟩; have n0_ := Aside0.mk (Kd.R_mono (Kd.R_keep (IsS45.apart (show IsS45 w0 _ g s0_0 t217 t218 from by repeat (first | (with_reducible first | exact HI0.out | apply IsS45.alloc | apply IsS45.drewN | apply IsS45.drew | apply IsS45.set_1 | apply IsS45.set_2 | refine IsS45.far ?_ NB0_155.out _ | refine IsS45.far ?_ NB0_175.out _) | exact HI0.out)) (by (with_reducible repeat (first | apply Kd.R_alloc | apply Kd.R_drewN | apply Kd.R_drew)); exact HO_6.out) (by decide)) hk (fun _ h => h.2)) (fun _ h => h.1)); have n1_ := Aside0.mk (Kd.Q_mono (Kd.Q_keep (IsS45.apartQ (show IsS45 w0 _ g s0_0 t217 t218 from by repeat (first | (with_reducible first | exact HI0.out | apply IsS45.alloc | apply IsS45.drewN | apply IsS45.drew | apply IsS45.set_1 | apply IsS45.set_2 | refine IsS45.far ?_ NB0_155.out _ | refine IsS45.far ?_ NB0_175.out _) | exact HI0.out)) (by (with_reducible repeat (first | apply Kd.Q_alloc | apply Kd.Q_drewN | apply Kd.Q_drew)); exact HO_176001.out) (by decide)) hk (fun _ h => h.2)) (fun _ h => h.1)); have n2_ := Aside0.mk (Kd.N_mono (Kd.N_keep (Kd.N_mono (ok := fun k_ => (((w.heap.size ≤ k_)) ∧ (some k_ ≠ (u6 : Value).ownBlock ∧ (some k_ ≠ (.slice Ao19 t168.length co19 : Value).ownBlock ∧ (k_ ≠ gb155 ∧ (k_ ≠ gb175 ∧ k_ ≠ g)))))) (by (with_reducible repeat (first | apply Kd.N_alloc | apply Kd.N_drewN | apply Kd.N_drew)); exact HO_176002.out) (fun k_ hk_ => (⟨hk_, hk_.2.2.2.2.2⟩ : _ ∧ k_ ≠ g))) hk (fun _ h => h.2)) (fun _ h => h.1)); have n3_ := Aside0.mk (KeepBut.blk hk (g' := gb155) (o := .cells #[.int .i64 0, .slice none 0 0, .slice none 0 0] 25 (0, 0)) (by (with_reducible repeat (first | refine blk_drewN ?_ _ | refine blk_drew ?_ | refine blk_alloc ?_ _)); exact BK155.out) NB155_0.out (by simp)); have n4_ := Aside0.mk (KeepBut.blk hk (g' := gb175) (o := .cells #[.int .i64 t167, .slice Ao19 t168.length co19, u176002] 25 (0, 0)) (by (with_reducible repeat (first | refine blk_drewN ?_ _ | refine blk_drew ?_ | refine blk_alloc ?_ _)); exact BK175.out) NB175_0.out (by simp)); have n5_ := Aside0.mk (KeepBut.trans (by repeat (first | (with_reducible first | exact HK.out | apply KeepBut.set_ | apply keep_drewN | apply keep_drew | apply keep_alloc | refine keep_far ?_ GW155.out _ | refine keep_far ?_ GW175.out _) | exact HK.out)) hk (.inl rfl)); have n6_ := Aside0.mk (hb); have n7_ := Aside0.mk (hi); clear HO_6; clear HO_176001; clear HO_176002; clear BK155; clear BK175; clear HK; clear HB; clear HI0; have HO_6 := n0_; have HO_176001 := n1_; have HO_176002 := n2_; have BK155 := n3_; have BK175 := n4_; have HK := n5_; have HB := n6_; have HI0 := n7_; clear n0_ n1_ n2_ n3_ n4_ n5_ n6_ n7_; (try clear hb); (try clear hb2); (try clear hk); (try clear hi)))
                          have n0_ := Aside0.mk (Kd.R_drew HO_6.out)
                          have n1_ := Aside0.mk (Kd.Q_drew HO_176001.out)
                          have n2_ := Aside0.mk (Kd.N_drew HO_176002.out)
                          have n3_ := Aside0.mk (blk_drew BK155.out)
                          have n4_ := Aside0.mk (blk_drew BK175.out)
                          have n5_ := Aside0.mk (IsS45.drew HI0.out)
                          have n6_ := Aside0.mk (keep_drew HK.out)
                          have n7_ := Aside0.mk (below_drew1 HB.out)
                          clear HO_6
                          clear HO_176001
                          clear HO_176002
                          clear BK155
                          clear BK175
                          clear HI0
                          clear HK
                          clear HB
                          have HO_6 := n0_
                          have HO_176001 := n1_
                          have HO_176002 := n2_
                          have BK155 := n3_
                          have BK175 := n4_
                          have HI0 := n5_
                          have HK := n6_
                          have HB := n7_
                          clear n0_ n1_ n2_ n3_ n4_ n5_ n6_ n7_
                          obtain ⟨Ao129, co129, eo129⟩ := Kd.R_slice HO_6.out
                          (first | subst eo129 | (injection eo129 with f1_ f2_ f3_; have f4_ := f1_.symm; have f5_ := f3_.symm; clear f1_ f2_ f3_; subst f4_; subst f5_))
                          have q128 : (1 : Int) ≤ ((x6_2.length : Int) : Int) := of_decide_eq_true (by first | (with_reducible assumption) | assumption)
                          obtain ⟨i0128, hi0128, _, hsz128, _⟩ := info_parts info5
                          have hroom128 : x6_2.length ≤ co129 := (Kd.R_reads' HO_6.out).2.1
                          have hC128 : Kd.F (Kd.int .u8) _ _ Ao129 x6_2.length x6_2 := (Kd.V_at (base := w.heap.size) (Kd.R_V (IsS45.apart HI0.out (Kd.R_types (Kd.R_types (Kd.R_apart' (HO_6.out) (Kd.N_typed HO_176002.out) (by decide)) BK155.out (by decide)) BK175.out (by decide)) (by decide)))).2.2
                          have hcut128 := cut_from (P := Try.prog) 22 5 .i64 Try.underlying22 hi0128 1 hsz128 Ao129 x6_2.length co129 1 (by omega) q128
                          have hr128 := Kd.F_cut (m := (1 : Int).toNat) (c := co129) hC128 (by omega) hroom128
                          obtain ⟨A128, hA128⟩ : ∃ A1, A1 = (if co129 = (1 : Int).toNat then Ao129 else (Ao129 : Option Addr).map (·.add ((1 : Int).toNat * 1))) := ⟨_, rfl⟩
                          obtain ⟨c128, hc128⟩ : ∃ c1, c1 = co129 - (1 : Int).toNat := ⟨_, rfl⟩
                          have hy128 : y237.length = x6_2.length - (1 : Int).toNat := (by rw [Ny237.out, List.length_drop] <;> omega)
                          rw [show (x6_2).drop (1 : Int).toNat = y237 from Ny237.out.symm] at hr128
                          replace hr128 : Kd.F (Kd.int .u8) _ _ A128 y237.length y237 := (by rw [hA128]; exact hr128)
                          rw [← hy128, ← hA128, ← hc128] at hcut128
                          have HO241 := Aside0.mk (show Kd.V (Kd.int .u8) 5 _ w.heap.size _ (.slice A128 y237.length c128) y237 from Kd.V_mk (by rw [hy128, hc128]; exact Nat.sub_le_sub_right hroom128 _) hr128)
                          have HC241 := Aside0.mk (show y237.length ≤ c128 from by rw [hy128, hc128]; exact Nat.sub_le_sub_right hroom128 _)
                          clear hr128 hC128 hroom128 hi0128 hsz128 hc128
                          have KY128 := Aside0.mk hy128
                          have KA128 := Aside0.mk hA128
                          clear hy128 hA128
                          replace q128 := eq_true q128
                          refine start_ (n := 9) (S := fun w' => w'.cell? ⟨gb175, 0, none⟩ = some (.int .i64 t167) ∧ w'.cell? ⟨gb175, 1, none⟩ = some (.slice Ao19 t168.length co19) ∧ w'.cell? ⟨gb175, 2, none⟩ = some (u176002)) (ds := [8]) #[false, false, false, false, false, false, false, false, false] (by kernel_rfl) rfl rfl ⟨(blk_cell BK175.out 0).trans rfl, (blk_cell BK175.out 1).trans rfl, (blk_cell BK175.out 2).trans rfl⟩ (fun hHeld => ?_); refine with_tabW spec_l1DrawDevice.tab25 spec_l1DrawDevice.bits25 (fun HT_ HW_ => ?_)
                          generalize w126.drew = w127 at HO_6 HO_176001 HO_176002 BK155 BK175 HI0 HK HB HO241 hHeld ⊢
                          refine pure_ (i := 0) (N := some 96) (v := ?_) (a' := ?_) #[true, false, false, false, false, false, false, false, false] rfl rfl (any_of HT_.out (by kernel_rfl)) (fun _ _ _ h => h) (Or.inl ⟨by rfl, ?_⟩) ?_ ?_
                          rotate_left
                          · intro w'
                            go_simp
                            with_reducible rfl
                          rotate_left
                          · simp only [Act.put, List.setIfInBounds_toArray, List.set_cons_zero, List.set_cons_succ, i64_w, i32_w]
                            rfl
                          refine pure_ (i := 2) (N := some 98) (v := ?_) (a' := ?_) #[true, false, true, false, false, false, false, false, false] rfl rfl (any_of HT_.out (by kernel_rfl)) (fun _ _ _ h => h) (Or.inl ⟨by rfl, ?_⟩) ?_ ?_
                          rotate_left
                          · intro w'
                            go_simp
                            with_reducible rfl
                          rotate_left
                          · simp only [Act.put, List.setIfInBounds_toArray, List.set_cons_zero, List.set_cons_succ, i64_w, i32_w]
                            rfl
                          refine pure_ (i := 3) (N := some 99) (v := ?_) (a' := ?_) #[true, false, true, true, false, false, false, false, false] rfl rfl (any_of HT_.out (by kernel_rfl)) (fun _ _ _ h => h) (Or.inl ⟨by rfl, ?_⟩) ?_ ?_
                          rotate_left
                          · intro w'
                            go_simp
                            with_reducible rfl
                          rotate_left
                          · simp only [Act.put, List.setIfInBounds_toArray, List.set_cons_zero, List.set_cons_succ, i64_w, i32_w]
                            rfl
                          refine pure_ (i := 4) (N := some 100) (v := ?_) (a' := ?_) #[true, false, true, true, true, false, false, false, false] rfl rfl (any_of HT_.out (by kernel_rfl)) (fun _ _ _ h => h) (Or.inl ⟨by rfl, ?_⟩) ?_ ?_
                          rotate_left
                          · intro w'
                            go_simp
                            with_reducible rfl
                          rotate_left
                          · simp only [Act.put, List.setIfInBounds_toArray, List.set_cons_zero, List.set_cons_succ, i64_w, i32_w]
                            rfl
                          refine take_ (i := 1) (N := some 97) (v := ?_) (a' := ?_) #[true, true, true, true, true, false, false, false, false] rfl rfl (take_ofW HT_.out HW_.out (by kernel_rfl)) (fun _ _ _ h => h) (Or.inl ⟨by rfl, ?_⟩) hHeld ?_ ?_
                          rotate_left
                          · rintro w' ⟨s0, s1, s2⟩
                            go_simp
                            with_reducible rfl
                          rotate_left
                          · simp only [Act.put, List.setIfInBounds_toArray, List.set_cons_zero, List.set_cons_succ, i64_w, i32_w]
                            rfl
                          refine one_ (i := 5) (N := some 101) #[true, true, true, true, true, true, false, false, false] rfl rfl (one_of HT_.out (by kernel_rfl)) (by decide) (fun K hK => ?_)
                          refine value_ (w1 := ?_) (v := ?_) (by rfl) rfl ?_ ?_
                          rotate_left 2
                          · go_simp
                            constructor
                            · rfl
                            · rfl
                          refine hK.out _ _ ⟨(blk_cell (blk_alloc BK175.out _) 0).trans rfl, (blk_cell (blk_alloc BK175.out _) 1).trans rfl, (blk_cell (blk_alloc BK175.out _) 2).trans rfl⟩ (fun hHeld => ?_)
                          clear hK K
                          refine norm_ (a' := ?_) ?_ ?_
                          rotate_left
                          · show Act.put _ (some 101) _ = _
                            simp only [Act.put, List.setIfInBounds_toArray, List.set_cons_zero, List.set_cons_succ, i64_w, i32_w]
                            rfl
                          refine one_ (i := 6) (N := some 102) #[true, true, true, true, true, true, true, false, false] rfl rfl (one_of HT_.out (by kernel_rfl)) (by decide) (fun K hK => ?_)
                          refine Kd.N_append_step k32 w.heap.size (by rfl) (.tmp 97) (.tmp 101) 23 32 (.agg #[(.int .i64 0), (.slice none 0 0)]) 32 rfl Try.underlying23 info32 rfl (by decide) (by omega) u176002 x176002_2 (⟨0, y237⟩ : S32) [.int .i64 0, .slice A128 y237.length c128] (fun k_ => (w.heap.size ≤ k_) ∧ some k_ ≠ (.slice Ao19 t168.length co19 : Value).ownBlock ∧ k_ ≠ gb155 ∧ k_ ≠ gb175 ∧ k_ ≠ g) (fun k_ => ((fun k_ => (w.heap.size ≤ k_) ∧ some k_ ≠ (.slice Ao19 t168.length co19 : Value).ownBlock ∧ k_ ≠ gb155 ∧ k_ ≠ gb175 ∧ k_ ≠ g)) k_ ∧ some k_ ≠ (u176002 : Value).ownBlock) rfl rfl ?aP (fun _ hk => hk) ?aF ?aO (Below.refl _ _) ?aS ?aL ?_
                          (case aP => exact (k32_mkF _ _ (⟨0, y237⟩ : S32) (Kd.V_reads' (Kd.V_mono (ok' := (fun k_ => ((fun k_ => (w.heap.size ≤ k_) ∧ some k_ ≠ (.slice Ao19 t168.length co19 : Value).ownBlock ∧ k_ ≠ gb155 ∧ k_ ≠ gb175 ∧ k_ ≠ g)) k_ ∧ some k_ ≠ (u176002 : Value).ownBlock)) (HO241.out) (fun k_ hk => ⟨⟨hk.1.1.1.1.1, ⟨hk.1.1.1.1.2, ⟨hk.1.1.2, ⟨hk.1.2, hk.2⟩⟩⟩⟩, hk.1.1.1.2⟩))).2.1 (Kd.V_F (Kd.V_mono (ok' := (fun k_ => ((fun k_ => (w.heap.size ≤ k_) ∧ some k_ ≠ (.slice Ao19 t168.length co19 : Value).ownBlock ∧ k_ ≠ gb155 ∧ k_ ≠ gb175 ∧ k_ ≠ g)) k_ ∧ some k_ ≠ (u176002 : Value).ownBlock)) (HO241.out) (fun k_ hk => ⟨⟨hk.1.1.1.1.1, ⟨hk.1.1.1.1.2, ⟨hk.1.1.2, ⟨hk.1.2, hk.2⟩⟩⟩⟩, hk.1.1.1.2⟩)))))
                          (case aF => exact (fun k_ hk => ⟨(Nat.le_trans (keep_size (w := w) (g := g) (row := none) (by repeat (first | (with_reducible first | exact HK.out | apply KeepBut.set_ | apply keep_drewN | apply keep_drew | apply keep_alloc | refine keep_far ?_ GW155.out _ | refine keep_far ?_ GW175.out _) | exact HK.out))) hk), Kd.fresh' (Kd.Q_lt (by (with_reducible repeat (first | apply Kd.Q_alloc | apply Kd.Q_drewN | apply Kd.Q_drew)); exact HO_176001.out)) k_ hk, Kd.freshB (g := gb155) (o := .cells #[.int .i64 0, .slice none 0 0, .slice none 0 0] 25 (0, 0)) (by (with_reducible repeat (first | refine blk_drewN ?_ _ | refine blk_drew ?_ | refine blk_alloc ?_ _)); exact BK155.out) k_ hk, Kd.freshB (g := gb175) (o := .cells #[.int .i64 t167, .slice Ao19 t168.length co19, u176002] 25 (0, 0)) (by (with_reducible repeat (first | refine blk_drewN ?_ _ | refine blk_drew ?_ | refine blk_alloc ?_ _)); exact BK175.out) k_ hk, IsS45.fresh (by repeat (first | (with_reducible first | exact HI0.out | apply IsS45.alloc | apply IsS45.drewN | apply IsS45.drew | apply IsS45.set_1 | apply IsS45.set_2 | refine IsS45.far ?_ NB0_155.out _ | refine IsS45.far ?_ NB0_175.out _) | exact HI0.out)) k_ hk⟩))
                          (case aO => exact (by (with_reducible repeat (first | apply Kd.N_alloc | apply Kd.N_drewN | apply Kd.N_drew)); exact Kd.N_mono HO_176002.out (fun _ hk => ⟨hk.1, ⟨hk.2.2.1, ⟨hk.2.2.2.1, ⟨hk.2.2.2.2.1, hk.2.2.2.2.2⟩⟩⟩⟩)))
                          (case aS => exact (keep_size (w := w) (g := g) (row := none) (by repeat (first | (with_reducible first | exact HK.out | apply KeepBut.set_ | apply keep_drewN | apply keep_drew | apply keep_alloc | refine keep_far ?_ GW155.out _ | refine keep_far ?_ GW175.out _) | exact HK.out))))
                          (case aL => have := LMc124.out; omega)
                          intro v243 w130 ho hb hg hat
                          rw [← Ny242.out] at ho
                          have n0_ := Aside0.mk (Kd.R_over' (by (with_reducible repeat (first | apply Kd.R_alloc | apply Kd.R_drewN | apply Kd.R_drew)); exact HO_6.out) (Kd.N_typed (by (with_reducible repeat (first | apply Kd.N_alloc | apply Kd.N_drewN | apply Kd.N_drew)); exact HO_176002.out)) (by decide) hg)
                          have n1_ := Aside0.mk (Kd.Q_over' (by (with_reducible repeat (first | apply Kd.Q_alloc | apply Kd.Q_drewN | apply Kd.Q_drew)); exact HO_176001.out) (Kd.N_typed (by (with_reducible repeat (first | apply Kd.N_alloc | apply Kd.N_drewN | apply Kd.N_drew)); exact HO_176002.out)) (by decide) hg)
                          have n2_ := Aside0.mk (blk_grown (g := gb155) (o := .cells #[.int .i64 0, .slice none 0 0, .slice none 0 0] 25 (0, 0)) (by (with_reducible repeat (first | refine blk_drewN ?_ _ | refine blk_drew ?_ | refine blk_alloc ?_ _)); exact BK155.out) hg (Kd.N_ne HO_176002.out BK155.out (by decide)))
                          have n3_ := Aside0.mk (blk_grown (g := gb175) (o := .cells #[.int .i64 t167, .slice Ao19 t168.length co19, u176002] 25 (0, 0)) (by (with_reducible repeat (first | refine blk_drewN ?_ _ | refine blk_drew ?_ | refine blk_alloc ?_ _)); exact BK175.out) hg (Kd.N_ne HO_176002.out BK175.out (by decide)))
                          have n4_ := Aside0.mk (IsS45.grown (by repeat (first | (with_reducible first | exact HI0.out | apply IsS45.alloc | apply IsS45.drewN | apply IsS45.drew | apply IsS45.set_1 | apply IsS45.set_2 | refine IsS45.far ?_ NB0_155.out _ | refine IsS45.far ?_ NB0_175.out _) | exact HI0.out)) hg (IsS45.own_neN HI0.out HO_176002.out (by decide)))
                          have n5_ := Aside0.mk (Kd.V_afterv (ok := (fun k_ => (w.heap.size ≤ k_) ∧ some k_ ≠ (.slice Ao19 t168.length co19 : Value).ownBlock ∧ k_ ≠ gb155 ∧ k_ ≠ gb175 ∧ k_ ≠ g)) (by (with_reducible repeat (first | apply Kd.V_alloc | apply Kd.V_drewN | apply Kd.V_drew)); exact Kd.V_mono HO241.out (fun _ hk => ⟨⟨hk.1.1.1.1.1, ⟨hk.1.1.1.1.2, ⟨hk.1.1.2, ⟨hk.1.2, hk.2⟩⟩⟩⟩, hk.1.1.1.2⟩)) hg hat)
                          have n6_ := Aside0.mk (below_weaken (by repeat (first | (with_reducible first | exact HB.out | apply below_alloc | apply pw_below_drewN | apply below_drew1 | refine below_set ?_ (IsS45.ge HI0.out) | refine below_set ?_ GE155.out | refine below_set ?_ GE175.out) | exact HB.out)) HL.out hb)
                          have n7_ := Aside0.mk (KeepBut.trans (by repeat (first | (with_reducible first | exact HK.out | apply KeepBut.set_ | apply keep_drewN | apply keep_drew | apply keep_alloc | refine keep_far ?_ GW155.out _ | refine keep_far ?_ GW175.out _) | exact HK.out)) (KeepBut.of_grown hg g) (Kd.N_base2 HO_176002.out))
                          have n8_ := Aside0.mk (ho)
                          clear HO_6
                          clear HO_176001
                          clear BK155
                          clear BK175
                          clear HI0
                          clear HO241
                          clear HB
                          clear HK
                          clear HO_176002
                          have HO_6 := n0_
                          have HO_176001 := n1_
                          have BK155 := n2_
                          have BK175 := n3_
                          have HI0 := n4_
                          have HO241 := n5_
                          have HB := n6_
                          have HK := n7_
                          have HO244 := n8_
                          clear n0_ n1_ n2_ n3_ n4_ n5_ n6_ n7_ n8_
                          clear ho hb hg hat
                          obtain ⟨Ao131, co131, eo131⟩ := Kd.N_slice HO244.out
                          (first | subst eo131 | (injection eo131 with f1_ f2_ f3_; have f4_ := f1_.symm; have f5_ := f3_.symm; clear f1_ f2_ f3_; subst f4_; subst f5_))
                          refine hK.out _ _ ⟨(blk_cell BK175.out 0).trans rfl, (blk_cell BK175.out 1).trans rfl, (blk_cell BK175.out 2).trans rfl⟩ (fun hHeld => ?_)
                          clear hK K
                          refine norm_ (a' := ?_) ?_ ?_
                          rotate_left
                          · show Act.put _ (some 102) _ = _
                            simp only [Act.put, List.setIfInBounds_toArray, List.set_cons_zero, List.set_cons_succ, i64_w, i32_w]
                            rfl
                          refine pure_ (i := 7) (N := some 103) (v := ?_) (a' := ?_) #[true, true, true, true, true, true, true, true, false] rfl rfl (any_of HT_.out (by kernel_rfl)) (fun _ _ _ h => h) (Or.inl ⟨by rfl, ?_⟩) ?_ ?_
                          rotate_left
                          · intro w'
                            go_simp
                            with_reducible rfl
                          rotate_left
                          · simp only [Act.put, List.setIfInBounds_toArray, List.set_cons_zero, List.set_cons_succ, i64_w, i32_w]
                            rfl
                          refine last_ (i := 8) (N := none) #[true, true, true, true, true, true, true, true, true] rfl rfl (one_of HT_.out (by kernel_rfl)) (by decide) (fun K hK => ?_)
                          have hs132 : w130.cell? ⟨gb175, 2, none⟩ = some (u176002) := (blk_cell BK175.out 2).trans rfl
                          have hfs132 := blk_frozen BK175.out 2
                          have hns132_0 := NB155_175.out
                          have hms132_0 := NB175_155.out
                          refine skip_ (w1 := ?_) (by rfl) rfl ?_ ?_
                          rotate_left
                          · go_simp
                            rfl
                          refine hK.out _ _ ?_
                          clear hK K
                          refine done_ (done_of HT_.out (by kernel_rfl)) ?_
                          have hnb133 := NB175_155.out
                          have hnc133 := NB155_175.out
                          have hnb134 := NB175_0.out
                          have hnc134 := NB0_175.out
                          have hcz135_0 : w130.cell? ⟨gb175, 0, none⟩ = some (.int .i64 t167) := (blk_cell BK175.out 0).trans rfl
                          have hcz135_1 : w130.cell? ⟨gb175, 1, none⟩ = some (.slice Ao19 t168.length co19) := (blk_cell BK175.out 1).trans rfl
                          have hcz135_2 : w130.cell? ⟨gb175, 2, none⟩ = some (u176002) := (blk_cell BK175.out 2).trans rfl
                          have hfz135_0 := blk_frozen BK175.out 0
                          have hfz135_1 := blk_frozen BK175.out 1
                          have hfz135_2 := blk_frozen BK175.out 2
                          have hnb136 := NB155_0.out
                          have hnc136 := NB0_155.out
                          have hcz137_0 : w130.cell? ⟨gb155, 0, none⟩ = some (.int .i64 0) := (blk_cell BK155.out 0).trans rfl
                          have hcz137_1 : w130.cell? ⟨gb155, 1, none⟩ = some (.slice none 0 0) := (blk_cell BK155.out 1).trans rfl
                          have hcz137_2 : w130.cell? ⟨gb155, 2, none⟩ = some (.slice none 0 0) := (blk_cell BK155.out 2).trans rfl
                          have hfz137_0 := blk_frozen BK155.out 0
                          have hfz137_1 := blk_frozen BK155.out 1
                          have hfz137_2 := blk_frozen BK155.out 2
                          try go_wp2
                          refine bodyPost_ret (results_cell_row rfl _ _ gb155 25 #[.int .i64 t167, .slice Ao19 t168.length co19, .slice Ao131 y242.length co131] (0, 0) _ rfl (by (with_reducible repeat (first | refine blk_drewN ?_ _ | refine blk_drew ?_ | refine blk_alloc ?_ _)); refine blk_put (cs := #[.int .i64 t167, .slice Ao19 t168.length co19, .slice none 0 0]) ?_ 2 _ rfl; (with_reducible repeat (first | refine blk_drewN ?_ _ | refine blk_drew ?_ | refine blk_alloc ?_ _)); refine blk_put (cs := #[.int .i64 t167, .slice none 0 0, .slice none 0 0]) ?_ 1 _ rfl; (with_reducible repeat (first | refine blk_drewN ?_ _ | refine blk_drew ?_ | refine blk_alloc ?_ _)); refine blk_put (cs := #[.int .i64 0, .slice none 0 0, .slice none 0 0]) ?_ 0 _ rfl; (with_reducible repeat (first | refine blk_drewN ?_ _ | refine blk_drew ?_ | refine blk_alloc ?_ _)); refine blk_far ?_ NB155_175.out _; (with_reducible repeat (first | refine blk_drewN ?_ _ | refine blk_drew ?_ | refine blk_alloc ?_ _)); exact BK155.out) Try.underlying25 rfl (by kernel_rfl)) rfl ?_
                          exact ⟨_, _, by first | rfl | (simp [errW_none, errW_some] <;> rfl) | (simp [*, errW_none, errW_some] <;> rfl), by (with_reducible repeat (first | apply Kd.Q_alloc | apply Kd.Q_drewN | apply Kd.Q_drew)); exact Kd.Q_mono (Kd.Q_far (p := ⟨gb155, 2, none⟩) (Kd.Q_far (p := ⟨gb155, 1, none⟩) (Kd.Q_far (p := ⟨gb155, 0, none⟩) (Kd.Q_far (p := ⟨gb175, 2, none⟩) (Kd.Q_types (Kd.Q_types HO_176001.out BK175.out (by decide)) BK155.out (by decide)) (fun _ hk => hk.1.2) (.slice Ao131 y242.length co131)) (fun _ hk => hk.2) (.int .i64 t167)) (fun _ hk => hk.2) (.slice Ao19 t168.length co19)) (fun _ hk => hk.2) (.slice Ao131 y242.length co131)) (fun _ hk => hk.1.1.1), by (with_reducible repeat (first | apply Kd.N_alloc | apply Kd.N_drewN | apply Kd.N_drew)); exact Kd.N_mono (Kd.N_far (p := ⟨gb155, 2, none⟩) (Kd.N_far (p := ⟨gb155, 1, none⟩) (Kd.N_far (p := ⟨gb155, 0, none⟩) (Kd.N_far (p := ⟨gb175, 2, none⟩) (Kd.N_mono (Kd.N_mono HO244.out (fun k_ hk => (⟨hk, hk.2.2.2.1⟩ : _ ∧ k_ ≠ gb175))) (fun k_ hk => (⟨hk, hk.1.2.2.1⟩ : _ ∧ k_ ≠ gb155))) (fun _ hk => hk.1.2) (.slice Ao131 y242.length co131)) (fun _ hk => hk.2) (.int .i64 t167)) (fun _ hk => hk.2) (.slice Ao19 t168.length co19)) (fun _ hk => hk.2) (.slice Ao131 y242.length co131)) (fun _ hk => ⟨hk.1.1.1, hk.1.1.2.1⟩), by repeat (first | (with_reducible first | exact HI0.out | apply IsS45.alloc | apply IsS45.drewN | apply IsS45.drew | apply IsS45.set_1 | apply IsS45.set_2 | refine IsS45.far ?_ NB0_155.out _ | refine IsS45.far ?_ NB0_175.out _) | exact HI0.out), by repeat (first | (with_reducible first | exact HB.out | apply below_alloc | apply pw_below_drewN | apply below_drew1 | refine below_set ?_ (IsS45.ge HI0.out) | refine below_set ?_ GE155.out | refine below_set ?_ GE175.out) | exact HB.out), by repeat (first | (with_reducible first | exact HK.out | apply KeepBut.set_ | apply keep_drewN | apply keep_drew | apply keep_alloc | refine keep_far ?_ GW155.out _ | refine keep_far ?_ GW175.out _) | exact HK.out)⟩
                        · rw [if_neg c124] at H
                          exact absurd H (by simp)
                      · rw [if_neg c123] at H
                        exact absurd H (by simp)
            · rw [if_neg c67] at H
              have c67b0 : (t216 == 0) = false := beq_eq_false_iff_ne.mpr c67
              have c67b1 : (t216 != 0) = true := bne_iff_ne.mpr c67
              simp only [Option.some.injEq, Prod.mk.injEq] at H
              obtain ⟨rfl, rfl, rfl, rfl, rfl⟩ := H
              go_wp2_with (first | ((with_reducible refine gate_callee (f := 15) rfl ?_); refine goesL_ (some 58) rfl rfl Try.func15 (by kernel_rfl) rfl #[.pointer (some ⟨g, 0, none⟩), .int .i64 6] rfl (by (try simp only [List.map_toArray, List.map_cons, List.map_nil]); first | done | rfl | (simp only [List.length_drop, List.length_take]; rfl)) ?_; (with_reducible refine (spec_l1Next.calls g s0_0 x1001_2 x1002_2 6 t216 t217 t218 w0 _ ?side1 ?side2 A66.out).mono ?_); (case side1 => repeat (first | (with_reducible first | exact HI0.out | apply IsS45.alloc | apply IsS45.drewN | apply IsS45.drew | apply IsS45.set_1 | apply IsS45.set_2 | refine IsS45.far ?_ NB0_155.out _ | refine IsS45.far ?_ NB0_175.out _) | exact HI0.out)); (case side2 => repeat (first | (with_reducible first | exact HB.out | apply below_alloc | apply pw_below_drewN | apply below_drew1 | refine below_set ?_ (IsS45.ge HI0.out) | refine below_set ?_ GE155.out | refine below_set ?_ GE175.out) | exact HB.out)); rintro e w138 ⟨rfl, hi, hb, hk⟩; refine ⟨_, rfl, ?_⟩; have n0_ := Aside0.mk (Kd.R_mono (Kd.R_keep (IsS45.apart (show IsS45 w0 _ g s0_0 x1001_2 x1002_2 from by repeat (first | (with_reducible first | exact HI0.out | apply IsS45.alloc | apply IsS45.drewN | apply IsS45.drew | apply IsS45.set_1 | apply IsS45.set_2 | refine IsS45.far ?_ NB0_155.out _ | refine IsS45.far ?_ NB0_175.out _) | exact HI0.out)) (by (with_reducible repeat (first | apply Kd.R_alloc | apply Kd.R_drewN | apply Kd.R_drew)); exact HO_6.out) (by decide)) hk (fun _ h => h.2)) (fun _ h => h.1)); have n1_ := Aside0.mk (Kd.Q_mono (Kd.Q_keep (IsS45.apartQ (show IsS45 w0 _ g s0_0 x1001_2 x1002_2 from by repeat (first | (with_reducible first | exact HI0.out | apply IsS45.alloc | apply IsS45.drewN | apply IsS45.drew | apply IsS45.set_1 | apply IsS45.set_2 | refine IsS45.far ?_ NB0_155.out _ | refine IsS45.far ?_ NB0_175.out _) | exact HI0.out)) (by (with_reducible repeat (first | apply Kd.Q_alloc | apply Kd.Q_drewN | apply Kd.Q_drew)); exact HO_176001.out) (by decide)) hk (fun _ h => h.2)) (fun _ h => h.1)); have n2_ := Aside0.mk (Kd.N_mono (Kd.N_keep (Kd.N_mono (ok := fun k_ => (((w.heap.size ≤ k_)) ∧ (some k_ ≠ (u6 : Value).ownBlock ∧ (some k_ ≠ (.slice Ao19 t168.length co19 : Value).ownBlock ∧ (k_ ≠ gb155 ∧ (k_ ≠ gb175 ∧ k_ ≠ g)))))) (by (with_reducible repeat (first | apply Kd.N_alloc | apply Kd.N_drewN | apply Kd.N_drew)); exact HO_176002.out) (fun k_ hk_ => (⟨hk_, hk_.2.2.2.2.2⟩ : _ ∧ k_ ≠ g))) hk (fun _ h => h.2)) (fun _ h => h.1)); have n3_ := Aside0.mk (KeepBut.blk hk (g' := gb155) (o := .cells #[.int .i64 0, .slice none 0 0, .slice none 0 0] 25 (0, 0)) (by (with_reducible repeat (first | refine blk_drewN ?_ _ | refine blk_drew ?_ | refine blk_alloc ?_ _)); exact BK155.out) NB155_0.out (by simp)); have n4_ := Aside0.mk (KeepBut.blk hk (g' := gb175) (o := .cells #[.int .i64 t167, .slice Ao19 t168.length co19, u176002] 25 (0, 0)) (by (with_reducible repeat (first | refine blk_drewN ?_ _ | refine blk_drew ?_ | refine blk_alloc ?_ _)); exact BK175.out) NB175_0.out (by simp)); have n5_ := Aside0.mk (KeepBut.trans (by repeat (first | (with_reducible first | exact HK.out | apply KeepBut.set_ | apply keep_drewN | apply keep_drew | apply keep_alloc | refine keep_far ?_ GW155.out _ | refine keep_far ?_ GW175.out _) | exact HK.out)) hk (.inl rfl)); have n6_ := Aside0.mk (hb); have n7_ := Aside0.mk (hi); clear HO_6; clear HO_176001; clear HO_176002; clear BK155; clear BK175; clear HK; clear HB; clear HI0; have HO_6 := n0_; have HO_176001 := n1_; have HO_176002 := n2_; have BK155 := n3_; have BK175 := n4_; have HK := n5_; have HB := n6_; have HI0 := n7_; clear n0_ n1_ n2_ n3_ n4_ n5_ n6_ n7_; (try clear hb); (try clear hb2); (try clear hk); (try clear hi); have hnb139 := NB175_155.out; have hnc139 := NB155_175.out; have hnb140 := NB175_0.out; have hnc140 := NB0_175.out; have hcz141_0 : w138.cell? ⟨gb175, 0, none⟩ = some (.int .i64 t167) := (blk_cell BK175.out 0).trans rfl; have hcz141_1 : w138.cell? ⟨gb175, 1, none⟩ = some (.slice Ao19 t168.length co19) := (blk_cell BK175.out 1).trans rfl; have hcz141_2 : w138.cell? ⟨gb175, 2, none⟩ = some (u176002) := (blk_cell BK175.out 2).trans rfl; have hfz141_0 := blk_frozen BK175.out 0; have hfz141_1 := blk_frozen BK175.out 1; have hfz141_2 := blk_frozen BK175.out 2; have hnb142 := NB155_0.out; have hnc142 := NB0_155.out; have hcz143_0 : w138.cell? ⟨gb155, 0, none⟩ = some (.int .i64 0) := (blk_cell BK155.out 0).trans rfl; have hcz143_1 : w138.cell? ⟨gb155, 1, none⟩ = some (.slice none 0 0) := (blk_cell BK155.out 1).trans rfl; have hcz143_2 : w138.cell? ⟨gb155, 2, none⟩ = some (.slice none 0 0) := (blk_cell BK155.out 2).trans rfl; have hfz143_0 := blk_frozen BK155.out 0; have hfz143_1 := blk_frozen BK155.out 1; have hfz143_2 := blk_frozen BK155.out 2; obtain ⟨Ao144, co144, eo144⟩ := Kd.N_slice HO_176002.out; subst eo144))
              refine bodyPost_ret (results_cell_row rfl _ _ gb155 25 #[.int .i64 t167, .slice Ao19 t168.length co19, .slice Ao144 x176002_2.length co144] (0, 0) _ rfl (by (with_reducible repeat (first | refine blk_drewN ?_ _ | refine blk_drew ?_ | refine blk_alloc ?_ _)); refine blk_put (cs := #[.int .i64 t167, .slice Ao19 t168.length co19, .slice none 0 0]) ?_ 2 _ rfl; (with_reducible repeat (first | refine blk_drewN ?_ _ | refine blk_drew ?_ | refine blk_alloc ?_ _)); refine blk_put (cs := #[.int .i64 t167, .slice none 0 0, .slice none 0 0]) ?_ 1 _ rfl; (with_reducible repeat (first | refine blk_drewN ?_ _ | refine blk_drew ?_ | refine blk_alloc ?_ _)); refine blk_put (cs := #[.int .i64 0, .slice none 0 0, .slice none 0 0]) ?_ 0 _ rfl; (with_reducible repeat (first | refine blk_drewN ?_ _ | refine blk_drew ?_ | refine blk_alloc ?_ _)); exact BK155.out) Try.underlying25 rfl (by kernel_rfl)) rfl ?_
              exact ⟨_, _, by first | rfl | (simp [errW_none, errW_some] <;> rfl) | (simp [*, errW_none, errW_some] <;> rfl), by (with_reducible repeat (first | apply Kd.Q_alloc | apply Kd.Q_drewN | apply Kd.Q_drew)); exact Kd.Q_mono (Kd.Q_far (p := ⟨gb155, 2, none⟩) (Kd.Q_far (p := ⟨gb155, 1, none⟩) (Kd.Q_far (p := ⟨gb155, 0, none⟩) (Kd.Q_types HO_176001.out BK155.out (by decide)) (fun _ hk => hk.2) (.int .i64 t167)) (fun _ hk => hk.2) (.slice Ao19 t168.length co19)) (fun _ hk => hk.2) (.slice Ao144 x176002_2.length co144)) (fun _ hk => hk.1.1), by (with_reducible repeat (first | apply Kd.N_alloc | apply Kd.N_drewN | apply Kd.N_drew)); exact Kd.N_mono (Kd.N_far (p := ⟨gb155, 2, none⟩) (Kd.N_far (p := ⟨gb155, 1, none⟩) (Kd.N_far (p := ⟨gb155, 0, none⟩) (Kd.N_mono HO_176002.out (fun k_ hk => (⟨hk, hk.2.2.2.1⟩ : _ ∧ k_ ≠ gb155))) (fun _ hk => hk.2) (.int .i64 t167)) (fun _ hk => hk.2) (.slice Ao19 t168.length co19)) (fun _ hk => hk.2) (.slice Ao144 x176002_2.length co144)) (fun _ hk => ⟨hk.1.1, hk.1.2.2.1⟩), by repeat (first | (with_reducible first | exact HI0.out | apply IsS45.alloc | apply IsS45.drewN | apply IsS45.drew | apply IsS45.set_1 | apply IsS45.set_2 | refine IsS45.far ?_ NB0_155.out _ | refine IsS45.far ?_ NB0_175.out _) | exact HI0.out), by repeat (first | (with_reducible first | exact HB.out | apply below_alloc | apply pw_below_drewN | apply below_drew1 | refine below_set ?_ (IsS45.ge HI0.out) | refine below_set ?_ GE155.out | refine below_set ?_ GE175.out) | exact HB.out), by repeat (first | (with_reducible first | exact HK.out | apply KeepBut.set_ | apply keep_drewN | apply keep_drew | apply keep_alloc | refine keep_far ?_ GW155.out _ | refine keep_far ?_ GW175.out _) | exact HK.out)⟩

end Go.Proofs.Ytnkgclcmjojeiaa.PFnDeviceReads
