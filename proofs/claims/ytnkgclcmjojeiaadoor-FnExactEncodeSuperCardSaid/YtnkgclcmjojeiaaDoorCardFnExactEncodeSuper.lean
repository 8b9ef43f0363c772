/- Proved here: the tied card of the law FnExactEncodeSuper: for every input the law returns true and leaves its argument and the named variables as they were. Conditions: none beyond the card itself. -/
import Derived.Test.YtnkgclcmjojeiaaDoorCards
import Derived.Test.YtnkgclcmjojeiaaDoorTie
import Derived.Test.YtnkgclcmjojeiaaDoorLS1
import Derived.WalkKit
import Derived.ProofKit
import Derived.OpenShut
import Derived.ChangeOld
import Derived.OpenVars
import Derived.LaidMore
import Derived.LaidHandle
import Derived.Stop.Joined
import Derived.Stop.LaidTwo
import Derived.Lib.SmallJoins
import Derived.Deep.Slices
import Derived.Deep.Fields
namespace Go.Proofs.YtnkgclcmjojeiaaDoor.fnExactEncodeSuper
open Go.ChangeShapes Go.WideShapes Go.ChangeAt Go.RowKit Go.Joins
set_option linter.unusedVariables false

theorem own : ownKnob Tryd.prog.godebug = none := by kernel_rfl
theorem laidOut : laidOutB Tryd.prog = true := by kernel_rfl
theorem gType : Tryd.prog.globalNamed "errors.errorType" = some 3 := by kernel_rfl
theorem gRt : (Tryd.prog.cutTypes.find? (·.1 == "internal/reflectlite.rtype")).map (·.2) = some 209 := by kernel_rfl
theorem oneRow : ((List.range 262).filter fun t => Tryd.prog.rowNamed t [101, 114, 114, 111, 114]) = [88] := by kernel_rfl
theorem size : Tryd.prog.types.size = 262 := by kernel_rfl
theorem gForm : Tryd.prog.globalNamed "loop.example/s01595/impl.errForm" = some 0 := by kernel_rfl
theorem gSize : Tryd.prog.globalNamed "loop.example/s01595/impl.errSize" = some 1 := by kernel_rfl
theorem gSum : Tryd.prog.globalNamed "loop.example/s01595/impl.errSum" = some 2 := by kernel_rfl
theorem tForm : (Tryd.prog.globals[0]?).map (·.type) = some 88 := by kernel_rfl
theorem tSize : (Tryd.prog.globals[1]?).map (·.type) = some 88 := by kernel_rfl
theorem tSum : (Tryd.prog.globals[2]?).map (·.type) = some 88 := by kernel_rfl
theorem star : ("*errors.errorString" : String) = "*" ++ "errors.errorString" := by decide
theorem rowErr (u : TypeId) (h : Tryd.prog.typeName? 3 u = some "*errors.errorString") : u = 227 :=
  typeName_ptr_named (nm := "errors.errorString") (by rw [← star]; kernel_rfl) (by kernel_rfl) (by decide) u (by rw [← star]; exact h)

theorem laid_sentinels3 {P : Program} {n0 n1 n2 nm : String} {text0 text1 text2 : List UInt8} {W : World} {g0 g1 g2 : Nat} {ti tp te ts : TypeId} {ms : Array (String × TypeId)} {f : Field}
    (h : laidMet P ((n0, .iface nm (.ptr (.agg [.lit (.string text0)]))) :: (n1, .iface nm (.ptr (.agg [.lit (.string text1)]))) :: (n2, .iface nm (.ptr (.agg [.lit (.string text2)]))) :: []) W)
    (hg0 : P.globalNamed n0 = some g0) (ht0 : (P.globals[g0]?).map (·.type) = some ti) (hg1 : P.globalNamed n1 = some g1) (ht1 : (P.globals[g1]?).map (·.type) = some ti) (hg2 : P.globalNamed n2 = some g2) (ht2 : (P.globals[g2]?).map (·.type) = some ti)
    (hi : P.underlying ti = some (.interface ms)) (hrow : ∀ u, P.typeName? 3 u = some nm → u = tp)
    (hp : P.underlying tp = some (.pointer te)) (he : P.underlying te = some (.struct #[f])) (hft : f.type = ts) (hfo : f.offset = 0) (hs : P.underlying ts = some .string) (hc : P.cellsOf te = 1) (hcs : P.cellsOf ts = 1) :
    ∃ (a0 a1 a2 : Addr),
      W.cell? ⟨g0, 0, none⟩ = some (.iface tp (.pointer (some a0))) ∧ W.cell? ⟨g1, 0, none⟩ = some (.iface tp (.pointer (some a1))) ∧ W.cell? ⟨g2, 0, none⟩ = some (.iface tp (.pointer (some a2))) ∧
      a0 ≠ a1 ∧ a0 ≠ a2 ∧ a1 ≠ a2 ∧ (∃ c t, W.heap[a0.block]? = some (.cells c t (0, 0))) ∧ (∃ c t, W.heap[a1.block]? = some (.cells c t (0, 0))) ∧ (∃ c t, W.heap[a2.block]? = some (.cells c t (0, 0))) := by
  obtain ⟨ps, ⟨g0', t0', cs0, f0, p0, q0, hg0', ht0', hv0, hd0, ⟨g1', t1', cs1, f1, p1, q1, hg1', ht1', hv1, hd1, ⟨g2', t2', cs2, f2, p2, q2, hg2', ht2', hv2, hd2, _, e2⟩, e1⟩, e0⟩, hnd, hrows⟩ := h
  obtain rfl := Option.some.inj (hg0.symm.trans hg0')
  obtain rfl := Option.some.inj (hg1.symm.trans hg1')
  obtain rfl := Option.some.inj (hg2.symm.trans hg2')
  obtain rfl := Option.some.inj (ht0.symm.trans ht0')
  obtain rfl := Option.some.inj (ht1.symm.trans ht1')
  obtain rfl := Option.some.inj (ht2.symm.trans ht2')
  subst e2
  subst e1
  subst e0
  obtain ⟨l0⟩ := cs0
  obtain ⟨l1⟩ := cs1
  obtain ⟨l2⟩ := cs2
  have ok0 : ∀ u v, l0 = [.iface u v] → Value.okWide P W .any 0 u v := fun u v e => by
    subst e
    exact (hrows g0 0 (by simp [MemPlace.row])).2 u v (by simpa using World.var?_cell hg0' hv0 0)
  have ok1 : ∀ u v, l1 = [.iface u v] → Value.okWide P W .any 0 u v := fun u v e => by
    subst e
    exact (hrows g1 0 (by simp [MemPlace.row])).2 u v (by simpa using World.var?_cell hg1' hv1 0)
  have ok2 : ∀ u v, l2 = [.iface u v] → Value.okWide P W .any 0 u v := fun u v e => by
    subst e
    exact (hrows g2 0 (by simp [MemPlace.row])).2 u v (by simpa using World.var?_cell hg2' hv2 0)
  obtain ⟨a0, s0, rfl, hc0, hs0, hz0, rfl⟩ := errorString_of_trod hi hrow hp he hft hfo hs hc hcs hd0 ok0
  obtain ⟨a1, s1, rfl, hc1, hs1, hz1, rfl⟩ := errorString_of_trod hi hrow hp he hft hfo hs hc hcs hd1 ok1
  obtain ⟨a2, s2, rfl, hc2, hs2, hz2, rfl⟩ := errorString_of_trod hi hrow hp he hft hfo hs hc hcs hd2 ok2
  obtain ⟨c0, t0, hb0⟩ := (hrows a0.block a0.off (by simp [MemPlace.row])).1
  obtain ⟨c1, t1, hb1⟩ := (hrows a1.block a1.off (by simp [MemPlace.row])).1
  obtain ⟨c2, t2, hb2⟩ := (hrows a2.block a2.off (by simp [MemPlace.row])).1
  refine ⟨a0, a1, a2, by simpa using World.var?_cell hg0' hv0 0, by simpa using World.var?_cell hg1' hv1 0, by simpa using World.var?_cell hg2' hv2 0, ?_, ?_, ?_, ⟨c0, t0, hb0⟩, ⟨c1, t1, hb1⟩, ⟨c2, t2, hb2⟩⟩
  · rintro rfl
    simp [MemPlace.row] at hnd
  · rintro rfl
    simp [MemPlace.row] at hnd
  · rintro rfl
    simp [MemPlace.row] at hnd

/-- WHAT THE LIST GIVES THE WALKS. -/
theorem globals_of {W : World} (h : laidMetH Tryd.prog Rows.fnExactEncodeSuperRow.laid W) : Globals W := by
  have h' : laidMet Tryd.prog [("loop.example/s01595/impl.errSize", Rows.laid_loop_example_s01595_impl_errSize), ("loop.example/s01595/impl.errSum", Rows.laid_loop_example_s01595_impl_errSum), ("loop.example/s01595/impl.errForm", Rows.laid_loop_example_s01595_impl_errForm)] W ∧ handlesMet Tryd.prog [("errors.errorType", Rows.laid_errors_errorType)] W := h
  obtain ⟨hl, hh⟩ := h'
  obtain ⟨a1, a2, a0, h1, h2, h0, n12, n10, n20, b1, b2, b0⟩ := laid_sentinels3 hl gSize tSize gSum tSum gForm tForm Tryd.underlying88 rowErr Tryd.underlying227 Tryd.underlying250 rfl rfl Tryd.underlying9 (by kernel_rfl) (by kernel_rfl)
  refine ⟨?_, a0, a1, a2, h0, h1, h2, Ne.symm n10, Ne.symm n20, n12, b0, b1, b2⟩
  obtain ⟨name, u, ty, e1, e2, e3, e4, e5⟩ := hh _ (List.mem_singleton.2 rfl)
  have en : name = [101, 114, 114, 111, 114] := (Option.some.inj e1).symm
  subst en
  obtain rfl := Option.some.inj (gRt.symm.trans e2)
  have hm : ty ∈ (List.range 262).filter fun t => Tryd.prog.rowNamed t [101, 114, 114, 111, 114] := List.mem_filter.2 ⟨List.mem_range.2 (by rw [← size]; exact e3), e4⟩
  rw [oneRow] at hm
  obtain rfl := List.mem_singleton.1 hm
  have hh : typeHandle Tryd.prog 88 = .pointer (some ⟨4, 88, none⟩) := by kernel_rfl
  rw [hh] at e5
  simpa using World.var?_cell gType e5 0

/-- The door's own heap meets the condition. -/
theorem door_met (os : Os) (args : Array Value) : laidMetH Tryd.prog Rows.fnExactEncodeSuperRow.laid ((World.doorLaid Tryd.prog 600 os).forCall (fun _ _ => 0) ⟨#[], args, []⟩).memory :=
  laidMetH_of_parts3 (fuel := 8) (laidMet_of_run' 8 (by kernel_rfl) (by kernel_rfl)) (by kernel_rfl) (by kernel_rfl)

theorem vars3 {H : Type} {enc : TypeId × Value → H} {P : Program} {W : World} {sp : Nat → Bool} {n0 n1 n2 : String} {gs : List (DataW H)} {ps : List MemPlace} (h : DataW.TrodVars enc P W sp [n0, n1, n2] gs ps) : ∃ g0 g1 g2, gs = [g0, g1, g2] := by
  match gs, h with
  | [], h => exact h.elim
  | [_], ⟨_, _, _, _, _, _, _, _, _, _, h, _⟩ => exact h.elim
  | [_, _], ⟨_, _, _, _, _, _, _, _, _, _, ⟨_, _, _, _, _, _, _, _, _, _, h, _⟩, _⟩ => exact h.elim
  | [g0, g1, g2], _ => exact ⟨g0, g1, g2, rfl⟩
  | _ :: _ :: _ :: _ :: _, ⟨_, _, _, _, _, _, _, _, _, _, ⟨_, _, _, _, _, _, _, _, _, _, ⟨_, _, _, _, _, _, _, _, _, _, h, _⟩, _⟩, _⟩ => exact h.elim

set_option maxRecDepth 100000 in
/-- The argument, opened. -/
theorem open_arg {H : Type} {enc : TypeId × Value → H} {W : World} {base : Nat} {v : Value} {d : DataW H} {p : List MemPlace} (hv : Value.okWide Tryd.prog W .any base 40 v) (h : DataW.Trod enc Tryd.prog W 0 (fun _ => true) true 40 v d p) :
    ∃ (bl gn nx ta : Int) (A : Option Addr) (c : Nat) (rs : List PFnExactEncodeSuper.S169), v = .agg #[.int .i64 bl, .int .i64 gn, .int .i64 nx, .int .i64 ta, .slice A rs.length c] ∧ YtnkgclcmjojeiaaDoorW.PrintWords.Kd.C PFnExactEncodeSuper.k169 W A rs.length rs ∧ rs.length ≤ c ∧ rs.length ≤ 9223372036854775807 := by
  obtain ⟨c0, c1, c2, c3, c4, y0, y1, y2, y3, y4, m, rfl, hy0, hy1, hy2, hy3, hy4⟩ := PFnExactEncodeSuper.open_five Tryd.underlying40 (by kernel_rfl) (by kernel_rfl) hv h
  obtain ⟨bl, rfl⟩ := PFnExactEncodeSuper.int_cell Tryd.underlying2 hy0
  obtain ⟨gn, rfl⟩ := PFnExactEncodeSuper.int_cell Tryd.underlying2 hy1
  obtain ⟨nx, rfl⟩ := PFnExactEncodeSuper.int_cell Tryd.underlying2 hy2
  obtain ⟨ta, rfl⟩ := PFnExactEncodeSuper.int_cell Tryd.underlying2 hy3
  rcases PFnExactEncodeSuper.open_slice_cells Tryd.underlying38 Tryd.underlying169 (by kernel_rfl) (by kernel_rfl) hy4 with hs | ⟨a, len, cap, hs, hl, hm, hc⟩
  · simp only [List.cons.injEq, and_true] at hs
    subst hs
    exact ⟨bl, gn, nx, ta, none, 0, [], rfl, YtnkgclcmjojeiaaDoorW.PrintWords.Kd.C_nil _ _, Nat.le_refl _, by simp⟩
  · simp only [List.cons.injEq, and_true] at hs
    subst hs
    have hml : len ≤ 9223372036854775807 := by unfold maxLen at hm; omega
    haveI : Inhabited PFnExactEncodeSuper.S169 := ⟨⟨0, 0⟩⟩
    obtain ⟨F, hF⟩ := Go.Deep.choose_lt (α := PFnExactEncodeSuper.S169) (p := fun i x => W.cell? (a.add (i * 2)) = some (.int .i64 x.f0) ∧ W.cell? (a.add (i * 2 + 1)) = some (.int .i64 x.f1)) (n := len) (fun i hi => by
      obtain ⟨k, hk⟩ := hc i hi
      obtain ⟨v0, z0, w0, t0⟩ := hk 0 _ rfl
      obtain ⟨v1, z1, w1, t1⟩ := hk 1 _ rfl
      obtain ⟨x0, rfl⟩ := PFnExactEncodeSuper.int_cell Tryd.underlying2 t0
      obtain ⟨x1, rfl⟩ := PFnExactEncodeSuper.int_cell Tryd.underlying2 t1
      exact ⟨⟨x0, x1⟩, w0, w1⟩)
    have hC := PFnExactEncodeSuper.row_of PFnExactEncodeSuper.k169 (W := W) (a := a) (len := len) (F := F) (cells := fun x => [.int .i64 x.f0, .int .i64 x.f1]) hml (fun x => ⟨rfl, PFnExactEncodeSuper.k169_mk W x⟩) (fun i hi j u hu => by
      obtain ⟨w0, w1⟩ := hF i hi
      rcases j with _ | _ | j
      · simp at hu; subst hu; exact w0
      · simp at hu; subst hu; exact w1
      · simp at hu)
    refine ⟨bl, gn, nx, ta, some a, cap, (List.range len).map F, by simp, hC, by simpa using hl, by simpa using hml⟩

set_option maxRecDepth 100000 in
theorem lifted (os : Os) (started : os.Started) (H : Type) (enc : TypeId × Value → H) :
    ReturnsInHanded {} Tryd.checked os 4 .any (fun w args => (Rows.fnExactEncodeSuperSpec.pre enc Tryd.prog Tryd.f4 [] false w args ∧ laidMetH Tryd.prog Rows.fnExactEncodeSuperRow.laid w) ∧ sizedMet enc Tryd.prog Tryd.f4 (OpenSpec.ofChange Rows.fnExactEncodeSuperSpec) false w args)
      (Rows.fnExactEncodeSuperSpec.post enc Tryd.prog Tryd.f4 false true false false) := by
  refine returnsInHanded_of_change_and (C := Tryd.checked) (X := fun w _ => laidMetH Tryd.prog Rows.fnExactEncodeSuperRow.laid w) (fun _ _ _ hh h => h.of_heap hh) own started (by kernel_rfl) Tryd.func4
    (ChangeSpec.witness_shaped (enc := enc) (C := Tryd.checked) (os := os) (X := fun w _ => laidMetH Tryd.prog Rows.fnExactEncodeSuperRow.laid w) false (World.doorLaid Tryd.prog 600 os) #[.agg #[.int .i64 0, .int .i64 0, .int .i64 0, .int .i64 0, .slice none 0 0]] 8 rfl (World.shaped_of_RefB (by kernel_rfl) (by kernel_rfl)) (by kernel_rfl) (by kernel_rfl) (by kernel_rfl) (door_met os _)) ?_
  intro W base args ds gs before hval0 hW _ _ hL _
  have hval : ∀ (j : Nat) t v, Tryd.f4.params[j]? = some t → args[j]? = some v → Value.okWide Tryd.prog W .any base t v := hval0
  have hW' := hW
  obtain ⟨p, q, hA0, hV, rfl, hfz, hnd⟩ := hW
  have hA : DataW.TrodAll enc Tryd.prog W 0 (fun _ => true) true Tryd.f4.params.toList args.toList ds p := hA0
  rw [Tryd.params4] at hA hval
  obtain ⟨v0, vs0, d0, ds0, p0, q0, hargs, rfl, rfl, h0, r0⟩ := trodAll_cons hA
  obtain ⟨rfl, rfl, rfl⟩ := trodAll_nil r0
  obtain rfl : args = #[v0] := by cases args; simp_all
  obtain ⟨g0, g1, g2, rfl⟩ := vars3 hV
  have k0 := h0
  have lt0 : ∀ x ∈ p0, x.block < W.heap.size := by obtain ⟨m, hm⟩ := k0; exact DataW.trod_lt m _ _ _ hm
  obtain ⟨bl, gn, nx, ta, A, c, rs, rfl, hC, hc, hl⟩ := open_arg (hval 0 40 v0 rfl rfl) h0
  have hGL := globals_of hL
  clear hA0 hval0
  obtain ⟨k, hk⟩ := PFnExactEncodeSuper.law_ok bl gn nx ta rs hl
  refine (PFnExactEncodeSuper.laws_FnExactEncodeSuper.calls k bl gn nx ta A c rs true W hGL hC hc hk).mono fun e W' ⟨he, bel⟩ => ?_
  subst he
  exact ⟨_, rfl, _, _, _, [], _, _, hW', trodAll_mk1 (shut_bool Tryd.underlying4 _), trodAll_cons_mk (Below.trod laidOut (by kernel_rfl) (of_decide_eq_true (by kernel_rfl)) k0 bel lt0) trodAll_mk0, Below.trodVars laidOut bel (by kernel_rfl) hV, bel.frame _, fun h => by cases h⟩
theorem over : Rows.fnExactEncodeSuperRow.holds Tryd.pinned (OpenSpec.ofChange Rows.fnExactEncodeSuperSpec) :=
  OpenClaim.holds_of_wide 4 Tryd.f4 rfl rfl rfl rfl rfl rfl rfl ⟨rfl, rfl, rfl, rfl, rfl⟩ rfl rfl rfl rfl rfl (by kernel_rfl) Tryd.func4 (by kernel_rfl)
    (of_decide_eq_true (by kernel_rfl)) (by unfold Func.isWrapper; first | (rw [if_pos (by decide +kernel)]; kernel_rfl) | (rw [if_neg (by decide +kernel)]; exact ⟨rfl, rfl⟩))
    (fun os started H enc _ => lifted os started H enc)
theorem said : Rows.FnExactEncodeSuperSaid := over
theorem plain (f : FuncId) (fn : Func) (hf : Tryd.pinned.checked.prog.funcNamed "loop.example/s01595/laws.FnExactEncodeSuper" = some f) (hfn : Tryd.pinned.checked.prog.funcs[f]? = some fn) :
    true = Tryd.pinned.checked.prog.looks [] ∧ ∀ (j : Nat) t, fn.params[j]? = some t → Tryd.pinned.checked.prog.wantsStandIn t = false := by
  obtain rfl : f = 4 := Option.some.inj ((show Tryd.prog.funcNamed "loop.example/s01595/laws.FnExactEncodeSuper" = some 4 by kernel_rfl).symm.trans hf) |>.symm
  obtain rfl : fn = Tryd.f4 := (Option.some.inj (Tryd.func4.symm.trans hfn)).symm
  refine ⟨by kernel_rfl, fun j t ht => ?_⟩
  rw [Tryd.params4] at ht
  obtain rfl : t = 40 := by simpa using Array.mem_of_getElem? ht
  exact (show Tryd.prog.wantsStandIn 40 = false by kernel_rfl)
theorem card : Rows.FnExactEncodeSuperCardSaid :=
  Claim7.holds_tied_plain_at .later [] _ _ _ _ said (fun _ h => by cases h) (by kernel_rfl) (fun _ h => by cases h) fnExactEncodeSuper_row_tie rfl ⟨rfl, rfl⟩ (by kernel_rfl) rfl plain (by kernel_rfl)
#print axioms card
end Go.Proofs.YtnkgclcmjojeiaaDoor.fnExactEncodeSuper
namespace Go.Proofs.YtnkgclcmjojeiaaDoor
/-- The card, under a short name, for the claim. -/
theorem fnExactEncodeSuper_card : Rows.FnExactEncodeSuperCardSaid := fnExactEncodeSuper.card
end Go.Proofs.YtnkgclcmjojeiaaDoor
