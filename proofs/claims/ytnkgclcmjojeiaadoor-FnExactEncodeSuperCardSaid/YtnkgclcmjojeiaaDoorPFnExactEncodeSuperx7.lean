-- Written by a program of this session (after the kit's print) out of the translation. Nothing here is trusted: Lean checks it.
import Derived.Test.YtnkgclcmjojeiaaDoorPFnExactEncodeSuperx0
namespace Go.Proofs.YtnkgclcmjojeiaaDoor.PFnExactEncodeSuper
open Go.RowKit Go.Proofs.YtnkgclcmjojeiaaDoorW.PrintWords Go.Proofs.YtnkgclcmjojeiaaDoorW.PrintLast Go.Proofs.YtnkgclcmjojeiaaDoorW.PrintMore
attribute [local go_sem] max2_int min2_int max_two min_two max_three min_three max_four min_four   -- for this text's walks alone
set_option linter.unusedVariables false
set_option linter.unusedSimpArgs false

-- HOLE loop.example/s01595/impl.codeOf inner :
section
open Go.Extern.Stop Go.Stop Go.Extern
/-- errors.As(nil, target). -/
theorem as_nil (t : Value) (w : World) : Calls Tryd.prog 107 #[.nilIface, t] w fun e w' => e = .returned (.bool false) ∧ w' = w := by
  go_enter Tryd.func107, Tryd.ntmps107
  go_wp2
  go_ret
  exact ⟨rfl, rfl⟩
theorem as_valueOf (t : Addr) (w : World) : (ReflectliteValue.unpack (.iface 165 (.pointer (some t)))).run Tryd.prog w
    = .ok (.agg #[.pointer (some ⟨4, 165, none⟩), .pointer (some ⟨w.heap.size, 0, none⟩), .int .u64 150]) (w.alloc (.cells #[.pointer (some t)] 165)) := by kernel_rfl
theorem as_type (a : Addr) (w : World) : (ReflectliteValue.methodAny (ReflectliteValue.valueError "reflectlite.Value.Type" 0) (fun t _ _ _ => ReflectliteType.toType t) #[.agg #[.pointer (some ⟨4, 165, none⟩), .pointer (some a), .int .u64 150]]).run Tryd.prog w
    = .ok (.iface 209 (.agg #[.pointer (some ⟨4, 165, none⟩)])) w := by kernel_rfl
theorem as_mKind (h : Value) (w : World) : (Go.method 362 209 (.agg #[h]) "Kind").run Tryd.prog w = .ok (154, h) w := by kernel_rfl
theorem as_kind1 (w : World) : ((ReflectliteType.abiMethod fun t => (fun a : Nat => Value.int IntKind.u8 (a : Int)) <$> Rtype.kind t) #[.pointer (some ⟨4, 165, none⟩)]).run Tryd.prog w = .ok (.int .u8 22) w := by kernel_rfl
theorem as_kind2 (w : World) : ((ReflectliteType.abiMethod fun t => (fun a : Nat => Value.int IntKind.u8 (a : Int)) <$> Rtype.kind t) #[.pointer (some ⟨4, 157, none⟩)]).run Tryd.prog w = .ok (.int .u8 22) w := by kernel_rfl
theorem as_rlm (z : Sem Value) (f : TypeId → Addr → Nat → Nat → Sem Value) (v : Value) :
    ReflectliteValue.method z f #[v] = (do match ← ReflectliteValue.parts v with | none => z | some (t, a, fl) => f t a fl (fl % 32)) := rfl
theorem as_parts1 (a : Addr) (w : World) : (ReflectliteValue.parts (.agg #[.pointer (some ⟨4, 165, none⟩), .pointer (some a), .int .u64 150])).run Tryd.prog w = .ok (some (165, a, 150)) w := by kernel_rfl
theorem as_isNil (a p : Addr) (W : World) (ha : W.cell? a = some (.pointer (some p))) :
    (ReflectliteValue.method (ReflectliteValue.valueError "reflectlite.Value.IsNil" 0) ReflectliteValue.isNil #[.agg #[.pointer (some ⟨4, 165, none⟩), .pointer (some a), .int .u64 150]]).run Tryd.prog W = .ok (.bool false) W := by
  rw [as_rlm]
  simp only [Sem.run_bind, as_parts1, Result.andThen]
  simp [ReflectliteValue.isNil, loadVar, isAgg, underlying, Tryd.underlying165, ha, Result.andThen]
theorem as_mElem (h : Value) (w : World) : (Go.method 362 209 (.agg #[h]) "Elem").run Tryd.prog w = .ok (176, .agg #[h]) w := by kernel_rfl
theorem as_mImpl (h : Value) (w : World) : (Go.method 362 209 (.agg #[h]) "Implements").run Tryd.prog w = .ok (177, .agg #[h]) w := by kernel_rfl
theorem as_mAssign (h : Value) (w : World) : (Go.method 362 209 (.agg #[h]) "AssignableTo").run Tryd.prog w = .ok (174, .agg #[h]) w := by kernel_rfl
theorem as_elem (w : World) : (ReflectliteType.method ReflectliteType.elem #[.agg #[.pointer (some ⟨4, 165, none⟩)]]).run Tryd.prog w = .ok (.iface 209 (.agg #[.pointer (some ⟨4, 157, none⟩)])) w := by kernel_rfl
theorem as_impl (w : World) : (ReflectliteType.relation "Implements" ReflectliteType.implements_ #[.agg #[.pointer (some ⟨4, 157, none⟩)], .iface 209 (.agg #[.pointer (some ⟨4, 88, none⟩)])]).run Tryd.prog w = .ok (.bool true) w := by kernel_rfl
theorem as_typeOf (v : Value) (w : World) : (ReflectliteType.typeOf #[.iface 157 v]).run Tryd.prog w = .ok (.iface 209 (.agg #[.pointer (some ⟨4, 157, none⟩)])) w := by kernel_rfl
theorem as_assign (w : World) : (ReflectliteType.relation "AssignableTo" ReflectliteType.assignableTo #[.agg #[.pointer (some ⟨4, 157, none⟩)], .iface 209 (.agg #[.pointer (some ⟨4, 157, none⟩)])]).run Tryd.prog w = .ok (.bool true) w := by kernel_rfl
theorem as_valueOf2 (e : Addr) (w : World) : (ReflectliteValue.unpack (.iface 157 (.pointer (some e)))).run Tryd.prog w
    = .ok (.agg #[.pointer (some ⟨4, 157, none⟩), .pointer (some ⟨w.heap.size, 0, none⟩), .int .u64 150]) (w.alloc (.cells #[.pointer (some e)] 157)) := by kernel_rfl
theorem as_elemOf (w : World) : (Rtype.elem? 165).run Tryd.prog w = .ok (some 157) w := by kernel_rfl
theorem as_mk (p : Addr) (w : World) : (ReflectliteValue.mk 157 p ReflectliteValue.flagAddr).run Tryd.prog w = .ok (.agg #[.pointer (some ⟨4, 157, none⟩), .pointer (some p), .int .u64 406]) w := by kernel_rfl
theorem as_elemV (a p : Addr) (W : World) (ha : W.cell? a = some (.pointer (some p))) :
    (ReflectliteValue.method (ReflectliteValue.valueError "reflectlite.Value.Elem" 0) ReflectliteValue.elem #[.agg #[.pointer (some ⟨4, 165, none⟩), .pointer (some a), .int .u64 150]]).run Tryd.prog W
      = .ok (.agg #[.pointer (some ⟨4, 157, none⟩), .pointer (some p), .int .u64 406]) W := by
  rw [as_rlm]
  simp only [Sem.run_bind, as_parts1, Result.andThen]
  simp [ReflectliteValue.elem, loadVar, isAgg, underlying, Tryd.underlying165, ha, Result.andThen, as_elemOf, as_mk]
theorem as_rls (v x : Value) : ReflectliteValue.set #[v, x] = (do
    let (some (dst, a, fl), some (src, b, _)) := (← ReflectliteValue.parts v, ← ReflectliteValue.parts x)
      | unsupported (.noEntry "extern/(internal/reflectlite.Value).Set.zeroValue")
    if fl / ReflectliteValue.flagAddr % 2 == 0 then unsupported (.noEntry "extern/(internal/reflectlite.Value).Set.unaddressable")
    let val ← loadVar src b
    if ← Rtype.directlyAssignable dst src then storeVar dst a val
    else if ← Rtype.implements dst src then
      if (← Rtype.kind src) == 20 then
        match val with
        | .nilIface => unsupported (.noEntry "extern/reflectlite: a nil value of one interface type handed on as a value of another")
        | _ => storeVar dst a val
      else storeVar dst a (.iface src val)
    else panicString ("reflectlite.Set: value of type " ++ (← Rtype.spelt src) ++ " is not assignable to type " ++ (← Rtype.spelt dst))
    pure (.tuple #[])) := rfl
theorem as_parts2a (a : Addr) (w : World) : (ReflectliteValue.parts (.agg #[.pointer (some ⟨4, 157, none⟩), .pointer (some a), .int .u64 406])).run Tryd.prog w = .ok (some (157, a, 406)) w := by kernel_rfl
theorem as_parts2 (a : Addr) (w : World) : (ReflectliteValue.parts (.agg #[.pointer (some ⟨4, 157, none⟩), .pointer (some a), .int .u64 150])).run Tryd.prog w = .ok (some (157, a, 150)) w := by kernel_rfl
theorem as_direct (w : World) : (Rtype.directlyAssignable 157 157).run Tryd.prog w = .ok true w := by kernel_rfl
theorem as_set (ta b e : Addr) (old : Value) (W : World) (hb : W.cell? b = some (.pointer (some e))) (ht : W.cell? ta = some old) (hf : W.frozen? ta = false) :
    (ReflectliteValue.set #[.agg #[.pointer (some ⟨4, 157, none⟩), .pointer (some ta), .int .u64 406], .agg #[.pointer (some ⟨4, 157, none⟩), .pointer (some b), .int .u64 150]]).run Tryd.prog W
      = .ok (.tuple #[]) (W.setCell ta (.pointer (some e))) := by
  rw [as_rls]
  simp only [Sem.run_bind, as_parts2a, as_parts2, Result.andThen]
  simp [ReflectliteValue.flagAddr, loadVar, isAgg, underlying, Tryd.underlying157, hb, Result.andThen, as_direct, storeVar, Value.cells, storeCells, Addr.add]
  rw [run_store Tryd.prog W ta _ _ (by rfl)]
  simp [ht, hf]
set_option maxHeartbeats 4000000 in
/-- errors.As(e, &m), e a *misplaced, m a variable of that type: true, m is e; four new blocks. -/
theorem as_hit (e t : Addr) (old : Value) (w : World) (hg : w.cell? ⟨3, 0, none⟩ = some (.iface 209 (.agg #[.pointer (some ⟨4, 88, none⟩)]))) (ht0 : w.cell? t = some old) (hf0 : w.frozen? t = false) :
    Calls Tryd.prog 107 #[.iface 157 (.pointer (some e)), .iface 165 (.pointer (some t))] w fun ev w' => ev = .returned (.bool true) ∧ w' = ((((w.alloc (.cells #[.pointer (some t)] 165)).alloc (.cells #[.pointer (some ⟨4, 165, none⟩), .pointer (some ⟨w.heap.size, 0, none⟩), .int .u64 150] 190)).alloc (.cells #[.pointer (some ⟨4, 165, none⟩), .pointer (some ⟨w.heap.size, 0, none⟩), .int .u64 150] 190)).alloc (.cells #[.pointer (some e)] 157)).setCell t (.pointer (some e)) := by
  have h6 := @run_callFunc_extern Tryd.prog 126 _ (fun args => ReflectliteValue.unpack (args.getD 0 (.tuple #[]))) Tryd.func126 (by kernel_rfl) (by kernel_rfl) (by kernel_rfl) (by kernel_rfl)
  have h7 := @run_callFunc_extern Tryd.prog 127 _ (ReflectliteValue.methodAny (ReflectliteValue.valueError "reflectlite.Value.Type" 0) (fun t _ _ _ => ReflectliteType.toType t)) Tryd.func127 (by kernel_rfl) (by kernel_rfl) (by kernel_rfl) (by kernel_rfl)
  have h8 := @run_callFunc_extern Tryd.prog 128 _ (ReflectliteValue.method (ReflectliteValue.valueError "reflectlite.Value.IsNil" 0) ReflectliteValue.isNil) Tryd.func128 (by kernel_rfl) (by kernel_rfl) (by kernel_rfl) (by kernel_rfl)
  have h27 := @run_callFunc_extern Tryd.prog 154 _ (ReflectliteType.abiMethod fun t => do pure (.int .u8 (← Rtype.kind t))) Tryd.func154 (by kernel_rfl) (by kernel_rfl) (by kernel_rfl) (by kernel_rfl)
  have h37 := @run_callFunc_extern Tryd.prog 176 _ (ReflectliteType.method ReflectliteType.elem) Tryd.func176 (by kernel_rfl) (by kernel_rfl) (by kernel_rfl) (by kernel_rfl)
  have h38 := @run_callFunc_extern Tryd.prog 177 _ (ReflectliteType.relation "Implements" ReflectliteType.implements_) Tryd.func177 (by kernel_rfl) (by kernel_rfl) (by kernel_rfl) (by kernel_rfl)
  have h10 := @run_callFunc_extern Tryd.prog 130 _ ReflectliteType.typeOf Tryd.func130 (by kernel_rfl) (by kernel_rfl) (by kernel_rfl) (by kernel_rfl)
  have h35 := @run_callFunc_extern Tryd.prog 174 _ (ReflectliteType.relation "AssignableTo" ReflectliteType.assignableTo) Tryd.func174 (by kernel_rfl) (by kernel_rfl) (by kernel_rfl) (by kernel_rfl)
  have h11 := @run_callFunc_extern Tryd.prog 138 _ (ReflectliteValue.method (ReflectliteValue.valueError "reflectlite.Value.Elem" 0) ReflectliteValue.elem) Tryd.func138 (by kernel_rfl) (by kernel_rfl) (by kernel_rfl) (by kernel_rfl)
  have h12 := @run_callFunc_extern Tryd.prog 139 _ ReflectliteValue.set Tryd.func139 (by kernel_rfl) (by kernel_rfl) (by kernel_rfl) (by kernel_rfl)
  have tO := as_typeOf
  have mA := as_mAssign
  have a25 := as_assign
  have v25 := as_valueOf2
  have f6 := as_valueOf
  have f7 := as_type
  have mK := as_mKind
  have mE := as_mElem
  have mI := as_mImpl
  have k27 := as_kind1
  have k25 := as_kind2
  have e27 := as_elem
  have i25 := as_impl
  have n8 := as_isNil ⟨w.heap.size, 0, none⟩ t ((w.alloc (.cells #[.pointer (some t)] 165)).alloc (.cells #[.pointer (some ⟨4, 165, none⟩), .pointer (some ⟨w.heap.size, 0, none⟩), .int .u64 150] 190)) (by simp)
  have hlt : 3 < w.heap.size := by
    rcases Nat.lt_or_ge 3 w.heap.size with h | h
    · exact h
    · simp [World.cell?, Array.getElem?_eq_none h] at hg
  have hg2 : ((w.alloc (.cells #[.pointer (some t)] 165)).alloc (.cells #[.pointer (some ⟨4, 165, none⟩), .pointer (some ⟨w.heap.size, 0, none⟩), .int .u64 150] 190)).cell? ⟨3, 0, none⟩ = some (.iface 209 (.agg #[.pointer (some ⟨4, 88, none⟩)])) := by
    rw [World.cell?_alloc_lt _ _ ⟨3, 0, none⟩ (by simp; omega), World.cell?_alloc_lt _ _ ⟨3, 0, none⟩ hlt]; exact hg
  have htl : t.block < w.heap.size := by
    rcases Nat.lt_or_ge t.block w.heap.size with h | h
    · exact h
    · simp [World.cell?, Array.getElem?_eq_none h] at ht0
  have el := as_elemV ⟨w.heap.size, 0, none⟩ t (((w.alloc (.cells #[.pointer (some t)] 165)).alloc (.cells #[.pointer (some ⟨4, 165, none⟩), .pointer (some ⟨w.heap.size, 0, none⟩), .int .u64 150] 190)).alloc (.cells #[.pointer (some ⟨4, 165, none⟩), .pointer (some ⟨w.heap.size, 0, none⟩), .int .u64 150] 190)) (by rw [World.cell?_alloc_lt _ _ ⟨w.heap.size, 0, none⟩ (by simp; omega)]; simp)
  have st := as_set t ⟨w.heap.size + 1 + 1 + 1, 0, none⟩ e old ((((w.alloc (.cells #[.pointer (some t)] 165)).alloc (.cells #[.pointer (some ⟨4, 165, none⟩), .pointer (some ⟨w.heap.size, 0, none⟩), .int .u64 150] 190)).alloc (.cells #[.pointer (some ⟨4, 165, none⟩), .pointer (some ⟨w.heap.size, 0, none⟩), .int .u64 150] 190)).alloc (.cells #[.pointer (some e)] 157))
    (by rw [World.cell?_alloc_at _ _ _ _ (by simp)]; rfl)
    (by rw [World.cell?_alloc_lt _ _ t (by simp; omega), World.cell?_alloc_lt _ _ t (by simp; omega), World.cell?_alloc_lt _ _ t (by simp; omega), World.cell?_alloc_lt _ _ t htl]; exact ht0)
    (by rw [World.frozen?_alloc_old _ _ t (by simp; omega), World.frozen?_alloc_old _ _ t (by simp; omega), World.frozen?_alloc_old _ _ t (by simp; omega), World.frozen?_alloc_old _ _ t (Nat.ne_of_lt htl)]; exact hf0)
  go_enter Tryd.func107, Tryd.ntmps107
  go_wp2
  refine wp_loop_rounds 1 ?_
  rw [rounds_succ]
  go_wp2
  go_ret
  exact ⟨rfl, rfl⟩
/-- The same, with what the caller wants to know of the world behind. -/
theorem as_hits (e : Addr) (gm : Nat) (old : Value) (w0 w : World) (hg : w.cell? ⟨3, 0, none⟩ = some (.iface 209 (.agg #[.pointer (some ⟨4, 88, none⟩)]))) (hm : w.heap[gm]? = some (.cells #[old] 157 (0, 0))) (hB : Below w0.heap.size w0 w) (hgm : w0.heap.size ≤ gm) :
    Calls Tryd.prog 107 #[.iface 157 (.pointer (some e)), .iface 165 (.pointer (some ⟨gm, 0, none⟩))] w fun ev w' => ev = .returned (.bool true) ∧ w'.cell? ⟨gm, 0, none⟩ = some (.pointer (some e)) ∧ (∀ k, k < w.heap.size → k ≠ gm → w'.heap[k]? = w.heap[k]?) ∧ Below w0.heap.size w0 w' := by
  have hlt : gm < w.heap.size := blk_lt hm
  have hsz := below_size hB
  refine (as_hit e ⟨gm, 0, none⟩ old w hg ((blk_cell hm 0).trans rfl) (blk_frozen hm 0)).mono ?_
  rintro ev w' ⟨rfl, rfl⟩
  have hb4 := blk_alloc (blk_alloc (blk_alloc (blk_alloc hm (.cells #[.pointer (some ⟨gm, 0, none⟩)] 165)) (.cells #[.pointer (some ⟨4, 165, none⟩), .pointer (some ⟨w.heap.size, 0, none⟩), .int .u64 150] 190)) (.cells #[.pointer (some ⟨4, 165, none⟩), .pointer (some ⟨w.heap.size, 0, none⟩), .int .u64 150] 190)) (.cells #[.pointer (some e)] 157)
  refine ⟨rfl, ?_, fun k hk hne => ?_, ?_⟩
  · exact (blk_cell (one_setCell (u := .pointer (some e)) hb4) 0).trans rfl
  · rw [Below.heap_setCell _ _ _ k hne, Below.heap_alloc _ _ _ (by simp; omega), Below.heap_alloc _ _ _ (by simp; omega), Below.heap_alloc _ _ _ (by simp; omega), Below.heap_alloc _ _ _ hk]
  · exact ((below_alloc (below_alloc (below_alloc (below_alloc hB _) _) _) _)).setCell hgm _
theorem codeOf_nil (w : World) : Calls Tryd.prog 62 #[.nilIface] w fun e w' => e = .returned (.int .i64 0) ∧ w' = w := by
  go_enter Tryd.func62, Tryd.ntmps62
  go_wp2
  go_ret
  exact ⟨rfl, rfl⟩
set_option maxHeartbeats 4000000 in
theorem codeOf_form (ge : Nat) (p : Int) (v : Value) (w : World) (hb : w.heap[ge]? = some (.cells #[.int .i64 p, v] 159 (0, 0))) (hp : p < 0) (hg : w.cell? ⟨3, 0, none⟩ = some (.iface 209 (.agg #[.pointer (some ⟨4, 88, none⟩)]))) :
    Calls Tryd.prog 62 #[.iface 157 (.pointer (some ⟨ge, 0, none⟩))] w fun e w' => e = .returned (.int .i64 5) ∧ Below w.heap.size w w' := by
  have hlt : ge < w.heap.size := blk_lt hb
  have HG := Aside0.mk hg
  have HB := Aside0.mk hb
  clear hb hg
  go_enter Tryd.func62, Tryd.ntmps62
  go_wp2_with (go_at_call 107; refine (as_hits _ w.heap.size (.pointer none) w _ ((World.cell?_alloc_lt _ _ ⟨3, 0, none⟩ (World.block_lt_of_cell? w _ HG.out)).trans HG.out) (blk_new w _) (below_alloc (Below.refl _ _) _) (Nat.le_refl _)).mono ?_; rintro e w' ⟨rfl, hcm, hk, hbw⟩; have HBW := Aside0.mk hbw; have hce : w'.cell? ⟨ge, 0, none⟩ = some (.int .i64 p) := (blk_cell ((hk ge (by simp; omega) (by omega)).trans (blk_alloc HB.out _)) 0).trans rfl; clear hk hbw)
  go_ret
  exact ⟨rfl, HBW.out⟩
end

end Go.Proofs.YtnkgclcmjojeiaaDoor.PFnExactEncodeSuper
