-- Written by a program of this session (after the kit's print) out of the translation. Nothing here is trusted: Lean checks it.
import Derived.Test.YtnkgclcmjojeiaaVPFnDeviceReadsx0
import Derived.Test.YtnkgclcmjojeiaaVPFnDeviceReadsx10
namespace Go.Proofs.Ytnkgclcmjojeiaa.PFnDeviceReads
open Go.RowKit Go.Proofs.YtnkgclcmjojeiaaW.PrintWords Go.Proofs.YtnkgclcmjojeiaaW.PrintLast Go.Proofs.YtnkgclcmjojeiaaW.PrintMore
attribute [local go_sem] max2_int min2_int max_two min_two max_three min_three max_four min_four   -- for this text's walks alone
set_option linter.unusedVariables false
set_option linter.unusedSimpArgs false

-- HOLE (*loop.example/s01595/impl.Device).settle inner :
def settleTo (kp : Nat → Bool) (cache : List S32) (disk : List Int) : Nat → List Int
  | 0 => disk
  | i + 1 => if kp i then splice (settleTo kp cache disk i) ((rd_T32 cache i).f0.toNat * 128) (rd_T32 cache i).f1 else settleTo kp cache disk i
theorem settle_length (kp : Nat → Bool) (b : Int) (cache : List S32) (disk : List Int) (hd : (disk.length : Int) = b * 128) (hc : ∀ p ∈ cache, pendOk b p = true) : ∀ i, i ≤ cache.length → (settleTo kp cache disk i).length = disk.length := by
  intro i
  induction i with
  | zero => intro _; rfl
  | succ i ih =>
    intro hi
    have hlt : i < cache.length := by omega
    have hp := hc cache[i] (List.getElem_mem hlt)
    simp only [pendOk, Bool.and_eq_true, decide_eq_true_eq] at hp
    unfold settleTo
    split
    · rw [length_splice _ _ _ (by rw [ih (by omega), rd_pend _ _ hlt]; omega), ih (by omega)]
    · exact ih (by omega)
theorem step_copy_row {P : Program} {ops : Array Oper} {o : Oper} {a : Act} {w : World} {K : Act → World → Prop} {Q : Exit → Act → World → Prop} {E : Prop} (hgd : o.guard = none) (d s : Operand) (dT sT : TypeId)
    (ho : o.op = .call { callee := .builtin .copy, args := #[d, s], argTypes := #[dT, sT] }) (elem : TypeId) (hu : P.underlying dT = some (.slice elem)) (hsz : (P.info? elem).map (·.size) = some 1)
    (g off dLen dCap : Nat) (ad : Addr) (sLen sCap : Nat) (hd : a.eval d = .slice (some ⟨g, off, none⟩) dLen dCap) (hs : a.eval s = .slice (some ad) sLen sCap)
    (cur : Array Value) (t : TypeId) (hg : w.heap[g]? = some (.cells cur t (0, 0))) (cs : List Value) (hn : cs.length = Nat.min sLen dLen)
    (hsrc : ∀ j v, cs[j]? = some v → w.cell? (ad.add j) = some v) (hfit : off + cs.length ≤ cur.size) (h1 : ∀ v ∈ cs, v.oneCell' = true)
    (h : K (a.put o.dst (goInt cs.length)) (w.setRow g (splice cur.toList off cs).toArray)) :
    if Region.wanted o (yielded ops a.tmps) = true then Oper.wp P o a w K Q else E := by
  have hw : Region.wanted o (yielded ops a.tmps) = true := by simp [Region.wanted, hgd]
  rw [if_pos hw]
  have hrun := run_copy_row (P := P) w dT sT o.type elem g off dLen dCap ad sLen sCap cur t cs hu hsz hg hn hsrc hfit h1
  unfold Oper.wp
  simp [execOp, ho, resolve, invoke, builtin, hd, hs, hrun, Result.andThen]
  show K _ _
  simpa [splice] using h
theorem splice_take (L cs : List Value) (off n : Nat) (h : off + cs.length ≤ n) (hn : n ≤ L.length) : (splice L off cs).take n = splice (L.take n) off cs := by
  unfold splice
  have e1 : (L.take off).length = off := by simp; omega
  rw [List.take_append, e1, List.take_of_length_le (l := L.take off) (by omega), List.take_append, List.take_of_length_le (l := cs) (by omega), List.take_take, Nat.min_eq_left (by omega)]
  congr 2
  rw [List.take_drop]
  congr 2
  omega
theorem enc_one (xs : List Int) : ∀ v ∈ encs (Value.int .u8) xs, v.oneCell' = true := by
  intro v hv
  simp only [encs, List.mem_map] at hv
  obtain ⟨x, _, rfl⟩ := hv
  rfl
theorem splice_nums (xs ys : List Int) (off : Nat) : encs (Value.int .u8) (splice xs off ys) = splice (encs (Value.int .u8) xs) off (encs (Value.int .u8) ys) := by
  simp [encs, splice, List.map_take, List.map_drop]
set_option maxHeartbeats 2000000 in
set_option maxRecDepth 100000 in
theorem dev_settle (w0 w : World) (g : Nat) (hg : w0.heap.size ≤ g) (b : Int) (hb8 : 8 ≤ b) (hb : b ≤ 512) (v1 v2 : Value) (disk : List Int) (cache : List S32) (kp : Nat → Bool) (gf : Nat) (caps : Array Value) (hen : ∀ (args : Array Value) (W : World), (callFunc gf args).run Try.prog W = .ok (.enter gf args) W)
    (hblk : w.heap[g]? = some (.cells #[.int .i64 b, v1, v2] 25 (0,0)))
    (ho1 : Kd.R (Kd.int .u8) 5 w w0.heap.size (fun k => k ≠ g) v1 disk) (ho2 : Kd.S k32 32 w w0.heap.size (fun k => k ≠ g ∧ some k ≠ v1.ownBlock) v2 cache)
    (hB : Below w0.heap.size w0 w) (hdisk : (disk.length : Int) = b * 128) (hcache : ∀ p ∈ cache, pendOk b p = true) (hn : cache.length ≤ 2048)
    (hkeep : ∀ (i : Nat) (W : World), i < cache.length → w.heap.size ≤ W.heap.size → (∀ k, k < w.heap.size → k ≠ g → some k ≠ v1.ownBlock → W.heap[k]? = w.heap[k]?) →
      Calls Try.prog gf (#[.int .i64 i] ++ caps) W fun e w' => e = .returned (.bool (kp i)) ∧ Below W.heap.size W w') :
    Calls Try.prog 23 #[.pointer (some ⟨g, 0, none⟩), .func (.func gf) #[] caps] w fun e w' => e = .returned (.tuple #[]) ∧ Below w0.heap.size w0 w' ∧
      w'.heap[g]? = some (.cells #[.int .i64 b, v1, .slice none 0 0] 25 (0,0)) ∧ Kd.R (Kd.int .u8) 5 w' w0.heap.size (fun k => k ≠ g) v1 (settleTo kp cache disk cache.length) ∧
      (∀ k, k < w.heap.size → k ≠ g → some k ≠ v1.ownBlock → w'.heap[k]? = w.heap[k]?) := by
  have hu25 := Try.underlying25
  have hu32 := Try.underlying32
  obtain ⟨A2, c2, rfl⟩ := Kd.R_slice (Kd.S_R ho2)
  obtain ⟨gd, cap, rfl, hgd0, hgd1⟩ := (Kd.own_of_R ho1).form (by omega)
  have hq2 : w.cell? ⟨g, 2, none⟩ = some (.slice A2 cache.length c2) := (blk_cell hblk 2).trans rfl
  have HO1 := Aside0.mk ho1
  have HO2 := Aside0.mk ho2
  have HB := Aside0.mk hB
  have HBK := Aside0.mk hblk
  have HKP := Aside0.mk hkeep
  have HD := Aside0.mk hdisk
  have HC := Aside0.mk hcache
  clear ho1 ho2 hB hblk hkeep hdisk hcache
  go_enter Try.func23, Try.ntmps23
  go_wp2
  go_loopg [11] cache.length (fun kq v11 wr => ∃ i : Nat, v11 = .int .i64 i ∧ kq + i = cache.length ∧ Aside0 (wr.heap[g]? = some (.cells #[.int .i64 b, .slice (some ⟨gd, 0, none⟩) disk.length cap, .slice A2 cache.length c2] 25 (0,0))) ∧ Aside0 (Kd.R (Kd.int .u8) 5 wr w0.heap.size (fun k => k ≠ g) (.slice (some ⟨gd, 0, none⟩) disk.length cap) (settleTo kp cache disk i)) ∧ Aside0 (Kd.S k32 32 wr w0.heap.size (fun k => k ≠ g ∧ some k ≠ (Value.slice (some ⟨gd, 0, none⟩) disk.length cap).ownBlock) (.slice A2 cache.length c2) cache) ∧ Aside0 (Below w0.heap.size w0 wr) ∧ Aside0 (w.heap.size ≤ wr.heap.size ∧ ∀ k, k < w.heap.size → k ≠ g → some k ≠ (Value.slice (some ⟨gd, 0, none⟩) disk.length cap).ownBlock → wr.heap[k]? = w.heap[k]?))
  case atStart => exact ⟨0, rfl, by omega, HBK, HO1, HO2, HB, ⟨Nat.le_refl _, fun _ _ _ _ => rfl⟩⟩
  case round =>
    obtain ⟨i, rfl, hi, hbk, hr1, hr2, hB, hF⟩ := hrel
    by_cases hlt : i < cache.length
    · obtain ⟨A', c', e', _, hR⟩ := Kd.R_reads (Kd.S_R hr2.out)
      simp only [Value.slice.injEq] at e'
      obtain ⟨rfl, _, rfl⟩ := e'
      obtain ⟨ad, A1, c1, rfl, hx0, hx1, hl1, hC1⟩ := at_T32 hR i (by omega) (by omega)
      clear hR
      have hx0' : wr.cell? (ad.add (i * 2)) = some (.int .i64 (rd_T32 cache i).f0) := by simpa using hx0
      have HC1 := Aside0.mk hC1
      have hx1' : wr.cell? ⟨(ad.add (i * 2)).block, (ad.add (i * 2)).off + 1, none⟩ = some (.slice A1 (rd_T32 cache i).f1.length c1) := by simpa using hx1
      clear hx0 hx1 hC1
      have hcl := HKP.out i (wr.alloc (.cells #[.int .i64 (rd_T32 cache i).f0, .slice A1 (rd_T32 cache i).f1.length c1] 32)) hlt (by simp; have := hF.out.1; omega) (fun k hk h1 h2 => (Below.heap_alloc _ _ _ (Nat.lt_of_lt_of_le hk hF.out.1)).trans (hF.out.2 k hk h1 h2))
      have hbx := heap_alloc_new wr (.cells #[.int .i64 (rd_T32 cache i).f0, .slice A1 (rd_T32 cache i).f1.length c1] 32)
      have HBX := Aside0.mk hbx
      have HW1 : Aside0 (∀ w1, Below (wr.alloc (.cells #[.int .i64 (rd_T32 cache i).f0, .slice A1 (rd_T32 cache i).f1.length c1] 32)).heap.size (wr.alloc (.cells #[.int .i64 (rd_T32 cache i).f0, .slice A1 (rd_T32 cache i).f1.length c1] 32)) w1 → Below w0.heap.size w0 w1 ∧ (w.heap.size ≤ w1.heap.size ∧ ∀ k, k < w.heap.size → k ≠ g → some k ≠ (Value.slice (some ⟨gd, 0, none⟩) disk.length cap).ownBlock → w1.heap[k]? = w.heap[k]?)) := ⟨fun w1 hb1 => by
        have h1 := hF.out.1
        have h2 := hb1.size
        have h3 := hB.out.size
        simp at h2
        refine ⟨(hB.out.alloc h3 _).trans (hb1.mono (by simp; omega)), by omega, fun k hk h4 h5 => ?_⟩
        rw [hb1.block k (by simp; omega), Below.heap_alloc _ _ _ (by omega)]
        exact hF.out.2 k hk h4 h5⟩
      cases hkp : kp i with
      | false =>
        rw [hkp] at hcl
        have HCL := Aside0.mk hcl
        have HKI := Aside0.mk hkp
        clear hcl hkp hbx
        go_wp2_with (refine HCL.out.mono ?_; rintro e w1 ⟨rfl, hb1⟩; have HB1 := Aside0.mk hb1; clear hb1)
        go_roundg (gk - 1)
        case measure => omega
        case rel =>
          refine ⟨i + 1, by go_num, by omega, ⟨blk_below (blk_alloc hbk.out _) HB1.out⟩, ⟨?_⟩, ⟨Kd.S_below (Kd.S_alloc hr2.out _) HB1.out⟩, ⟨(HW1.out _ HB1.out).1⟩, ⟨(HW1.out _ HB1.out).2⟩⟩
          have := Kd.R_below (Kd.R_alloc hr1.out _) HB1.out
          simpa [settleTo, HKI.out] using this
      | true =>
        rw [hkp] at hcl
        have HCL := Aside0.mk hcl
        have HKI := Aside0.mk hkp
        clear hcl hkp hbx
        have hp := HC.out cache[i] (List.getElem_mem hlt)
        simp only [pendOk, Bool.and_eq_true, decide_eq_true_eq] at hp
        rw [← rd_pend _ _ hlt] at hp
        obtain ⟨hp1, hp2, hp3⟩ := hp
        obtain ⟨q, hq⟩ : ∃ q : Nat, (rd_T32 cache i).f0 = (q : Int) := ⟨(rd_T32 cache i).f0.toNat, by omega⟩
        have HQ := Aside0.mk hq
        have hq512 : q < 512 := by omega
        have HL := Aside0.mk hp3
        have hqb : (q : Int) < b := by omega
        clear hq hp1 hp2 hp3
        go_wp2_with (refine HCL.out.mono ?_; rintro e w1 ⟨rfl, hb1⟩; have HB1 := Aside0.mk hb1; clear hb1)
        have hbk1 := Aside0.mk (blk_below (blk_alloc hbk.out (.cells #[.int .i64 (rd_T32 cache i).f0, .slice A1 (rd_T32 cache i).f1.length c1] 32)) HB1.out)
        have hbx1 := Aside0.mk (blk_below HBX.out HB1.out)
        have hr11 := Aside0.mk (Kd.R_below (Kd.R_alloc hr1.out (.cells #[.int .i64 (rd_T32 cache i).f0, .slice A1 (rd_T32 cache i).f1.length c1] 32)) HB1.out)
        have hr21 := Aside0.mk (Kd.S_below (Kd.S_alloc hr2.out (.cells #[.int .i64 (rd_T32 cache i).f0, .slice A1 (rd_T32 cache i).f1.length c1] 32)) HB1.out)
        have hC11 := Kd.C_below (Kd.C_alloc HC1.out (.cells #[.int .i64 (rd_T32 cache i).f0, .slice A1 (rd_T32 cache i).f1.length c1] 32)) HB1.out
        have hsl := settle_length kp b cache disk HD.out HC.out i (by omega)
        have hdk := HD.out
        have hp3 := HL.out
        obtain ⟨ad1, e1, hS1⟩ : ∃ ad1, A1 = some ad1 ∧ ∀ j v, (encs (Value.int .u8) (rd_T32 cache i).f1)[j]? = some v → w1.cell? (ad1.add j) = some v := by
          obtain ⟨ad1, e1, _⟩ := Kd.at_int hC11 0 (by omega) (by omega)
          refine ⟨ad1, e1, fun j v hv => ?_⟩
          have hj : j < (rd_T32 cache i).f1.length := by
            rcases Nat.lt_or_ge j (rd_T32 cache i).f1.length with h | h
            · exact h
            · simp [encs, List.getElem?_eq_none h] at hv
          obtain ⟨ad2, e2, hc2⟩ := Kd.at_int hC11 j (by omega) (by omega)
          rw [e1] at e2
          cases e2
          simp only [Int.toNat_natCast] at hc2
          rw [hc2]
          simpa [encs, List.getElem?_eq_getElem hj, rd, List.getD_eq_getElem?_getD] using hv
        subst e1
        obtain ⟨cur, hgd, hn1, hcapm, hcur, htk⟩ : ∃ cur : Array Value, w1.heap[gd]? = some (.cells cur 5 (0, 0)) ∧ disk.length ≤ cap ∧ cap ≤ maxLen ∧ cur.size = cap ∧ cur.toList.take disk.length = encs (Value.int .u8) (settleTo kp cache disk i) := by
          have ho := Kd.own_of_R hr11.out
          rw [hsl] at ho
          rcases ho.2 with ⟨h, _⟩ | ⟨g', cap', cur, hv, _, hh, h1, h2, h3, h4⟩
          · cases h
          · simp only [Value.slice.injEq, Option.some.injEq, Addr.mk.injEq] at hv
            obtain ⟨⟨rfl, _⟩, _, rfl⟩ := hv
            exact ⟨cur, hh, h1, h2, by simpa using h3, by simpa using h4⟩
        have hne : g ≠ gd := by
          intro e
          exact hr11.out.1 gd (by simp [Value.ownBlock]) e.symm
        have hq0 := HQ.out
        have hqd : q * 128 + 128 ≤ disk.length := by omega
        have hy1 : w1.drew.cell? ⟨g, 1, none⟩ = some (.slice (some ⟨gd, 0, none⟩) disk.length cap) := (blk_cell (blk_drew hbk1.out) 1).trans rfl
        have hy2 : w1.drew.cell? ⟨wr.heap.size, 0, none⟩ = some (.int .i64 (q : Int)) := by rw [← hq0]; exact (blk_cell (blk_drew hbx1.out) 0).trans rfl
        have hy3 : w1.drew.cell? ⟨wr.heap.size, 1, none⟩ = some (.slice (some ad1) (rd_T32 cache i).f1.length c1) := (blk_cell (blk_drew hbx1.out) 1).trans rfl
        have HGD := Aside0.mk (blk_drew hgd)
        have HS1 : Aside0 (∀ j v, (encs (Value.int .u8) (rd_T32 cache i).f1)[j]? = some v → w1.drew.cell? (ad1.add j) = some v) := ⟨hS1⟩
        have HTK := Aside0.mk htk
        have HSL := Aside0.mk hsl
        have hl128 : (rd_T32 cache i).f1.length ≤ 128 ∧ 128 ≤ (rd_T32 cache i).f1.length := by omega
        have hcur' : cur.size ≤ cap ∧ cap ≤ cur.size := by omega
        have hwr : wrap64 ((q : Int) * 128) = (q : Int) * 128 := by unfold wrap64; omega
        have hnn : 0 ≤ (q : Int) * 128 := by omega
        have hle : (q : Int) * 128 ≤ disk.length := by omega
        have htn : ((q : Int) * 128).toNat = q * 128 := by omega
        have hcne : ¬ cap = q * 128 := by omega
        clear hgd hS1 htk hsl hp3 hcur hq0 hdk hC11
        refine start_ (n := 11) (S := fun w' => w'.cell? ⟨g, 1, none⟩ = some (.slice (some ⟨gd, 0, none⟩) disk.length cap) ∧ w'.cell? ⟨wr.heap.size, 0, none⟩ = some (.int .i64 (q : Int)) ∧ w'.cell? ⟨wr.heap.size, 1, none⟩ = some (.slice (some ad1) (rd_T32 cache i).f1.length c1)) (ds := [10]) #[false, false, false, false, false, false, false, false, false, false, false] (by kernel_rfl) rfl rfl ⟨hy1, hy2, hy3⟩ (fun hHeld => ?_)
        refine pure_ (i := 0) (N := some 19) (v := ?_) (a' := ?_) #[true, false, false, false, false, false, false, false, false, false, false] rfl rfl (by kernel_rfl) (fun _ _ _ h => h) (Or.inl ⟨by rfl, ?_⟩) ?_ ?_
        rotate_left
        · intro w'
          go_simp
          with_reducible rfl
        rotate_left
        · simp only [Act.put, List.setIfInBounds_toArray, List.set_cons_zero, List.set_cons_succ, i64_w, i32_w]
          rfl
        refine pure_ (i := 1) (N := some 20) (v := ?_) (a' := ?_) #[true, true, false, false, false, false, false, false, false, false, false] rfl rfl (by kernel_rfl) (fun _ _ _ h => h) (Or.inl ⟨by rfl, ?_⟩) ?_ ?_
        rotate_left
        · intro w'
          go_simp
          with_reducible rfl
        rotate_left
        · simp only [Act.put, List.setIfInBounds_toArray, List.set_cons_zero, List.set_cons_succ, i64_w, i32_w]
          rfl
        refine pure_ (i := 2) (N := some 21) (v := ?_) (a' := ?_) #[true, true, true, false, false, false, false, false, false, false, false] rfl rfl (by kernel_rfl) (fun _ _ _ h => h) (Or.inl ⟨by rfl, ?_⟩) ?_ ?_
        rotate_left
        · intro w'
          go_simp
          with_reducible rfl
        rotate_left
        · simp only [Act.put, List.setIfInBounds_toArray, List.set_cons_zero, List.set_cons_succ, i64_w, i32_w]
          rfl
        refine pure_ (i := 4) (N := some 23) (v := ?_) (a' := ?_) #[true, true, true, false, true, false, false, false, false, false, false] rfl rfl (by kernel_rfl) (fun _ _ _ h => h) (Or.inl ⟨by rfl, ?_⟩) ?_ ?_
        rotate_left
        · intro w'
          go_simp
          with_reducible rfl
        rotate_left
        · simp only [Act.put, List.setIfInBounds_toArray, List.set_cons_zero, List.set_cons_succ, i64_w, i32_w]
          rfl
        refine pure_ (i := 8) (N := some 27) (v := ?_) (a' := ?_) #[true, true, true, false, true, false, false, false, true, false, false] rfl rfl (by kernel_rfl) (fun _ _ _ h => h) (Or.inl ⟨by rfl, ?_⟩) ?_ ?_
        rotate_left
        · intro w'
          go_simp
          with_reducible rfl
        rotate_left
        · simp only [Act.put, List.setIfInBounds_toArray, List.set_cons_zero, List.set_cons_succ, i64_w, i32_w]
          rfl
        refine take_ (i := 3) (N := some 22) (v := ?_) (a' := ?_) #[true, true, true, true, true, false, false, false, true, false, false] rfl rfl (by kernel_rfl) (fun _ _ _ h => h) (Or.inl ⟨by rfl, ?_⟩) hHeld ?_ ?_
        rotate_left
        · rintro w' ⟨s0, s1, s2⟩
          go_simp
          with_reducible rfl
        rotate_left
        · simp only [Act.put, List.setIfInBounds_toArray, List.set_cons_zero, List.set_cons_succ, i64_w, i32_w]
          rfl
        refine take_ (i := 5) (N := some 24) (v := ?_) (a' := ?_) #[true, true, true, true, true, true, false, false, true, false, false] rfl rfl (by kernel_rfl) (fun _ _ _ h => h) (Or.inl ⟨by rfl, ?_⟩) hHeld ?_ ?_
        rotate_left
        · rintro w' ⟨s0, s1, s2⟩
          go_simp
          with_reducible rfl
        rotate_left
        · simp only [Act.put, List.setIfInBounds_toArray, List.set_cons_zero, List.set_cons_succ, i64_w, i32_w]
          rfl
        refine pure_ (i := 6) (N := some 25) (v := ?_) (a' := ?_) #[true, true, true, true, true, true, true, false, true, false, false] rfl rfl (by kernel_rfl) (fun _ _ _ h => h) (Or.inl ⟨by rfl, ?_⟩) ?_ ?_
        rotate_left
        · intro w'
          go_simp
          with_reducible rfl
        rotate_left
        · simp only [Act.put, List.setIfInBounds_toArray, List.set_cons_zero, List.set_cons_succ, i64_w, i32_w]
          rfl
        refine pure_ (i := 7) (N := some 26) (v := ?_) (a' := ?_) #[true, true, true, true, true, true, true, true, true, false, false] rfl rfl (by kernel_rfl) (fun _ _ _ h => h) (Or.inl ⟨by rfl, ?_⟩) ?_ ?_
        rotate_left
        · intro w'
          go_simp
          with_reducible rfl
        rotate_left
        · simp only [Act.put, List.setIfInBounds_toArray, List.set_cons_zero, List.set_cons_succ, i64_w, i32_w]
          rfl
        refine take_ (i := 9) (N := some 28) (v := ?_) (a' := ?_) #[true, true, true, true, true, true, true, true, true, true, false] rfl rfl (by kernel_rfl) (fun _ _ _ h => h) (Or.inl ⟨by rfl, ?_⟩) hHeld ?_ ?_
        rotate_left
        · rintro w' ⟨s0, s1, s2⟩
          go_simp
          with_reducible rfl
        rotate_left
        · simp only [Act.put, List.setIfInBounds_toArray, List.set_cons_zero, List.set_cons_succ, i64_w, i32_w]
          rfl
        refine last_ (i := 10) (N := some 29) #[true, true, true, true, true, true, true, true, true, true, true] rfl rfl (by kernel_rfl) (by decide) (fun K hK => ?_)
        refine step_copy_row rfl (.tmp 26) (.tmp 28) 22 22 rfl 5 Try.underlying22 (by kernel_rfl) gd (q * 128) (disk.length - q * 128) (cap - q * 128) ad1 (rd_T32 cache i).f1.length c1 rfl rfl cur 5 HGD.out (encs (Value.int .u8) (rd_T32 cache i).f1) ?cn ?cs ?cf ?c1 ?_
        (case cn => simp only [encs, List.length_map]; exact (Nat.min_eq_left (by omega)).symm)
        (case cs => exact HS1.out)
        (case cf => simp [encs]; omega)
        (case c1 => exact enc_one _)
        refine hK.out _ _ ?_
        clear hK K
        refine norm_ (a' := ?_) ?_ ?_
        rotate_left
        · show Act.put _ (some 29) _ = _
          simp only [Act.put, List.setIfInBounds_toArray, List.set_cons_zero, List.set_cons_succ, i64_w, i32_w]
          rfl
        refine done_ (by kernel_rfl) ?_
        have hL := HL.out
        have hsl := HSL.out
        have hlc : (encs (Value.int .u8) (rd_T32 cache i).f1).length = 128 := by simp [encs, hL]
        have hcl : (splice cur.toList (q * 128) (encs (Value.int .u8) (rd_T32 cache i).f1)).length = cur.size := by rw [length_splice _ _ _ (by rw [hlc]; simp; omega)]; simp
        have hgd2 := setRow_heap w1.drew gd cur (splice cur.toList (q * 128) (encs (Value.int .u8) (rd_T32 cache i).f1)).toArray 5 (0, 0) HGD.out
        have hoth : ∀ k, k ≠ gd → (w1.drew.setRow gd (splice cur.toList (q * 128) (encs (Value.int .u8) (rd_T32 cache i).f1)).toArray).heap[k]? = w1.heap[k]? := fun k hk => setRow_other w1.drew gd k _ hk
        have hnew : (w1.drew.setRow gd (splice cur.toList (q * 128) (encs (Value.int .u8) (rd_T32 cache i).f1)).toArray).ownsRow w0.heap.size 5 1 (.slice (some ⟨gd, 0, none⟩) disk.length cap) (settleTo kp cache disk (i + 1)).length (encs (Value.int .u8) (settleTo kp cache disk (i + 1))) := by
          have e1 : settleTo kp cache disk (i + 1) = splice (settleTo kp cache disk i) (q * 128) (rd_T32 cache i).f1 := by
            simp only [settleTo, HKI.out, if_true]
            rw [HQ.out]; rfl
          have e2 : (settleTo kp cache disk (i + 1)).length = disk.length := settle_length kp b cache disk HD.out HC.out (i + 1) (by omega)
          refine ⟨by simp [encs], .inr ⟨gd, cap, _, by rw [e2], hgd0, hgd2, by rw [e2]; exact hn1, hcapm, by simpa [hcl] using (by omega : cur.size = cap), ?_⟩⟩
          rw [e2, e1, splice_nums, ← HTK.out, Nat.mul_one]
          exact splice_take _ _ _ _ (by rw [hlc]; omega) (by simp; omega)
        have HNEW := Aside0.mk hnew
        have HOTH := Aside0.mk hoth
        clear hnew hoth hgd2 hL hsl hlc hcl
        go_wp2
        go_roundg (gk - 1)
        case measure => omega
        case rel =>
          refine ⟨i + 1, by go_num, by omega, ⟨?_⟩, ⟨Kd.R_of_own HNEW.out (fun k hk => ?_)⟩, ⟨Kd.S_move hr21.out (fun k hk => HOTH.out k (fun e => hk.2 (by rw [e]; simp [Value.ownBlock])))⟩, ⟨?_⟩, ⟨?_, ?_⟩⟩
          · exact (HOTH.out g hne).trans hbk1.out
          · simp only [Value.ownBlock, Option.some.injEq] at hk; exact fun e => hne (by rw [← e, ← hk])
          · exact below_setRow (HW1.out _ HB1.out).1.drew hgd0 _
          · simp; exact (HW1.out _ HB1.out).2.1
          · intro k hk h4 h5
            exact (HOTH.out k (fun e => h5 (by rw [e]; simp [Value.ownBlock]))).trans ((HW1.out _ HB1.out).2.2 k hk h4 h5)
    · have hf : decide ((i : Int) < cache.length) = false := by simp; omega
      have h2 : wr.cell? ⟨g, 2, none⟩ = some (.slice A2 cache.length c2) := (blk_cell hbk.out 2).trans rfl
      have hfz := blk_frozen hbk.out
      go_wp2
      go_end0
      have e : i = cache.length := by omega
      have hr := hr1.out
      rw [e] at hr
      refine ⟨rfl, hB.out.setCell hg _, blk_put hbk.out 2 _ rfl, Kd.R_far (p := ⟨g, 2, none⟩) hr (fun k hk => hk) _, fun k hk h4 h5 => (Below.heap_setCell _ _ _ k h4).trans (hF.out.2 k hk h4 h5)⟩

end Go.Proofs.Ytnkgclcmjojeiaa.PFnDeviceReads
