/- Plain parts of the proof of the law FnExactEncodeTable (numbers and lists alone). No conditions of our own. -/
import Derived.Test.YtnkgclcmjojeiaaDoorPFnExactEncodeTablex
import Derived.Deep.Slices
import Derived.Deep.Fields
import Derived.ChangeSame
namespace Go.Proofs.YtnkgclcmjojeiaaDoor.PFnExactEncodeTable
open Go.RowKit Go.Proofs.YtnkgclcmjojeiaaDoorW.PrintWords Go.Proofs.YtnkgclcmjojeiaaDoorW.PrintLast Go.Proofs.YtnkgclcmjojeiaaDoorW.PrintMore
set_option linter.unusedVariables false
set_option linter.unusedSimpArgs false
/-! The sum, as both texts reckon it. -/
theorem w64s (i : Int) (h0 : 0 ≤ i) (h1 : i < 9223372036854775807) : wrap64 (i + 1) = i + 1 := by unfold wrap64; omega
def crc8 : Nat → Int → Int
  | 0, r => r
  | n + 1, r => crc8 n (if Go.bits .and .u32 r 1 = 1 then Go.bits .xor .u32 (r / 2) 3988292384 else r / 2)
def crcAll : List Int → Int → Int
  | [], r => r
  | b :: l, r => crcAll l (crc8 8 (Go.bits .xor .u32 r (b % 4294967296)))
theorem scrc_l1 (x : List Int) (i : Int) (n : Nat) : ∀ (k : Nat) (r : Int), n ≤ 8 → spec_Crc32.l1 (k + n + 1) x r i (8 - (n : Int)) = spec_Crc32.l0 k x (crc8 n r) (wrap64 (i + 1)) := by
  induction n with
  | zero =>
    intro k r _
    simp only [spec_Crc32.l1]
    rw [if_neg (by omega)]
    rfl
  | succ n ih =>
    intro k r hn
    rw [show k + (n + 1) + 1 = (k + n + 1) + 1 by omega]
    simp only [spec_Crc32.l1]
    rw [if_pos (by omega), w64s _ (by omega) (by omega), show (8 - ((n + 1 : Nat) : Int)) + 1 = 8 - (n : Int) by omega]
    simp only [crc8]
    by_cases h : Go.bits .and .u32 r 1 = 1
    · rw [if_pos h, if_pos h]; exact ih k _ (by omega)
    · rw [if_neg h, if_neg h]; exact ih k _ (by omega)
theorem icrc_l1 (x : List Int) (L i : Int) (n : Nat) : ∀ (k : Nat) (r : Int), n ≤ 8 → impl_Crc32.l1 (k + n + 1) r x L i (8 - (n : Int)) = impl_Crc32.l0 k (crc8 n r) x L (wrap64 (i + 1)) := by
  induction n with
  | zero =>
    intro k r _
    simp only [impl_Crc32.l1]
    rw [if_neg (by omega)]
    rfl
  | succ n ih =>
    intro k r hn
    rw [show k + (n + 1) + 1 = (k + n + 1) + 1 by omega]
    simp only [impl_Crc32.l1]
    rw [if_pos (by omega), w64s _ (by omega) (by omega), show (8 - ((n + 1 : Nat) : Int)) + 1 = 8 - (n : Int) by omega]
    simp only [crc8]
    by_cases h : Go.bits .and .u32 r 1 = 1
    · rw [if_pos h, if_pos h]; exact ih k _ (by omega)
    · rw [if_neg h, if_neg h]; exact ih k _ (by omega)
theorem rd_at (x : List Int) (i : Nat) (h : i < x.length) : rd x (i : Int) = x[i] := by simp [rd, List.getD_eq_getElem?_getD, h]
theorem scrc_l0 (x : List Int) (hx : x.length ≤ 16777216) (d : Nat) : ∀ (k i : Nat) (r : Int), i + d = x.length → 10 * d < k → spec_Crc32.l0 k x r (i : Int) = some (Go.bits .xor .u32 (crcAll (x.drop i) r) 4294967295) := by
  induction d with
  | zero =>
    intro k i r hi hk
    obtain ⟨k, rfl⟩ : ∃ m, k = m + 1 := ⟨k - 1, by omega⟩
    simp only [spec_Crc32.l0]
    rw [if_neg (by omega), List.drop_of_length_le (by omega)]
    rfl
  | succ d ih =>
    intro k i r hi hk
    obtain ⟨k, rfl⟩ : ∃ m, k = m + 8 + 1 + 1 := ⟨k - 10, by omega⟩
    simp only [spec_Crc32.l0]
    rw [if_pos (by omega), if_pos (by omega), rd_at x i (by omega), show (0 : Int) = 8 - ((8 : Nat) : Int) by omega, scrc_l1 x i 8 k _ (by omega), w64s _ (by omega) (by omega), List.drop_eq_getElem_cons (show i < x.length by omega), show ((i : Int) + 1) = ((i + 1 : Nat) : Int) by omega]
    exact ih k (i + 1) _ (by omega) (by omega)
theorem icrc_l0 (x : List Int) (hx : x.length ≤ 16777216) (d : Nat) : ∀ (k i : Nat) (r : Int), i + d = x.length → 10 * d < k → impl_Crc32.l0 k r x (x.length : Int) (i : Int) = some (Go.bits .xor .u32 4294967295 (crcAll (x.drop i) r)) := by
  induction d with
  | zero =>
    intro k i r hi hk
    obtain ⟨k, rfl⟩ : ∃ m, k = m + 1 := ⟨k - 1, by omega⟩
    simp only [impl_Crc32.l0]
    rw [if_neg (by omega), List.drop_of_length_le (by omega)]
    rfl
  | succ d ih =>
    intro k i r hi hk
    obtain ⟨k, rfl⟩ : ∃ m, k = m + 8 + 1 + 1 := ⟨k - 10, by omega⟩
    simp only [impl_Crc32.l0]
    rw [if_pos (by omega), if_pos (by omega), if_pos (by omega), rd_at x i (by omega), show (0 : Int) = 8 - ((8 : Nat) : Int) by omega, icrc_l1 x _ i 8 k _ (by omega), w64s _ (by omega) (by omega), List.drop_eq_getElem_cons (show i < x.length by omega), show ((i : Int) + 1) = ((i + 1 : Nat) : Int) by omega]
    exact ih k (i + 1) _ (by omega) (by omega)
theorem xor_comm32 (a b : Int) : Go.bits .xor .u32 a b = Go.bits .xor .u32 b a := by
  unfold Go.bits
  show IntKind.u32.wrap ((BitVec.ofInt _ a ^^^ BitVec.ofInt _ b).toNat : Int) = IntKind.u32.wrap ((BitVec.ofInt _ b ^^^ BitVec.ofInt _ a).toNat : Int)
  rw [BitVec.xor_comm]
def crcOf (x : List Int) : Int := Go.bits .xor .u32 4294967295 (crcAll x 4294967295)
theorem scrc_ok (x : List Int) (hx : x.length ≤ 16777216) (k : Nat) (hk : 10 * x.length < k) : spec_Crc32.f k x = some (crcOf x) := by
  have := scrc_l0 x hx x.length k 0 4294967295 (by omega) hk
  unfold spec_Crc32.f crcOf
  rw [xor_comm32]
  simpa using this
theorem icrc_ok (x : List Int) (hx : x.length ≤ 16777216) (k : Nat) (hk : 10 * x.length < k) : impl_Crc32.f k x = some (crcOf x) := by
  have := icrc_l0 x hx x.length k 0 4294967295 (by omega) hk
  simpa [impl_Crc32.f, crcOf] using this
theorem crcOf_range (x : List Int) : 0 ≤ crcOf x ∧ crcOf x < 4294967296 := by
  unfold crcOf Go.bits
  rw [IntKind.wrap_u32]
  omega

theorem shr_at (v : Int) (n : Nat) (hn : n < 8) : shr .i64 v (IntKind.u64.wrap (wrap64 (8 * (n : Int)))) % 256 = v / 2 ^ (8 * n) % 256 := by
  have e1 : wrap64 (8 * (n : Int)) = 8 * (n : Int) := by unfold wrap64; omega
  have e2 : IntKind.u64.wrap (8 * (n : Int)) = 8 * (n : Int) := by rw [IntKind.wrap_u64]; omega
  rw [e1, e2]
  unfold shr
  rw [show (8 * (n : Int)).toNat = 8 * n by omega, Nat.min_eq_left (by show 8 * n ≤ 64; omega)]
theorem num_loop (l : List Int) (v : Int) (w : Nat) (hw : w ≤ 8) (hl : l.length ≤ 1000000) (d : Nat) : ∀ (k i : Nat), i + d = w → d < k → spec_l2Num.l0 k (l ++ numB v i) v (w : Int) (i : Int) = some (l ++ numB v w) := by
  induction d with
  | zero =>
    intro k i hi hk
    obtain ⟨k, rfl⟩ : ∃ m, k = m + 1 := ⟨k - 1, by omega⟩
    simp only [spec_l2Num.l0]
    rw [if_neg (by omega), show i = w by omega]
  | succ d ih =>
    intro k i hi hk
    obtain ⟨k, rfl⟩ : ∃ m, k = m + 1 := ⟨k - 1, by omega⟩
    simp only [spec_l2Num.l0]
    have e1 : wrap64 (8 * (i : Int)) = 8 * (i : Int) := by unfold wrap64; omega
    have e2 : 0 ≤ IntKind.u64.wrap (wrap64 (8 * (i : Int))) := by rw [e1, IntKind.wrap_u64]; omega
    rw [if_pos (by omega), if_pos e2, if_pos (by rw [List.length_append, numB_length]; omega), shr_at v i (by omega), w64s _ (by omega) (by omega), List.append_assoc, ← numB_succ, show ((i : Int) + 1) = ((i + 1 : Nat) : Int) by omega]
    exact ih k (i + 1) (by omega) (by omega)
theorem num_ok (l : List Int) (v : Int) (w : Nat) (hw : w ≤ 8) (hl : l.length ≤ 1000000) (k : Nat) (hk : 8 < k) : spec_l2Num.f k l v (w : Int) = some (l ++ numB v w) := by
  have := num_loop l v w hw hl w k 0 (by omega) (by omega)
  simpa [spec_l2Num.f, numB] using this
theorem seal_loop (l : List Int) (hl : l.length ≤ 124) (d : Nat) : ∀ (k i : Nat), l.length + i + d = 124 → d + 1300 ≤ k → spec_l2Seal.l0 k (l ++ List.replicate i 0) = some (l ++ List.replicate (124 - l.length) 0 ++ numB (crcOf (l ++ List.replicate (124 - l.length) 0)) 4) := by
  induction d with
  | zero =>
    intro k i hi hk
    obtain ⟨k, rfl⟩ : ∃ m, k = m + 1 := ⟨k - 1, by omega⟩
    unfold spec_l2Seal.l0
    have hlen : (l ++ List.replicate i (0 : Int)).length = 124 := by simp; omega
    rw [if_neg (by rw [hlen]; decide), show i = 124 - l.length by omega] at *
    rw [scrc_ok _ (by rw [hlen]; omega) k (by rw [hlen]; omega)]
    simp only [Option.bind_some]
    obtain ⟨h0, h1⟩ := crcOf_range (l ++ List.replicate (124 - l.length) 0)
    rw [show wrap64 (crcOf (l ++ List.replicate (124 - l.length) 0)) = crcOf (l ++ List.replicate (124 - l.length) 0) by unfold wrap64; omega]
    have := num_ok (l ++ List.replicate (124 - l.length) 0) (crcOf (l ++ List.replicate (124 - l.length) 0)) 4 (by omega) (by rw [hlen]; omega) k (by omega)
    rw [show (4 : Int) = ((4 : Nat) : Int) by rfl, this]
    rfl
  | succ d ih =>
    intro k i hi hk
    obtain ⟨k, rfl⟩ : ∃ m, k = m + 1 := ⟨k - 1, by omega⟩
    unfold spec_l2Seal.l0
    have hlen : (l ++ List.replicate i (0 : Int)).length = l.length + i := by simp
    rw [if_pos (by rw [hlen]; omega), if_pos (by rw [hlen]; omega), List.append_assoc, show List.replicate i (0 : Int) ++ [0] = List.replicate (i + 1) 0 by rw [List.replicate_succ']]
    exact ih k (i + 1) (by omega) (by omega)
theorem pad_take (P : List Int) (h : P.length ≤ 124) : (padB P).take 124 = P ++ List.replicate (124 - P.length) 0 := by
  unfold padB
  rw [List.take_append, List.take_of_length_le (by omega), List.take_replicate, Nat.min_eq_left (by omega)]
theorem seal_ok (l : List Int) (hl : l.length ≤ 124) (k : Nat) (hk : 1500 ≤ k) : spec_l2Seal.f k l = some ((padB l).take 124 ++ numB (crcOf ((padB l).take 124)) 4) := by
  have := seal_loop l hl (124 - l.length) k 0 (by omega) (by omega)
  rw [pad_take l hl]
  simpa [spec_l2Seal.f] using this

def runOk1 (r : S85) : Bool := !decide (r.f0 < 2) && !decide (r.f0 > 512) && !decide (r.f1 < 1) && !decide (r.f1 > 512) && !decide (wrap64 (r.f0 + r.f1) > 512) && !decide (r.f2 < 1) && !decide (r.f2 > 65535)
def runOk2 (p r : S85) : Bool := !decide (r.f0 < wrap64 (p.f0 + p.f1)) && !(decide (r.f0 = wrap64 (p.f0 + p.f1)) && decide (r.f2 = p.f2))
def runOkAt (runs : List S85) (i : Nat) : Bool := runOk1 (rd_T85 runs (i : Int)) && (decide (i = 0) || runOk2 (rd_T85 runs ((i : Int) - 1)) (rd_T85 runs (i : Int)))
def allFrom (ok : Nat → Bool) : Nat → Nat → Bool
  | 0, _ => true
  | d + 1, i => ok i && allFrom ok d (i + 1)
theorem spec_runs_step (runs : List S85) (hl : runs.length ≤ 16777216) (i k : Nat) (hi : i < runs.length) : spec_l2RunsOK.l0 (k + 2) runs 512 (i : Int) = if runOkAt runs i = true then spec_l2RunsOK.l0 k runs 512 ((i + 1 : Nat) : Int) else some false := by
  have tail : ∀ b : Bool, spec_l2RunsOK.j1 (k + 1) runs 512 (i : Int) b (rd_T85 runs (i : Int)).f0 (rd_T85 runs (i : Int)).f1 (rd_T85 runs (i : Int)).f2 = if b = true then some false else if (decide (i = 0) || runOk2 (rd_T85 runs ((i : Int) - 1)) (rd_T85 runs (i : Int))) = true then spec_l2RunsOK.l0 k runs 512 ((i + 1 : Nat) : Int) else some false := by
    intro b
    simp only [spec_l2RunsOK.j1]
    rw [w64s _ (by omega) (by omega), show ((i : Int) + 1) = ((i + 1 : Nat) : Int) by omega]
    by_cases hb : b = true
    · rw [if_pos hb, if_pos hb]
    · rw [if_neg hb, if_neg hb]
      by_cases h0 : i = 0
      · rw [if_neg (by omega)]; simp [h0]
      · rw [if_pos (by omega), show wrap64 ((i : Int) - 1) = (i : Int) - 1 by unfold wrap64; omega, if_pos (by omega), if_pos (by omega)]
        generalize rd_T85 runs (i : Int) = r
        generalize rd_T85 runs ((i : Int) - 1) = p
        unfold runOk2
        by_cases h1 : r.f0 < wrap64 (p.f0 + p.f1)
        · simp [h1, h0]
        · by_cases h2 : r.f0 = wrap64 (p.f0 + p.f1)
          · by_cases h3 : r.f2 = p.f2 <;> simp [h0, h1, h2, h3]
          · simp [h0, h1, h2]
  rw [show k + 2 = (k + 1) + 1 by rfl]
  simp only [spec_l2RunsOK.l0]
  rw [if_pos (by omega), if_pos (by omega)]
  simp only [tail]
  unfold runOkAt runOk1
  generalize rd_T85 runs (i : Int) = r
  by_cases h1 : r.f0 < 2
  · simp [h1]
  · by_cases h2 : r.f0 > 512
    · simp [h1, h2]
    · by_cases h3 : r.f1 < 1
      · simp [h1, h2, h3]
      · by_cases h4 : r.f1 > 512
        · simp [h1, h2, h3, h4]
        · by_cases h5 : wrap64 (r.f0 + r.f1) > 512
          · simp [h1, h2, h3, h4, h5]
          · by_cases h6 : r.f2 < 1
            · simp [h1, h2, h3, h4, h5, h6]
            · by_cases h7 : r.f2 > 65535 <;> simp [h1, h2, h3, h4, h5, h6, h7]
theorem impl_runs_step (runs : List S85) (hl : runs.length ≤ 16777216) (i k : Nat) (hi : i < runs.length) : impl_inOrder.l0 (k + 3) runs runs (runs.length : Int) (i : Int) = if runOkAt runs i = true then impl_inOrder.l0 k runs runs (runs.length : Int) ((i + 1 : Nat) : Int) else some false := by
  have tail : ∀ b : Bool, impl_inOrder.j2 (k + 1) runs (i : Int) runs (runs.length : Int) (i : Int) b (rd_T85 runs (i : Int)).f0 (rd_T85 runs (i : Int)).f1 (rd_T85 runs (i : Int)).f2 = if b = true then some false else if (decide (i = 0) || runOk2 (rd_T85 runs ((i : Int) - 1)) (rd_T85 runs (i : Int))) = true then impl_inOrder.l0 k runs runs (runs.length : Int) ((i + 1 : Nat) : Int) else some false := by
    intro b
    simp only [impl_inOrder.j2]
    rw [w64s _ (by omega) (by omega), show ((i : Int) + 1) = ((i + 1 : Nat) : Int) by omega]
    by_cases hb : b = true
    · rw [if_pos hb, if_pos hb]
    · rw [if_neg hb, if_neg hb]
      by_cases h0 : i = 0
      · rw [if_pos (by omega)]; simp [h0]
      · rw [if_neg (by omega), show wrap64 ((i : Int) - 1) = (i : Int) - 1 by unfold wrap64; omega, if_pos (by omega), if_pos (by omega)]
        generalize rd_T85 runs (i : Int) = r
        generalize rd_T85 runs ((i : Int) - 1) = p
        unfold runOk2
        by_cases h1 : r.f0 < wrap64 (p.f0 + p.f1)
        · simp [h1, h0]
        · by_cases h2 : r.f0 = wrap64 (p.f0 + p.f1)
          · by_cases h3 : r.f2 = p.f2 <;> simp [h0, h1, h2, h3]
          · simp [h0, h1, h2]
  have mid : ∀ b : Bool, impl_inOrder.j1 (k + 2) runs (i : Int) runs (runs.length : Int) (i : Int) b (rd_T85 runs (i : Int)).f0 (rd_T85 runs (i : Int)).f1 (rd_T85 runs (i : Int)).f2 = if b = true then some false else if (rd_T85 runs (i : Int)).f2 < 1 ∨ (rd_T85 runs (i : Int)).f2 > 65535 then some false else if (decide (i = 0) || runOk2 (rd_T85 runs ((i : Int) - 1)) (rd_T85 runs (i : Int))) = true then impl_inOrder.l0 k runs runs (runs.length : Int) ((i + 1 : Nat) : Int) else some false := by
    intro b
    rw [show k + 2 = (k + 1) + 1 by rfl]
    simp only [impl_inOrder.j1, tail]
    generalize rd_T85 runs (i : Int) = r
    by_cases h6 : r.f2 < 1
    · simp [h6]
    · by_cases h7 : r.f2 > 65535 <;> simp [h6, h7]
  rw [show k + 3 = (k + 2) + 1 by rfl]
  simp only [impl_inOrder.l0]
  rw [if_pos (by omega), if_pos (by omega), if_pos (by omega)]
  simp only [mid]
  unfold runOkAt runOk1
  generalize rd_T85 runs (i : Int) = r
  by_cases h1 : r.f0 < 2
  · simp [h1]
  · by_cases h2 : r.f0 > 512
    · by_cases h3 : r.f1 < 1 <;> simp [h1, h2, h3]
    · by_cases h3 : r.f1 < 1
      · simp [h1, h2, h3]
      · by_cases h4 : r.f1 > 512
        · simp [h1, h2, h3, h4]
        · by_cases h5 : wrap64 (r.f0 + r.f1) > 512
          · simp [h1, h2, h3, h4, h5]
          · by_cases h6 : r.f2 < 1
            · simp [h1, h2, h3, h4, h5, h6]
            · by_cases h7 : r.f2 > 65535 <;> simp [h1, h2, h3, h4, h5, h6, h7]
theorem spec_runs_loop (runs : List S85) (hl : runs.length ≤ 16777216) (d : Nat) : ∀ (k i : Nat), i + d = runs.length → 2 * d < k → spec_l2RunsOK.l0 k runs 512 (i : Int) = some (allFrom (runOkAt runs) d i) := by
  induction d with
  | zero =>
    intro k i hi hk
    obtain ⟨k, rfl⟩ : ∃ m, k = m + 1 := ⟨k - 1, by omega⟩
    simp only [spec_l2RunsOK.l0]
    rw [if_neg (by omega)]
    rfl
  | succ d ih =>
    intro k i hi hk
    obtain ⟨k, rfl⟩ : ∃ m, k = m + 2 := ⟨k - 2, by omega⟩
    rw [spec_runs_step runs hl i k (by omega)]
    simp only [allFrom]
    cases runOkAt runs i with
    | true => rw [if_pos rfl, ih k (i + 1) (by omega) (by omega)]; rfl
    | false => rfl
theorem impl_runs_loop (runs : List S85) (hl : runs.length ≤ 16777216) (d : Nat) : ∀ (k i : Nat), i + d = runs.length → 3 * d < k → impl_inOrder.l0 k runs runs (runs.length : Int) (i : Int) = some (allFrom (runOkAt runs) d i) := by
  induction d with
  | zero =>
    intro k i hi hk
    obtain ⟨k, rfl⟩ : ∃ m, k = m + 1 := ⟨k - 1, by omega⟩
    simp only [impl_inOrder.l0]
    rw [if_neg (by omega)]
    rfl
  | succ d ih =>
    intro k i hi hk
    obtain ⟨k, rfl⟩ : ∃ m, k = m + 3 := ⟨k - 3, by omega⟩
    rw [impl_runs_step runs hl i k (by omega)]
    simp only [allFrom]
    cases runOkAt runs i with
    | true => rw [if_pos rfl, ih k (i + 1) (by omega) (by omega)]; rfl
    | false => rfl
def runsOk (runs : List S85) : Bool := allFrom (runOkAt runs) runs.length 0
theorem spec_runs_ok (runs : List S85) (hl : runs.length ≤ 16777216) (k : Nat) (hk : 3 * runs.length < k) : spec_l2RunsOK.f k runs 512 = some (runsOk runs) := spec_runs_loop runs hl _ k 0 (by omega) (by omega)
theorem impl_runs_ok (runs : List S85) (hl : runs.length ≤ 16777216) (k : Nat) (hk : 3 * runs.length < k) : impl_inOrder.f k runs = some (runsOk runs) := impl_runs_loop runs hl _ k 0 (by omega) hk
/-! The table's bytes. -/
def tblSound (next : Int) (runs : List S85) : Bool := (decide (next = 0) || !decide (next < 2) && !decide (next ≥ 512)) && decide (runs.length ≤ 20) && runsOk runs
def tblBytes (next : Int) (runs : List S85) : List Int := (padB (tblOut (runs.length : Int) next runs)).take 124 ++ numB (crcOf ((padB (tblOut (runs.length : Int) next runs)).take 124)) 4
theorem impl_sound_ok (kd n next : Int) (runs : List S85) (hl : runs.length ≤ 16777216) (k : Nat) (hk : 3 * runs.length < k) : impl_tableForm_sound.f k kd n next runs = some (tblSound next runs) := by
  unfold impl_tableForm_sound.f tblSound
  rw [impl_runs_ok runs hl k hk]
  have e : ((runs.length : Int) ≤ 20) = (runs.length ≤ 20) := by simp; omega
  simp only [e, Option.bind_some]
  by_cases h0 : next = 0
  · by_cases h1 : runs.length ≤ 20 <;> simp [h0, h1]
  · by_cases h2 : next < 2
    · simp [h0, h2]
    · by_cases h3 : next ≥ 512
      · simp [h0, h2, h3]
      · by_cases h1 : runs.length ≤ 20 <;> simp [h0, h1, h2, h3]
theorem impl_enc_ok (next : Int) (runs : List S85) (hl : runs.length ≤ 16777216) (k : Nat) (hk : 3 * runs.length + 2000 < k) : impl_EncodeTable.f k next runs = some (if tblSound next runs = true then (tblBytes next runs, 0) else ([], 5)) := by
  unfold impl_EncodeTable.f
  rw [impl_sound_ok _ _ _ _ hl k (by omega)]
  simp only [Option.bind_some]
  by_cases hs : tblSound next runs = true
  · have hn : runs.length ≤ 20 := by unfold tblSound at hs; simp at hs; exact hs.1.2
    have hp : (padB (tblOut (runs.length : Int) next runs)).length = 128 := padB_length (by rw [tblOut_length]; omega)
    rw [if_pos hs, if_pos hn, if_pos hs, icrc_ok _ (by rw [List.length_take]; omega) k (by rw [List.length_take]; omega)]
    generalize hx : crcOf ((padB (tblOut (runs.length : Int) next runs)).take 124) = x
    have hr := crcOf_range ((padB (tblOut (runs.length : Int) next runs)).take 124)
    rw [hx] at hr
    rw [Option.bind_some, if_pos hr, ← hx]
    unfold tblBytes
    exact Eq.refl _
  · rw [if_neg hs, if_neg hs]
theorem spec_enc_loop (next : Int) (runs : List S85) (hl : runs.length ≤ 20) (d : Nat) : ∀ (k i : Nat), i + d = runs.length → d + 2000 < k → spec_EncodeTable.l0 k (tblOut (runs.length : Int) next (runs.take i)) (i : Int) next runs = some (tblBytes next runs, 0) := by
  induction d with
  | zero =>
    intro k i hi hk
    obtain ⟨k, rfl⟩ : ∃ m, k = m + 1 := ⟨k - 1, by omega⟩
    simp only [spec_EncodeTable.l0]
    rw [if_neg (by omega), List.take_of_length_le (by omega), seal_ok _ (by rw [tblOut_length]; omega) k (by omega)]
    rfl
  | succ d ih =>
    intro k i hi hk
    obtain ⟨k, rfl⟩ : ∃ m, k = m + 1 := ⟨k - 1, by omega⟩
    have hlt : (tblOut (runs.length : Int) next (runs.take i)).length ≤ 124 := by rw [tblOut_length, List.length_take]; omega
    simp only [spec_EncodeTable.l0]
    rw [if_pos (by omega), if_pos (by omega), show (2 : Int) = ((2 : Nat) : Int) by rfl, num_ok _ _ 2 (by omega) (by omega) k (by omega)]
    simp only [Option.bind_some]
    rw [num_ok _ _ 2 (by omega) (by rw [List.length_append, numB_length]; omega) k (by omega)]
    simp only [Option.bind_some]
    rw [num_ok _ _ 2 (by omega) (by rw [List.length_append, List.length_append, numB_length, numB_length]; omega) k (by omega)]
    simp only [Option.bind_some]
    rw [← tblOut_snoc _ _ _ i (by omega), w64s _ (by omega) (by omega), show ((i : Int) + 1) = ((i + 1 : Nat) : Int) by omega]
    exact ih k (i + 1) (by omega) (by omega)
theorem spec_enc_ok (next : Int) (runs : List S85) (hl : runs.length ≤ 16777216) (k : Nat) (hk : 3 * runs.length + 3000 < k) : spec_EncodeTable.f k next runs = some (if tblSound next runs = true then (tblBytes next runs, 0) else ([], 5)) := by
  obtain ⟨k, rfl⟩ : ∃ m, k = m + 1 := ⟨k - 1, by omega⟩
  have fin : ∀ b : Bool, (b = false → runs.length ≤ 20) → spec_EncodeTable.j0 (k + 1) b next runs = some (if b = true then ([], 5) else (tblBytes next runs, 0)) := by
    intro b hb
    simp only [spec_EncodeTable.j0]
    cases b with
    | true => rfl
    | false =>
      have hn := hb rfl
      rw [if_neg (by decide), if_neg (by decide), show (2 : Int) = ((2 : Nat) : Int) by rfl, num_ok _ _ 2 (by omega) (by simp) k (by omega)]
      simp only [Option.bind_some]
      have := spec_enc_loop next runs hn runs.length k 0 (by omega) (by omega)
      rw [List.take_zero] at this
      rw [show ([3, (runs.length : Int) % 256] ++ numB next 2) = tblOut (runs.length : Int) next [] by simp [tblOut]]
      exact this
  unfold spec_EncodeTable.f tblSound
  rw [spec_runs_ok runs hl (k + 1) (by omega)]
  simp only [Option.bind_some]
  have e : ((runs.length : Int) > 20) = (¬ runs.length ≤ 20) := by simp; omega
  simp only [e]
  by_cases h1 : runs.length ≤ 20
  · have f2 := fin (!runsOk runs) (fun _ => h1)
    have f3 := fin true (by simp)
    by_cases h0 : next = 0
    · rw [if_pos h0, if_neg (by simpa using h1), f2]
      cases runsOk runs <;> simp [h0, h1]
    · rw [if_neg h0]
      by_cases h2 : next < 2
      · rw [if_pos h2, f3]; simp [h0, h2]
      · rw [if_neg h2]
        by_cases h3 : next ≥ 512
        · rw [if_pos h3, f3]; simp [h0, h2, h3]
        · rw [if_neg h3, if_neg (by simpa using h1), f2]
          cases runsOk runs <;> simp [h0, h1, h2, h3]
  · have f3 := fin true (by simp)
    simp only [h1, not_false_eq_true, if_true, f3]
    simp

/-! The laws' own helpers on bytes. -/
theorem eqB_loop (x : List Int) (hx : x.length ≤ 16777216) (d : Nat) : ∀ (k i : Nat), i + d = x.length → d < k → laws_eqByteS.l0 k x x (i : Int) = some true := by
  induction d with
  | zero =>
    intro k i hi hk
    obtain ⟨k, rfl⟩ : ∃ m, k = m + 1 := ⟨k - 1, by omega⟩
    simp only [laws_eqByteS.l0]
    rw [if_neg (by omega)]
  | succ d ih =>
    intro k i hi hk
    obtain ⟨k, rfl⟩ : ∃ m, k = m + 1 := ⟨k - 1, by omega⟩
    simp only [laws_eqByteS.l0]
    rw [if_pos (by omega), if_pos (by omega), if_pos (by omega), w64s _ (by omega) (by omega), show ((i : Int) + 1) = ((i + 1 : Nat) : Int) by omega]
    simp only [if_true]
    exact ih k (i + 1) (by omega) (by omega)
theorem eqB_ok (x : List Int) (hx : x.length ≤ 16777216) (k : Nat) (hk : x.length < k) : laws_eqByteS.f k x x = some true := by
  have := eqB_loop x hx x.length k 0 (by omega) hk
  simpa [laws_eqByteS.f] using this
/-- marked bytes: from place i on they are m, m + 1, .. -/
def markFrom (m : Int) : List Int → List Int
  | [] => []
  | _ :: l => m % 256 :: markFrom (m + 1) l
theorem markFrom_length (l : List Int) : ∀ m, (markFrom m l).length = l.length := by
  induction l with
  | nil => intro _; rfl
  | cons a l ih => intro m; simp [markFrom, ih]
theorem markB_loop (d : Nat) : ∀ (k i : Nat) (x : List Int) (m : Int), i + d = x.length → d < k → x.length ≤ 16777216 → 0 ≤ m → m + d ≤ 1000000000 →
    laws_markByteS.l0 k x m (i : Int) = some (m + d, x.take i ++ markFrom m (x.drop i)) := by
  induction d with
  | zero =>
    intro k i x m hi hk hx h0 h1
    obtain ⟨k, rfl⟩ : ∃ q, k = q + 1 := ⟨k - 1, by omega⟩
    simp only [laws_markByteS.l0]
    rw [if_neg (by omega), List.take_of_length_le (by omega), List.drop_of_length_le (by omega)]
    simp [markFrom]
  | succ d ih =>
    intro k i x m hi hk hx h0 h1
    obtain ⟨k, rfl⟩ : ∃ q, k = q + 1 := ⟨k - 1, by omega⟩
    simp only [laws_markByteS.l0]
    rw [if_pos (by omega), if_pos (by omega), w64s m h0 (by omega), w64s (i : Int) (by omega) (by omega), show ((i : Int) + 1) = ((i + 1 : Nat) : Int) by omega, ih k (i + 1) _ (m + 1) (by simp; omega) (by omega) (by simpa using hx) (by omega) (by omega)]
    have hlt : i < x.length := by omega
    congr 2
    · omega
    · rw [Int.toNat_natCast, List.drop_set_of_lt (by omega), List.drop_eq_getElem_cons hlt]
      simp only [markFrom]
      rw [List.take_succ_eq_append_getElem (by simpa using hlt), List.getElem_set_self, List.take_set_of_le (by omega), List.append_assoc]
      rfl
theorem markB_ok (x : List Int) (hx : x.length ≤ 16777216) (m : Int) (h0 : 0 ≤ m) (h1 : m ≤ 100000000) (k : Nat) (hk : x.length < k) : laws_markByteS.f k x m = some (m + x.length, markFrom m x) := by
  have := markB_loop x.length k 0 x m (by omega) hk hx h0 (by omega)
  simpa [laws_markByteS.f] using this
theorem markFrom_get (l : List Int) : ∀ (m : Int) (j : Nat) (hj : j < (markFrom m l).length), (markFrom m l)[j] = (m + j) % 256 := by
  induction l with
  | nil => intro m j hj; simp [markFrom] at hj
  | cons a l ih =>
    intro m j hj
    cases j with
    | zero => simp [markFrom]
    | succ j =>
      simp only [markFrom, List.getElem_cons_succ]
      rw [ih (m + 1) j (by simpa [markFrom] using hj)]
      congr 1
      omega
theorem heldB_loop (y : List Int) (m0 : Int) (h0 : 0 ≤ m0) (h1 : m0 ≤ 100000000) (hy : y.length ≤ 16777216) (hg : ∀ (j : Nat) (hj : j < y.length), y[j] = (m0 + j) % 256) (d : Nat) : ∀ (k i : Nat), i + d = y.length → d < k →
    laws_heldByteS.l0 k y (m0 + i) (i : Int) = some (m0 + y.length) := by
  induction d with
  | zero =>
    intro k i hi hk
    obtain ⟨k, rfl⟩ : ∃ q, k = q + 1 := ⟨k - 1, by omega⟩
    simp only [laws_heldByteS.l0]
    rw [if_neg (by omega), show i = y.length by omega]
  | succ d ih =>
    intro k i hi hk
    obtain ⟨k, rfl⟩ : ∃ q, k = q + 1 := ⟨k - 1, by omega⟩
    simp only [laws_heldByteS.l0]
    rw [if_pos (by omega), if_pos (by omega), rd_at y i (by omega), hg i (by omega), if_pos rfl, w64s (m0 + i) (by omega) (by omega), w64s (i : Int) (by omega) (by omega), show (m0 + (i : Int) + 1) = m0 + ((i + 1 : Nat) : Int) by omega, show ((i : Int) + 1) = ((i + 1 : Nat) : Int) by omega]
    exact ih k (i + 1) (by omega) (by omega)
theorem heldB_ok (x : List Int) (hx : x.length ≤ 16777216) (m : Int) (h0 : 0 ≤ m) (h1 : m ≤ 100000000) (k : Nat) (hk : x.length < k) : laws_heldByteS.f k (markFrom m x) m = some (m + x.length) := by
  have := heldB_loop (markFrom m x) m h0 h1 (by rw [markFrom_length]; exact hx) (fun j hj => markFrom_get x m j hj) x.length k 0 (by rw [markFrom_length]; omega) hk
  rw [markFrom_length] at this
  simpa [laws_heldByteS.f] using this

def toRuns (rs : List S155) : List S85 := rs.map fun r => ⟨r.f0, r.f1, r.f2⟩
theorem toRuns_length (rs : List S155) : (toRuns rs).length = rs.length := by simp [toRuns]
theorem rd_lRun (rs : List S155) (i : Nat) (h : i < rs.length) : rd_T155 rs (i : Int) = rs[i] := by simp [rd_T155, List.getD_eq_getElem?_getD, h]
theorem toRuns_loop (rs : List S155) (hl : rs.length ≤ 16777216) (d : Nat) : ∀ (k i : Nat), i + d = rs.length → d < k → laws_toRunS.l0 k rs ((toRuns rs).take i ++ List.replicate d z85) (i : Int) = some (toRuns rs) := by
  induction d with
  | zero =>
    intro k i hi hk
    obtain ⟨k, rfl⟩ : ∃ q, k = q + 1 := ⟨k - 1, by omega⟩
    simp only [laws_toRunS.l0]
    rw [if_neg (by omega), List.take_of_length_le (by rw [toRuns_length]; omega)]
    simp
  | succ d ih =>
    intro k i hi hk
    obtain ⟨k, rfl⟩ : ∃ q, k = q + 1 := ⟨k - 1, by omega⟩
    have hlt : i < rs.length := by omega
    have hlt2 : i < (toRuns rs).length := by rw [toRuns_length]; omega
    have htl : ((toRuns rs).take i).length = i := by rw [List.length_take]; omega
    simp only [laws_toRunS.l0]
    rw [if_pos (by omega), if_pos (by omega), rd_lRun rs i hlt]
    unfold laws_toRun.f
    rw [Option.bind_some, if_pos (by rw [List.length_append, htl, List.length_replicate]; omega), w64s (i : Int) (by omega) (by omega), show ((i : Int) + 1) = ((i + 1 : Nat) : Int) by omega]
    have e : (((toRuns rs).take i ++ List.replicate (d + 1) z85).set (i : Int).toNat (⟨rs[i].f0, rs[i].f1, rs[i].f2⟩ : S85)) = (toRuns rs).take (i + 1) ++ List.replicate d z85 := by
      rw [Int.toNat_natCast, List.set_append_right _ _ (by omega), htl, Nat.sub_self, List.replicate_succ, List.set_cons_zero, List.take_succ_eq_append_getElem hlt2, List.append_assoc]
      simp [toRuns]
    rw [e]
    exact ih k (i + 1) (by omega) (by omega)
theorem toRuns_ok (rs : List S155) (hl : rs.length ≤ 16777216) (k : Nat) (hk : rs.length < k) : laws_toRunS.f k rs = some (toRuns rs) := by
  unfold laws_toRunS.f
  rw [if_pos (by omega), if_pos (by omega), Int.toNat_natCast]
  have := toRuns_loop rs hl rs.length k 0 (by omega) hk
  simpa using this
theorem toTable_ok (n : Int) (rs : List S155) (hl : rs.length ≤ 16777216) (k : Nat) (hk : rs.length < k) : laws_toTable.f k n rs = some (n, toRuns rs) := by
  unfold laws_toTable.f
  rw [toRuns_ok rs hl k hk]
  rfl
theorem eqRuns_loop (x : List S85) (hx : x.length ≤ 16777216) (d : Nat) : ∀ (k i : Nat), i + d = x.length → d < k → laws_eqRunS.l0 k x x (i : Int) = some true := by
  induction d with
  | zero =>
    intro k i hi hk
    obtain ⟨k, rfl⟩ : ∃ m, k = m + 1 := ⟨k - 1, by omega⟩
    simp only [laws_eqRunS.l0]
    rw [if_neg (by omega)]
  | succ d ih =>
    intro k i hi hk
    obtain ⟨k, rfl⟩ : ∃ m, k = m + 1 := ⟨k - 1, by omega⟩
    simp only [laws_eqRunS.l0]
    rw [if_pos (by omega), if_pos (by omega), if_pos (by omega), w64s (i : Int) (by omega) (by omega), show ((i : Int) + 1) = ((i + 1 : Nat) : Int) by omega]
    simp only [laws_eqRun.f, if_true, Option.bind_some]
    exact ih k (i + 1) (by omega) (by omega)
theorem eqTable_ok (n : Int) (x : List S85) (hx : x.length ≤ 16777216) (k : Nat) (hk : x.length < k) : laws_eqTable.f k n x n x = some true := by
  have := eqRuns_loop x hx x.length k 0 (by omega) hk
  unfold laws_eqTable.f laws_eqRunS.f
  rw [if_pos rfl, if_pos rfl]
  rw [show ((0 : Nat) : Int) = 0 by rfl] at this
  rw [this]
  rfl
theorem markRuns_loop (d : Nat) : ∀ (k i : Nat) (x : List S85) (m : Int), i + d = x.length → d < k → x.length ≤ 16777216 → 0 ≤ m → m + 3 * d ≤ 1000000000 → ∃ y, laws_markRunS.l0 k x m (i : Int) = some (m + 3 * d, y) := by
  induction d with
  | zero =>
    intro k i x m hi hk hx h0 h1
    obtain ⟨k, rfl⟩ : ∃ q, k = q + 1 := ⟨k - 1, by omega⟩
    simp only [laws_markRunS.l0]
    rw [if_neg (by omega)]
    exact ⟨x, by simp⟩
  | succ d ih =>
    intro k i x m hi hk hx h0 h1
    obtain ⟨k, rfl⟩ : ∃ q, k = q + 1 := ⟨k - 1, by omega⟩
    simp only [laws_markRunS.l0]
    rw [if_pos (by omega), if_pos (by omega)]
    simp only [Option.bind_some]
    rw [w64s m h0 (by omega), w64s (m + 1) (by omega) (by omega), w64s (m + 1 + 1) (by omega) (by omega), w64s (i : Int) (by omega) (by omega), show ((i : Int) + 1) = ((i + 1 : Nat) : Int) by omega]
    have key : ∀ z : List S85, z.length = x.length → ∃ y, laws_markRunS.l0 k z (m + 1 + 1 + 1) ((i + 1 : Nat) : Int) = some (m + 3 * ((d + 1 : Nat) : Int), y) := fun z hz => by
      obtain ⟨y, hy⟩ := ih k (i + 1) z (m + 1 + 1 + 1) (by omega) (by omega) (by omega) (by omega) (by omega)
      exact ⟨y, by rw [hy]; congr 2; omega⟩
    exact key _ (by simp)
theorem markTable_ok (n : Int) (x : List S85) (hx : x.length ≤ 16777216) (k : Nat) (hk : x.length < k) : ∃ y, laws_markTable.f k n x 1 = some (1 + 3 * (x.length : Int), y) := by
  obtain ⟨y, hy⟩ := markRuns_loop x.length k 0 x 1 (by omega) hk hx (by omega) (by omega)
  refine ⟨y, ?_⟩
  unfold laws_markTable.f laws_markRunS.f
  rw [show ((0 : Nat) : Int) = 0 by rfl] at hy
  rw [hy]
  rfl
theorem szTable_ok (n : Int) (rs : List S155) (hr : rs.length ≤ 9223372036854775807) : laws_szTable.f n rs 1048576 = some (if 1048576 - (rs.length : Int) < 0 then -1 else 1048576 - (rs.length : Int)) := by
  unfold laws_szTable.f laws_szRunS.f
  rw [show wrap64 (1048576 - (rs.length : Int)) = 1048576 - (rs.length : Int) by unfold wrap64; omega]
  by_cases h : 1048576 - (rs.length : Int) < 0
  · rw [if_pos h, if_pos h]; rfl
  · rw [if_neg h, if_neg h, Option.bind_some, if_neg h]
theorem tblBytes_length (n : Int) (x : List S85) (hx : x.length ≤ 20) : (tblBytes n x).length = 128 := by
  unfold tblBytes
  rw [List.length_append, List.length_take, numB_length, padB_length (by rw [tblOut_length]; omega)]
  rfl
theorem encodes (n : Int) (x : List S85) (hx : x.length ≤ 16777216) : ∃ g c, g.length ≤ 128 ∧ ∀ k, 3 * x.length + 4000 < k → spec_EncodeTable.f k n x = some (g, c) ∧ impl_EncodeTable.f k n x = some (g, c) := by
  by_cases hs : tblSound n x = true
  · have hn : x.length ≤ 20 := by unfold tblSound at hs; simp at hs; exact hs.1.2
    refine ⟨tblBytes n x, 0, by rw [tblBytes_length n x hn]; omega, fun k hk => ?_⟩
    rw [spec_enc_ok n x hx k (by omega), impl_enc_ok n x hx k (by omega), if_pos hs]
    exact ⟨rfl, rfl⟩
  · refine ⟨[], 5, by simp, fun k hk => ?_⟩
    rw [spec_enc_ok n x hx k (by omega), impl_enc_ok n x hx k (by omega), if_neg hs]
    exact ⟨rfl, rfl⟩
/-- The law, in numbers and lists. -/
theorem law_ok (n : Int) (rs : List S155) (hr : rs.length ≤ 9223372036854775807) : ∃ k, laws_FnExactEncodeTable.f k n rs = some true := by
  by_cases hb : 1048576 - (rs.length : Int) < 0
  · refine ⟨1, ?_⟩
    unfold laws_FnExactEncodeTable.f
    rw [szTable_ok n rs hr, if_pos hb, Option.bind_some, if_pos (by decide)]
  · have hl : rs.length ≤ 1048576 := by omega
    have hl2 : (toRuns rs).length ≤ 16777216 := by rw [toRuns_length]; omega
    have hl3 := toRuns_length rs
    obtain ⟨g, c, hg, henc⟩ := encodes n (toRuns rs) hl2
    refine ⟨10000002, ?_⟩
    unfold laws_FnExactEncodeTable.f
    rw [szTable_ok n rs hr, if_neg hb, Option.bind_some, if_neg hb, toTable_ok n rs (by omega) _ (by omega), Option.bind_some, (henc 10000002 (by omega)).1, Option.bind_some, Option.bind_some, (henc 10000002 (by omega)).2, Option.bind_some, eqB_ok g (by omega) _ (by omega), Option.bind_some, if_pos rfl]
    show laws_FnExactEncodeTable.j0 (10000001 + 1) g c g c (c != c) n rs n (toRuns rs) = some true
    simp only [laws_FnExactEncodeTable.j0]
    rw [if_neg (by simp), toTable_ok n rs (by omega) _ (by omega), Option.bind_some, eqTable_ok n (toRuns rs) hl2 _ (by omega), Option.bind_some, if_pos rfl]
    obtain ⟨y, hy⟩ := markTable_ok n (toRuns rs) hl2 10000001 (by omega)
    rw [hy, Option.bind_some, if_neg (by simp only; omega), eqB_ok g (by omega) _ (by omega), Option.bind_some, if_pos rfl]
    show laws_FnExactEncodeTable.j1 (10000000 + 1) g c g (c != c) n rs = some true
    simp only [laws_FnExactEncodeTable.j1]
    rw [if_neg (by simp), markB_ok g (by omega) 1 (by omega) (by omega) _ (by omega), Option.bind_some, heldB_ok g (by omega) 1 (by omega) (by omega) _ (by omega), Option.bind_some, if_neg (by omega), if_pos rfl, toTable_ok n rs (by omega) _ (by omega), Option.bind_some, (henc 10000000 (by omega)).2, Option.bind_some, eqB_ok g (by omega) _ (by omega), Option.bind_some, if_pos rfl, if_pos rfl]

section
open Go.ChangeShapes Go.WideShapes Go.Deep
variable {H : Type} {enc : TypeId × Value → H} {P : Program} {w : World} {base : Nat} {spare : Nat → Bool} {held : Bool}
/-- (after the guide's page on structs) A slice of structs of one-cell fields, opened to its cells. -/
theorem open_slice_cells {t e : TypeId} {fs : Array Field} {fuel : Nat} {cs : List Value} {x : DataW H × List MemPlace} (ht : P.underlying t = some (.slice e)) (he : P.underlying e = some (.struct fs))
    (hone : oneCellFields P fs = true) (hC : P.cellsOf e = fs.size) (h : DataW.trod enc P w base spare held fuel t cs = some x) :
    cs = [.slice none 0 0] ∨
    ∃ (a : Addr) (len cap : Nat), cs = [.slice (some a) len cap] ∧ len ≤ cap ∧ cap ≤ maxLen ∧
      ∀ i, i < len → ∃ (n : Nat), ∀ (j : Nat) (f : Field), fs[j]? = some f → ∃ (v : Value) (y : DataW H × List MemPlace), w.cell? (a.add (i * fs.size + j)) = some v ∧ DataW.trod enc P w base spare held n f.type [v] = some y := by
  rcases open_slice ht h with h0 | ⟨a, len, cap, m, n, D, Pl, hcs, hb, hl, hm, hmm, hx, hi⟩
  · exact .inl h0.1
  · refine .inr ⟨a, len, cap, hcs, hl, hm, fun i him => ?_⟩
    have him2 : i < m := by rw [hmm]; split <;> omega
    obtain ⟨cs', hc, ht'⟩ := hi i him2
    rw [hC] at hc
    obtain ⟨ys, n', hn', hy, hlen, hyl, hf⟩ := DataW.trod_struct he ht'
    obtain ⟨_, hcl, hat⟩ := World.cells?_some hc
    refine ⟨n', fun j f hj => ?_⟩
    obtain ⟨ho, hk⟩ := hone_of hone j f hj
    have hjl : j < fs.size := (Array.getElem?_eq_some_iff.1 hj).1
    have hcell := hat j hjl
    have hv : cs'[j]? = some (cs'[j]'(by omega)) := List.getElem?_eq_getElem (by omega)
    have h1 := hf j f hj
    rw [ho, hk] at h1
    have hone' : (cs'.drop j).take 1 = [cs'[j]'(by omega)] := by
      rw [List.drop_eq_getElem_cons (by omega)]
      rfl
    rw [hone'] at h1
    have hys : ys[j]? = some (ys[j]'(by omega)) := List.getElem?_eq_getElem (by omega)
    refine ⟨_, _, ?_, h1.trans hys⟩
    rw [← Go.Deep.add_add, hcell, hv]
end
/-- A one-cell integer field, read. -/
theorem int_cell {H : Type} {enc : TypeId × Value → H} {P : Program} {w : World} {base : Nat} {spare : Nat → Bool} {held : Bool} {n : Nat} {t : TypeId} {k : IntKind} {v : Value} {y : DataW H × List MemPlace} (ht : P.underlying t = some (.int k)) (h : DataW.trod enc P w base spare held n t [v] = some y) : ∃ x : Int, v = .int k x := by
  obtain ⟨x, e, _, _⟩ := DataW.trod_int ht h
  exact ⟨x, by simpa using e⟩
theorem row_of {α : Type} (d : Kd α) {W : World} {a : Addr} {len : Nat} {F : Nat → α} {cells : α → List Value} (hlen : len ≤ 9223372036854775807) (h1 : ∀ x, (cells x).length = d.sz ∧ d.K W x (cells x)) (h2 : ∀ i, i < len → ∀ j u, (cells (F i))[j]? = some u → W.cell? (a.add (i * d.sz + j)) = some u) :
    Kd.C d W (some a) ((List.range len).map F).length ((List.range len).map F) := by
  refine ⟨rfl, by simpa using hlen, fun _ => ⟨a, rfl, fun j p hj => ?_⟩⟩
  have hjl : j < len := by
    have := (List.getElem?_eq_some_iff.1 hj).1
    simpa using this
  have hp : p = F j := by
    rw [List.getElem?_map, List.getElem?_range hjl] at hj
    simpa using hj.symm
  subst hp
  exact ⟨cells (F j), (h1 _).1, (h1 _).2, h2 j hjl⟩

end Go.Proofs.YtnkgclcmjojeiaaDoor.PFnExactEncodeTable
