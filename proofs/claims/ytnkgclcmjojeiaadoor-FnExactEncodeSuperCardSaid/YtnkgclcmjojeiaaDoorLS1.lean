/- Plain parts of the proof of the law FnExactEncodeSuper (numbers and lists alone). No conditions of our own. -/
import Derived.Test.YtnkgclcmjojeiaaDoorPFnExactEncodeSuperx
import Derived.Deep.Slices
import Derived.Deep.Fields
import Derived.ChangeSame
import Derived.Lib.SmallJoins
namespace Go.Proofs.YtnkgclcmjojeiaaDoor.PFnExactEncodeSuper
open Go.RowKit Go.Proofs.YtnkgclcmjojeiaaDoorW.PrintWords Go.Proofs.YtnkgclcmjojeiaaDoorW.PrintLast Go.Proofs.YtnkgclcmjojeiaaDoorW.PrintMore
set_option linter.unusedVariables false
set_option linter.unusedSimpArgs false
/-! The sum, as both texts reckon it. -/
theorem w64s (i : Int) (h0 : 0 ≤ i) (h1 : i < 9223372036854775807) : wrap64 (i + 1) = i + 1 := by unfold wrap64; omega
def crc8 : Nat → Int → Int
  | 0, r => r
  | n + 1, r => crc8 n (if Go.bits .and .u32 r 1 = 1 then Go.bits .xor .u32 (r / 2) 3988292384 else r / 2)
def crcAll : List Int → Int → Int
  | [], r => r
  | b :: l, r => crcAll l (crc8 8 (Go.bits .xor .u32 r (b % 4294967296)))
theorem scrc_l1 (x : List Int) (i : Int) (n : Nat) : ∀ (k : Nat) (r : Int), n ≤ 8 → spec_Crc32.l1 (k + n + 1) x r i (8 - (n : Int)) = spec_Crc32.l0 k x (crc8 n r) (wrap64 (i + 1)) := by
  induction n with
  | zero =>
    intro k r _
    simp only [spec_Crc32.l1]
    rw [if_neg (by omega)]
    rfl
  | succ n ih =>
    intro k r hn
    rw [show k + (n + 1) + 1 = (k + n + 1) + 1 by omega]
    simp only [spec_Crc32.l1]
    rw [if_pos (by omega), w64s _ (by omega) (by omega), show (8 - ((n + 1 : Nat) : Int)) + 1 = 8 - (n : Int) by omega]
    simp only [crc8]
    by_cases h : Go.bits .and .u32 r 1 = 1
    · rw [if_pos h, if_pos h]; exact ih k _ (by omega)
    · rw [if_neg h, if_neg h]; exact ih k _ (by omega)
theorem icrc_l1 (x : List Int) (L i : Int) (n : Nat) : ∀ (k : Nat) (r : Int), n ≤ 8 → impl_Crc32.l1 (k + n + 1) r x L i (8 - (n : Int)) = impl_Crc32.l0 k (crc8 n r) x L (wrap64 (i + 1)) := by
  induction n with
  | zero =>
    intro k r _
    simp only [impl_Crc32.l1]
    rw [if_neg (by omega)]
    rfl
  | succ n ih =>
    intro k r hn
    rw [show k + (n + 1) + 1 = (k + n + 1) + 1 by omega]
    simp only [impl_Crc32.l1]
    rw [if_pos (by omega), w64s _ (by omega) (by omega), show (8 - ((n + 1 : Nat) : Int)) + 1 = 8 - (n : Int) by omega]
    simp only [crc8]
    by_cases h : Go.bits .and .u32 r 1 = 1
    · rw [if_pos h, if_pos h]; exact ih k _ (by omega)
    · rw [if_neg h, if_neg h]; exact ih k _ (by omega)
theorem rd_at (x : List Int) (i : Nat) (h : i < x.length) : rd x (i : Int) = x[i] := by simp [rd, List.getD_eq_getElem?_getD, h]
theorem scrc_l0 (x : List Int) (hx : x.length ≤ 16777216) (d : Nat) : ∀ (k i : Nat) (r : Int), i + d = x.length → 10 * d < k → spec_Crc32.l0 k x r (i : Int) = some (Go.bits .xor .u32 (crcAll (x.drop i) r) 4294967295) := by
  induction d with
  | zero =>
    intro k i r hi hk
    obtain ⟨k, rfl⟩ : ∃ m, k = m + 1 := ⟨k - 1, by omega⟩
    simp only [spec_Crc32.l0]
    rw [if_neg (by omega), List.drop_of_length_le (by omega)]
    rfl
  | succ d ih =>
    intro k i r hi hk
    obtain ⟨k, rfl⟩ : ∃ m, k = m + 8 + 1 + 1 := ⟨k - 10, by omega⟩
    simp only [spec_Crc32.l0]
    rw [if_pos (by omega), if_pos (by omega), rd_at x i (by omega), show (0 : Int) = 8 - ((8 : Nat) : Int) by omega, scrc_l1 x i 8 k _ (by omega), w64s _ (by omega) (by omega), List.drop_eq_getElem_cons (show i < x.length by omega), show ((i : Int) + 1) = ((i + 1 : Nat) : Int) by omega]
    exact ih k (i + 1) _ (by omega) (by omega)
theorem icrc_l0 (x : List Int) (hx : x.length ≤ 16777216) (d : Nat) : ∀ (k i : Nat) (r : Int), i + d = x.length → 10 * d < k → impl_Crc32.l0 k r x (x.length : Int) (i : Int) = some (Go.bits .xor .u32 4294967295 (crcAll (x.drop i) r)) := by
  induction d with
  | zero =>
    intro k i r hi hk
    obtain ⟨k, rfl⟩ : ∃ m, k = m + 1 := ⟨k - 1, by omega⟩
    simp only [impl_Crc32.l0]
    rw [if_neg (by omega), List.drop_of_length_le (by omega)]
    rfl
  | succ d ih =>
    intro k i r hi hk
    obtain ⟨k, rfl⟩ : ∃ m, k = m + 8 + 1 + 1 := ⟨k - 10, by omega⟩
    simp only [impl_Crc32.l0]
    rw [if_pos (by omega), if_pos (by omega), if_pos (by omega), rd_at x i (by omega), show (0 : Int) = 8 - ((8 : Nat) : Int) by omega, icrc_l1 x _ i 8 k _ (by omega), w64s _ (by omega) (by omega), List.drop_eq_getElem_cons (show i < x.length by omega), show ((i : Int) + 1) = ((i + 1 : Nat) : Int) by omega]
    exact ih k (i + 1) _ (by omega) (by omega)
theorem xor_comm32 (a b : Int) : Go.bits .xor .u32 a b = Go.bits .xor .u32 b a := by
  unfold Go.bits
  show IntKind.u32.wrap ((BitVec.ofInt _ a ^^^ BitVec.ofInt _ b).toNat : Int) = IntKind.u32.wrap ((BitVec.ofInt _ b ^^^ BitVec.ofInt _ a).toNat : Int)
  rw [BitVec.xor_comm]
def crcOf (x : List Int) : Int := Go.bits .xor .u32 4294967295 (crcAll x 4294967295)
theorem scrc_ok (x : List Int) (hx : x.length ≤ 16777216) (k : Nat) (hk : 10 * x.length < k) : spec_Crc32.f k x = some (crcOf x) := by
  have := scrc_l0 x hx x.length k 0 4294967295 (by omega) hk
  unfold spec_Crc32.f crcOf
  rw [xor_comm32]
  simpa using this
theorem icrc_ok (x : List Int) (hx : x.length ≤ 16777216) (k : Nat) (hk : 10 * x.length < k) : impl_Crc32.f k x = some (crcOf x) := by
  have := icrc_l0 x hx x.length k 0 4294967295 (by omega) hk
  simpa [impl_Crc32.f, crcOf] using this
theorem crcOf_range (x : List Int) : 0 ≤ crcOf x ∧ crcOf x < 4294967296 := by
  unfold crcOf Go.bits
  rw [IntKind.wrap_u32]
  omega

theorem shr_at (v : Int) (n : Nat) (hn : n < 8) : shr .i64 v (IntKind.u64.wrap (wrap64 (8 * (n : Int)))) % 256 = v / 2 ^ (8 * n) % 256 := by
  have e1 : wrap64 (8 * (n : Int)) = 8 * (n : Int) := by unfold wrap64; omega
  have e2 : IntKind.u64.wrap (8 * (n : Int)) = 8 * (n : Int) := by rw [IntKind.wrap_u64]; omega
  rw [e1, e2]
  unfold shr
  rw [show (8 * (n : Int)).toNat = 8 * n by omega, Nat.min_eq_left (by show 8 * n ≤ 64; omega)]
theorem num_loop (l : List Int) (v : Int) (w : Nat) (hw : w ≤ 8) (hl : l.length ≤ 1000000) (d : Nat) : ∀ (k i : Nat), i + d = w → d < k → spec_l2Num.l0 k (l ++ numB v i) v (w : Int) (i : Int) = some (l ++ numB v w) := by
  induction d with
  | zero =>
    intro k i hi hk
    obtain ⟨k, rfl⟩ : ∃ m, k = m + 1 := ⟨k - 1, by omega⟩
    simp only [spec_l2Num.l0]
    rw [if_neg (by omega), show i = w by omega]
  | succ d ih =>
    intro k i hi hk
    obtain ⟨k, rfl⟩ : ∃ m, k = m + 1 := ⟨k - 1, by omega⟩
    simp only [spec_l2Num.l0]
    have e1 : wrap64 (8 * (i : Int)) = 8 * (i : Int) := by unfold wrap64; omega
    have e2 : 0 ≤ IntKind.u64.wrap (wrap64 (8 * (i : Int))) := by rw [e1, IntKind.wrap_u64]; omega
    rw [if_pos (by omega), if_pos e2, if_pos (by rw [List.length_append, numB_length]; omega), shr_at v i (by omega), w64s _ (by omega) (by omega), List.append_assoc, ← numB_succ, show ((i : Int) + 1) = ((i + 1 : Nat) : Int) by omega]
    exact ih k (i + 1) (by omega) (by omega)
theorem num_ok (l : List Int) (v : Int) (w : Nat) (hw : w ≤ 8) (hl : l.length ≤ 1000000) (k : Nat) (hk : 8 < k) : spec_l2Num.f k l v (w : Int) = some (l ++ numB v w) := by
  have := num_loop l v w hw hl w k 0 (by omega) (by omega)
  simpa [spec_l2Num.f, numB] using this
theorem seal_loop (l : List Int) (hl : l.length ≤ 124) (d : Nat) : ∀ (k i : Nat), l.length + i + d = 124 → d + 1300 ≤ k → spec_l2Seal.l0 k (l ++ List.replicate i 0) = some (l ++ List.replicate (124 - l.length) 0 ++ numB (crcOf (l ++ List.replicate (124 - l.length) 0)) 4) := by
  induction d with
  | zero =>
    intro k i hi hk
    obtain ⟨k, rfl⟩ : ∃ m, k = m + 1 := ⟨k - 1, by omega⟩
    unfold spec_l2Seal.l0
    have hlen : (l ++ List.replicate i (0 : Int)).length = 124 := by simp; omega
    rw [if_neg (by rw [hlen]; decide), show i = 124 - l.length by omega] at *
    rw [scrc_ok _ (by rw [hlen]; omega) k (by rw [hlen]; omega)]
    simp only [Option.bind_some]
    obtain ⟨h0, h1⟩ := crcOf_range (l ++ List.replicate (124 - l.length) 0)
    rw [show wrap64 (crcOf (l ++ List.replicate (124 - l.length) 0)) = crcOf (l ++ List.replicate (124 - l.length) 0) by unfold wrap64; omega]
    have := num_ok (l ++ List.replicate (124 - l.length) 0) (crcOf (l ++ List.replicate (124 - l.length) 0)) 4 (by omega) (by rw [hlen]; omega) k (by omega)
    rw [show (4 : Int) = ((4 : Nat) : Int) by rfl, this]
    rfl
  | succ d ih =>
    intro k i hi hk
    obtain ⟨k, rfl⟩ : ∃ m, k = m + 1 := ⟨k - 1, by omega⟩
    unfold spec_l2Seal.l0
    have hlen : (l ++ List.replicate i (0 : Int)).length = l.length + i := by simp
    rw [if_pos (by rw [hlen]; omega), if_pos (by rw [hlen]; omega), List.append_assoc, show List.replicate i (0 : Int) ++ [0] = List.replicate (i + 1) 0 by rw [List.replicate_succ']]
    exact ih k (i + 1) (by omega) (by omega)
theorem pad_take (P : List Int) (h : P.length ≤ 124) : (padB P).take 124 = P ++ List.replicate (124 - P.length) 0 := by
  unfold padB
  rw [List.take_append, List.take_of_length_le (by omega), List.take_replicate, Nat.min_eq_left (by omega)]
theorem seal_ok (l : List Int) (hl : l.length ≤ 124) (k : Nat) (hk : 1500 ≤ k) : spec_l2Seal.f k l = some ((padB l).take 124 ++ numB (crcOf ((padB l).take 124)) 4) := by
  have := seal_loop l hl (124 - l.length) k 0 (by omega) (by omega)
  rw [pad_take l hl]
  simpa [spec_l2Seal.f] using this

def allFrom (ok : Nat → Bool) : Nat → Nat → Bool
  | 0, _ => true
  | d + 1, i => ok i && allFrom ok d (i + 1)
def rootOkAt (bl nx : Int) (rs : List S79) (i : Nat) : Bool := !decide ((rd_T79 rs (i : Int)).f0 < 0) && !decide ((rd_T79 rs (i : Int)).f0 ≥ nx) && !decide ((rd_T79 rs (i : Int)).f1 < 2) && !decide ((rd_T79 rs (i : Int)).f1 ≥ bl) && (decide (i = 0) || !decide ((rd_T79 rs ((i : Int) - 1)).f0 ≥ (rd_T79 rs (i : Int)).f0))
theorem spec_roots_step (bl gn nx ta : Int) (rs : List S79) (hl : rs.length ≤ 16777216) (i k : Nat) (hi : i < rs.length) : spec_l2SuperOK.l0 (k + 1) (i : Int) bl gn nx ta rs = if rootOkAt bl nx rs i = true then spec_l2SuperOK.l0 k ((i + 1 : Nat) : Int) bl gn nx ta rs else some false := by
  simp only [spec_l2SuperOK.l0]
  rw [if_pos (by omega), if_pos (by omega), w64s (i : Int) (by omega) (by omega), show ((i : Int) + 1) = ((i + 1 : Nat) : Int) by omega]
  generalize spec_l2SuperOK.l0 k ((i + 1 : Nat) : Int) bl gn nx ta rs = X
  unfold rootOkAt
  by_cases h0 : i = 0
  · rw [if_neg (show ¬ ((i : Int) > 0) by omega)]
    generalize rd_T79 rs (i : Int) = r
    by_cases h1 : r.f0 < 0
    · simp [h1]
    · by_cases h2 : r.f0 ≥ nx
      · simp [h1, h2]
      · by_cases h3 : r.f1 < 2
        · simp [h1, h2, h3]
        · by_cases h4 : r.f1 ≥ bl <;> simp [h0, h1, h2, h3, h4]
  · rw [if_pos (show ((i : Int) > 0) by omega), show wrap64 ((i : Int) - 1) = (i : Int) - 1 by unfold wrap64; omega, if_pos (show 0 ≤ (i : Int) - 1 by omega), if_pos (show (i : Int) - 1 < (rs.length : Int) by omega)]
    generalize rd_T79 rs (i : Int) = r
    generalize rd_T79 rs ((i : Int) - 1) = p
    by_cases h1 : r.f0 < 0
    · simp [h1]
    · by_cases h2 : r.f0 ≥ nx
      · simp [h1, h2]
      · by_cases h3 : r.f1 < 2
        · simp [h1, h2, h3]
        · by_cases h4 : r.f1 ≥ bl
          · simp [h1, h2, h3, h4]
          · by_cases h5 : p.f0 ≥ r.f0 <;> simp [h0, h1, h2, h3, h4, h5]
theorem impl_roots_step (bl gn nx ta : Int) (rs : List S79) (hl : rs.length ≤ 16777216) (i k : Nat) (hi : i < rs.length) : impl_superForm_sound.l0 (k + 1) rs (rs.length : Int) (i : Int) bl gn nx ta rs = if rootOkAt bl nx rs i = true then impl_superForm_sound.l0 k rs (rs.length : Int) ((i + 1 : Nat) : Int) bl gn nx ta rs else some false := by
  simp only [impl_superForm_sound.l0]
  rw [if_pos (by omega), if_pos (by omega), if_pos (by omega), w64s (i : Int) (by omega) (by omega), show ((i : Int) + 1) = ((i + 1 : Nat) : Int) by omega]
  generalize impl_superForm_sound.l0 k rs (rs.length : Int) ((i + 1 : Nat) : Int) bl gn nx ta rs = X
  unfold rootOkAt
  by_cases h0 : i = 0
  · rw [if_neg (show ¬ ((i : Int) > 0) by omega)]
    generalize rd_T79 rs (i : Int) = r
    by_cases h1 : r.f0 < 0
    · simp [h1]
    · by_cases h2 : r.f0 ≥ nx
      · simp [h1, h2]
      · by_cases h3 : r.f1 < 2
        · simp [h1, h2, h3]
        · by_cases h4 : r.f1 ≥ bl <;> simp [h0, h1, h2, h3, h4]
  · rw [if_pos (show ((i : Int) > 0) by omega), show wrap64 ((i : Int) - 1) = (i : Int) - 1 by unfold wrap64; omega, if_pos (show 0 ≤ (i : Int) - 1 by omega), if_pos (show (i : Int) - 1 < (rs.length : Int) by omega)]
    generalize rd_T79 rs (i : Int) = r
    generalize rd_T79 rs ((i : Int) - 1) = p
    by_cases h1 : r.f0 < 0
    · simp [h1]
    · by_cases h2 : r.f0 ≥ nx
      · simp [h1, h2]
      · by_cases h3 : r.f1 < 2
        · simp [h1, h2, h3]
        · by_cases h4 : r.f1 ≥ bl
          · simp [h1, h2, h3, h4]
          · by_cases h5 : p.f0 ≥ r.f0 <;> simp [h0, h1, h2, h3, h4, h5]
theorem spec_roots_loop (bl gn nx ta : Int) (rs : List S79) (hl : rs.length ≤ 16777216) (d : Nat) : ∀ (k i : Nat), i + d = rs.length → d < k → spec_l2SuperOK.l0 k (i : Int) bl gn nx ta rs = some (allFrom (rootOkAt bl nx rs) d i) := by
  induction d with
  | zero =>
    intro k i hi hk
    obtain ⟨k, rfl⟩ : ∃ m, k = m + 1 := ⟨k - 1, by omega⟩
    simp only [spec_l2SuperOK.l0]
    rw [if_neg (by omega)]
    rfl
  | succ d ih =>
    intro k i hi hk
    obtain ⟨k, rfl⟩ : ∃ m, k = m + 1 := ⟨k - 1, by omega⟩
    rw [spec_roots_step bl gn nx ta rs hl i k (by omega)]
    simp only [allFrom]
    cases rootOkAt bl nx rs i with
    | true => rw [if_pos rfl, ih k (i + 1) (by omega) (by omega)]; rfl
    | false => rfl
theorem impl_roots_loop (bl gn nx ta : Int) (rs : List S79) (hl : rs.length ≤ 16777216) (d : Nat) : ∀ (k i : Nat), i + d = rs.length → d < k → impl_superForm_sound.l0 k rs (rs.length : Int) (i : Int) bl gn nx ta rs = some (allFrom (rootOkAt bl nx rs) d i) := by
  induction d with
  | zero =>
    intro k i hi hk
    obtain ⟨k, rfl⟩ : ∃ m, k = m + 1 := ⟨k - 1, by omega⟩
    simp only [impl_superForm_sound.l0]
    rw [if_neg (by omega)]
    rfl
  | succ d ih =>
    intro k i hi hk
    obtain ⟨k, rfl⟩ : ∃ m, k = m + 1 := ⟨k - 1, by omega⟩
    rw [impl_roots_step bl gn nx ta rs hl i k (by omega)]
    simp only [allFrom]
    cases rootOkAt bl nx rs i with
    | true => rw [if_pos rfl, ih k (i + 1) (by omega) (by omega)]; rfl
    | false => rfl
def rootsOk (bl nx : Int) (rs : List S79) : Bool := allFrom (rootOkAt bl nx rs) rs.length 0
def supSound (bl gn nx ta : Int) (rs : List S79) : Bool := !decide (bl < 8) && !decide (bl > 512) && !decide (gn < 1) && !decide (gn > 1099511627776) && !decide (nx < 1) && !decide (nx > 65535) && !decide (ta < 2) && !decide (ta ≥ bl) && !decide ((rs.length : Int) < 1) && !decide ((rs.length : Int) > 16) && rootsOk bl nx rs
theorem spec_ok_ok (bl gn nx ta : Int) (rs : List S79) (hl : rs.length ≤ 16777216) (k : Nat) (hk : rs.length + 3 < k) : spec_l2SuperOK.f k bl gn nx ta rs = some (supSound bl gn nx ta rs) := by
  obtain ⟨k, rfl⟩ : ∃ m, k = m + 2 := ⟨k - 2, by omega⟩
  have hr : spec_l2SuperOK.l0 k 0 bl gn nx ta rs = some (rootsOk bl nx rs) := spec_roots_loop bl gn nx ta rs hl rs.length k 0 (by omega) (by omega)
  have j1 : ∀ b : Bool, spec_l2SuperOK.j1 (k + 1) b bl gn nx ta rs = some (!b && rootsOk bl nx rs) := by
    intro b
    simp only [spec_l2SuperOK.j1, hr]
    cases b <;> simp
  have j0 : ∀ b : Bool, spec_l2SuperOK.j0 (k + 2) b bl gn nx ta rs = some (!b && !decide (ta < 2) && !decide (ta ≥ bl) && !decide ((rs.length : Int) < 1) && !decide ((rs.length : Int) > 16) && rootsOk bl nx rs) := by
    intro b
    rw [show k + 2 = (k + 1) + 1 by rfl]
    simp only [spec_l2SuperOK.j0, j1]
    generalize rootsOk bl nx rs = R
    generalize (rs.length : Int) = L
    cases b
    · by_cases h1 : ta < 2
      · simp [h1]
      · by_cases h2 : ta ≥ bl
        · simp [h1, h2]
        · by_cases h3 : L < 1
          · simp [h1, h2, h3]
          · simp [h1, h2, h3]
    · simp
  unfold spec_l2SuperOK.f spec_l1BlocksOK.f supSound
  simp only [j0]
  generalize rootsOk bl nx rs = R
  generalize (rs.length : Int) = L
  by_cases h1 : bl < 8
  · simp [h1, show ¬ (bl ≥ 8) by omega]
  · by_cases h2 : bl > 512
    · simp [h1, h2, show bl ≥ 8 by omega, show ¬ (bl ≤ 512) by omega]
    · by_cases h3 : gn < 1
      · simp [h1, h2, h3, show bl ≥ 8 by omega, show bl ≤ 512 by omega]
      · by_cases h4 : gn > 1099511627776
        · simp [h1, h2, h3, h4, show bl ≥ 8 by omega, show bl ≤ 512 by omega]
        · by_cases h5 : nx < 1
          · simp [h1, h2, h3, h4, h5, show bl ≥ 8 by omega, show bl ≤ 512 by omega]
          · simp [h1, h2, h3, h4, h5, show bl ≥ 8 by omega, show bl ≤ 512 by omega]
theorem impl_sound_ok (kd n bl gn nx ta : Int) (rs : List S79) (hl : rs.length ≤ 16777216) (k : Nat) (hk : rs.length + 4 < k) : impl_superForm_sound.f k kd n bl gn nx ta rs = some (supSound bl gn nx ta rs) := by
  obtain ⟨k, rfl⟩ : ∃ m, k = m + 3 := ⟨k - 3, by omega⟩
  have hr : impl_superForm_sound.l0 k rs (rs.length : Int) 0 bl gn nx ta rs = some (rootsOk bl nx rs) := impl_roots_loop bl gn nx ta rs hl rs.length k 0 (by omega) (by omega)
  have j2 : ∀ b : Bool, impl_superForm_sound.j2 (k + 1) b bl gn nx ta rs = some (!b && rootsOk bl nx rs) := by
    intro b
    simp only [impl_superForm_sound.j2, hr]
    cases b <;> simp
  have j1 : ∀ b : Bool, impl_superForm_sound.j1 (k + 2) b bl gn nx ta rs = some (!b && !decide ((rs.length : Int) < 1) && !decide ((rs.length : Int) > 16) && rootsOk bl nx rs) := by
    intro b
    rw [show k + 2 = (k + 1) + 1 by rfl]
    simp only [impl_superForm_sound.j1, j2]
    generalize rootsOk bl nx rs = R
    generalize (rs.length : Int) = L
    cases b
    · by_cases h3 : L < 1 <;> simp [h3]
    · simp
  have j0 : ∀ b : Bool, impl_superForm_sound.j0 (k + 3) b bl gn nx ta rs = some (!b && !decide (nx < 1) && !decide (nx > 65535) && !decide (ta < 2) && !decide (ta ≥ bl) && !decide ((rs.length : Int) < 1) && !decide ((rs.length : Int) > 16) && rootsOk bl nx rs) := by
    intro b
    rw [show k + 3 = (k + 2) + 1 by rfl]
    simp only [impl_superForm_sound.j0, j1]
    generalize rootsOk bl nx rs = R
    generalize (rs.length : Int) = L
    cases b
    · by_cases h1 : nx < 1
      · simp [h1]
      · by_cases h2 : nx > 65535
        · simp [h1, h2]
        · by_cases h3 : ta < 2 <;> simp [h1, h2, h3]
    · simp
  unfold impl_superForm_sound.f supSound
  simp only [j0]
  generalize rootsOk bl nx rs = R
  generalize (rs.length : Int) = L
  by_cases h1 : bl < 8
  · simp [h1]
  · by_cases h2 : bl > 512
    · simp [h1, h2]
    · by_cases h3 : gn < 1 <;> simp [h1, h2, h3]
theorem supSound_len {bl gn nx ta : Int} {rs : List S79} (h : supSound bl gn nx ta rs = true) : rs.length ≤ 16 := by
  unfold supSound at h
  simp only [Bool.and_eq_true, Bool.not_eq_true', decide_eq_false_iff_not] at h
  omega
def supBytes (bl gn nx ta : Int) (rs : List S79) : List Int := (padB (supOut (rs.length : Int) bl gn nx ta rs)).take 124 ++ numB (crcOf ((padB (supOut (rs.length : Int) bl gn nx ta rs)).take 124)) 4
theorem impl_enc_ok (bl gn nx ta : Int) (rs : List S79) (hl : rs.length ≤ 16777216) (k : Nat) (hk : 3 * rs.length + 2000 < k) : impl_EncodeSuper.f k bl gn nx ta rs = some (if supSound bl gn nx ta rs = true then (supBytes bl gn nx ta rs, 0) else ([], 5)) := by
  unfold impl_EncodeSuper.f
  rw [impl_sound_ok _ _ _ _ _ _ _ hl k (by omega)]
  simp only [Option.bind_some]
  by_cases hs : supSound bl gn nx ta rs = true
  · have hn := supSound_len hs
    have hp : (padB (supOut (rs.length : Int) bl gn nx ta rs)).length = 128 := padB_length (by rw [supOut_length]; omega)
    rw [if_pos hs, if_pos (by omega), if_pos hs, icrc_ok _ (by rw [List.length_take]; omega) k (by rw [List.length_take]; omega)]
    generalize hx : crcOf ((padB (supOut (rs.length : Int) bl gn nx ta rs)).take 124) = x
    have hr := crcOf_range ((padB (supOut (rs.length : Int) bl gn nx ta rs)).take 124)
    rw [hx] at hr
    rw [Option.bind_some, if_pos hr, ← hx]
    unfold supBytes
    exact Eq.refl _
  · rw [if_neg hs, if_neg hs]
theorem spec_enc_loop (bl gn nx ta : Int) (rs : List S79) (hl : rs.length ≤ 16) (d : Nat) : ∀ (k i : Nat), i + d = rs.length → d + 2000 < k → spec_EncodeSuper.l0 k (supOut (rs.length : Int) bl gn nx ta (rs.take i)) (i : Int) bl gn nx ta rs = some (supBytes bl gn nx ta rs, 0) := by
  induction d with
  | zero =>
    intro k i hi hk
    obtain ⟨k, rfl⟩ : ∃ m, k = m + 1 := ⟨k - 1, by omega⟩
    simp only [spec_EncodeSuper.l0]
    rw [if_neg (by omega), List.take_of_length_le (by omega), seal_ok _ (by rw [supOut_length]; omega) k (by omega)]
    rfl
  | succ d ih =>
    intro k i hi hk
    obtain ⟨k, rfl⟩ : ∃ m, k = m + 1 := ⟨k - 1, by omega⟩
    have hlt : (supOut (rs.length : Int) bl gn nx ta (rs.take i)).length ≤ 124 := by rw [supOut_length, List.length_take]; omega
    simp only [spec_EncodeSuper.l0]
    rw [if_pos (by omega), if_pos (by omega), show (2 : Int) = ((2 : Nat) : Int) by rfl, num_ok _ _ 2 (by omega) (by omega) k (by omega)]
    simp only [Option.bind_some]
    rw [num_ok _ _ 2 (by omega) (by rw [List.length_append, numB_length]; omega) k (by omega)]
    simp only [Option.bind_some]
    rw [← supOut_snoc _ _ _ _ _ _ i (by omega), w64s _ (by omega) (by omega), show ((i : Int) + 1) = ((i + 1 : Nat) : Int) by omega]
    exact ih k (i + 1) (by omega) (by omega)
theorem spec_enc_ok (bl gn nx ta : Int) (rs : List S79) (hl : rs.length ≤ 16777216) (k : Nat) (hk : 3 * rs.length + 3000 < k) : spec_EncodeSuper.f k bl gn nx ta rs = some (if supSound bl gn nx ta rs = true then (supBytes bl gn nx ta rs, 0) else ([], 5)) := by
  unfold spec_EncodeSuper.f
  rw [spec_ok_ok bl gn nx ta rs hl k (by omega), Option.bind_some]
  by_cases hs : supSound bl gn nx ta rs = true
  · have hn := supSound_len hs
    rw [if_pos hs, if_pos hs, show (2 : Int) = ((2 : Nat) : Int) by rfl, show (8 : Int) = ((8 : Nat) : Int) by rfl, num_ok _ _ 2 (by omega) (by simp) k (by omega)]
    simp only [Option.bind_some]
    rw [num_ok _ _ 8 (by omega) (by simp [numB_length]) k (by omega)]
    simp only [Option.bind_some]
    rw [num_ok _ _ 2 (by omega) (by simp [numB_length]) k (by omega)]
    simp only [Option.bind_some]
    rw [num_ok _ _ 2 (by omega) (by simp [numB_length]) k (by omega)]
    simp only [Option.bind_some]
    have := spec_enc_loop bl gn nx ta rs hn rs.length k 0 (by omega) (by omega)
    rw [List.take_zero] at this
    rw [show ([4, (rs.length : Int) % 256] ++ numB bl 2 ++ numB gn 8 ++ numB nx 2 ++ numB ta 2) = supOut (rs.length : Int) bl gn nx ta [] by simp [supOut]]
    exact this
  · rw [if_neg hs, if_neg hs]

/-! The laws' own helpers on bytes. -/
theorem eqB_loop (x : List Int) (hx : x.length ≤ 16777216) (d : Nat) : ∀ (k i : Nat), i + d = x.length → d < k → laws_eqByteS.l0 k x x (i : Int) = some true := by
  induction d with
  | zero =>
    intro k i hi hk
    obtain ⟨k, rfl⟩ : ∃ m, k = m + 1 := ⟨k - 1, by omega⟩
    simp only [laws_eqByteS.l0]
    rw [if_neg (by omega)]
  | succ d ih =>
    intro k i hi hk
    obtain ⟨k, rfl⟩ : ∃ m, k = m + 1 := ⟨k - 1, by omega⟩
    simp only [laws_eqByteS.l0]
    rw [if_pos (by omega), if_pos (by omega), if_pos (by omega), w64s _ (by omega) (by omega), show ((i : Int) + 1) = ((i + 1 : Nat) : Int) by omega]
    simp only [if_true]
    exact ih k (i + 1) (by omega) (by omega)
theorem eqB_ok (x : List Int) (hx : x.length ≤ 16777216) (k : Nat) (hk : x.length < k) : laws_eqByteS.f k x x = some true := by
  have := eqB_loop x hx x.length k 0 (by omega) hk
  simpa [laws_eqByteS.f] using this
/-- marked bytes: from place i on they are m, m + 1, .. -/
def markFrom (m : Int) : List Int → List Int
  | [] => []
  | _ :: l => m % 256 :: markFrom (m + 1) l
theorem markFrom_length (l : List Int) : ∀ m, (markFrom m l).length = l.length := by
  induction l with
  | nil => intro _; rfl
  | cons a l ih => intro m; simp [markFrom, ih]
theorem markB_loop (d : Nat) : ∀ (k i : Nat) (x : List Int) (m : Int), i + d = x.length → d < k → x.length ≤ 16777216 → 0 ≤ m → m + d ≤ 1000000000 →
    laws_markByteS.l0 k x m (i : Int) = some (m + d, x.take i ++ markFrom m (x.drop i)) := by
  induction d with
  | zero =>
    intro k i x m hi hk hx h0 h1
    obtain ⟨k, rfl⟩ : ∃ q, k = q + 1 := ⟨k - 1, by omega⟩
    simp only [laws_markByteS.l0]
    rw [if_neg (by omega), List.take_of_length_le (by omega), List.drop_of_length_le (by omega)]
    simp [markFrom]
  | succ d ih =>
    intro k i x m hi hk hx h0 h1
    obtain ⟨k, rfl⟩ : ∃ q, k = q + 1 := ⟨k - 1, by omega⟩
    simp only [laws_markByteS.l0]
    rw [if_pos (by omega), if_pos (by omega), w64s m h0 (by omega), w64s (i : Int) (by omega) (by omega), show ((i : Int) + 1) = ((i + 1 : Nat) : Int) by omega, ih k (i + 1) _ (m + 1) (by simp; omega) (by omega) (by simpa using hx) (by omega) (by omega)]
    have hlt : i < x.length := by omega
    congr 2
    · omega
    · rw [Int.toNat_natCast, List.drop_set_of_lt (by omega), List.drop_eq_getElem_cons hlt]
      simp only [markFrom]
      rw [List.take_succ_eq_append_getElem (by simpa using hlt), List.getElem_set_self, List.take_set_of_le (by omega), List.append_assoc]
      rfl
theorem markB_ok (x : List Int) (hx : x.length ≤ 16777216) (m : Int) (h0 : 0 ≤ m) (h1 : m ≤ 100000000) (k : Nat) (hk : x.length < k) : laws_markByteS.f k x m = some (m + x.length, markFrom m x) := by
  have := markB_loop x.length k 0 x m (by omega) hk hx h0 (by omega)
  simpa [laws_markByteS.f] using this
theorem markFrom_get (l : List Int) : ∀ (m : Int) (j : Nat) (hj : j < (markFrom m l).length), (markFrom m l)[j] = (m + j) % 256 := by
  induction l with
  | nil => intro m j hj; simp [markFrom] at hj
  | cons a l ih =>
    intro m j hj
    cases j with
    | zero => simp [markFrom]
    | succ j =>
      simp only [markFrom, List.getElem_cons_succ]
      rw [ih (m + 1) j (by simpa [markFrom] using hj)]
      congr 1
      omega
theorem heldB_loop (y : List Int) (m0 : Int) (h0 : 0 ≤ m0) (h1 : m0 ≤ 100000000) (hy : y.length ≤ 16777216) (hg : ∀ (j : Nat) (hj : j < y.length), y[j] = (m0 + j) % 256) (d : Nat) : ∀ (k i : Nat), i + d = y.length → d < k →
    laws_heldByteS.l0 k y (m0 + i) (i : Int) = some (m0 + y.length) := by
  induction d with
  | zero =>
    intro k i hi hk
    obtain ⟨k, rfl⟩ : ∃ q, k = q + 1 := ⟨k - 1, by omega⟩
    simp only [laws_heldByteS.l0]
    rw [if_neg (by omega), show i = y.length by omega]
  | succ d ih =>
    intro k i hi hk
    obtain ⟨k, rfl⟩ : ∃ q, k = q + 1 := ⟨k - 1, by omega⟩
    simp only [laws_heldByteS.l0]
    rw [if_pos (by omega), if_pos (by omega), rd_at y i (by omega), hg i (by omega), if_pos rfl, w64s (m0 + i) (by omega) (by omega), w64s (i : Int) (by omega) (by omega), show (m0 + (i : Int) + 1) = m0 + ((i + 1 : Nat) : Int) by omega, show ((i : Int) + 1) = ((i + 1 : Nat) : Int) by omega]
    exact ih k (i + 1) (by omega) (by omega)
theorem heldB_ok (x : List Int) (hx : x.length ≤ 16777216) (m : Int) (h0 : 0 ≤ m) (h1 : m ≤ 100000000) (k : Nat) (hk : x.length < k) : laws_heldByteS.f k (markFrom m x) m = some (m + x.length) := by
  have := heldB_loop (markFrom m x) m h0 h1 (by rw [markFrom_length]; exact hx) (fun j hj => markFrom_get x m j hj) x.length k 0 (by rw [markFrom_length]; omega) hk
  rw [markFrom_length] at this
  simpa [laws_heldByteS.f] using this

def toRoots (rs : List S169) : List S79 := rs.map fun r => ⟨r.f0, r.f1⟩
theorem toRoots_length (rs : List S169) : (toRoots rs).length = rs.length := by simp [toRoots]
theorem rd_lRoot (rs : List S169) (i : Nat) (h : i < rs.length) : rd_T169 rs (i : Int) = rs[i] := by simp [rd_T169, List.getD_eq_getElem?_getD, h]
theorem toRoots_loop (rs : List S169) (hl : rs.length ≤ 16777216) (d : Nat) : ∀ (k i : Nat), i + d = rs.length → d < k → laws_toRootS.l0 k rs ((toRoots rs).take i ++ List.replicate d z79) (i : Int) = some (toRoots rs) := by
  induction d with
  | zero =>
    intro k i hi hk
    obtain ⟨k, rfl⟩ : ∃ q, k = q + 1 := ⟨k - 1, by omega⟩
    simp only [laws_toRootS.l0]
    rw [if_neg (by omega), List.take_of_length_le (by rw [toRoots_length]; omega)]
    simp
  | succ d ih =>
    intro k i hi hk
    obtain ⟨k, rfl⟩ : ∃ q, k = q + 1 := ⟨k - 1, by omega⟩
    have hlt : i < rs.length := by omega
    have hlt2 : i < (toRoots rs).length := by rw [toRoots_length]; omega
    have htl : ((toRoots rs).take i).length = i := by rw [List.length_take]; omega
    simp only [laws_toRootS.l0]
    rw [if_pos (by omega), if_pos (by omega), rd_lRoot rs i hlt]
    unfold laws_toRoot.f
    rw [Option.bind_some, if_pos (by rw [List.length_append, htl, List.length_replicate]; omega), w64s (i : Int) (by omega) (by omega), show ((i : Int) + 1) = ((i + 1 : Nat) : Int) by omega]
    have e : (((toRoots rs).take i ++ List.replicate (d + 1) z79).set (i : Int).toNat (⟨rs[i].f0, rs[i].f1⟩ : S79)) = (toRoots rs).take (i + 1) ++ List.replicate d z79 := by
      rw [Int.toNat_natCast, List.set_append_right _ _ (by omega), htl, Nat.sub_self, List.replicate_succ, List.set_cons_zero, List.take_succ_eq_append_getElem hlt2, List.append_assoc]
      simp [toRoots]
    rw [e]
    exact ih k (i + 1) (by omega) (by omega)
theorem toRoots_ok (rs : List S169) (hl : rs.length ≤ 16777216) (k : Nat) (hk : rs.length < k) : laws_toRootS.f k rs = some (toRoots rs) := by
  unfold laws_toRootS.f
  rw [if_pos (by omega), if_pos (by omega), Int.toNat_natCast]
  have := toRoots_loop rs hl rs.length k 0 (by omega) hk
  simpa using this
theorem toSuper_ok (bl gn nx ta : Int) (rs : List S169) (hl : rs.length ≤ 16777216) (k : Nat) (hk : rs.length < k) : laws_toSuper.f k bl gn nx ta rs = some (bl, gn, nx, ta, toRoots rs) := by
  unfold laws_toSuper.f
  rw [toRoots_ok rs hl k hk]
  rfl
theorem eqRoots_loop (x : List S79) (hx : x.length ≤ 16777216) (d : Nat) : ∀ (k i : Nat), i + d = x.length → d < k → laws_eqRootS.l0 k x x (i : Int) = some true := by
  induction d with
  | zero =>
    intro k i hi hk
    obtain ⟨k, rfl⟩ : ∃ m, k = m + 1 := ⟨k - 1, by omega⟩
    simp only [laws_eqRootS.l0]
    rw [if_neg (by omega)]
  | succ d ih =>
    intro k i hi hk
    obtain ⟨k, rfl⟩ : ∃ m, k = m + 1 := ⟨k - 1, by omega⟩
    simp only [laws_eqRootS.l0]
    rw [if_pos (by omega), if_pos (by omega), if_pos (by omega), w64s (i : Int) (by omega) (by omega), show ((i : Int) + 1) = ((i + 1 : Nat) : Int) by omega]
    simp only [laws_eqRoot.f, if_true, Option.bind_some]
    exact ih k (i + 1) (by omega) (by omega)
theorem eqSuper_ok (bl gn nx ta : Int) (x : List S79) (hx : x.length ≤ 16777216) (k : Nat) (hk : x.length < k) : laws_eqSuper.f k bl gn nx ta x bl gn nx ta x = some true := by
  have := eqRoots_loop x hx x.length k 0 (by omega) hk
  unfold laws_eqSuper.f laws_eqRootS.f
  rw [if_pos rfl, if_pos rfl, if_pos rfl, if_pos rfl, if_pos rfl]
  rw [show ((0 : Nat) : Int) = 0 by rfl] at this
  rw [this]
  rfl
theorem markRoots_loop (d : Nat) : ∀ (k i : Nat) (x : List S79) (m : Int), i + d = x.length → d < k → x.length ≤ 16777216 → 0 ≤ m → m + 2 * d ≤ 1000000000 → ∃ y, laws_markRootS.l0 k x m (i : Int) = some (m + 2 * d, y) := by
  induction d with
  | zero =>
    intro k i x m hi hk hx h0 h1
    obtain ⟨k, rfl⟩ : ∃ q, k = q + 1 := ⟨k - 1, by omega⟩
    simp only [laws_markRootS.l0]
    rw [if_neg (by omega)]
    exact ⟨x, by simp⟩
  | succ d ih =>
    intro k i x m hi hk hx h0 h1
    obtain ⟨k, rfl⟩ : ∃ q, k = q + 1 := ⟨k - 1, by omega⟩
    simp only [laws_markRootS.l0]
    rw [if_pos (by omega), if_pos (by omega)]
    simp only [Option.bind_some]
    rw [w64s m h0 (by omega), w64s (m + 1) (by omega) (by omega), w64s (i : Int) (by omega) (by omega), show ((i : Int) + 1) = ((i + 1 : Nat) : Int) by omega]
    have key : ∀ z : List S79, z.length = x.length → ∃ y, laws_markRootS.l0 k z (m + 1 + 1) ((i + 1 : Nat) : Int) = some (m + 2 * ((d + 1 : Nat) : Int), y) := fun z hz => by
      obtain ⟨y, hy⟩ := ih k (i + 1) z (m + 1 + 1) (by omega) (by omega) (by omega) (by omega) (by omega)
      exact ⟨y, by rw [hy]; congr 2; omega⟩
    exact key _ (by simp)
theorem markSuper_ok (bl gn nx ta : Int) (x : List S79) (hx : x.length ≤ 16777216) (k : Nat) (hk : x.length < k) : ∃ y, laws_markSuper.f k bl gn nx ta x 1 = some (1 + 2 * (x.length : Int), y) := by
  obtain ⟨y, hy⟩ := markRoots_loop x.length k 0 x 1 (by omega) hk hx (by omega) (by omega)
  refine ⟨y, ?_⟩
  unfold laws_markSuper.f laws_markRootS.f
  rw [show ((0 : Nat) : Int) = 0 by rfl] at hy
  rw [hy]
  rfl
theorem szSuper_ok (bl gn nx ta : Int) (rs : List S169) (hr : rs.length ≤ 9223372036854775807) : laws_szSuper.f bl gn nx ta rs 1048576 = some (if 1048576 - (rs.length : Int) < 0 then -1 else 1048576 - (rs.length : Int)) := by
  unfold laws_szSuper.f laws_szRootS.f
  rw [show wrap64 (1048576 - (rs.length : Int)) = 1048576 - (rs.length : Int) by unfold wrap64; omega]
  by_cases h : 1048576 - (rs.length : Int) < 0
  · rw [if_pos h, if_pos h]; rfl
  · rw [if_neg h, if_neg h, Option.bind_some, if_neg h]
theorem supBytes_length (bl gn nx ta : Int) (x : List S79) (hx : x.length ≤ 20) : (supBytes bl gn nx ta x).length = 128 := by
  unfold supBytes
  rw [List.length_append, List.length_take, numB_length, padB_length (by rw [supOut_length]; omega)]
  rfl
theorem encodes (bl gn nx ta : Int) (x : List S79) (hx : x.length ≤ 16777216) : ∃ g c, g.length ≤ 128 ∧ ∀ k, 3 * x.length + 4000 < k → spec_EncodeSuper.f k bl gn nx ta x = some (g, c) ∧ impl_EncodeSuper.f k bl gn nx ta x = some (g, c) := by
  by_cases hs : supSound bl gn nx ta x = true
  · have hn : x.length ≤ 20 := Nat.le_trans (supSound_len hs) (by decide)
    refine ⟨supBytes bl gn nx ta x, 0, by rw [supBytes_length bl gn nx ta x hn]; omega, fun k hk => ?_⟩
    rw [spec_enc_ok bl gn nx ta x hx k (by omega), impl_enc_ok bl gn nx ta x hx k (by omega), if_pos hs]
    exact ⟨rfl, rfl⟩
  · refine ⟨[], 5, by simp, fun k hk => ?_⟩
    rw [spec_enc_ok bl gn nx ta x hx k (by omega), impl_enc_ok bl gn nx ta x hx k (by omega), if_neg hs]
    exact ⟨rfl, rfl⟩
/-- The law, in numbers and lists. -/
theorem law_ok (bl gn nx ta : Int) (rs : List S169) (hr : rs.length ≤ 9223372036854775807) : ∃ k, laws_FnExactEncodeSuper.f k bl gn nx ta rs = some true := by
  by_cases hb : 1048576 - (rs.length : Int) < 0
  · refine ⟨1, ?_⟩
    unfold laws_FnExactEncodeSuper.f
    rw [szSuper_ok bl gn nx ta rs hr, if_pos hb, Option.bind_some, if_pos (by decide)]
  · have hl : rs.length ≤ 1048576 := by omega
    have hl2 : (toRoots rs).length ≤ 16777216 := by rw [toRoots_length]; omega
    have hl3 := toRoots_length rs
    obtain ⟨g, c, hg, henc⟩ := encodes bl gn nx ta (toRoots rs) hl2
    refine ⟨10000002, ?_⟩
    unfold laws_FnExactEncodeSuper.f
    rw [szSuper_ok bl gn nx ta rs hr, if_neg hb, Option.bind_some, if_neg hb, toSuper_ok bl gn nx ta rs (by omega) _ (by omega), Option.bind_some, (henc 10000002 (by omega)).1, Option.bind_some, Option.bind_some, (henc 10000002 (by omega)).2, Option.bind_some, eqB_ok g (by omega) _ (by omega), Option.bind_some, if_pos rfl]
    show laws_FnExactEncodeSuper.j0 (10000001 + 1) g c g c (c != c) bl gn nx ta rs bl gn nx ta (toRoots rs) = some true
    simp only [laws_FnExactEncodeSuper.j0]
    rw [if_neg (by simp), toSuper_ok bl gn nx ta rs (by omega) _ (by omega), Option.bind_some, eqSuper_ok bl gn nx ta (toRoots rs) hl2 _ (by omega), Option.bind_some, if_pos rfl]
    obtain ⟨y, hy⟩ := markSuper_ok bl gn nx ta (toRoots rs) hl2 10000001 (by omega)
    rw [hy, Option.bind_some, if_neg (by simp only; omega), eqB_ok g (by omega) _ (by omega), Option.bind_some, if_pos rfl]
    show laws_FnExactEncodeSuper.j1 (10000000 + 1) g c g (c != c) bl gn nx ta rs = some true
    simp only [laws_FnExactEncodeSuper.j1]
    rw [if_neg (by simp), markB_ok g (by omega) 1 (by omega) (by omega) _ (by omega), Option.bind_some, heldB_ok g (by omega) 1 (by omega) (by omega) _ (by omega), Option.bind_some, if_neg (by omega), if_pos rfl, toSuper_ok bl gn nx ta rs (by omega) _ (by omega), Option.bind_some, (henc 10000000 (by omega)).2, Option.bind_some, eqB_ok g (by omega) _ (by omega), Option.bind_some, if_pos rfl, if_pos rfl]

section
open Go.ChangeShapes Go.WideShapes Go.Deep
variable {H : Type} {enc : TypeId × Value → H} {P : Program} {w : World} {base : Nat} {spare : Nat → Bool} {held : Bool}
/-- (after the guide's page on structs) A slice of structs of one-cell fields, opened to its cells. -/
theorem open_slice_cells {t e : TypeId} {fs : Array Field} {fuel : Nat} {cs : List Value} {x : DataW H × List MemPlace} (ht : P.underlying t = some (.slice e)) (he : P.underlying e = some (.struct fs))
    (hone : oneCellFields P fs = true) (hC : P.cellsOf e = fs.size) (h : DataW.trod enc P w base spare held fuel t cs = some x) :
    cs = [.slice none 0 0] ∨
    ∃ (a : Addr) (len cap : Nat), cs = [.slice (some a) len cap] ∧ len ≤ cap ∧ cap ≤ maxLen ∧
      ∀ i, i < len → ∃ (n : Nat), ∀ (j : Nat) (f : Field), fs[j]? = some f → ∃ (v : Value) (y : DataW H × List MemPlace), w.cell? (a.add (i * fs.size + j)) = some v ∧ DataW.trod enc P w base spare held n f.type [v] = some y := by
  rcases open_slice ht h with h0 | ⟨a, len, cap, m, n, D, Pl, hcs, hb, hl, hm, hmm, hx, hi⟩
  · exact .inl h0.1
  · refine .inr ⟨a, len, cap, hcs, hl, hm, fun i him => ?_⟩
    have him2 : i < m := by rw [hmm]; split <;> omega
    obtain ⟨cs', hc, ht'⟩ := hi i him2
    rw [hC] at hc
    obtain ⟨ys, n', hn', hy, hlen, hyl, hf⟩ := DataW.trod_struct he ht'
    obtain ⟨_, hcl, hat⟩ := World.cells?_some hc
    refine ⟨n', fun j f hj => ?_⟩
    obtain ⟨ho, hk⟩ := hone_of hone j f hj
    have hjl : j < fs.size := (Array.getElem?_eq_some_iff.1 hj).1
    have hcell := hat j hjl
    have hv : cs'[j]? = some (cs'[j]'(by omega)) := List.getElem?_eq_getElem (by omega)
    have h1 := hf j f hj
    rw [ho, hk] at h1
    have hone' : (cs'.drop j).take 1 = [cs'[j]'(by omega)] := by
      rw [List.drop_eq_getElem_cons (by omega)]
      rfl
    rw [hone'] at h1
    have hys : ys[j]? = some (ys[j]'(by omega)) := List.getElem?_eq_getElem (by omega)
    refine ⟨_, _, ?_, h1.trans hys⟩
    rw [← Go.Deep.add_add, hcell, hv]
end
/-- A one-cell integer field, read. -/
theorem int_cell {H : Type} {enc : TypeId × Value → H} {P : Program} {w : World} {base : Nat} {spare : Nat → Bool} {held : Bool} {n : Nat} {t : TypeId} {k : IntKind} {v : Value} {y : DataW H × List MemPlace} (ht : P.underlying t = some (.int k)) (h : DataW.trod enc P w base spare held n t [v] = some y) : ∃ x : Int, v = .int k x := by
  obtain ⟨x, e, _, _⟩ := DataW.trod_int ht h
  exact ⟨x, by simpa using e⟩
theorem row_of {α : Type} (d : Kd α) {W : World} {a : Addr} {len : Nat} {F : Nat → α} {cells : α → List Value} (hlen : len ≤ 9223372036854775807) (h1 : ∀ x, (cells x).length = d.sz ∧ d.K W x (cells x)) (h2 : ∀ i, i < len → ∀ j u, (cells (F i))[j]? = some u → W.cell? (a.add (i * d.sz + j)) = some u) :
    Kd.C d W (some a) ((List.range len).map F).length ((List.range len).map F) := by
  refine ⟨rfl, by simpa using hlen, fun _ => ⟨a, rfl, fun j p hj => ?_⟩⟩
  have hjl : j < len := by
    have := (List.getElem?_eq_some_iff.1 hj).1
    simpa using this
  have hp : p = F j := by
    rw [List.getElem?_map, List.getElem?_range hjl] at hj
    simpa using hj.symm
  subst hp
  exact ⟨cells (F j), (h1 _).1, (h1 _).2, h2 j hjl⟩

section
open Go.ChangeShapes Go.WideShapes Go.Deep Go.Joins
variable {H : Type} {enc : TypeId × Value → H} {P : Program} {w : World} {base : Nat} {spare : Nat → Bool} {held : Bool}
/-- (after the guide's page on structs) A struct of five one-cell fields, by value: its value and each field's reading. -/
theorem open_five {r : Reach} {b0 : Nat} {t : TypeId} {f0 f1 f2 f3 f4 : Field} {v : Value} {d : DataW H} {p : List MemPlace} (hs : P.underlying t = some (.struct #[f0, f1, f2, f3, f4])) (hone : oneCellFields P #[f0, f1, f2, f3, f4] = true) (hC : P.cellsOf t = 5)
    (hv : Value.okWide P w r b0 t v) (h : DataW.Trod enc P w base spare held t v d p) :
    ∃ (v0 v1 v2 v3 v4 : Value) (y0 y1 y2 y3 y4 : DataW H × List MemPlace) (n : Nat), v = .agg #[v0, v1, v2, v3, v4] ∧
      DataW.trod enc P w base spare held n f0.type [v0] = some y0 ∧ DataW.trod enc P w base spare held n f1.type [v1] = some y1 ∧ DataW.trod enc P w base spare held n f2.type [v2] = some y2 ∧ DataW.trod enc P w base spare held n f3.type [v3] = some y3 ∧ DataW.trod enc P w base spare held n f4.type [v4] = some y4 := by
  obtain ⟨cs, rfl, hsz⟩ := okWide_struct hs hv
  obtain ⟨l⟩ := cs
  match l, hsz.trans hC with
  | [c0, c1, c2, c3, c4], _ =>
    obtain ⟨fuel, hf⟩ := h
    obtain ⟨xs, n, _, _, _, hlen, hg⟩ := DataW.trod_struct hs hf
    obtain ⟨o0, k0⟩ := hone_of hone 0 f0 rfl
    obtain ⟨o1, k1⟩ := hone_of hone 1 f1 rfl
    obtain ⟨o2, k2⟩ := hone_of hone 2 f2 rfl
    obtain ⟨o3, k3⟩ := hone_of hone 3 f3 rfl
    obtain ⟨o4, k4⟩ := hone_of hone 4 f4 rfl
    match xs, hlen with
    | [y0, y1, y2, y3, y4], _ =>
      exact ⟨c0, c1, c2, c3, c4, y0, y1, y2, y3, y4, n, rfl, by simpa [Value.cells, o0, k0] using hg 0 f0 rfl, by simpa [Value.cells, o1, k1] using hg 1 f1 rfl, by simpa [Value.cells, o2, k2] using hg 2 f2 rfl, by simpa [Value.cells, o3, k3] using hg 3 f3 rfl, by simpa [Value.cells, o4, k4] using hg 4 f4 rfl⟩
end

end Go.Proofs.YtnkgclcmjojeiaaDoor.PFnExactEncodeSuper
