/- Parts of the proof of the law FnDeviceReads (plain facts, and the walk of its Go text). No conditions of our own. -/
import Derived.Test.YtnkgclcmjojeiaaVPFnDeviceReadsx
namespace Go.Proofs.Ytnkgclcmjojeiaa.PFnDeviceReads
open Go.RowKit Go.Proofs.YtnkgclcmjojeiaaW.PrintWords Go.Proofs.YtnkgclcmjojeiaaW.PrintLast Go.Proofs.YtnkgclcmjojeiaaW.PrintMore
set_option linter.unusedVariables false
set_option linter.unusedSimpArgs false
theorem bits_nonneg64 (op : BinOp) (x y : Int) : 0 ≤ Go.bits op .u64 x y := by unfold Go.bits; exact wrap_u64_nonneg _
def PosOk (l : List Int) (p : Int) : Prop := 0 ≤ p ∧ p ≤ (l.length : Int) ∧ (l.length : Int) ≤ 1048576
theorem next_ok (l : List Int) (p s n : Int) (hp : PosOk l p) (hn : n < 9223372036854775808) : ∃ v p' s', spec_l1Next.f l p s n = some (v, p', s') ∧ PosOk l p' ∧ 0 ≤ v ∧ (v < n ∨ v = 0) ∧ v < 9223372036854775808 := by
  obtain ⟨h0, h1, h2⟩ := hp
  unfold spec_l1Next.f
  by_cases hn0 : n ≤ 0
  · rw [if_pos hn0]
    exact ⟨_, _, _, rfl, ⟨h0, h1, h2⟩, by omega, Or.inr rfl, by omega⟩
  · have e : IntKind.u64.wrap n = n := by rw [IntKind.wrap_u64]; omega
    rw [if_neg hn0, e, if_neg (show ¬ n = 0 by omega)]
    have fin : ∀ X : Int, 0 ≤ X → 0 ≤ wrap64 (Int.tmod X n) ∧ (wrap64 (Int.tmod X n) < n ∨ wrap64 (Int.tmod X n) = 0) ∧ wrap64 (Int.tmod X n) < 9223372036854775808 := by
      intro X hX
      have a1 : 0 ≤ X.tmod n := Int.tmod_nonneg _ hX
      have a2 : X.tmod n < n := Int.tmod_lt_of_pos _ (by omega)
      unfold wrap64; omega
    by_cases hlt : p < (l.length : Int)
    · rw [if_pos hlt, if_pos h0]
      obtain ⟨f1, f2, f3⟩ := fin _ (bits_nonneg64 .xor ((IntKind.u64.wrap ((IntKind.u64.wrap (s * 6364136223846793005)) + 1442695040888963407)) / 8589934592) (IntKind.u64.wrap (rd l p)))
      refine ⟨_, _, _, rfl, ⟨?_, ?_, h2⟩, f1, f2, f3⟩ <;> (unfold wrap64; omega)
    · rw [if_neg hlt, if_neg (show ¬ n = 0 by omega)]
      obtain ⟨f1, f2, f3⟩ := fin _ (show 0 ≤ (IntKind.u64.wrap ((IntKind.u64.wrap (s * 6364136223846793005)) + 1442695040888963407)) / 8589934592 from Int.ediv_nonneg (wrap_u64_nonneg _) (by omega))
      exact ⟨_, _, _, rfl, ⟨h0, h1, h2⟩, f1, f2, f3⟩
theorem w1 (i : Int) (h0 : 0 ≤ i) (h1 : i < 9223372036854775807) : wrap64 (i + 1) = i + 1 := by unfold wrap64; omega
theorem block_loop (l : List Int) (p s x4 : Int) (hp : PosOk l p) (d : Nat) : ∀ (k : Nat) (i : Int) (x3 : List Int), d < k → i + d = 128 → 0 ≤ i → (x3.length : Int) = i → ∃ r p' s', spec_l1DrawBlock.l0 k x3 x4 i l p s = some (r, p', s') ∧ PosOk l p' ∧ r.length = 128 := by
  induction d with
  | zero =>
    intro k i x3 hk hi h0 hx
    obtain ⟨k, rfl⟩ : ∃ m, k = m + 1 := ⟨k - 1, by omega⟩
    obtain ⟨v1, p1, s1, e1, hp1, b1, c1, d1⟩ := next_ok l p s 128 hp (by omega)
    obtain ⟨v2, p2, s2, e2, hp2, b2, c2, d2⟩ := next_ok l p1 s1 256 hp1 (by omega)
    simp only [spec_l1DrawBlock.l0]
    rw [if_neg (by omega), e1]
    simp only [Option.bind_some]
    rw [e2]
    simp only [Option.bind_some]
    rw [if_pos b1, if_pos (by omega)]
    exact ⟨_, _, _, rfl, hp2, by simp; omega⟩
  | succ d ih =>
    intro k i x3 hk hi h0 hx
    obtain ⟨k, rfl⟩ : ∃ m, k = m + 1 := ⟨k - 1, by omega⟩
    simp only [spec_l1DrawBlock.l0]
    rw [if_pos (by omega), if_pos (by omega), w1 i h0 (by omega)]
    exact ih k (i + 1) _ (by omega) (by omega) (by omega) (by simp; omega)
theorem block_ok (l : List Int) (p s : Int) (hp : PosOk l p) (k : Nat) (hk : 129 ≤ k) : ∃ r p' s', spec_l1DrawBlock.f k l p s = some (r, p', s') ∧ PosOk l p' ∧ r.length = 128 := by
  obtain ⟨v1, p1, s1, e1, hp1, b1, c1, d1⟩ := next_ok l p s 256 hp (by omega)
  unfold spec_l1DrawBlock.f
  rw [e1]
  exact block_loop l p1 s1 v1 hp1 128 k 0 [] (by omega) (by omega) (by omega) rfl
theorem scopy_loop (xs : List Int) (hx : xs.length ≤ 16777216) (d : Nat) : ∀ (k i : Nat), d < k → i + d = xs.length → spec_l1Copy.l0 k xs (xs.take i) (i : Int) = some xs := by
  induction d with
  | zero =>
    intro k i hk hi
    obtain ⟨k, rfl⟩ : ∃ m, k = m + 1 := ⟨k - 1, by omega⟩
    simp only [spec_l1Copy.l0]
    rw [if_neg (by omega), List.take_of_length_le (by omega)]
  | succ d ih =>
    intro k i hk hi
    obtain ⟨k, rfl⟩ : ∃ m, k = m + 1 := ⟨k - 1, by omega⟩
    simp only [spec_l1Copy.l0]
    rw [if_pos (by omega), if_pos (by omega), if_pos (by simp; omega), w1 _ (by omega) (by omega)]
    have e : xs.take i ++ [rd xs (i : Int)] = xs.take (i + 1) := by
      rw [List.take_add_one]; simp [rd, List.getD_eq_getElem?_getD, show i < xs.length by omega]
    rw [e, show ((i : Int) + 1) = ((i + 1 : Nat) : Int) by omega]
    exact ih k (i + 1) (by omega) (by omega)
theorem scopy_ok (xs : List Int) (hx : xs.length ≤ 16777216) (k : Nat) (hk : xs.length < k) : spec_l1Copy.f k xs = some xs := by
  have := scopy_loop xs hx xs.length k 0 hk (by omega)
  simpa [spec_l1Copy.f] using this
theorem new_loop (b : Int) (fill : List Int) (hb : 0 ≤ b) (hb2 : b ≤ 512) (hf : (fill.length : Int) ≤ 1048576) (d : Nat) : ∀ (k : Nat) (i : Int) (x : List Int), d < k → i + d = b * 128 → 0 ≤ i → (x.length : Int) = i → ∃ r, spec_NewDevice.l0 k b fill x i = some (b, r, [], 0) ∧ (r.length : Int) = b * 128 := by
  have e : wrap64 (b * 128) = b * 128 := by unfold wrap64; omega
  induction d with
  | zero =>
    intro k i x hk hi h0 hx
    obtain ⟨k, rfl⟩ : ∃ m, k = m + 1 := ⟨k - 1, by omega⟩
    simp only [spec_NewDevice.l0]
    rw [e, if_neg (by omega)]
    exact ⟨_, rfl, by omega⟩
  | succ d ih =>
    intro k i x hk hi h0 hx
    obtain ⟨k, rfl⟩ : ∃ m, k = m + 1 := ⟨k - 1, by omega⟩
    simp only [spec_NewDevice.l0]
    rw [e, if_pos (by omega)]
    by_cases hfl : (fill.length : Int) > 0
    · have a1 : 0 ≤ i.tmod fill.length := Int.tmod_nonneg _ h0
      have a2 : i.tmod fill.length < fill.length := Int.tmod_lt_of_pos _ (by omega)
      rw [if_pos hfl, if_neg (by omega), if_pos a1, if_pos a2, if_pos (by omega), w1 i h0 (by omega)]
      exact ih k (i + 1) _ (by omega) (by omega) (by omega) (by simp; omega)
    · rw [if_neg hfl, if_pos (by omega), w1 i h0 (by omega)]
      exact ih k (i + 1) _ (by omega) (by omega) (by omega) (by simp; omega)
theorem bytes_loop (l : List Int) (n : Int) (hn : n ≤ 1048576) (d : Nat) : ∀ (k : Nat) (i p s : Int) (x : List Int), PosOk l p → d < k → i + d = max n 0 → 0 ≤ i → (x.length : Int) = i → ∃ r p' s', spec_l1DrawBytes.l0 k n x i l p s = some (r, p', s') ∧ PosOk l p' ∧ (r.length : Int) = max n 0 := by
  induction d with
  | zero =>
    intro k i p s x hp hk hi h0 hx
    obtain ⟨k, rfl⟩ : ∃ m, k = m + 1 := ⟨k - 1, by omega⟩
    simp only [spec_l1DrawBytes.l0]
    rw [if_neg (by omega)]
    exact ⟨_, _, _, rfl, hp, by omega⟩
  | succ d ih =>
    intro k i p s x hp hk hi h0 hx
    obtain ⟨k, rfl⟩ : ∃ m, k = m + 1 := ⟨k - 1, by omega⟩
    obtain ⟨v1, p1, s1, e1, hp1, b1, c1, d1⟩ := next_ok l p s 256 hp (by omega)
    simp only [spec_l1DrawBytes.l0]
    rw [if_pos (by omega), e1]
    simp only [Option.bind_some]
    rw [if_pos (by omega), w1 i h0 (by omega)]
    exact ih k (i + 1) _ _ _ hp1 (by omega) (by omega) (by omega) (by simp; omega)
theorem dbytes_ok (l : List Int) (p s n : Int) (hp : PosOk l p) (hn : n ≤ 1048576) (k : Nat) (hk : 1048577 ≤ k) : ∃ r p' s', spec_l1DrawBytes.f k l p s n = some (r, p', s') ∧ PosOk l p' ∧ (r.length : Int) = max n 0 :=
  bytes_loop l n hn (max n 0).toNat k 0 p s [] hp (by omega) (by omega) (by omega) rfl
theorem blocks_ok (l : List Int) (p s : Int) (hp : PosOk l p) : ∃ v p' s', spec_l1DrawBlocks.f l p s = some (v, p', s') ∧ PosOk l p' ∧ 8 ≤ v ∧ v ≤ 512 := by
  obtain ⟨v1, p1, s1, e1, hp1, b1, c1, d1⟩ := next_ok l p s 20 hp (by omega)
  unfold spec_l1DrawBlocks.f
  rw [e1]
  simp only [Option.bind_some]
  by_cases h0 : v1 = 0
  · rw [if_pos h0]; exact ⟨_, _, _, rfl, hp1, by omega, by omega⟩
  · by_cases h1 : v1 = 1
    · rw [if_neg h0, if_pos h1]; exact ⟨_, _, _, rfl, hp1, by omega, by omega⟩
    · rw [if_neg h0, if_neg h1]
      by_cases h2 : v1 < 5
      · rw [if_pos h2]
        obtain ⟨v2, p2, s2, e2, hp2, b2, c2, d2⟩ := next_ok l p1 s1 200 hp1 (by omega)
        rw [e2]
        refine ⟨_, _, _, rfl, hp2, ?_, ?_⟩ <;> (unfold wrap64; omega)
      · rw [if_neg h2]
        obtain ⟨v2, p2, s2, e2, hp2, b2, c2, d2⟩ := next_ok l p1 s1 40 hp1 (by omega)
        rw [e2]
        refine ⟨_, _, _, rfl, hp2, ?_, ?_⟩ <;> (unfold wrap64; omega)
theorem blockno_ok (l : List Int) (p s n : Int) (hp : PosOk l p) (hn : n ≤ 1048576) : ∃ v p' s', spec_l1DrawBlockNo.f l p s n = some (v, p', s') ∧ PosOk l p' := by
  obtain ⟨v1, p1, s1, e1, hp1, b1, c1, d1⟩ := next_ok l p s 12 hp (by omega)
  unfold spec_l1DrawBlockNo.f
  rw [e1]
  simp only [Option.bind_some]
  by_cases h0 : v1 = 0
  · rw [if_pos h0]; exact ⟨_, _, _, rfl, hp1⟩
  · by_cases h1 : v1 = 1
    · rw [if_neg h0, if_pos h1]; exact ⟨_, _, _, rfl, hp1⟩
    · rw [if_neg h0, if_neg h1]
      by_cases h2 : v1 < 7
      · rw [if_pos h2]
        obtain ⟨v2, p2, s2, e2, hp2, b2, c2, d2⟩ := next_ok l p1 s1 4 hp1 (by omega)
        rw [e2]
        exact ⟨_, _, _, rfl, hp2⟩
      · rw [if_neg h2]
        obtain ⟨v2, p2, s2, e2, hp2, b2, c2, d2⟩ := next_ok l p1 s1 n hp1 (by omega)
        rw [e2]
        exact ⟨_, _, _, rfl, hp2⟩
theorem device_loop (l : List Int) (b : Int) (disk : List Int) (n : Int) (hb : 8 ≤ b) (hb2 : b ≤ 512) (hd : 1 ≤ disk.length) (hn : n ≤ 2048) (d : Nat) : ∀ (k : Nat) (i p s : Int) (x6 : List Int) (cache : List S32), PosOk l p → 2 * d + 200 ≤ k → i + d = max n 0 → 0 ≤ i → x6.length = 128 → (cache.length : Int) = i → ∃ r1 r2 r3 p' s', spec_l1DrawDevice.l0 k n x6 i l p s b disk cache = some (r1, r2, r3, p', s') ∧ PosOk l p' ∧ r1 ≤ 513 := by
  induction d with
  | zero =>
    intro k i p s x6 cache hp hk hi h0 hx hc
    obtain ⟨k, rfl⟩ : ∃ m, k = m + 1 := ⟨k - 1, by omega⟩
    obtain ⟨v1, p1, s1, e1, hp1, b1, c1, d1⟩ := next_ok l p s 6 hp (by omega)
    simp only [spec_l1DrawDevice.l0]
    rw [if_neg (by omega), e1]
    simp only [Option.bind_some]
    by_cases h1 : v1 = 0
    · rw [if_pos h1]
      obtain ⟨v2, p2, s2, e2, hp2, b2, c2, d2⟩ := next_ok l p1 s1 5 hp1 (by omega)
      rw [e2]
      simp only [Option.bind_some]
      by_cases q0 : v2 = 0
      · rw [if_pos q0, if_pos (by omega)]
        exact ⟨_, _, _, _, _, rfl, hp2, by omega⟩
      · by_cases q1 : v2 = 1
        · rw [if_neg q0, if_pos q1]
          exact ⟨_, _, _, _, _, rfl, hp2, by unfold wrap64; omega⟩
        · by_cases q2 : v2 = 2
          · rw [if_neg q0, if_neg q1, if_pos q2, scopy_ok x6 (by omega) k (by omega)]
            simp only [Option.bind_some]
            rw [if_pos (by omega)]
            exact ⟨_, _, _, _, _, rfl, hp2, by omega⟩
          · by_cases q3 : v2 = 3
            · rw [if_neg q0, if_neg q1, if_neg q2, if_pos q3, scopy_ok x6 (by omega) k (by omega)]
              simp only [Option.bind_some]
              rw [if_pos (by omega)]
              exact ⟨_, _, _, _, _, rfl, hp2, by omega⟩
            · rw [if_neg q0, if_neg q1, if_neg q2, if_neg q3, if_pos (by omega), if_pos (by omega)]
              exact ⟨_, _, _, _, _, rfl, hp2, by omega⟩
    · rw [if_neg h1]
      exact ⟨_, _, _, _, _, rfl, hp1, by omega⟩
  | succ d ih =>
    intro k i p s x6 cache hp hk hi h0 hx hc
    obtain ⟨k, rfl⟩ : ∃ m, k = m + 2 := ⟨k - 2, by omega⟩
    have step : ∀ (x : List Int) (q t : Int), PosOk l q → x.length = 128 → ∃ r1 r2 r3 p' s', spec_l1DrawDevice.j2 (k + 1) n x i l q t b disk cache = some (r1, r2, r3, p', s') ∧ PosOk l p' ∧ r1 ≤ 513 := by
      intro x q t hq hxl
      obtain ⟨v1, p1, s1, e1, hp1, b1, c1, d1⟩ := next_ok l q t b hq (by omega)
      obtain ⟨v2, p2, s2, e2, hp2, b2, c2, d2⟩ := next_ok l p1 s1 2 hp1 (by omega)
      simp only [spec_l1DrawDevice.j2]
      rw [e1]
      simp only [Option.bind_some]
      rw [e2]
      simp only [Option.bind_some]
      by_cases h2 : v2 = 0
      · obtain ⟨v3, p3, s3, e3, hp3, b3, c3, d3⟩ := next_ok l p2 s2 4 hp2 (by omega)
        rw [if_pos h2, e3]
        simp only [Option.bind_some]
        rw [scopy_ok x (by omega) k (by omega)]
        simp only [Option.bind_some]
        rw [if_pos (by omega), w1 i h0 (by omega)]
        exact ih k (i + 1) _ _ _ _ hp3 (by omega) (by omega) (by omega) hxl (by simp; omega)
      · rw [if_neg h2, scopy_ok x (by omega) k (by omega)]
        simp only [Option.bind_some]
        rw [if_pos (by omega), w1 i h0 (by omega)]
        exact ih k (i + 1) _ _ _ _ hp2 (by omega) (by omega) (by omega) hxl (by simp; omega)
    rw [show k + 2 = (k + 1) + 1 from rfl]
    simp only [spec_l1DrawDevice.l0]
    rw [if_pos (by omega)]
    by_cases h14 : i < 14
    · obtain ⟨r, p1, s1, e1, hp1, hr⟩ := block_ok l p s hp (k + 1) (by omega)
      rw [if_pos h14, e1]
      exact step r p1 s1 hp1 hr
    · rw [if_neg h14]
      exact step x6 p s hp hx
theorem device_ok (l : List Int) (p s : Int) (hp : PosOk l p) (k : Nat) (hk : 1048577 ≤ k) : ∃ r1 r2 r3 p' s', spec_l1DrawDevice.f k l p s = some (r1, r2, r3, p', s') ∧ PosOk l p' ∧ r1 ≤ 513 := by
  obtain ⟨b, p1, s1, e1, hp1, hb, hb2⟩ := blocks_ok l p s hp
  obtain ⟨v2, p2, s2, e2, hp2, b2, c2, d2⟩ := next_ok l p1 s1 40 hp1 (by omega)
  obtain ⟨fill, p3, s3, e3, hp3, hfl⟩ := dbytes_ok l p2 s2 v2 hp2 (by omega) k hk
  obtain ⟨v4, p4, s4, e4, hp4, b4, c4, d4⟩ := next_ok l p3 s3 14 hp3 (by omega)
  obtain ⟨v5, p5, s5, e5, hp5, b5, c5, d5⟩ := next_ok l p4 s4 30 hp4 (by omega)
  obtain ⟨disk, e6, hdl⟩ := new_loop b fill (by omega) hb2 (by omega) (b * 128).toNat k 0 [] (by omega) (by omega) (by omega) rfl
  have hd1 : 1 ≤ disk.length := by omega
  have e7 : spec_NewDevice.f k b fill = some (b, disk, [], 0) := by
    unfold spec_NewDevice.f spec_l1BlocksOK.f
    rw [if_pos hb]
    simp only [Option.bind_some, hb2, decide_true, if_true]
    exact e6
  unfold spec_l1DrawDevice.f
  rw [e1]
  simp only [Option.bind_some]
  rw [e2]
  simp only [Option.bind_some]
  rw [e3]
  simp only [Option.bind_some]
  rw [e7]
  simp only [Option.bind_some]
  rw [e4]
  simp only [Option.bind_some]
  rw [e5]
  simp only [Option.bind_some]
  have fin : ∀ (n q t : Int), n ≤ 2048 → PosOk l q → ∃ r1 r2 r3 p' s', spec_l1DrawDevice.j0 k n l q t b disk [] = some (r1, r2, r3, p', s') ∧ PosOk l p' ∧ r1 ≤ 513 := by
    intro n q t hn hq
    obtain ⟨k, rfl⟩ : ∃ m, k = m + 1 := ⟨k - 1, by omega⟩
    obtain ⟨x, p6, s6, e6, hp6, hx⟩ := block_ok l q t hq k (by omega)
    simp only [spec_l1DrawDevice.j0]
    rw [e6]
    exact device_loop l b disk n hb hb2 hd1 hn (max n 0).toNat k 0 p6 s6 x [] hp6 (by omega) (by omega) (by omega) hx rfl
  by_cases h5 : v5 = 0
  · obtain ⟨v8, p8, s8, e8, hp8, b8, c8, d8⟩ := next_ok l p5 s5 2 hp5 (by omega)
    rw [if_pos h5, e8]
    exact fin _ _ _ (by unfold wrap64; omega) hp8
  · rw [if_neg h5]
    exact fin _ _ _ (by omega) hp5
theorem drawWrite_ok (l : List Int) (hl : l.length ≤ 1048576) (k : Nat) (hk : 1048577 ≤ k) : ∃ b disk cache blk data, spec_DrawDevWrite.f k l = some (b, disk, cache, blk, data) ∧ data.length ≤ 129 := by
  unfold spec_DrawDevWrite.f spec_l1Begin.f
  simp only [Option.bind_some]
  obtain ⟨b, disk, cache, p1, s1, e1, hp1, hb⟩ := device_ok l 0 (spec_l1Begin.st l 1469598103934665603) ⟨by omega, by omega, by omega⟩ k hk
  obtain ⟨x, p2, s2, e2, hp2, hx⟩ := block_ok l p1 s1 hp1 k (by omega)
  obtain ⟨v3, p3, s3, e3, hp3, b3, c3, d3⟩ := next_ok l p2 s2 12 hp2 (by omega)
  obtain ⟨v4, p4, s4, e4, hp4⟩ := blockno_ok l p3 s3 b hp3 (by omega)
  rw [e1]
  simp only [Option.bind_some]
  rw [e2]
  simp only [Option.bind_some]
  rw [e3]
  simp only [Option.bind_some]
  rw [e4]
  simp only [Option.bind_some]
  split
  · rw [if_pos (by omega)]; exact ⟨_, _, _, _, _, rfl, by simp; omega⟩
  · split
    · rw [if_pos (by omega)]; exact ⟨_, _, _, _, _, rfl, by simp; omega⟩
    · exact ⟨_, _, _, _, _, rfl, by omega⟩
theorem svalid_loop (b : Int) (disk : List Int) (cache : List S32) (hn : cache.length ≤ 2048) (d : Nat) : ∀ (i k : Nat), i + d = cache.length → d < k →
    spec_l1Valid.l0 k (i : Int) b disk cache = some ((cache.drop i).all (pendOk b)) := by
  induction d with
  | zero =>
    intro i k hi hk
    obtain ⟨k, rfl⟩ : ∃ m, k = m + 1 := ⟨k - 1, by omega⟩
    simp only [spec_l1Valid.l0]
    rw [if_neg (by omega), List.drop_eq_nil_of_le (by omega)]
    rfl
  | succ d ih =>
    intro i k hi hk
    obtain ⟨k, rfl⟩ : ∃ m, k = m + 1 := ⟨k - 1, by omega⟩
    have hlt : i < cache.length := by omega
    simp only [spec_l1Valid.l0]
    rw [if_pos (by omega), if_pos (by omega), rd_pend _ _ hlt, List.drop_eq_getElem_cons hlt, List.all_cons]
    have e : wrap64 ((i : Int) + 1) = ((i + 1 : Nat) : Int) := by unfold wrap64; omega
    rw [e, ih (i + 1) k (by omega) (by omega)]
    unfold pendOk
    by_cases h1 : cache[i].f0 < 0
    · rw [if_pos h1]; simp; omega
    · by_cases h2 : cache[i].f0 ≥ b
      · rw [if_neg h1, if_pos h2]; simp; omega
      · by_cases h3 : (cache[i].f1.length : Int) = 128
        · rw [if_neg h1, if_neg h2, if_pos h3]
          have : decide (0 ≤ cache[i].f0) = true := by simp; omega
          have : decide (cache[i].f0 < b) = true := by simp; omega
          have : decide (cache[i].f1.length = 128) = true := by simp; omega
          simp_all
        · rw [if_neg h1, if_neg h2, if_neg h3]
          have : decide (cache[i].f1.length = 128) = false := by simp; omega
          simp_all
theorem svalid_eq (b : Int) (disk : List Int) (cache : List S32) : ∀ k, 2050 ≤ k → spec_l1Valid.f k b disk cache = some (validDev b disk cache) := by
  intro k hk
  obtain ⟨k, rfl⟩ : ∃ m, k = m + 1 := ⟨k - 1, by omega⟩
  unfold spec_l1Valid.f spec_l1BlocksOK.f validDev
  by_cases h1 : b ≥ 8
  · rw [if_pos h1]
    simp only [Option.bind_some]
    by_cases h2 : b ≤ 512
    · simp only [h2, decide_true, if_true]
      have e : wrap64 (b * 128) = b * 128 := by unfold wrap64; omega
      rw [e]
      by_cases h3 : (disk.length : Int) = b * 128
      · rw [if_pos h3]
        simp only [spec_l1Valid.j0]
        by_cases h4 : (cache.length : Int) > 2048
        · simp [h4]; omega
        · rw [if_neg (by simpa using h4)]
          rw [show (0 : Int) = ((0 : Nat) : Int) from rfl, svalid_loop b disk cache (by omega) cache.length 0 k (by omega) (by omega)]
          simp [h1, h3, show cache.length ≤ 2048 by omega]
      · rw [if_neg h3]
        simp [spec_l1Valid.j0, h3]
    · simp [h2, spec_l1Valid.j0]
  · rw [if_neg h1]
    simp [spec_l1Valid.j0, show ¬ (8 ≤ b) by omega]
theorem scopydev_loop (b : Int) (disk : List Int) (cache : List S32) (hn : cache.length ≤ 2048) (hp : ∀ p ∈ cache, p.f1.length ≤ 128) (y0 : Int) (y1 : List Int) (d : Nat) : ∀ (i k : Nat) (acc : List S32), i + d = cache.length → acc.length = i → d + 200 < k →
    ∃ r3, spec_l1CopyDevice.l0 k (i : Int) b disk cache y0 y1 acc = some (y0, y1, r3) ∧ r3.length = cache.length := by
  induction d with
  | zero =>
    intro i k acc hi ha hk
    obtain ⟨k, rfl⟩ : ∃ m, k = m + 1 := ⟨k - 1, by omega⟩
    simp only [spec_l1CopyDevice.l0]
    rw [if_neg (by omega)]
    exact ⟨_, rfl, by omega⟩
  | succ d ih =>
    intro i k acc hi ha hk
    obtain ⟨k, rfl⟩ : ∃ m, k = m + 1 := ⟨k - 1, by omega⟩
    have hlt : i < cache.length := by omega
    have hpl := hp _ (List.getElem_mem hlt)
    simp only [spec_l1CopyDevice.l0]
    rw [if_pos (by omega), if_pos (by omega), rd_pend _ _ hlt, scopy_ok _ (by omega) k (by omega)]
    simp only [Option.bind_some]
    have e : wrap64 ((i : Int) + 1) = ((i + 1 : Nat) : Int) := by unfold wrap64; omega
    rw [if_pos (by omega), e]
    exact ih (i + 1) k _ (by omega) (by simp; omega) (by omega)
theorem sdev_ok (b : Int) (disk : List Int) (cache : List S32) (blk : Int) (data : List Int) (hd : data.length ≤ 16777216) (k : Nat) (hk : 70000 ≤ k) : ∃ r1 r2 r3, spec_DevWrite.f k b disk cache blk data = some (r1, r2, r3, if validDev b disk cache then wcode b cache.length blk data.length else 1) := by
  unfold spec_DevWrite.f
  rw [svalid_eq b disk cache k (by omega)]
  simp only [Option.bind_some]
  by_cases hv : validDev b disk cache = true
  · rw [if_pos hv, if_pos hv]
    have h512 := validDev_512 hv
    have hl := validDev_len hv
    have h2 := validDev_2048 hv
    have ha := validDev_all hv
    obtain ⟨r3, e3, hr3⟩ := scopydev_loop b disk cache h2 (fun p hp => by have := ha p hp; simp [pendOk] at this; omega) b disk cache.length 0 k [] (by omega) rfl (by omega)
    have ec : spec_l1CopyDevice.f k b disk cache = some (b, disk, r3) := by
      unfold spec_l1CopyDevice.f
      rw [scopy_ok disk (by omega) k (by omega)]
      exact e3
    rw [ec]
    simp only [Option.bind_some]
    obtain ⟨k, rfl⟩ : ∃ m, k = m + 1 := ⟨k - 1, by omega⟩
    unfold wcode
    by_cases b1 : blk < 0
    · rw [if_pos b1, if_pos (Or.inl b1)]
      simp only [spec_DevWrite.j0, if_true]
      exact ⟨_, _, _, rfl⟩
    · rw [if_neg b1]
      by_cases b2 : blk ≥ b
      · rw [if_pos (Or.inr b2)]
        simp only [spec_DevWrite.j0, b2, decide_true, if_true]
        exact ⟨_, _, _, rfl⟩
      · rw [if_neg (show ¬ (blk < 0 ∨ b ≤ blk) by omega)]
        simp only [spec_DevWrite.j0, b2, decide_false, Bool.false_eq_true, if_false]
        by_cases b3 : (data.length : Int) = 128
        · rw [if_pos b3, if_neg (show ¬ data.length ≠ 128 by omega)]
          by_cases b4 : (cache.length : Int) ≥ 2048
          · rw [if_pos b4, if_pos (by omega)]
            exact ⟨_, _, _, rfl⟩
          · rw [if_neg b4, if_neg (by omega), scopy_ok data (by omega) k (by omega)]
            simp only [Option.bind_some]
            rw [if_pos (by omega)]
            exact ⟨_, _, _, rfl⟩
        · rw [if_neg b3, if_pos (show data.length ≠ 128 by omega)]
          exact ⟨_, _, _, rfl⟩
  · rw [if_neg hv, if_neg hv]
    exact ⟨_, _, _, rfl⟩
theorem fcopy_loop (xs : List Int) (hx : xs.length ≤ 16777216) (d : Nat) : ∀ (k i : Nat), d < k → i + d = xs.length → laws_fCopyBytes.l0 k xs (xs.take i) (i : Int) = some xs := by
  induction d with
  | zero =>
    intro k i hk hi
    obtain ⟨k, rfl⟩ : ∃ m, k = m + 1 := ⟨k - 1, by omega⟩
    simp only [laws_fCopyBytes.l0]
    rw [if_neg (by omega), List.take_of_length_le (by omega)]
  | succ d ih =>
    intro k i hk hi
    obtain ⟨k, rfl⟩ : ∃ m, k = m + 1 := ⟨k - 1, by omega⟩
    simp only [laws_fCopyBytes.l0]
    rw [if_pos (by omega), if_pos (by omega), if_pos (by simp; omega), w1 _ (by omega) (by omega)]
    have e : xs.take i ++ [rd xs (i : Int)] = xs.take (i + 1) := by
      rw [List.take_add_one]; simp [rd, List.getD_eq_getElem?_getD, show i < xs.length by omega]
    rw [e, show ((i : Int) + 1) = ((i + 1 : Nat) : Int) by omega]
    exact ih k (i + 1) (by omega) (by omega)
theorem fcopy_ok (xs : List Int) (hx : xs.length ≤ 16777216) (k : Nat) (hk : xs.length < k) : laws_fCopyBytes.f k xs = some xs := by
  have := fcopy_loop xs hx xs.length k 0 hk (by omega)
  simpa [laws_fCopyBytes.f] using this
def seg (disk : List Int) (i : Int) : List Int := (disk.take ((i + 1) * 128).toNat).drop (i * 128).toNat
def pick (P : Nat → Bool) (i : Int) (cache : List S32) (base : List Int) : Nat → List Int
  | 0 => base
  | n + 1 => if h : n < cache.length then (if cache[n].f0 = i ∧ P n = true then cache[n].f1 else pick P i cache base n) else pick P i cache base n
theorem read_loop (b : Int) (disk : List Int) (cache : List S32) (hv : validDev b disk cache = true) (i : Int) (h0 : 0 ≤ i) (h1 : i < b) (n : Nat) : ∀ k : Nat, n ≤ cache.length → n < k → impl_DevRead.l0 k i ((n : Int) - 1) b disk cache = some (pick (fun _ => true) i cache (seg disk i) n, 0) := by
  have h512 := validDev_512 hv
  have hl := validDev_len hv
  have h2 := validDev_2048 hv
  have ha := validDev_all hv
  induction n with
  | zero =>
    intro k hn hk
    obtain ⟨k, rfl⟩ : ∃ m, k = m + 1 := ⟨k - 1, by omega⟩
    simp only [impl_DevRead.l0]
    have e1 : wrap64 (i * 128) = i * 128 := by unfold wrap64; omega
    have e2 : wrap64 (i + 1) = i + 1 := by unfold wrap64; omega
    have e3 : wrap64 ((i + 1) * 128) = (i + 1) * 128 := by unfold wrap64; omega
    rw [if_neg (by omega), e2, e1, e3, if_pos (by omega), if_pos (by omega), if_pos (by omega), if_pos (by simp; omega)]
    rfl
  | succ n ih =>
    intro k hn hk
    obtain ⟨k, rfl⟩ : ∃ m, k = m + 1 := ⟨k - 1, by omega⟩
    have hlt : n < cache.length := by omega
    have hp := ha _ (List.getElem_mem hlt)
    simp only [pendOk, Bool.and_eq_true, decide_eq_true_eq] at hp
    simp only [impl_DevRead.l0]
    rw [show (((n + 1 : Nat) : Int) - 1) = (n : Int) by omega, if_pos (by omega), if_pos (by omega), if_pos (by omega), rd_pend _ _ hlt]
    simp only [pick]
    rw [dif_pos hlt]
    by_cases hc : cache[n].f0 = i
    · rw [if_pos hc, if_pos (by simp; omega)]
      simp [hc]
    · rw [if_neg hc, if_neg (fun h => hc h.1), show wrap64 ((n : Int) - 1) = (n : Int) - 1 from by unfold wrap64; omega]
      exact ih k (by omega) (by omega)
theorem read_ok (b : Int) (disk : List Int) (cache : List S32) (hv : validDev b disk cache = true) (i : Int) (h0 : 0 ≤ i) (h1 : i < b) (k : Nat) (hk : 3000 ≤ k) : impl_DevRead.f k b disk cache i = some (pick (fun _ => true) i cache (seg disk i) cache.length, 0) := by
  have h2 := validDev_2048 hv
  unfold impl_DevRead.f
  rw [valid_eq b disk cache k (by omega), hv]
  simp only [Option.bind_some, if_true]
  rw [if_neg (by omega)]
  obtain ⟨k, rfl⟩ : ∃ m, k = m + 1 := ⟨k - 1, by omega⟩
  simp only [impl_DevRead.j0, show ¬ (i ≥ b) by omega, decide_false, Bool.false_eq_true, if_false]
  rw [show wrap64 ((cache.length : Int) - 1) = (cache.length : Int) - 1 from by unfold wrap64; omega]
  exact read_loop b disk cache hv i h0 h1 cache.length k (Nat.le_refl _) (by omega)
theorem pick_nil (P : Nat → Bool) (i : Int) (base : List Int) (n : Nat) : pick P i [] base n = base := by
  induction n with
  | zero => rfl
  | succ n ih => simp [pick, ih]
theorem seg_get (x : List Int) (i : Int) (h0 : 0 ≤ i) (j : Nat) : (seg x i)[j]? = if j < 128 then x[i.toNat * 128 + j]? else none := by
  unfold seg
  rw [show ((i + 1) * 128).toNat = i.toNat * 128 + 128 by omega, show (i * 128).toNat = i.toNat * 128 by omega, List.getElem?_drop, List.getElem?_take]
  by_cases hj : j < 128
  · rw [if_pos (by omega), if_pos hj]
  · rw [if_neg (by omega), if_neg hj]
theorem splice_get (L cs : List Int) (off q : Nat) (h : off ≤ L.length) : (splice L off cs)[q]? = if q < off then L[q]? else if q < off + cs.length then cs[q - off]? else L[q]? := by
  unfold splice
  rw [List.getElem?_append, List.length_take, Nat.min_eq_left h]
  by_cases h1 : q < off
  · rw [if_pos h1, if_pos h1, List.getElem?_take, if_pos h1]
  · rw [if_neg h1, if_neg h1, List.getElem?_append]
    by_cases h2 : q < off + cs.length
    · rw [if_pos (by omega), if_pos h2]
    · rw [if_neg (by omega), if_neg h2, List.getElem?_drop]
      congr 1
      omega
theorem seg_splice (L cs : List Int) (i j : Int) (h0 : 0 ≤ i) (hj : 0 ≤ j) (hc : cs.length = 128) (hl : j.toNat * 128 ≤ L.length) : seg (splice L (j.toNat * 128) cs) i = if j = i then cs else seg L i := by
  apply List.ext_getElem?
  intro q
  rw [seg_get _ _ h0, splice_get _ _ _ _ hl]
  by_cases e : j = i
  · subst e
    rw [if_pos rfl]
    by_cases hq : q < 128
    · rw [if_pos hq, if_neg (by omega), if_pos (by omega)]
      congr 1
      omega
    · rw [if_neg hq]
      exact (List.getElem?_eq_none (by omega)).symm
  · rw [if_neg e, seg_get _ _ h0]
    by_cases hq : q < 128
    · rw [if_pos hq, if_pos hq]
      by_cases h1 : i.toNat * 128 + q < j.toNat * 128
      · rw [if_pos h1]
      · rw [if_neg h1, if_neg (by omega)]
    · rw [if_neg hq, if_neg hq]
theorem seg_settle (kp : Nat → Bool) (b : Int) (disk : List Int) (cache : List S32) (hv : validDev b disk cache = true) (i : Int) (h0 : 0 ≤ i) (h1 : i < b) : ∀ n, n ≤ cache.length → seg (settleTo kp cache disk n) i = pick kp i cache (seg disk i) n := by
  have hl := validDev_len hv
  have ha := validDev_all hv
  intro n
  induction n with
  | zero => intro _; rfl
  | succ n ih =>
    intro hn
    have hlt : n < cache.length := by omega
    have hp := ha _ (List.getElem_mem hlt)
    simp only [pendOk, Bool.and_eq_true, decide_eq_true_eq] at hp
    have hs := settle_length kp b cache disk hl ha n (by omega)
    simp only [settleTo, pick]
    rw [dif_pos hlt, rd_pend _ _ hlt]
    by_cases hk : kp n = true
    · rw [if_pos hk, seg_splice _ _ _ _ h0 hp.1 hp.2.2 (by omega), ih (by omega)]
      simp [hk]
    · rw [if_neg hk, if_neg (fun h => hk h.2), ih (by omega)]
theorem valid_settle (kp : Nat → Bool) (b : Int) (disk : List Int) (cache : List S32) (hv : validDev b disk cache = true) : validDev b (settleTo kp cache disk cache.length) [] = true := by
  have hs := settle_length kp b cache disk (validDev_len hv) (validDev_all hv) cache.length (Nat.le_refl _)
  have h1 := validDev_8 hv
  have h2 := validDev_512 hv
  have h3 := validDev_len hv
  simp [validDev, h1, h2, hs, h3]
theorem valid_add (b : Int) (disk : List Int) (cache : List S32) (hv : validDev b disk cache = true) (blk : Int) (data : List Int) (hw : wcode b cache.length blk data.length = 0) : validDev b disk (cache ++ [⟨blk, data⟩]) = true := by
  have h1 := validDev_8 hv
  have h2 := validDev_512 hv
  have h3 := validDev_len hv
  have h4 := validDev_all hv
  obtain ⟨q1, q2, q3, q4⟩ := wcode_zero hw
  simp only [validDev, h1, h2, h3, decide_true, Bool.true_and, List.length_append, List.length_cons, List.length_nil, Bool.and_eq_true, decide_eq_true_eq, List.all_append, List.all_cons, List.all_nil, Bool.and_true]
  refine ⟨by omega, List.all_eq_true.2 h4, ?_⟩
  simp [pendOk, q1, q2, q3]
theorem apply_two (b : Int) (disk : List Int) (cache : List S32) (hv : validDev b disk cache = true) (blk : Int) (data : List Int) (hw : wcode b cache.length blk data.length = 0) : impl_DevApply.f b disk cache [⟨1, blk, data⟩, ⟨2, 0, []⟩] 2 = some (b, settleTo (fun _ => true) (cache ++ [⟨blk, data⟩]) disk (cache ++ [⟨blk, data⟩] : List S32).length, [], 0) := by
  unfold impl_DevApply.f
  rw [if_pos hv, if_neg (by simp)]
  simp [applyGo, hw, show min (max (2 : Int) 0).toNat 2 = 2 from rfl]
theorem cells_keep {P : Program} {w w' : World} {v v' : Value} (base : Nat) (t ty e : TypeId) (i : TypeInfo) (z : Value) (ht : P.underlying t = some (.slice e)) (hi : P.info? e = some i) (hz : i.zero = some z)
    (n : Nat) (xs : List Value) (hown : w.ownsRow base e i.size v n xs) (a : Addr) (m c : Nat) (news : List Value) (hl : news.length = m * i.size) (hnews : ∀ j u, news[j]? = some u → w.cell? (a.add j) = some u) (h1 : ∀ u ∈ news, u.oneCell' = true)
    (h63 : n + m ≤ maxLen) (hbytes : (n + m) * i.bytes ≤ 140737488355328) (hr : (Builtin.append_ #[t, t] ty #[v, .slice (some a) m c]).run P w = .ok v' w') (ad : Addr) (n' c' : Nat) (hv : v = .slice (some ad) n' c') :
    ∀ j u, xs[j]? = some u → w'.cell? (ad.add j) = some u := by
  subst hv
  have hcells : ∀ g, ad = ⟨g, 0, none⟩ → ∀ j u, xs[j]? = some u → w.cell? (ad.add j) = some u := fun g h => by subst h; exact hown.cells (g := g) rfl
  rcases hown.2 with ⟨h, _⟩ | ⟨g, cap, cur, h, hbg, hg, hnc, hcm, hcs, htake⟩
  · cases h
  · injection h with h h2 h3
    injection h with h
    subst h; subst h2; subst h3
    by_cases hroom : n' + m ≤ c'
    · have hfit : n' * i.size + news.length ≤ cur.size := by rw [hl, hcs, ← Nat.add_mul]; exact Nat.mul_le_mul_right _ hroom
      have hq := run_append_room (P := P) w t ty e i ht hi g n' c' cur hg a m c news hl hnews h1 hroom hfit
      rw [hr] at hq
      injection hq with _ hq
      subst hq
      intro j u hj
      have hjl : j < xs.length := (List.getElem?_eq_some_iff.1 hj).1
      have hb := setRow_heap w g cur (cur.toList.take (n' * i.size) ++ news ++ cur.toList.drop (n' * i.size + news.length)).toArray e _ hg
      have := blk_cell hb j
      rw [show (⟨g, 0, none⟩ : Addr).add j = ⟨g, j, none⟩ by rcases j with _ | j <;> simp [Addr.add], this, htake, List.append_assoc]
      simp [List.getElem?_append, hjl]
      exact (List.getElem?_eq_some_iff.1 hj).2
    · have hq := run_append_grow (P := P) w t ty e i z ht hi hz ⟨g, 0, none⟩ n' c' xs hown.1 (hcells g rfl) a m c news hl hnews (by omega) (by simp only [maxLen] at h63; omega) (growslice_fits (by omega) hbytes)
      rw [hr] at hq
      injection hq with _ hq
      subst hq
      intro j u hj
      have := hcells g rfl j u hj
      exact (World.cell?_of_block (Below.heap_alloc w.drew _ _ (World.block_lt_of_cell? w _ this))).trans this
theorem N_append_keep {P : Program} {ops : Array Oper} {rest : List Oper} {o : Oper} {a : Act} {Q : Exit → Act → World → Prop} {α : Type} (d : Kd α) {w0 W : World} (base : Nat) (hgd : o.guard = none) (s x : Operand) (t e : TypeId) (z : Value) (bytes : Nat)
    (ho : o.op = .call { callee := .builtin .append, args := #[s, x], argTypes := #[t, t] })
    (ht : P.underlying t = some (.slice e)) (hinfo : (P.info? e).map (fun i => (i.zero, i.size, i.bytes)) = some (some z, d.sz, bytes)) (hz : z.cells.size = d.sz) (hs0 : 0 < d.sz) (hb0 : 0 < bytes)
    (A : Option Addr) (c : Nat) (xs : List α) (p : α) (cs : List Value) (ok okp : Nat → Prop) (hs : a.eval s = .slice A xs.length c) (hx : a.eval x = .slice (some ⟨W.heap.size, 0, none⟩) 1 1) (hp : Kd.FK d W okp p cs) (hokp : ∀ k, okp k → ok k ∧ some k ≠ (Value.slice A xs.length c).ownBlock) (hfresh : ∀ k, W.heap.size ≤ k → ok k)
    (HO : Kd.N d e W base ok (.slice A xs.length c) xs) (HB : Below base w0 W) (hbase : base ≤ W.heap.size) (hl : (xs.length + 1) * bytes ≤ 140737488355328)
    (h : ∀ v1 w1, Kd.N d e w1 base ok v1 (xs ++ [p]) → Below base w0 w1 → W.grownBy w1 (Value.slice A xs.length c).ownBlock → d.C w1 A xs.length xs → wpList P ops Q rest (a.put o.dst v1) w1) :
    wpList P ops Q (o :: rest) a (W.alloc (.cells cs.toArray e)) := by
  have HC := (Kd.N_reads' HO).2.2
  have HO' := HO
  obtain ⟨h0, rows, hlr, hR, hf⟩ := HO
  obtain ⟨i0, hi, hzz⟩ := Option.map_eq_some_iff.1 hinfo
  simp only [Prod.mk.injEq] at hzz
  obtain ⟨hz0, hz1, hz2⟩ := hzz
  obtain ⟨r0, inner, hown, hr⟩ := hR
  have hown' := hown.alloc (.cells cs.toArray e)
  have hKp := Kd.FK_now hp
  have hlen : xs.length + 1 ≤ 140737488355328 := Nat.le_trans (Nat.le_mul_of_pos_right _ hb0) hl
  refine wpList_plain hgd fun K hK => ?_
  have hnews : ∀ j u, cs[j]? = some u → (W.alloc (.cells cs.toArray e)).cell? ((⟨W.heap.size, 0, none⟩ : Addr).add j) = some u := by
    simpa using World.news_of_block (cs := cs.toArray) (t := e) (fr := (0, 0)) (heap_alloc_new W (.cells cs.toArray e))
  have hz3 : i0.size = d.sz := hz1
  subst hz2
  have hsz : cs.length = 1 * d.sz := by rw [d.K_len hKp]; simp
  obtain ⟨v', w', hrun, h2, h3, h4, h5⟩ := run_append_own_at (P := P) (W.alloc (.cells cs.toArray e)) base t o.type e i0 z i0.size i0.bytes ht hi hz0 rfl rfl (by rw [hz, hz3]) (by omega) (.slice A xs.length c) rows.length inner (by rw [hz3]; exact hown') ⟨W.heap.size, 0, none⟩ 1 1 cs (by rw [hz3]; exact hsz) hnews (d.K_one hKp) (by simp only [maxLen]; omega) (by rw [hlr]; exact hl) (by simp; omega)
  have hg := World.grownBy.trans (World.grownBy_alloc W (.cells cs.toArray e) (Value.slice A xs.length c).ownBlock) h3
  have hat : v'.ownBlock = (Value.slice A xs.length c).ownBlock ∨ ∃ b, v'.ownBlock = some b ∧ W.heap.size ≤ b := by
    rcases h5 with h5 | h5
    · exact .inl h5
    · exact .inr ⟨_, h5, by simp⟩
  have hB := (HB.alloc hbase (.cells cs.toArray e)).grown h3 (by simp; omega) (own_base hown)
  unfold Oper.wp execOp
  simp only [ho, resolve, invoke, builtin, Sem.run_bind, Sem.run_pure, Result.andThen_ok, List.map_toArray, List.map_cons, List.map_nil, hs, hx, hrun]
  refine hK _ _ (h v' w' ?_ hB hg ?_)
  · refine Kd.N_appended h0 hlr hf (ys := [p]) (news := [cs]) rfl (fun j y c hy hc => by
      rcases j with _ | j
      · simp only [List.getElem?_cons_zero, Option.some.injEq] at hy hc
        rw [← hy, ← hc]; exact hp
      · simp at hy) hokp hfresh ?_ hg hat
    exact Kd.R_appended (d := Kd.raw d.sz) (ok := fun _ => True) (okp := fun _ => False) (fun _ _ => trivial) (hr.imp_ (fun _ _ h => h)) (Kd.FK_raw hp) (fun _ h => h.elim) (fun _ _ => trivial) (by rw [hz3] at h2; exact h2) hg hat
  · refine ⟨rfl, HC.2.1, fun hpos => ?_⟩
    obtain ⟨ad, rfl, _⟩ := HC.2.2 hpos
    refine ⟨ad, rfl, fun j x hj => ?_⟩
    have hjl : j < xs.length := (List.getElem?_eq_some_iff.1 hj).1
    have hkeep := cells_keep (P := P) base t o.type e i0 z ht hi hz0 rows.length inner (by rw [hz3]; exact hown') ⟨W.heap.size, 0, none⟩ 1 1 cs (by rw [hz3]; exact hsz) hnews (d.K_one hKp) (by simp only [maxLen]; omega) (by rw [hlr]; exact hl) hrun ad xs.length c rfl
    have hrj : rows[j]? = some (rows[j]'(by omega)) := List.getElem?_eq_getElem (by omega)
    obtain ⟨m1, m2, m3⟩ := hr.2 j _ hrj
    have m2 : (rows[j]'(by omega)).length = d.sz := by rw [← m1]; exact m2
    refine ⟨rows[j]'(by omega), m2, Kd.FK_now (Kd.FK_grown (hf j x _ hj hrj) hg (fun _ hk => hk.2)), fun i u hu => hkeep _ _ ?_⟩
    have hil : i < d.sz := by have := (List.getElem?_eq_some_iff.1 hu).1; rw [m2] at this; exact this
    rw [← m1] at hu
    have hi2 : i < (Kd.raw d.sz).sz := hil
    rw [List.getElem?_take, if_pos hi2, List.getElem?_drop] at hu
    exact hu
end Go.Proofs.Ytnkgclcmjojeiaa.PFnDeviceReads
