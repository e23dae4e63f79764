/-
  The references' numbers, sums and seals are the program's: plain laws.
-/
import Derived.Test.YtfolgjigfdbnoaaGreatMd
import Derived.Test.YtfolgjigfdbnoaaGreatKc
namespace Go.Proofs.YtfolgjigfdbnoaaGreat.M
open Go.RowKit Go.Proofs.YtfolgjigfdbnoaaGreatW.PrintWords Go.Proofs.YtfolgjigfdbnoaaGreatW.PrintLast Go.Proofs.YtfolgjigfdbnoaaGreatW.PrintMore
open PCommitFormats
set_option linter.unusedVariables false
set_option linter.unusedSimpArgs false

theorem xr_comm (a b : Int) : xr a b = xr b a := by
  unfold xr Go.bits
  simp only [BitVec.xor_comm]
theorem xr_mod (a b : Int) (ha : 0 ≤ a) (ha1 : a ≤ 4294967295) (hb : 0 ≤ b) (hb1 : b ≤ 4294967295) : assartref01_xor.f a b = some (xr a b) := by
  unfold assartref01_xor.f
  rw [Int.emod_eq_of_lt ha (by omega), Int.emod_eq_of_lt hb (by omega)]
  have h := xr_bd a b
  show some (wrap64 (xr a b)) = some (xr a b)
  rw [wrap64_in (by omega) (by omega)]
theorem odd_eq (n : Int) (h0 : 0 ≤ n) (h1 : n ≤ 4294967295) : odd n = decide (Int.tmod n 2 = 1) := by
  unfold odd
  have h := bits_mask .u32 32 (by decide) (fun n h0 h1 => by rw [IntKind.wrap_u32]; omega) 1 (by decide) n h0 (by omega)
  have h2 : (2 : Int) ^ 1 - 1 = 1 := by decide
  rw [h2] at h
  rw [h, Int.tmod_eq_emod_of_nonneg h0]
  rw [Bool.eq_iff_iff]
  simp

theorem refSum_l1 (l : List Int) (i : Int) : ∀ (m : Nat) (k : Nat) (n j : Int), 0 ≤ n → n ≤ 4294967295 → j + m = 8 → 0 ≤ j →
    assartref01_Sum.l1 (k + m + 1) l n i j = assartref01_Sum.l0 k l (crcBits m n) (wrap64 (i + 1)) := by
  intro m
  induction m with
  | zero =>
    intro k n j h0 h1 hj hj0
    simp only [assartref01_Sum.l1, Nat.add_zero]
    rw [if_neg (by omega)]
    rfl
  | succ m ih =>
    intro k n j h0 h1 hj hj0
    have e1 : Int.tdiv n 2 = n / 2 := Int.tdiv_eq_ediv_of_nonneg h0
    have e2 : wrap64 (n / 2) = n / 2 := wrap64_in (by omega) (by omega)
    have e3 : wrap64 (j + 1) = j + 1 := wrap64_in (by omega) (by omega)
    have ho := odd_eq n h0 h1
    have hb := crcBit_bd n h0 h1
    have hih := ih k (crcBit n) (j + 1) hb.1 hb.2 (by omega) (by omega)
    rw [show k + (m + 1) + 1 = (k + m + 1) + 1 by omega]
    rw [assartref01_Sum.l1, if_pos (by omega), e1, e2, e3]
    by_cases c : Int.tmod n 2 = 1
    · rw [if_pos c, xr_mod _ _ (by omega) (by omega) (by omega) (by omega), Option.bind_some]
      have hc : crcBit n = xr (n / 2) 3988292384 := by unfold crcBit; rw [if_pos (by rw [ho]; simp [c])]
      rw [← hc]
      exact hih
    · rw [if_neg c]
      have hc : crcBit n = n / 2 := by unfold crcBit; rw [if_neg (by rw [ho]; simp [c])]
      rw [← hc]
      exact hih

theorem crcBits_bd : ∀ (m : Nat) (n : Int), 0 ≤ n → n ≤ 4294967295 → 0 ≤ crcBits m n ∧ crcBits m n ≤ 4294967295 := by
  intro m
  induction m with
  | zero => intro n h0 h1; exact ⟨h0, h1⟩
  | succ m ih => intro n h0 h1; have hb := crcBit_bd n h0 h1; exact ih _ hb.1 hb.2
theorem crcByte_bd (n c : Int) : 0 ≤ crcByte n c ∧ crcByte n c ≤ 4294967295 := crcBits_bd _ _ (xr_bd _ _).1 (xr_bd _ _).2

theorem refSum_l0 (l : List Int) (hb : Bytes l) (hl : l.length ≤ 1000000) : ∀ (d : Nat) (k : Nat) (n : Int) (i : Nat), 0 ≤ n → n ≤ 4294967295 → i + d = l.length →
    assartref01_Sum.l0 (k + 10 * d + 1) l n i = some (xr 4294967295 (crcL (l.drop i) n)) := by
  intro d
  induction d with
  | zero =>
    intro k n i h0 h1 hi
    simp only [assartref01_Sum.l0, Nat.mul_zero, Nat.add_zero]
    rw [if_neg (by omega), xr_mod _ _ h0 h1 (by omega) (by omega), Option.bind_some, xr_comm, List.drop_of_length_le (by omega)]
    rfl
  | succ d ih =>
    intro k n i h0 h1 hi
    have hr := hb.rd (i : Int)
    have e1 : wrap64 (rd l i) = rd l i := wrap64_in (by omega) (by omega)
    have e2 : wrap64 ((i : Int) + 1) = ((i + 1 : Nat) : Int) := by rw [wrap64_in (by omega) (by omega)]; rfl
    have hc := crcByte_bd n (rd l i)
    rw [show k + 10 * (d + 1) + 1 = (k + 10 * d + 10) + 1 by omega, assartref01_Sum.l0, if_pos (by omega), if_pos (by omega), e1, xr_mod _ _ h0 h1 (by omega) (by omega), Option.bind_some]
    rw [show k + 10 * d + 10 = (k + 10 * d + 1) + 8 + 1 by omega, refSum_l1 l i 8 _ _ 0 (xr_bd _ _).1 (xr_bd _ _).2 (by omega) (by omega), e2]
    rw [show crcBits 8 (xr n (rd l i)) = crcByte n (rd l i) from rfl, ih k _ (i + 1) hc.1 hc.2 (by omega)]
    have := crcL_at (l := l) (i := (i : Int)) (s := n) (by omega) (by omega)
    rw [show ((i : Int) + 1).toNat = i + 1 by omega, Int.toNat_natCast] at this
    rw [this]

theorem refSum (l : List Int) (hb : Bytes l) (hl : l.length ≤ 1000000) : assartref01_Sum.f (10 * l.length + 1) l = some (crc l) := by
  have h := refSum_l0 l hb hl l.length 0 4294967295 0 (by omega) (by omega) (by omega)
  rw [Nat.zero_add] at h
  exact h

theorem limit4 : assartref01_limit.f 8 4 = some 4294967296 := by kernel_rfl
theorem limit2 : assartref01_limit.f 8 2 = some 65536 := by kernel_rfl
theorem limit1 : assartref01_limit.f 8 1 = some 256 := by kernel_rfl

theorem refPut_l0 (w : Nat) (hw : w ≤ 4) : ∀ (d k : Nat) (n : Int) (l : List Int), 0 ≤ n → n ≤ 4294967295 → l.length + d = w → assartref01_Put.l0 (k + d + 1) n w l l.length = some (l ++ putL d n) := by
  intro d
  induction d with
  | zero =>
    intro k n l h0 h1 hl
    simp only [assartref01_Put.l0, Nat.add_zero, putL, List.append_nil]
    rw [if_neg (by omega)]
  | succ d ih =>
    intro k n l h0 h1 hl
    have e1 : Int.tdiv n 256 = n / 256 := Int.tdiv_eq_ediv_of_nonneg h0
    have e2 : Int.tmod n 256 = n % 256 := Int.tmod_eq_emod_of_nonneg h0
    have e3 : wrap64 (n / 256) = n / 256 := wrap64_in (by omega) (by omega)
    have e4 : wrap64 ((l.length : Int) + 1) = ((l ++ [n % 256]).length : Int) := by rw [wrap64_in (by omega) (by omega)]; simp
    have e5 : n % 256 % 256 = n % 256 := by omega
    rw [show k + (d + 1) + 1 = (k + d + 1) + 1 by omega, assartref01_Put.l0, if_pos (by omega), if_pos (by omega), e1, e2, e3, e5, e4, ih k _ _ (by omega) (by omega) (by simp; omega)]
    simp [putL]
theorem refPut4 (n : Int) (h0 : 0 ≤ n) (h1 : n ≤ 4294967295) : assartref01_Put.f 8 n 4 = some (putL 4 n) := by
  have h := refPut_l0 4 (by omega) 4 2 n [] h0 h1 rfl
  unfold assartref01_Put.f
  rw [if_neg (by omega), if_neg (by omega), if_neg (by omega), limit4, Option.bind_some, decide_eq_false (by omega), assartref01_Put.j0, if_neg (by decide)]
  exact h
theorem refPut2 (n : Int) (h0 : 0 ≤ n) (h1 : n ≤ 65535) : assartref01_Put.f 8 n 2 = some (putL 2 n) := by
  have h := refPut_l0 2 (by omega) 2 4 n [] h0 (by omega) rfl
  unfold assartref01_Put.f
  rw [if_neg (by omega), if_neg (by omega), if_neg (by omega), limit2, Option.bind_some, decide_eq_false (by omega), assartref01_Put.j0, if_neg (by decide)]
  exact h
theorem refPut1 (n : Int) (h0 : 0 ≤ n) (h1 : n ≤ 255) : assartref01_Put.f 8 n 1 = some (putL 1 n) := by
  have h := refPut_l0 1 (by omega) 1 5 n [] h0 (by omega) rfl
  unfold assartref01_Put.f
  rw [if_neg (by omega), if_neg (by omega), if_neg (by omega), limit1, Option.bind_some, decide_eq_false (by omega), assartref01_Put.j0, if_neg (by decide)]
  exact h

theorem refSeal_l0 : ∀ (d k : Nat) (l : List Int), Bytes l → l.length + d = 36 → assartref01_Seal.l0 (k + 1000 + d + 1) l = some (strOfNums ((l ++ List.replicate d 0) ++ putL 4 (crc (l ++ List.replicate d 0))), 0) := by
  intro d
  induction d with
  | zero =>
    intro k l hb hl
    have hs := at_rounds (fun k => assartref01_Sum.mono l k) (k := 10 * l.length + 1) (k' := k + 1000) (by omega) (refSum l hb (by omega))
    have hp := at_rounds (fun k => assartref01_Put.mono (crc l) 4 k) (k := 8) (k' := k + 1000) (by omega) (refPut4 (crc l) (crc_bd l).1 (crc_bd l).2)
    simp only [Nat.add_zero, List.replicate_zero, List.append_nil]
    rw [assartref01_Seal.l0, if_neg (by omega), hs, Option.bind_some, hp, Option.bind_some, if_pos (by rw [putL_length]; omega)]
  | succ d ih =>
    intro k l hb hl
    rw [show k + 1000 + (d + 1) + 1 = (k + 1000 + d + 1) + 1 by omega, assartref01_Seal.l0, if_pos (by omega), if_pos (by omega), ih k (l ++ [0]) (hb.append (Bytes.zeros 1)) (by simp; omega)]
    rw [show l ++ [0] ++ List.replicate d 0 = l ++ List.replicate (d + 1) 0 from by rw [List.append_assoc]; rfl]
theorem refSeal (l : List Int) (hb : Bytes l) (hl : l.length ≤ 36) : assartref01_Seal.f 1100 l = some (sealB l, 0) := by
  have h := refSeal_l0 (36 - l.length) (99 - (36 - l.length)) l hb (by omega)
  unfold assartref01_Seal.f
  rw [if_neg (by omega), Option.bind_some, if_pos (by simp; omega), List.nil_append]
  rw [show 99 - (36 - l.length) + 1000 + (36 - l.length) + 1 = 1100 by omega] at h
  exact h
theorem refPrint (g s m : Int) (h0 : 1 ≤ g) (h1 : g ≤ 2147483647) (h2 : 0 ≤ s) (h3 : s ≤ 2147483647) (h4 : 0 ≤ m) (h5 : m ≤ 4294967295) : assartref03_Print.f 1100 g s m = some (superB g s m, 0) := by
  have p1 := at_rounds (fun k => assartref01_Put.mono g 4 k) (k := 8) (k' := 1100) (by omega) (refPut4 g (by omega) (by omega))
  have p2 := at_rounds (fun k => assartref01_Put.mono s 4 k) (k := 8) (k' := 1100) (by omega) (refPut4 s (by omega) (by omega))
  have p3 := at_rounds (fun k => assartref01_Put.mono m 4 k) (k := 8) (k' := 1100) (by omega) (refPut4 m (by omega) (by omega))
  have hs := refSeal (superL g s m) (superL_bytes g s m) (by simp [superL, putL_length])
  unfold superL at hs
  have hr : assartref03_Right.f g s m = some true := by
    unfold assartref03_Right.f
    rw [if_pos h0, if_pos h1, if_pos h2, if_pos h3, if_pos h4, decide_eq_true h5]
  unfold assartref03_Print.f
  rw [hr, Option.bind_some, if_pos rfl, Option.bind_some, p1, Option.bind_some, if_pos (by rw [putL_length]; decide), Option.bind_some, p2, Option.bind_some, if_pos (by rw [List.length_append, putL_length, putL_length]; decide), Option.bind_some, p3, Option.bind_some, if_pos (by rw [List.length_append, List.length_append, putL_length, putL_length, putL_length]; decide), hs, Option.bind_some]
  rfl
end Go.Proofs.YtfolgjigfdbnoaaGreat.M
