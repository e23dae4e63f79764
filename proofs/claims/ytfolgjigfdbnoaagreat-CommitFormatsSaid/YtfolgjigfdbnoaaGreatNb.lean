/-
  The references' chunks, disks and cells are the program's: plain laws.
-/
import Derived.Test.YtfolgjigfdbnoaaGreatNa
import Derived.Test.YtfolgjigfdbnoaaGreatMj
import Derived.Test.YtfolgjigfdbnoaaGreatMo
import Derived.Test.YtfolgjigfdbnoaaGreatKc
namespace Go.Proofs.YtfolgjigfdbnoaaGreat.M
open Go.RowKit Go.Proofs.YtfolgjigfdbnoaaGreatW.PrintWords Go.Proofs.YtfolgjigfdbnoaaGreatW.PrintLast Go.Proofs.YtfolgjigfdbnoaaGreatW.PrintMore
open PCommitFormats
set_option linter.unusedVariables false
set_option linter.unusedSimpArgs false

theorem refBook (l : List Int) (hb : Bytes l) (hl : l.length ≤ 1000000) : assartref03_Book.f (10 * l.length + 1) l = some ((l.length : Int), crc l) := by
  unfold assartref03_Book.f
  rw [refSum l hb hl]
  rfl

/-! ### Chunks -/
theorem strOfNums_append (a b : List Int) : strOfNums (a ++ b) = strOfNums a ++ strOfNums b := by
  apply ByteArray.ext
  simp [strOfNums, ByteArray.data_append]
theorem strOfNums_zeros (m : Nat) : strOfNums (List.replicate m 0) = ⟨(Lib.repeatL [0] m).toArray⟩ := by
  have h : ∀ m, Lib.repeatL [0] m = List.replicate m 0 := by
    intro m
    induction m with
    | zero => rfl
    | succ m ih => rw [Lib.repeatL, ih]; rfl
  rw [h]
  simp [strOfNums]
theorem chunkS_eq (xs : List Int) (x : Nat) : strOfNums (partL xs x ++ List.replicate (40 - (partL xs x).length) 0) = chunkS xs x := by
  rw [strOfNums_append, strOfNums_zeros]
  rfl

theorem set_part (p : List Int) (j : Nat) (h1 : j < p.length) (h2 : p.length ≤ 40) : (p.take j ++ List.replicate (40 - j) 0).set j p[j] = p.take (j + 1) ++ List.replicate (40 - (j + 1)) 0 := by
  have e : List.replicate (40 - j) (0 : Int) = 0 :: List.replicate (40 - (j + 1)) 0 := by
    rw [← List.replicate_succ]
    congr 1
    omega
  have hl : (p.take j).length = j := by rw [List.length_take]; omega
  rw [e, List.set_append, if_neg (by omega), hl, Nat.sub_self, List.set_cons_zero, List.take_succ_eq_append_getElem h1, List.append_assoc]
  rfl

theorem refChunks_l1 (xs : List Int) (hL : xs.length ≤ 10000) (x : Nat) (hx : 40 * x < xs.length) (acc : List ByteArray) (ha : acc.length ≤ 10000) : ∀ (d k j : Nat), j + d = (partL xs x).length →
    assartref14_Chunks.l1 (k + d + 1) xs acc ((40 * x : Nat) : Int) ((partL xs x).take j ++ List.replicate (40 - j) 0) j = assartref14_Chunks.l0 k xs (acc ++ [chunkS xs x]) ((40 * (x + 1) : Nat) : Int) := by
  have hpl := partL_length xs x
  intro d
  induction d with
  | zero =>
    intro k j hj
    have e0 : (partL xs x).take j = partL xs x := List.take_of_length_le (by omega)
    have e1 : wrap64 (((40 * x : Nat) : Int) + (j : Int)) = ((40 * x + j : Nat) : Int) := by rw [wrap64_in (by omega) (by omega)]; simp
    have e2 : wrap64 (((40 * x : Nat) : Int) + 40) = ((40 * (x + 1) : Nat) : Int) := by rw [wrap64_in (by omega) (by omega)]; omega
    have hfin : strOfNums ((partL xs x).take j ++ List.replicate (40 - j) 0) = chunkS xs x := by
      rw [e0, show j = (partL xs x).length by omega, chunkS_eq]
    rw [Nat.add_zero, assartref14_Chunks.l1]
    by_cases c : j < 40
    · rw [if_pos (by omega), e1, if_neg (by omega), if_pos (by omega), hfin, e2]
    · rw [if_neg (by omega), if_pos (by omega), hfin, e2]
  | succ d ih =>
    intro k j hj
    have e1 : wrap64 (((40 * x : Nat) : Int) + (j : Int)) = ((40 * x + j : Nat) : Int) := by rw [wrap64_in (by omega) (by omega)]; simp
    have e2 : wrap64 ((j : Int) + 1) = ((j + 1 : Nat) : Int) := by rw [wrap64_in (by omega) (by omega)]; simp
    have hjl : j < (partL xs x).length := by omega
    have hrd : rd xs ((40 * x + j : Nat) : Int) = (partL xs x)[j] := by
      simp only [rd, Int.toNat_natCast, List.getD_eq_getElem?_getD, partL, List.getElem_take, List.getElem_drop]
      rw [List.getElem?_eq_getElem (by omega)]
      rfl
    have hs := set_part (partL xs x) j hjl (by omega)
    rw [show k + (d + 1) + 1 = (k + d + 1) + 1 by omega, assartref14_Chunks.l1, if_pos (by omega), e1, if_pos (by omega), if_pos (by omega), if_pos (by omega), if_pos (by simp; omega), hrd, Int.toNat_natCast, hs, e2]
    exact ih k (j + 1) (by omega)

theorem refChunks_l0 (xs : List Int) (hL : xs.length ≤ 10000) : ∀ (d k x : Nat), x + d = chunksN xs.length →
    assartref14_Chunks.l0 (k + 42 * d + 1) xs ((List.range x).map (chunkS xs)) ((40 * x : Nat) : Int) = some (chunksL xs) := by
  have hN : chunksN xs.length = (xs.length + 39) / 40 := rfl
  intro d
  induction d with
  | zero =>
    intro k x hx
    rw [Nat.mul_zero, Nat.add_zero, assartref14_Chunks.l0, if_neg (by omega), show x = chunksN xs.length by omega]
    rfl
  | succ d ih =>
    intro k x hx
    have hpl := partL_length xs x
    have h1 := refChunks_l1 xs hL x (by omega) ((List.range x).map (chunkS xs)) (by simp; omega) (partL xs x).length (k + 42 * d + 1 + (40 - (partL xs x).length)) 0 (by omega)
    have h2 := ih (k + (40 - (partL xs x).length)) (x + 1) (by omega)
    rw [show k + 42 * (d + 1) + 1 = (k + 42 * d + 1 + (40 - (partL xs x).length) + (partL xs x).length + 1) + 1 by omega, assartref14_Chunks.l0, if_pos (by omega), if_pos (by omega)]
    rw [List.take_zero, List.nil_append] at h1
    refine h1.trans ?_
    rw [List.range_succ, List.map_append, List.map_cons, List.map_nil] at h2
    rw [← h2]
    congr 1
    omega
theorem refChunks (xs : List Int) (hL : xs.length ≤ 10000) : assartref14_Chunks.f (42 * chunksN xs.length + 1) xs = some (chunksL xs) := by
  have h := refChunks_l0 xs hL (chunksN xs.length) 0 0 (by omega)
  rw [Nat.zero_add] at h
  exact h

/-! ### Reading, asking -/
theorem refRead (B : List ByteArray) (at_ : Int) (h0 : 0 ≤ at_) (h1 : at_ < B.length) : assartref02_Read.f 4 B [] at_ = some (rdOf ByteArray.empty B at_, 0) := by
  unfold assartref02_Read.f
  rw [if_neg (by omega), decide_eq_false (by omega), assartref02_Read.j0, if_neg (by decide), if_pos h0, if_pos h1, assartref02_Read.l0, if_neg (by simp)]
theorem refAsked (B : List ByteArray) (l : List S58) (hl : l.length ≤ 100000) (la : Int) (xs : List Int) (x : Nat) (h0 : 0 ≤ la + x) (h1 : la + x < B.length) : assartref14_asked.f 4 B [] l (la + x) (chunkS xs x) = some (l ++ (asked B la xs x).toList) := by
  unfold assartref14_asked.f asked
  rw [refRead B _ h0 h1, Option.bind_some]
  by_cases c : (rdOf ByteArray.empty B (la + x)).toList = (chunkS xs x).toList
  · rw [if_pos c, if_pos (by simpa using c)]
    simp
  · rw [if_neg c, if_pos (by omega), if_neg (by simpa using c)]
    rfl

/-! ### Area, Base, Cells -/
theorem refArea_l0 (n : Int) (h0 : 0 ≤ n) (h1 : n ≤ 10000) : ∀ (d k : Nat) (j : Int), 0 ≤ j → j + d = areaM n → assartref14_Area.l0 (k + d + 1) n j = some (areaM n) := by
  have ha : areaM n = (1670 + 2 * n) / 40 := rfl
  have e2 : wrap64 (1631 + wrap64 (2 * n)) = 1631 + 2 * n := by rw [wrap64_in (x := 2 * n) (by omega) (by omega), wrap64_in (by omega) (by omega)]
  intro d
  induction d with
  | zero =>
    intro k j hj0 hj
    have e1 : wrap64 (40 * j) = 40 * j := wrap64_in (by omega) (by omega)
    rw [Nat.add_zero, assartref14_Area.l0, e1, e2, if_neg (by omega)]
    congr 1
    omega
  | succ d ih =>
    intro k j hj0 hj
    have e1 : wrap64 (40 * j) = 40 * j := wrap64_in (by omega) (by omega)
    have e3 : wrap64 (j + 1) = j + 1 := wrap64_in (by omega) (by omega)
    rw [show k + (d + 1) + 1 = (k + d + 1) + 1 by omega, assartref14_Area.l0, e1, e2, e3, if_pos (by omega)]
    exact ih k (j + 1) (by omega) (by omega)
theorem refArea (n : Int) (h0 : 0 ≤ n) (h1 : n ≤ 10000) : assartref14_Area.f 1000 n = some (areaM n) := by
  have ha : areaM n = (1670 + 2 * n) / 40 := rfl
  have h := refArea_l0 n h0 h1 (areaM n).toNat (999 - (areaM n).toNat) 0 (by omega) (by omega)
  rw [show 999 - (areaM n).toNat + (areaM n).toNat + 1 = 1000 by omega] at h
  exact h
theorem refBase (n : Int) (h0 : 0 ≤ n) (h1 : n ≤ 10000) : assartref14_Base.f 1000 n = some (baseM n) := by
  have ha : areaM n = (1670 + 2 * n) / 40 := rfl
  unfold assartref14_Base.f baseM
  rw [refArea n h0 h1, Option.bind_some, wrap64_in (x := 2 * areaM n) (by omega) (by omega), wrap64_in (by omega) (by omega)]

theorem searchL_spec (p : Int → Bool) (hm : ∀ i j : Int, 0 ≤ i → i ≤ j → p i = true → p j = true) : ∀ (k : Nat) (lo hi : Int), 0 ≤ lo → lo ≤ hi → hi - lo < k →
    lo ≤ searchL p k lo hi ∧ searchL p k lo hi ≤ hi ∧ (∀ i, lo ≤ i → i < searchL p k lo hi → p i = false) ∧ (searchL p k lo hi < hi → p (searchL p k lo hi) = true) := by
  intro k
  induction k with
  | zero => intro lo hi h0 h1 h2; omega
  | succ k ih =>
    intro lo hi h0 h1 h2
    rw [searchL]
    by_cases c : lo < hi
    · rw [if_pos c]
      cases hp : p ((lo + hi) / 2) with
      | true =>
        rw [if_pos rfl]
        obtain ⟨a, b, c1, d⟩ := ih lo ((lo + hi) / 2) h0 (by omega) (by omega)
        refine ⟨a, by omega, c1, fun h => ?_⟩
        by_cases e : searchL p k lo ((lo + hi) / 2) < (lo + hi) / 2
        · exact d e
        · rw [show searchL p k lo ((lo + hi) / 2) = (lo + hi) / 2 by omega]
          exact hp
      | false =>
        rw [if_neg (by decide)]
        obtain ⟨a, b, c1, d⟩ := ih ((lo + hi) / 2 + 1) hi (by omega) (by omega) (by omega)
        refine ⟨by omega, b, fun i hi1 hi2 => ?_, d⟩
        by_cases e : (lo + hi) / 2 + 1 ≤ i
        · exact c1 i e hi2
        · cases hq : p i with
          | false => rfl
          | true => rw [hm i _ (by omega) (by omega) hq] at hp; cases hp
    · rw [if_neg c]
      exact ⟨by omega, by omega, fun i a b => by omega, fun h => by omega⟩
theorem cellsP_mono (b : Int) : ∀ i j : Int, 0 ≤ i → i ≤ j → cellsP b i = true → cellsP b j = true := by
  intro i j h0 h1 h
  unfold cellsP baseM areaM at *
  simp only [decide_eq_true_eq] at *
  omega
theorem cellsM_spec (b : Int) : 0 ≤ cellsM b ∧ cellsM b ≤ 2000 ∧ (∀ i, 0 ≤ i → i < cellsM b → baseM (i + 1) + i + 1 ≤ b) ∧ (cellsM b < 2000 → b < baseM (cellsM b + 1) + cellsM b + 1) := by
  obtain ⟨a, b1, c, d⟩ := searchL_spec (cellsP b) (cellsP_mono b) 2001 0 2000 (by omega) (by omega) (by omega)
  refine ⟨a, b1, fun i h0 h1 => ?_, fun h => ?_⟩
  · have := c i h0 h1
    unfold cellsP at this
    simpa using this
  · have h3 : cellsP b (cellsM b) = true := d h
    unfold cellsP at h3
    simpa using h3
theorem refCells_l0 (b : Int) : ∀ (d k : Nat) (j : Int), 0 ≤ j → j + d = cellsM b → assartref14_Cells.l0 (k + 1000 + d + 1) b j = some (cellsM b) := by
  obtain ⟨hc0, hc1, hc2, hc3⟩ := cellsM_spec b
  intro d
  induction d with
  | zero =>
    intro k j hj0 hj
    have hj' : j = cellsM b := by omega
    rw [Nat.add_zero, assartref14_Cells.l0]
    by_cases c : j < 2000
    · have hb := refBase (j + 1) (by omega) (by omega)
      have hb' := at_rounds (fun k => assartref14_Base.mono (j + 1) k) (k' := k + 1000) (by omega) hb
      have h3 := hc3 (by omega)
      have hbm : 0 ≤ baseM (j + 1) ∧ baseM (j + 1) ≤ 2000 := by unfold baseM areaM; omega
      rw [if_pos c, wrap64_in (x := j + 1) (by omega) (by omega), hb', Option.bind_some, wrap64_in (x := baseM (j + 1) + j) (by omega) (by omega), wrap64_in (x := baseM (j + 1) + j + 1) (by omega) (by omega), if_neg (by rw [hj']; omega), hj']
    · rw [if_neg c, hj']
  | succ d ih =>
    intro k j hj0 hj
    have hb := refBase (j + 1) (by omega) (by omega)
    have hb' := at_rounds (fun k => assartref14_Base.mono (j + 1) k) (k' := k + 1000 + (d + 1)) (by omega) hb
    have h3 := hc2 j hj0 (by omega)
    have hbm : 0 ≤ baseM (j + 1) ∧ baseM (j + 1) ≤ 2000 := by unfold baseM areaM; omega
    rw [assartref14_Cells.l0, if_pos (by omega), wrap64_in (x := j + 1) (by omega) (by omega), hb', Option.bind_some, wrap64_in (x := baseM (j + 1) + j) (by omega) (by omega), wrap64_in (x := baseM (j + 1) + j + 1) (by omega) (by omega), if_pos h3]
    exact ih k (j + 1) (by omega) (by omega)
theorem refCells (b : Int) : assartref14_Cells.f 3001 b = some (cellsM b) := by
  obtain ⟨hc0, hc1, hc2, hc3⟩ := cellsM_spec b
  have h := refCells_l0 b (cellsM b).toNat (2000 - (cellsM b).toNat) 0 (by omega) (by omega)
  rw [show 2000 - (cellsM b).toNat + 1000 + (cellsM b).toNat + 1 = 3001 by omega] at h
  exact h
theorem cellsM_fits (b : Int) (h : 1 ≤ cellsM b) (g : Int) : larea (cellsM b).toNat g + chunksN (11 + 2 * (cellsM b).toNat) ≤ b := by
  obtain ⟨hc0, hc1, hc2, hc3⟩ := cellsM_spec b
  have h2 := hc2 (cellsM b - 1) (by omega) (by omega)
  rw [show cellsM b - 1 + 1 = cellsM b by omega] at h2
  have hN : chunksN (11 + 2 * (cellsM b).toNat) = (11 + 2 * (cellsM b).toNat + 39) / 40 := rfl
  rw [show ((cellsM b).toNat : Int) = cellsM b by omega]
  unfold larea
  unfold baseM at h2
  have ha : areaM (cellsM b) = (1670 + 2 * cellsM b) / 40 := rfl
  rcases (show g % 2 = 0 ∨ g % 2 = 1 by omega) with h | h <;> rw [h] <;> omega

/-! ### Disks -/
theorem refNew_l0 (n : Nat) (hn : n ≤ 4000) : ∀ (d k j : Nat), j + d = n → assartref02_New.l0 (k + d + 1) n z40 j (List.replicate j z40) = some (List.replicate n z40, [], 0) := by
  intro d
  induction d with
  | zero =>
    intro k j hj
    rw [Nat.add_zero, assartref02_New.l0, if_neg (by omega), show j = n by omega]
  | succ d ih =>
    intro k j hj
    have e : wrap64 ((j : Int) + 1) = ((j + 1 : Nat) : Int) := by rw [wrap64_in (by omega) (by omega)]; simp
    rw [show k + (d + 1) + 1 = (k + d + 1) + 1 by omega, assartref02_New.l0, if_pos (by omega), if_pos (by simp; omega), e, ← List.replicate_succ']
    exact ih k (j + 1) (by omega)
theorem refNew (n : Nat) (h1 : 1 ≤ n) (h2 : n ≤ 4000) : assartref02_New.f (n + 2) n = some (List.replicate n z40, [], 0) := by
  have h := refNew_l0 n h2 n 0 0 (by omega)
  have hz : strOfNums (List.replicate 40 0) = z40 := strOfNums_zeros 40
  unfold assartref02_New.f
  rw [if_neg (by omega), decide_eq_false (by omega), assartref02_New.j0, if_neg (by decide), if_pos (by omega), hz]
  rw [Nat.zero_add] at h
  exact h
theorem refNew_bad (n : Int) (h : n < 1 ∨ 4000 < n) : assartref02_New.f 1 n = some ([], [], 1) := by
  unfold assartref02_New.f
  by_cases c : n < 1
  · rw [if_pos c, assartref02_New.j0, if_pos rfl]
  · rw [if_neg c, decide_eq_true (by omega), assartref02_New.j0, if_pos rfl]

theorem refCrash_l0 (B : List ByteArray) (ws : List S58) (hw : ws.length ≤ 100000) (hok : ∀ s ∈ ws, 0 ≤ s.f0 ∧ s.f0 < B.length) : ∀ (d k j : Nat), j + d = ws.length →
    assartref02_Crash.l0 (k + 2 * d + 2) (List.replicate ws.length true) (applyL B (ws.take j)) j B ws = some (applyL B ws, []) := by
  intro d
  induction d with
  | zero =>
    intro k j hj
    rw [Nat.mul_zero, Nat.add_zero, assartref02_Crash.l0, if_neg (by omega), assartref02_Crash.j1, if_neg (by decide), List.take_of_length_le (by omega)]
  | succ d ih =>
    intro k j hj
    have hjl : j < ws.length := by omega
    have e : wrap64 ((j : Int) + 1) = ((j + 1 : Nat) : Int) := by rw [wrap64_in (by omega) (by omega)]; simp
    have hr : rd_T58 ws j = ws[j] := by simp [rd_T58, List.getElem?_eq_getElem hjl]
    have ht : rdOf false (List.replicate ws.length true) (j : Int) = true := by simp [rdOf, List.getElem?_replicate, hjl]
    obtain ⟨h0, h1⟩ := hok ws[j] (List.getElem_mem hjl)
    rw [show k + 2 * (d + 1) + 2 = (k + 2 * d + 2) + 1 + 1 by omega, assartref02_Crash.l0, if_pos (by omega), decide_eq_true (by simp; omega), assartref02_Crash.j1, if_pos rfl, if_pos (by omega), if_pos (by simp; omega), if_pos ht, if_pos (by omega), hr, if_pos h0, if_pos (by rw [applyL_length]; exact h1), e, ← applyL_snoc, ← List.take_succ_eq_append_getElem hjl]
    exact ih k (j + 1) (by omega)
theorem refCrash (B : List ByteArray) (ws : List S58) (hB : B.length ≤ 4000) (hw : ws.length ≤ 100000) (hok : ∀ s ∈ ws, 0 ≤ s.f0 ∧ s.f0 < B.length) :
    assartref02_Crash.f (2 * ws.length + 2) B ws (List.replicate ws.length true) = some (applyL B ws, []) := by
  have h := refCrash_l0 B ws hw hok ws.length 0 0 (by omega)
  unfold assartref02_Crash.f
  rw [Option.bind_some, if_pos (by simp; omega), List.nil_append]
  rw [Nat.zero_add] at h
  exact h
theorem refFlush_l0 (B : List ByteArray) (ws : List S58) (hB : B.length ≤ 4000) (hw : ws.length ≤ 100000) (hok : ∀ s ∈ ws, 0 ≤ s.f0 ∧ s.f0 < B.length) : ∀ (d k j : Nat), j + d = ws.length →
    assartref02_Flush.l0 (k + (2 * ws.length + 2) + d + 1) (List.replicate j true) j B ws = some (applyL B ws, []) := by
  intro d
  induction d with
  | zero =>
    intro k j hj
    have hc := at_rounds (fun k => assartref02_Crash.mono B ws (List.replicate ws.length true) k) (k' := k + (2 * ws.length + 2)) (by omega) (refCrash B ws hB hw hok)
    rw [Nat.add_zero, assartref02_Flush.l0, if_neg (by omega), show j = ws.length by omega, hc]
    rfl
  | succ d ih =>
    intro k j hj
    have e : wrap64 ((j : Int) + 1) = ((j + 1 : Nat) : Int) := by rw [wrap64_in (by omega) (by omega)]; simp
    rw [show k + (2 * ws.length + 2) + (d + 1) + 1 = (k + (2 * ws.length + 2) + d + 1) + 1 by omega, assartref02_Flush.l0, if_pos (by omega), if_pos (by simp; omega), e, ← List.replicate_succ']
    exact ih k (j + 1) (by omega)
theorem refFlush (B : List ByteArray) (ws : List S58) (hB : B.length ≤ 4000) (hw : ws.length ≤ 100000) (hok : ∀ s ∈ ws, 0 ≤ s.f0 ∧ s.f0 < B.length) :
    assartref02_Flush.f (3 * ws.length + 3) B ws = some (applyL B ws, []) := by
  have h := refFlush_l0 B ws hB hw hok ws.length 0 0 (by omega)
  rw [show 0 + (2 * ws.length + 2) + ws.length + 1 = 3 * ws.length + 3 by omega] at h
  exact h

theorem refSame_l0 (B : List ByteArray) (hB : B.length ≤ 4000) : ∀ (d k j : Nat), j + d = B.length → assartref02_Same.l0 (k + d + 2) j B [] B [] = some true := by
  intro d
  induction d with
  | zero =>
    intro k j hj
    rw [Nat.add_zero, assartref02_Same.l0, if_neg (by omega), assartref02_Same.l1, if_neg (by simp)]
  | succ d ih =>
    intro k j hj
    have e : wrap64 ((j : Int) + 1) = ((j + 1 : Nat) : Int) := by rw [wrap64_in (by omega) (by omega)]; simp
    rw [show k + (d + 1) + 2 = (k + d + 2) + 1 by omega, assartref02_Same.l0, if_pos (by omega), if_pos (by omega), if_pos (by omega), if_pos rfl, e]
    exact ih k (j + 1) (by omega)
theorem refSame (B : List ByteArray) (hB : B.length ≤ 4000) : assartref02_Same.f (B.length + 3) B [] B [] = some true := by
  have h := refSame_l0 B hB B.length 0 0 (by omega)
  unfold assartref02_Same.f
  rw [if_pos rfl, assartref02_Same.j0, if_neg (by simp)]
  rw [Nat.zero_add] at h
  exact h
theorem refRight_l0 (B : List ByteArray) (hB : B.length ≤ 4000) (h40 : ∀ s ∈ B, s.size = 40) : ∀ (d k j : Nat), j + d = B.length → assartref02_Right.l0 (k + d + 2) j B [] = some true := by
  intro d
  induction d with
  | zero =>
    intro k j hj
    rw [Nat.add_zero, assartref02_Right.l0, if_neg (by omega), assartref02_Right.l1, if_neg (by simp)]
  | succ d ih =>
    intro k j hj
    have hjl : j < B.length := by omega
    have e : wrap64 ((j : Int) + 1) = ((j + 1 : Nat) : Int) := by rw [wrap64_in (by omega) (by omega)]; simp
    have hs : (rdOf ByteArray.empty B (j : Int)).size = 40 := by
      have := h40 B[j] (List.getElem_mem hjl)
      simpa [rdOf, List.getElem?_eq_getElem hjl] using this
    rw [show k + (d + 1) + 2 = (k + d + 2) + 1 by omega, assartref02_Right.l0, if_pos (by omega), if_pos (by omega), if_pos (by omega), e]
    exact ih k (j + 1) (by omega)
theorem refRight (B : List ByteArray) (h1 : 1 ≤ B.length) (hB : B.length ≤ 4000) (h40 : ∀ s ∈ B, s.size = 40) : assartref02_Right.f (B.length + 3) B [] = some true := by
  have h := refRight_l0 B hB h40 B.length 0 0 (by omega)
  unfold assartref02_Right.f
  rw [if_neg (by omega), decide_eq_false (by omega), assartref02_Right.j0, if_neg (by decide)]
  rw [Nat.zero_add] at h
  exact h
theorem refVols : assartref12_Vols.f 2 [] [] = some true := by kernel_rfl
end Go.Proofs.YtfolgjigfdbnoaaGreat.M
