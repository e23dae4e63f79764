/-
  What the example's disk, plan and commits are: plain laws.
-/
import Derived.Test.YtfolgjigfdbnoaaGreatMt
namespace Go.Proofs.YtfolgjigfdbnoaaGreat.M
open Go.RowKit Go.Shelf Go.Proofs.YtfolgjigfdbnoaaGreatW.PrintWords Go.Proofs.YtfolgjigfdbnoaaGreatW.PrintLast Go.Proofs.YtfolgjigfdbnoaaGreatW.PrintMore
open PCommitFormats
set_option linter.unusedVariables false
set_option linter.unusedSimpArgs false

theorem cells135 : cellsM 135 = 45 := by kernel_rfl
theorem cells135' : cellsM ((135 : Nat) : Int) = ((45 : Nat) : Int) := cells135
def bk45 : List Int := bookL 45 2 1
theorem bk45_part1 : partL bk45 1 = List.replicate 40 0 := by kernel_rfl
theorem bk45_part2 : partL bk45 2 = List.replicate 21 0 := by kernel_rfl
theorem bk45_head : (Lib.repeatL [0] 40 == ((partL bk45 0 ++ List.replicate (40 - (partL bk45 0).length) 0).map fun n : Int => UInt8.ofNat n.toNat)) = false := by decide +kernel
theorem bk45_len : chunksN bk45.length = 3 := by kernel_rfl
theorem chunk1 : chunkS bk45 1 = z40 := by rw [← chunkS_eq, bk45_part1]; exact strOfNums_zeros 40
theorem chunk2 : chunkS bk45 2 = z40 := by rw [← chunkS_eq, bk45_part2]; exact strOfNums_zeros 40
theorem chunk0 : (z40.toList == (chunkS bk45 0).toList) = false := by
  rw [← chunkS_eq, ByteArray.toList_eq, ByteArray.toList_eq]
  exact bk45_head
theorem writes45 (B : List ByteArray) (la : Int) (h0 : rdOf ByteArray.empty B la = z40) (h1 : rdOf ByteArray.empty B (la + 1) = z40) (h2 : rdOf ByteArray.empty B (la + 2) = z40) :
    (List.range (chunksN bk45.length)).filterMap (asked B la bk45) = [⟨la, chunkS bk45 0⟩] := by
  have a0 : asked B la bk45 0 = some ⟨la, chunkS bk45 0⟩ := by
    unfold asked
    rw [show la + ((0 : Nat) : Int) = la by omega, h0, chunk0]
    rfl
  have a1 : asked B la bk45 1 = none := by
    unfold asked
    rw [show la + ((1 : Nat) : Int) = la + 1 by omega, h1, chunk1, if_pos (by simp)]
  have a2 : asked B la bk45 2 = none := by
    unfold asked
    rw [show la + ((2 : Nat) : Int) = la + 2 by omega, h2, chunk2, if_pos (by simp)]
  rw [bk45_len]
  simp [List.range, List.range.loop, List.filterMap_cons, a0, a1, a2]
theorem isFl_no (a : Int) (s : ByteArray) (h : a ≠ -1) : isFl ⟨a, s⟩ = false := by
  simp only [isFl, Bool.and_eq_false_iff]
  left
  simpa using h
theorem plan45 (B : List ByteArray) (gen : Int) (h0 : rdOf ByteArray.empty B (larea (45 : Nat) (gen + 1)) = z40) (h1 : rdOf ByteArray.empty B (larea (45 : Nat) (gen + 1) + 1) = z40) (h2 : rdOf ByteArray.empty B (larea (45 : Nat) (gen + 1) + 2) = z40) :
    ∃ s, planL B 45 2 1 gen = [⟨larea (45 : Nat) (gen + 1), chunkS bk45 0⟩, ⟨-1, ⟨#[]⟩⟩, ⟨(gen + 1) % 2, s⟩, ⟨-1, ⟨#[]⟩⟩] := by
  refine ⟨superB (gen + 1) (bookL 45 2 1).length (crc (bookL 45 2 1)), ?_⟩
  rw [planL]
  have h := writes45 B (larea (45 : Nat) (gen + 1)) h0 h1 h2
  unfold bk45 at h
  rw [h]
  rfl
theorem z_at (i : Int) (h0 : 0 ≤ i) (h1 : i < 135) : rdOf ByteArray.empty (disk0 135) i = z40 := by
  have h : i.toNat < 135 := by omega
  unfold rdOf disk0
  rw [List.getD_eq_getElem?_getD, List.getElem?_replicate, if_pos h]
  rfl
theorem plan45_0 : ∃ s, plan0 135 45 2 = [⟨46, chunkS bk45 0⟩, ⟨-1, ⟨#[]⟩⟩, ⟨1, s⟩, ⟨-1, ⟨#[]⟩⟩] :=
  plan45 (disk0 135) 0 (z_at _ (by decide) (by decide)) (z_at _ (by decide) (by decide)) (z_at _ (by decide) (by decide))
theorem disk45 : ∃ s, diskF 135 45 2 = ((disk0 135).set 46 (chunkS bk45 0)).set 1 s := by
  obtain ⟨s, h⟩ := plan45_0
  refine ⟨s, ?_⟩
  rw [diskF, h]
  simp only [doS, isFl_no 46 _ (by decide), isFl_no 1 _ (by decide), isFl_flush]
  simp [applyL]
theorem disk45_at (i : Int) (h0 : 2 ≤ i) (h1 : i < 46) : rdOf ByteArray.empty (diskF 135 45 2) i = z40 := by
  obtain ⟨s, h⟩ := disk45
  have hz := z_at i (by omega) (by omega)
  rw [h]
  simp only [rdOf, List.getD_eq_getElem?_getD] at *
  rw [List.getElem?_set_ne (by omega), List.getElem?_set_ne (by omega)]
  exact hz
theorem plan45_1 : ∃ s, planL (diskF 135 45 2) 45 2 1 1 = [⟨2, chunkS bk45 0⟩, ⟨-1, ⟨#[]⟩⟩, ⟨0, s⟩, ⟨-1, ⟨#[]⟩⟩] :=
  plan45 (diskF 135 45 2) 1 (disk45_at _ (by decide) (by decide)) (disk45_at _ (by decide) (by decide)) (disk45_at _ (by decide) (by decide))
theorem plan45_len : (planL (diskF 135 45 2) 45 2 1 1).length = 4 := by
  obtain ⟨s, h⟩ := plan45_1
  rw [h]
  rfl
theorem stop45 : (doS 1 (planL (diskF 135 45 2) 45 2 1 1) (diskF 135 45 2) [] 0).2.2 = 1 ∧ (doS 1 (planL (diskF 135 45 2) 45 2 1 1) (diskF 135 45 2) [] 0).2.1.length = 1 := by
  obtain ⟨s, h⟩ := plan45_1
  rw [h]
  simp only [doS, isFl_no 2 _ (by decide)]
  simp
end Go.Proofs.YtfolgjigfdbnoaaGreat.M
