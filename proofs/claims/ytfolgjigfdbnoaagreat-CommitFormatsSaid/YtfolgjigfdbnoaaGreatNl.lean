/-
  Contract of assartref02.New.
-/
import Derived.Test.YtfolgjigfdbnoaaGreatMo
import Derived.Test.YtfolgjigfdbnoaaGreatNb
namespace Go.Proofs.YtfolgjigfdbnoaaGreat.M
open Go.RowKit Go.Shelf Go.Proofs.YtfolgjigfdbnoaaGreatW.PrintWords Go.Proofs.YtfolgjigfdbnoaaGreatW.PrintLast Go.Proofs.YtfolgjigfdbnoaaGreatW.PrintMore
open PCommitFormats
set_option linter.unusedVariables false
set_option linter.unusedSimpArgs false

theorem refNew_fails (n : Int) (h : n < 1 ∨ 4000 < n) (w : World) :
    Calls Tryz.prog 18 #[.int .i64 n] w fun e w' => e = .returned (.tuple #[.agg #[.slice none 0 0, .slice none 0 0], .int .i64 1]) ∧ Below w.heap.size w w' := by
  have hu26 := Tryz.underlying26
  have b1 := World.alloc_heap_new w (.cells #[.slice none 0 0, .slice none 0 0] 26)
  have B1 := Aside0.mk b1
  clear b1
  rcases (show n < 1 ∨ (1 ≤ n ∧ 4000 < n) by omega) with h1 | ⟨h1, h2⟩
  all_goals
    go_enter Tryz.func18, Tryz.ntmps18
    go_wp2
    refine bodyPost_ret (results_ct rfl _ _ w.heap.size 26 #[.slice none 0 0, .slice none 0 0] (0, 0) _ rfl (by first | exact B1.out | exact set_blk (set_blk B1.out 0 _) 1 _) Tryz.underlying26 rfl (by kernel_rfl)) rfl ?_
    refine ⟨rfl, ?_⟩
    repeat (first | exact Below.refl _ _ | refine Below.alloc ?_ (by simp) _ | refine Below.setCell ?_ (by simp) _)

set_option maxRecDepth 100000 in
set_option maxHeartbeats 2000000 in
theorem refNew_calls (n : Nat) (h1 : 1 ≤ n) (h2 : n ≤ 4000) (w : World) :
    Calls Tryz.prog 18 #[.int .i64 (n : Int)] w fun e w' => ∃ v, e = .returned (.tuple #[.agg #[v, .slice none 0 0], .int .i64 0]) ∧ Kd.R Kd.string 9 w' w.heap.size (fun _ => True) v (List.replicate n z40) ∧ Below w.heap.size w w' := by
  have hu26 := Tryz.underlying26
  have h1' : (1 : Int) ≤ n := by omega
  have h2' : (n : Int) ≤ 4000 := by omega
  obtain ⟨w2, hw2⟩ : ∃ w2, w2 = (w.alloc (.cells #[.slice none 0 0, .slice none 0 0] 26)).alloc (.cells #[.slice none 0 0, .slice none 0 0] 26) := ⟨_, rfl⟩
  have b0 : w2.heap[w.heap.size]? = some (.cells #[.slice none 0 0, .slice none 0 0] 26) := by rw [hw2, Below.heap_alloc _ _ _ (by simp)]; exact World.alloc_heap_new _ _
  have b1 : w2.heap[w.heap.size + 1]? = some (.cells #[.slice none 0 0, .slice none 0 0] 26) := by
    rw [hw2]
    have := World.alloc_heap_new (w.alloc (.cells #[.slice none 0 0, .slice none 0 0] 26)) (.cells #[.slice none 0 0, .slice none 0 0] 26)
    rwa [World.size_alloc] at this
  have hs2 : w2.heap.size = w.heap.size + 2 := by rw [hw2]; simp
  have HB2 : Aside0 (Below w.heap.size w w2) := ⟨by rw [hw2]; exact ((Below.refl _ w).alloc (Nat.le_refl _) _).alloc (by simp) _⟩
  obtain ⟨Z, hmk, hZ⟩ : ∃ Z : Array Value, (Instr.makeSlice 83 (.int .i64 40) (.int .i64 40)).run Tryz.prog w2 = .ok (.slice (some ⟨w2.heap.size, 0, none⟩) 40 40) (w2.alloc (.cells Z 5)) ∧
      Kd.R (Kd.int .u8) 5 (w2.alloc (.cells Z 5)) w2.heap.size (fun _ => True) (.slice (some ⟨w2.heap.size, 0, none⟩) 40 40) (List.replicate 40 0) := made_u8 w2 40 40 (by omega) (by omega)
  have hcv := own_string (P := Tryz.prog) Tryz.underlying83 Tryz.underlying5 Tryz.underlying9 (Kd.own_of_R hZ)
  rw [show strOfNums (List.replicate 40 0) = z40 from strOfNums_zeros 40] at hcv
  obtain ⟨w3, hw3⟩ : ∃ w3, w3 = w2.alloc (.cells Z 5) := ⟨_, rfl⟩
  have hb23 : Below w2.heap.size w2 w3 := by rw [hw3]; exact (Below.refl _ w2).alloc (Nat.le_refl _) _
  have B0 := Aside0.mk ((hb23.block _ (blk_lt b0)).trans b0)
  have B1 := Aside0.mk ((hb23.block _ (blk_lt b1)).trans b1)
  have HB3 : Aside0 (Below w.heap.size w w3) := ⟨HB2.out.trans (hb23.mono HB2.out.size)⟩
  have hs3 : w.heap.size + 2 ≤ w3.heap.size := by have := hb23.size; omega
  rw [hs2] at hmk hcv
  rw [← hw3] at hmk hcv
  have HMK := Aside0.mk hmk
  rw [hw2] at hmk
  clear b0 b1 hZ hb23 HB2 hw3 hw2
  go_enter Tryz.func18, Tryz.ntmps18
  go_wp2
  clear hmk hcv HMK
  go_loopg [6] (n + 1) (fun kq v6 w' => ∃ (i : Nat) (A : Option Addr) (c : Nat), v6 = .int .i64 (i : Int) ∧ i ≤ n ∧ Aside0 (n - i < kq) ∧ Aside0 (w'.heap[w.heap.size]? = some (.cells #[.slice none 0 0, .slice none 0 0] 26)) ∧ Aside0 (w'.heap[w.heap.size + 1]? = some (.cells #[.slice A i c, .slice none 0 0] 26)) ∧ Aside0 (Kd.R Kd.string 9 w' w3.heap.size (fun _ => True) (.slice A i c) (List.replicate i z40)) ∧ Aside0 (Below w.heap.size w w') ∧ Aside0 (w3.heap.size ≤ w'.heap.size))
  case atStart => exact ⟨0, none, 0, rfl, Nat.zero_le _, ⟨by omega⟩, B0, B1, ⟨Kd.R_nil _ _ _ _ _⟩, HB3, ⟨Nat.le_refl _⟩⟩
  case round =>
    clear B0 B1 HB3
    obtain ⟨i, A, c, rfl, hi, HK, B0, B1, HO, HB, HZ⟩ := hrel
    have c0 : wr.cell? ⟨w.heap.size + 1, 0, none⟩ = some (.slice A i c) := (blk_cell B1.out 0).trans rfl
    cases gk with
    | zero => exact absurd HK.out (by omega)
    | succ k3 =>
      by_cases hlt : i < n
      · have hll : (List.replicate i z40).length = i := List.length_replicate ..
        have HLL := Aside0.mk hll
        have hb1 := blk_lt B1.out
        clear hll
        go_wp2_with (first | ((with_reducible refine gate_builtin (b := .append) (xs := #[.tmp 23, .tmp 25]) rfl ?_); go_must (refine Kd.R_append Kd.string (w0 := wr) w3.heap.size rfl (.tmp 23) (.tmp 25) 23 9 (.string ⟨#[]⟩) 16 rfl Tryz.underlying23 info9 rfl (by decide) (by omega) (.slice A i c) (List.replicate i z40) z40 [.string z40] (fun _ => True) (fun _ => False) rfl rfl rfl (fun _ h => h.elim) (fun _ _ => trivial) HO.out (Below.refl _ _) HZ.out (by rw [HLL.out]; omega) ?_); intro v7 w7 ho7 hb7 hg7 hat7; rw [← List.replicate_succ'] at ho7; obtain ⟨A7, c7, rfl⟩ := Kd.R_slice ho7; rw [List.length_replicate] at ho7; have d0 := (hb7.block _ (Nat.lt_of_lt_of_le (show w.heap.size < w.heap.size + 2 by omega) hs3)).trans B0.out; have d1 := (hb7.block _ (Nat.lt_of_lt_of_le (show w.heap.size + 1 < w.heap.size + 2 by omega) hs3)).trans B1.out; have e0 : w7.cell? ⟨w.heap.size + 1, 0, none⟩ = some (.slice A i c) := (blk_cell d1 0).trans rfl; have e1 : w7.frozen? ⟨w.heap.size + 1, 0, none⟩ = false := blk_frozen d1 0; have D0 := Aside0.mk d0; have D1 := Aside0.mk d1; have HO7 := Aside0.mk ho7; have HB7 : Aside0 (Below w.heap.size w w7) := ⟨HB.out.trans (hb7.mono (Nat.le_trans (Nat.le_add_right _ 2) hs3))⟩; have HZ7 : Aside0 (w3.heap.size ≤ w7.heap.size) := ⟨Nat.le_trans HZ.out hb7.size⟩; clear d0 d1 ho7 hb7 hg7 hat7))
        go_roundg k3
        case rel =>
          have hbase : ∀ k, True ∧ w3.heap.size ≤ k ∧ k < w7.heap.size ∧ (∃ q, q ∈ 9 :: Kd.string.E ∧ ∃ cells, w7.heap[k]? = some (.cells cells q (0, 0))) → k ≠ w.heap.size + 1 := fun k hk => by have := hk.2.1; omega
          exact ⟨i + 1, A7, c7, by simp, by omega, ⟨by have := HK.out; omega⟩, ⟨(Below.heap_setCell _ _ _ _ (by simp)).trans D0.out⟩, ⟨set_blk D1.out 0 _⟩, ⟨Kd.R_mono (Kd.R_far (p := ⟨w.heap.size + 1, 0, none⟩) (Kd.R_bound HO7.out) hbase _) (fun _ _ => trivial)⟩, ⟨HB7.out.setCell (p := ⟨w.heap.size + 1, 0, none⟩) (Nat.le_succ _) _⟩, ⟨by have := HZ7.out; simpa using this⟩⟩
        case measure => omega
      · obtain rfl : i = n := by omega
        have c1 : wr.cell? ⟨w.heap.size + 1, 1, none⟩ = some (.slice none 0 0) := (blk_cell B1.out 1).trans rfl
        have s0 : wr.cell? ⟨w.heap.size, 0, none⟩ = some (.slice none 0 0) := (blk_cell B0.out 0).trans rfl
        have s1 : wr.cell? ⟨w.heap.size, 1, none⟩ = some (.slice none 0 0) := (blk_cell B0.out 1).trans rfl
        have s2 : wr.frozen? ⟨w.heap.size, 0, none⟩ = false := blk_frozen B0.out 0
        have s3 : wr.frozen? ⟨w.heap.size, 1, none⟩ = false := blk_frozen B0.out 1
        go_wp2
        refine bodyPost_ret (results_ct rfl _ _ w.heap.size 26 #[.slice A i c, .slice none 0 0] (0, 0) _ rfl (set_blk (set_blk B0.out 0 _) 1 _) Tryz.underlying26 rfl (by kernel_rfl)) rfl ?_
        have hbase : ∀ k, True ∧ w3.heap.size ≤ k ∧ k < wr.heap.size ∧ (∃ q, q ∈ 9 :: Kd.string.E ∧ ∃ cells, wr.heap[k]? = some (.cells cells q (0, 0))) → k ≠ w.heap.size := fun k hk => by have := hk.2.1; omega
        exact ⟨_, rfl, Kd.R_lower (Kd.R_mono (Kd.R_far (p := ⟨w.heap.size, 1, none⟩) (Kd.R_far (p := ⟨w.heap.size, 0, none⟩) (Kd.R_bound HO.out) hbase _) hbase _) (fun _ _ => trivial)) (by omega), (HB.out.setCell (p := ⟨w.heap.size, 0, none⟩) (Nat.le_refl _) _).setCell (p := ⟨w.heap.size, 1, none⟩) (Nat.le_refl _) _⟩
end Go.Proofs.YtfolgjigfdbnoaaGreat.M
