/-
  CommitFormats returns true where the disk can be made.
-/
import Derived.Test.YtfolgjigfdbnoaaGreatNo
namespace Go.Proofs.YtfolgjigfdbnoaaGreat.M
open Go.RowKit Go.Shelf Go.Proofs.YtfolgjigfdbnoaaGreatW.PrintWords Go.Proofs.YtfolgjigfdbnoaaGreatW.PrintLast Go.Proofs.YtfolgjigfdbnoaaGreatW.PrintMore
open PCommitFormats
set_option linter.unusedVariables false
set_option linter.unusedSimpArgs false

set_option maxRecDepth 100000 in
set_option maxHeartbeats 4000000 in
theorem law_good (blocks n : Nat) (keep : Int) (w : World) (hb1 : 1 ≤ blocks) (hle : blocks ≤ 200) (hcell : cellsM blocks = n) (hn : 1 ≤ n) (hk0 : 0 ≤ keep) (hk1 : keep ≤ n) : Calls Tryz.prog 3 #[.int .i64 (blocks : Int), .int .i64 keep] w fun e w' => e = .returned (.bool true) ∧ Below w.heap.size w w' := by
  have hu26 := Tryz.underlying26
  have hu33 := Tryz.underlying33
  have hle' : (blocks : Int) ≤ 200 := by omega
  obtain ⟨hc0, hc1, hc2, _⟩ := cellsM_spec blocks
  have hn2 : n ≤ 2000 := by omega
  have hn2' : (n : Int) ≤ 2000 := by omega
  have hfit := cellsM_fits blocks (by omega) 1
  rw [hcell] at hfit
  have hbk2 : 2 ≤ blocks := by
    have h2 := hc2 0 (by omega) (by omega)
    unfold baseM areaM at h2
    omega
  have hlen : (diskF blocks n keep).length = blocks := diskF_length blocks n keep
  have h40 : ∀ s ∈ diskF blocks n keep, s.size = 40 := diskF_40 blocks n keep hbk2 (by
    rw [show (bookL n keep 1).length = 11 + 2 * n by simp [bookL, bookHead_length]]
    exact hfit)
  have HF := Aside0.mk (fun W => format_good blocks n keep W hb1 (by omega) hcell hn hk0 hk1)
  have HG := Aside0.mk (fun W => refFormat_good blocks n keep W hb1 (by omega) hcell hn hk0 hk1)
  obtain ⟨D, hD⟩ : ∃ D, D = diskF blocks n keep := ⟨_, rfl⟩
  rw [← hD] at hlen h40 HF HG
  have HSM : Aside0 (assartref02_Same.f (blocks + 3) D [] D [] = some true) := ⟨by
    have h := refSame D (by omega)
    rwa [hlen] at h⟩
  have HRT : Aside0 (assartref02_Right.f (blocks + 3) D [] = some true) := ⟨by
    have h := refRight D (by omega) (by omega) h40
    rwa [hlen] at h⟩
  have HCL : Aside0 (assartref14_Cells.f 3001 (blocks : Int) = some (n : Int)) := ⟨by rw [refCells, hcell]⟩
  have HLEN := Aside0.mk hlen
  clear hD hlen h40 hcell hfit hc0 hc1 hc2
  go_enter Tryz.func3, Tryz.ntmps3
  go_wp2_with fail
  refine (shown_calls w).mono ?_
  rintro e w1 ⟨rfl, hb1⟩
  have HB1 := Aside0.mk hb1
  clear hb1
  go_wp2_with fail
  refine (HF.out w1).mono ?_
  rintro e w2 ⟨A1, c1, A2, c2, rfl, hcc1, _, hC1, _, hC2, _, hb2⟩
  rw [HLEN.out] at hcc1 hC1 ⊢
  have HB2 := Aside0.mk (below_then HB1.out HB1.out.size hb2)
  clear hb2 HF
  obtain ⟨w3, hw3⟩ : ∃ w3, w3 = (w2.alloc (.cells #[.slice A1 blocks c1, .slice none 0 0] 26)).alloc (.cells #[.slice A2 n c2, .int .i64 keep, .slice none 0 0, .slice none 0 0, .int .i64 1, .int .i64 1] 33) := ⟨_, rfl⟩
  have b0 : w3.heap[w2.heap.size]? = some (.cells #[.slice A1 blocks c1, .slice none 0 0] 26) := by rw [hw3, Below.heap_alloc _ _ _ (by simp)]; exact World.alloc_heap_new _ _
  have b1 : w3.heap[w2.heap.size + 1]? = some (.cells #[.slice A2 n c2, .int .i64 keep, .slice none 0 0, .slice none 0 0, .int .i64 1, .int .i64 1] 33) := by
    rw [hw3]
    have := World.alloc_heap_new (w2.alloc (.cells #[.slice A1 blocks c1, .slice none 0 0] 26)) (.cells #[.slice A2 n c2, .int .i64 keep, .slice none 0 0, .slice none 0 0, .int .i64 1, .int .i64 1] 33)
    rwa [World.size_alloc] at this
  have hb23 : Below w2.heap.size w2 w3 := by rw [hw3]; exact ((Below.refl _ w2).alloc (Nat.le_refl _) _).alloc (by simp) _
  have HB3 := Aside0.mk (below_then HB2.out HB2.out.size hb23)
  have HC1 := Aside0.mk (Kd.C_below hC1 hb23)
  have HC2 := Aside0.mk (Kd.C_below hC2 hb23)
  have HK0 := Aside0.mk (fun (W : World) (h : Below w3.heap.size w3 W) => (h.block _ (blk_lt b0)).trans b0)
  have HK1 := Aside0.mk (fun (W : World) (h : Below w3.heap.size w3 W) => (h.block _ (blk_lt b1)).trans b1)
  clear b0 b1 hb23 hC1 hC2
  go_wp2_with fail
  rw [← hw3]
  clear hw3
  refine (HG.out w3).mono ?_
  rintro e w4 ⟨A3, c3, A4, c4, A5, c5, rfl, hcc3, hC3, hC5, hb4⟩
  obtain ⟨w5, hw5⟩ : ∃ w5, w5 = (w4.alloc (.cells #[.slice A3 blocks c3, .slice A4 0 c4] 26)).alloc (.cells #[.slice A5 n c5, .int .i64 keep, .slice none 0 0, .slice none 0 0, .int .i64 1, .int .i64 1] 33) := ⟨_, rfl⟩
  have b0 : w5.heap[w4.heap.size]? = some (.cells #[.slice A3 blocks c3, .slice A4 0 c4] 26) := by rw [hw5, Below.heap_alloc _ _ _ (by simp)]; exact World.alloc_heap_new _ _
  have b1 : w5.heap[w4.heap.size + 1]? = some (.cells #[.slice A5 n c5, .int .i64 keep, .slice none 0 0, .slice none 0 0, .int .i64 1, .int .i64 1] 33) := by
    rw [hw5]
    have := World.alloc_heap_new (w4.alloc (.cells #[.slice A3 blocks c3, .slice A4 0 c4] 26)) (.cells #[.slice A5 n c5, .int .i64 keep, .slice none 0 0, .slice none 0 0, .int .i64 1, .int .i64 1] 33)
    rwa [World.size_alloc] at this
  have hb45 : Below w4.heap.size w4 w5 := by rw [hw5]; exact ((Below.refl _ w4).alloc (Nat.le_refl _) _).alloc (by simp) _
  have hb35 : Below w3.heap.size w3 w5 := below_then hb4 hb4.size hb45
  have HB5 := Aside0.mk (below_then HB3.out HB3.out.size hb35)
  have HK2 := Aside0.mk (fun (W : World) (h : Below w5.heap.size w5 W) => (h.block _ (blk_lt b0)).trans b0)
  have HK3 := Aside0.mk (fun (W : World) (h : Below w5.heap.size w5 W) => (h.block _ (blk_lt b1)).trans b1)
  have HB35 := Aside0.mk hb35
  have HC3 := Aside0.mk (Kd.C_below hC3 hb45)
  have HC5 := Aside0.mk (Kd.C_below hC5 hb45)
  have p0 : w5.cell? ⟨w2.heap.size, 0, none⟩ = some (.slice A1 blocks c1) := (blk_cell (HK0.out w5 hb35) 0).trans rfl
  have p1 : w5.cell? ⟨w2.heap.size, 1, none⟩ = some (.slice none 0 0) := (blk_cell (HK0.out w5 hb35) 1).trans rfl
  have r0 : w5.cell? ⟨w4.heap.size, 0, none⟩ = some (.slice A3 blocks c3) := (blk_cell b0 0).trans rfl
  have r1 : w5.cell? ⟨w4.heap.size, 1, none⟩ = some (.slice A4 0 c4) := (blk_cell b0 1).trans rfl
  rw [hw5] at p0 p1 r0 r1
  have HW5 := Aside0.mk hw5
  clear hw5 b0 b1 hb45 hb35 hb4 hC3 hC5
  go_wp2_with fail
  rw [← HW5.out]
  have hsm := assartref02_Same.calls (blocks + 3) A1 c1 D none 0 [] A3 c3 D A4 c4 [] true w5 (by rw [HLEN.out]; exact Kd.C_below HC1.out HB35.out) (by rw [HLEN.out]; exact hcc1) (c_nil _ _ _) (Nat.zero_le _) (by rw [HLEN.out]; exact HC3.out) (by rw [HLEN.out]; exact hcc3) (c_nil _ _ _) (Nat.zero_le _) HSM.out
  rw [HLEN.out] at hsm
  refine hsm.mono ?_
  clear hsm
  rintro e w6 ⟨rfl, hb6⟩
  clear p0 p1 r0 r1
  have hb36 := below_then HB35.out HB35.out.size hb6
  obtain ⟨q0, q1, q2, q3, q4, q5⟩ := six_of (HK1.out w6 hb36)
  obtain ⟨s0, s1, s2, s3, s4, s5⟩ := six_of (HK3.out w6 hb6)
  have HB6 := Aside0.mk (below_then HB5.out HB5.out.size hb6)
  have HB36 := Aside0.mk hb36
  have HC5' := Aside0.mk (Kd.C_below HC5.out hb6)
  clear hb6 hb36
  go_wp2_with fail
  refine (refStateSame_calls A2 n c2 keep 1 1 A5 c5 w6 (Kd.C_below HC2.out HB36.out) HC5'.out hn2).mono ?_
  rintro e w7 ⟨rfl, hb7⟩
  have HB7 := Aside0.mk (below_then HB6.out HB6.out.size hb7)
  have HB37 := Aside0.mk (below_then HB36.out HB36.out.size hb7)
  clear hb7 q0 q1 q2 q3 q4 q5 s0 s1 s2 s3 s4 s5
  go_wp2_with fail
  have HKK : Aside0 (∀ W : World, Below w3.heap.size w3 W → W.cell? ⟨w2.heap.size, 0, none⟩ = some (.slice A1 blocks c1) ∧ W.cell? ⟨w2.heap.size, 1, none⟩ = some (.slice none 0 0) ∧ W.cell? ⟨w2.heap.size + 1, 0, none⟩ = some (.slice A2 n c2) ∧ W.cell? ⟨w2.heap.size + 1, 1, none⟩ = some (.int .i64 keep) ∧ W.cell? ⟨w2.heap.size + 1, 2, none⟩ = some (.slice none 0 0) ∧ W.cell? ⟨w2.heap.size + 1, 3, none⟩ = some (.slice none 0 0) ∧ W.cell? ⟨w2.heap.size + 1, 4, none⟩ = some (.int .i64 1) ∧ W.cell? ⟨w2.heap.size + 1, 5, none⟩ = some (.int .i64 1)) := ⟨fun W h => ⟨(blk_cell (HK0.out W h) 0).trans rfl, (blk_cell (HK0.out W h) 1).trans rfl, six_of (HK1.out W h)⟩⟩
  obtain ⟨g0, g1, g2, g3, g4, g5, g6, g7⟩ := HKK.out w7 HB37.out
  have HRR : Aside0 (∀ W : World, Below w7.heap.size w7 W → Calls Tryz.prog 9 #[.agg #[.slice A1 blocks c1, .slice none 0 0]] W fun e w' => e = .returned (.bool true) ∧ Below W.heap.size W w') := ⟨fun W h => by
    have h1 := assartref02_Right.calls (blocks + 3) A1 c1 D none 0 [] true W (by rw [HLEN.out]; exact Kd.C_below HC1.out (below_then HB37.out HB37.out.size h)) (by rw [HLEN.out]; exact hcc1) (c_nil _ _ _) (Nat.zero_le _) HRT.out
    rw [HLEN.out] at h1
    exact h1⟩
  go_region_held3 (fun W => W.cell? ⟨w2.heap.size, 0, none⟩ = some (.slice A1 blocks c1) ∧ W.cell? ⟨w2.heap.size, 1, none⟩ = some (.slice none 0 0) ∧ W.cell? ⟨w2.heap.size + 1, 0, none⟩ = some (.slice A2 n c2) ∧ W.cell? ⟨w2.heap.size + 1, 1, none⟩ = some (.int .i64 keep) ∧ W.cell? ⟨w2.heap.size + 1, 2, none⟩ = some (.slice none 0 0) ∧ W.cell? ⟨w2.heap.size + 1, 3, none⟩ = some (.slice none 0 0) ∧ W.cell? ⟨w2.heap.size + 1, 4, none⟩ = some (.int .i64 1) ∧ W.cell? ⟨w2.heap.size + 1, 5, none⟩ = some (.int .i64 1))
    (first | with_reducible exact ⟨g0, g1, g2, g3, g4, g5, g6, g7⟩ | exact HKK.out _ HX.out | go_keep)
    (first | (go_at_call 9; refine (HRR.out _ (below_drew (Below.refl w7.heap.size w7))).mono ?_; rintro e w8 ⟨rfl, hb8⟩; have HY := Aside0.mk (below_step (below_drew (Below.refl w7.heap.size w7)) hb8); have HX := Aside0.mk (below_then HB37.out HB37.out.size HY.out); clear hb8) | (go_at_call 10; refine (assartref14_Cells.calls 3001 _ _ _ HCL.out).mono ?_; rintro e w9 ⟨rfl, ⟨nd9, rfl⟩⟩; have HY2 := Aside0.mk (pw_below_drewN HY.out nd9); have HX := Aside0.mk (below_then HB37.out HB37.out.size HY2.out)))
  go_wp2
  go_ret
  exact ⟨rfl, below_then HB7.out HB7.out.size HY2.out⟩
end Go.Proofs.YtfolgjigfdbnoaaGreat.M
