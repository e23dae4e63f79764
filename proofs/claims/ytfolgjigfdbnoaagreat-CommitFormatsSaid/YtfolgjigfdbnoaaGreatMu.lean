/-
  Contract of commit.Format where it fails.
-/
import Derived.Test.YtfolgjigfdbnoaaGreatMt
namespace Go.Proofs.YtfolgjigfdbnoaaGreat.M
open Go.RowKit Go.Shelf Go.Proofs.YtfolgjigfdbnoaaGreatW.PrintWords Go.Proofs.YtfolgjigfdbnoaaGreatW.PrintLast Go.Proofs.YtfolgjigfdbnoaaGreatW.PrintMore
open PCommitFormats
set_option linter.unusedVariables false
set_option linter.unusedSimpArgs false

set_option maxRecDepth 100000 in
set_option maxHeartbeats 4000000 in
theorem format_fails (blocks keep m a b : Int) (w : World)
    (hD : ∀ W : World, Calls Tryz.prog 14 #[.int .i64 blocks] W fun e w' => (∃ A l c, e = .returned (.tuple #[.agg #[.slice A l c, .slice none 0 0], .int .i64 a])) ∧ Below W.heap.size W w')
    (hCL : ∀ W : World, Calls Tryz.prog 16 #[.int .i64 blocks] W fun e w' => e = .returned (.int .i64 m) ∧ Below W.heap.size W w')
    (hST : ∀ W : World, Calls Tryz.prog 15 #[.int .i64 m, .int .i64 keep] W fun e w' => (∃ A n c k2 nx, e = .returned (.tuple #[stV A n c k2 nx 0, .int .i64 b])) ∧ Below W.heap.size W w')
    (hab : (if a = 0 then b else a) = 1) :
    Calls Tryz.prog 5 #[.int .i64 blocks, .int .i64 keep] w fun e w' => e = .returned (.tuple #[.agg #[.slice none 0 0, .slice none 0 0], stV none 0 0 0 0 0, .int .i64 1]) ∧ Below w.heap.size w w' := by
  have hu26 := Tryz.underlying26
  have hu29 := Tryz.underlying29
  have hu33 := Tryz.underlying33
  go_enter Tryz.func5, Tryz.ntmps5
  obtain ⟨w2, hw2⟩ : ∃ w2, w2 = (w.alloc (.cells #[.slice none 0 0, .slice none 0 0] 26)).alloc (.cells #[.slice none 0 0, .int .i64 0, .slice none 0 0, .slice none 0 0, .int .i64 0, .int .i64 0] 33) := ⟨_, rfl⟩
  have b0 : w2.heap[w.heap.size]? = some (.cells #[.slice none 0 0, .slice none 0 0] 26) := by rw [hw2, Below.heap_alloc _ _ _ (by simp)]; exact World.alloc_heap_new _ _
  have b1 : w2.heap[w.heap.size + 1]? = some (.cells #[.slice none 0 0, .int .i64 0, .slice none 0 0, .slice none 0 0, .int .i64 0, .int .i64 0] 33) := by
    rw [hw2]
    have := World.alloc_heap_new (w.alloc (.cells #[.slice none 0 0, .slice none 0 0] 26)) (.cells #[.slice none 0 0, .int .i64 0, .slice none 0 0, .slice none 0 0, .int .i64 0, .int .i64 0] 33)
    rwa [World.size_alloc] at this
  have hs2 : w2.heap.size = w.heap.size + 2 := by rw [hw2]; simp
  have HB2 : Aside0 (Below w.heap.size w w2) := ⟨by rw [hw2]; exact ((Below.refl _ w).alloc (Nat.le_refl _) _).alloc (by simp) _⟩
  have B0 := Aside0.mk b0
  have B1 := Aside0.mk b1
  have HD := Aside0.mk hD
  have HCL := Aside0.mk hCL
  have HST := Aside0.mk hST
  have HAB := Aside0.mk hab
  clear b0 b1 hD hCL hST hab
  go_wp2_with fail
  rw [← hw2]
  clear hw2
  refine (HD.out w2).mono ?_
  rintro e w3 ⟨⟨A3, l3, c3, rfl⟩, hb3⟩
  have B0' := Aside0.mk ((hb3.block _ (blk_lt B0.out)).trans B0.out)
  have B1' := Aside0.mk ((hb3.block _ (blk_lt B1.out)).trans B1.out)
  have HB3 : Aside0 (Below w.heap.size w w3) := ⟨HB2.out.trans (hb3.mono (by omega))⟩
  clear hb3 B0 B1 HB2
  go_wp2_with fail
  refine (HCL.out _).mono ?_
  rintro e w4 ⟨rfl, hb4⟩
  go_wp2_with fail
  refine (HST.out _).mono ?_
  rintro e w5 ⟨⟨A5, n5, c5, k5, nx5, rfl⟩, hb5⟩
  obtain ⟨ob, hob⟩ : ∃ ob, ob = Obj.cells #[.slice A3 l3 c3, .slice none 0 0] 26 := ⟨_, rfl⟩
  rw [← hob] at hb4
  have hb35 : Below w3.heap.size w3 w5 := (((Below.refl _ w3).alloc (Nat.le_refl _) ob).trans (hb4.mono (by simp))).trans (hb5.mono (by have := hb4.size; simp at this; omega))
  have q0 := (hb35.block _ (blk_lt B0'.out)).trans B0'.out
  have q1 := (hb35.block _ (blk_lt B1'.out)).trans B1'.out
  obtain ⟨w6, hw6⟩ : ∃ w6, w6 = w5.alloc (.cells #[.slice A5 n5 c5, .int .i64 k5, .slice none 0 0, .slice none 0 0, .int .i64 nx5, .int .i64 0] 33) := ⟨_, rfl⟩
  have hb56 : Below w5.heap.size w5 w6 := by rw [hw6]; exact (Below.refl _ w5).alloc (Nat.le_refl _) _
  have hfst : ∀ W : World, Calls Tryz.prog 17 #[.slice (some ⟨W.heap.size, 0, none⟩) 2 2] (W.alloc (.cells #[.int .i64 a, .int .i64 b] 34)) fun e w' => e = .returned (.int .i64 1) ∧ Drawn0 (W.alloc (.cells #[.int .i64 a, .int .i64 b] 34)) w' := fun W => commit_first.calls 3 _ 2 [a, b] 1 _ (R_C (r_new W W.heap.size (Nat.le_refl _) [a, b] .i64 34 (by simp))) (by simp) (by rw [first2, HAB.out])
  have hs6 : w6.heap.size = w5.heap.size + 1 := by rw [hw6]; simp
  have hf6 := hfst w6
  rw [hs6] at hf6
  have HF := Aside0.mk hf6
  clear hf6
  have h35 := hb35.size
  have h3 := HB3.out.size
  have X0 := Aside0.mk ((hb56.block _ (blk_lt q0)).trans q0)
  have X1 := Aside0.mk ((hb56.block _ (blk_lt q1)).trans q1)
  have HB36 : Aside0 (Below w3.heap.size w3 w6) := ⟨hb35.trans (hb56.mono h35)⟩
  clear q0 q1 hb4 hb5 hb35 hb56 hfst B0' B1' HCL HST hob
  go_wp2_with fail
  rw [← hw6]
  clear hw6
  with_reducible refine HF.out.mono ?_
  rintro e w7 ⟨rfl, ⟨nd, hw7⟩⟩
  have hb67 : Below w6.heap.size w6 w7 := by rw [hw7]; exact pw_below_drewN ((Below.refl _ w6).alloc (Nat.le_refl _) _) nd
  clear hw7 HF
  have h36 := HB36.out.size
  have z0 := (hb67.block _ (blk_lt X0.out)).trans X0.out
  have z1 := (hb67.block _ (blk_lt X1.out)).trans X1.out
  have Z0 := Aside0.mk z0
  have Z1 := Aside0.mk z1
  have HB7 : Aside0 (Below w.heap.size w w7) := ⟨HB3.out.trans ((HB36.out.trans (hb67.mono h36)).mono HB3.out.size)⟩
  have e0 : w7.cell? ⟨w.heap.size, 0, none⟩ = some (.slice none 0 0) := (blk_cell z0 0).trans rfl
  have e1 : w7.cell? ⟨w.heap.size, 1, none⟩ = some (.slice none 0 0) := (blk_cell z0 1).trans rfl
  have f0 : w7.frozen? ⟨w.heap.size, 0, none⟩ = false := blk_frozen z0 0
  have f1 : w7.frozen? ⟨w.heap.size, 1, none⟩ = false := blk_frozen z0 1
  have t0 : w7.cell? ⟨w.heap.size + 1, 0, none⟩ = some (.slice none 0 0) := (blk_cell z1 0).trans rfl
  have t1 : w7.cell? ⟨w.heap.size + 1, 1, none⟩ = some (.int .i64 0) := (blk_cell z1 1).trans rfl
  have t2 : w7.cell? ⟨w.heap.size + 1, 2, none⟩ = some (.slice none 0 0) := (blk_cell z1 2).trans rfl
  have t3 : w7.cell? ⟨w.heap.size + 1, 3, none⟩ = some (.slice none 0 0) := (blk_cell z1 3).trans rfl
  have t4 : w7.cell? ⟨w.heap.size + 1, 4, none⟩ = some (.int .i64 0) := (blk_cell z1 4).trans rfl
  have t5 : w7.cell? ⟨w.heap.size + 1, 5, none⟩ = some (.int .i64 0) := (blk_cell z1 5).trans rfl
  have u0 : w7.frozen? ⟨w.heap.size + 1, 0, none⟩ = false := blk_frozen z1 0
  have u1 : w7.frozen? ⟨w.heap.size + 1, 1, none⟩ = false := blk_frozen z1 1
  have u2 : w7.frozen? ⟨w.heap.size + 1, 2, none⟩ = false := blk_frozen z1 2
  have u3 : w7.frozen? ⟨w.heap.size + 1, 3, none⟩ = false := blk_frozen z1 3
  have u4 : w7.frozen? ⟨w.heap.size + 1, 4, none⟩ = false := blk_frozen z1 4
  have u5 : w7.frozen? ⟨w.heap.size + 1, 5, none⟩ = false := blk_frozen z1 5
  clear z0 z1 hb67 X0 X1
  go_wp2
  obtain ⟨w9, hw9⟩ : ∃ w9, w9 = (w7.setCell ⟨w.heap.size, 0, none⟩ (.slice none 0 0)).setCell ⟨w.heap.size, 1, none⟩ (.slice none 0 0) := ⟨_, rfl⟩
  have x0 : w9.heap[w.heap.size]? = some (.cells #[.slice none 0 0, .slice none 0 0] 26) := by rw [hw9]; exact set_blk (set_blk Z0.out 0 _) 1 _
  have x1 : w9.heap[w.heap.size + 1]? = some (.cells #[.slice none 0 0, .int .i64 0, .slice none 0 0, .slice none 0 0, .int .i64 0, .int .i64 0] 33) := by
    rw [hw9, Below.heap_setCell _ _ _ _ (by simp), Below.heap_setCell _ _ _ _ (by simp)]
    exact Z1.out
  have xB : Below w.heap.size w w9 := by rw [hw9]; exact (HB7.out.setCell (p := ⟨w.heap.size, 0, none⟩) (Nat.le_refl _) _).setCell (p := ⟨w.heap.size, 1, none⟩) (Nat.le_refl _) _
  rw [← hw9]
  clear hw9
  refine bodyPost_ret (results_cct rfl _ _ w.heap.size (w.heap.size + 1) 26 33 #[.slice none 0 0, .slice none 0 0] #[.slice none 0 0, .int .i64 0, .slice none 0 0, .slice none 0 0, .int .i64 0, .int .i64 0] (0, 0) (0, 0) _ _ rfl ?z2 Tryz.underlying26 rfl (by kernel_rfl) rfl ?z3 Tryz.underlying33 rfl (by kernel_rfl)) rfl ?_
  case z2 =>
    rw [set6_other _ _ _ _ _ _ _ _ _ (by omega)]
    exact x0
  case z3 => exact set6_blk x1
  exact ⟨rfl, set6_below xB (by omega) _ _ _ _ _ _⟩

theorem format_bad (blocks keep : Int) (w : World) (hb : blocks ≤ 4000) (h : blocks < 1 ∨ cellsM blocks < 1 ∨ keep < 0 ∨ cellsM blocks < keep) :
    Calls Tryz.prog 5 #[.int .i64 blocks, .int .i64 keep] w fun e w' => e = .returned (.tuple #[.agg #[.slice none 0 0, .slice none 0 0], stV none 0 0 0 0 0, .int .i64 1]) ∧ Below w.heap.size w w' := by
  obtain ⟨hc0, hc1, _, _⟩ := cellsM_spec blocks
  have hST : ∃ b : Int, (b = 0 ∨ b = 1) ∧ ((cellsM blocks < 1 ∨ keep < 0 ∨ cellsM blocks < keep) → b = 1) ∧ ∀ W : World, Calls Tryz.prog 15 #[.int .i64 (cellsM blocks), .int .i64 keep] W fun e w' => (∃ A n c k2 nx, e = .returned (.tuple #[stV A n c k2 nx 0, .int .i64 b])) ∧ Below W.heap.size W w' := by
    by_cases c : cellsM blocks < 1 ∨ keep < 0 ∨ cellsM blocks < keep
    · refine ⟨1, .inr rfl, fun _ => rfl, fun W => ?_⟩
      refine (stateNew_any (cellsM blocks) keep [] 0 1 (heapNew_bad (by omega)) (by simp) W).mono fun e w' ⟨h1, h2⟩ => ⟨?_, h2⟩
      rcases h1 with ⟨_, h3⟩ | ⟨h3, _⟩
      · exact ⟨_, _, _, _, _, h3⟩
      · cases h3
    · refine ⟨0, .inl rfl, fun h => absurd h c, fun W => ?_⟩
      refine (stateNew_any (cellsM blocks) keep _ keep 0 (heapNew_good (by omega) (by omega) (by omega) (by omega)) (by simp [blank]; omega) W).mono fun e w' ⟨h1, h2⟩ => ⟨?_, h2⟩
      rcases h1 with ⟨h3, _⟩ | ⟨_, A, c, h3, _⟩
      · exact absurd rfl h3
      · exact ⟨_, _, _, _, _, h3⟩
  obtain ⟨b, hb01, hbb, hST⟩ := hST
  by_cases c : blocks < 1
  · refine format_fails blocks keep (cellsM blocks) 1 b w (fun W => ?_) (fun W => cells_calls blocks W) hST rfl
    exact (diskNew_bad blocks (.inl c) W).mono fun e w' ⟨h1, h2⟩ => ⟨⟨_, _, _, h1⟩, h2⟩
  · obtain ⟨n, rfl⟩ : ∃ n : Nat, blocks = n := ⟨blocks.toNat, by omega⟩
    refine format_fails n keep (cellsM n) 0 b w (fun W => ?_) (fun W => cells_calls n W) hST (by rw [if_pos rfl]; exact hbb (by omega))
    refine (diskNew_calls n (by omega) (by omega) W).mono fun e w' ⟨v, h1, hR, h2⟩ => ⟨?_, h2⟩
    obtain ⟨A, c, rfl⟩ := Kd.R_slice hR
    exact ⟨_, _, _, h1⟩
end Go.Proofs.YtfolgjigfdbnoaaGreat.M
