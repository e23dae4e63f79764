/-
  CommitFormats returns true at every two whole numbers.
-/
import Derived.Test.YtfolgjigfdbnoaaGreatNn
import Derived.Test.YtfolgjigfdbnoaaGreatNk
import Derived.Test.YtfolgjigfdbnoaaGreatMu
namespace Go.Proofs.YtfolgjigfdbnoaaGreat.M
open Go.RowKit Go.Shelf Go.Proofs.YtfolgjigfdbnoaaGreatW.PrintWords Go.Proofs.YtfolgjigfdbnoaaGreatW.PrintLast Go.Proofs.YtfolgjigfdbnoaaGreatW.PrintMore
open PCommitFormats
set_option linter.unusedVariables false
set_option linter.unusedSimpArgs false

theorem z40_size : z40.size = 40 := by
  show (Lib.repeatL [0] 40).toArray.size = 40
  simp [Lib.repeatL_length]
theorem applyL_40 (ws : List S58) : ∀ (B : List ByteArray), (∀ s ∈ B, s.size = 40) → (∀ s ∈ ws, s.f1.size = 40) → ∀ s ∈ applyL B ws, s.size = 40 := by
  induction ws with
  | nil => intro B hB _; exact hB
  | cons x ws ih =>
    intro B hB hw
    refine ih (B.set x.f0.toNat x.f1) (fun s hs => ?_) (fun s hs => hw s (List.mem_cons_of_mem _ hs))
    rcases List.mem_or_eq_of_mem_set hs with h | h
    · exact hB s h
    · rw [h]
      exact hw x List.mem_cons_self
theorem doS_40 (stop : Int) (n : Nat) : ∀ (l : List S58) (B : List ByteArray) (ws : List S58) (k : Int), (∀ s ∈ l, okW n s) → (∀ s ∈ B, s.size = 40) → (∀ s ∈ ws, s.f1.size = 40) → ∀ s ∈ (doS stop l B ws k).1, s.size = 40 := by
  intro l
  induction l with
  | nil => intro B ws k _ hB _; exact hB
  | cons x l ih =>
    intro B ws k hl hB hw
    have hl' := fun s hs => hl s (List.mem_cons_of_mem x hs)
    rw [doS]
    by_cases c : k = stop
    · rw [if_pos c]
      exact hB
    · rw [if_neg c]
      by_cases c2 : isFl x = true
      · rw [if_pos c2]
        exact ih _ _ _ hl' (applyL_40 ws B hB hw) (by simp)
      · rw [if_neg c2]
        refine ih _ _ _ hl' hB (fun s hs => ?_)
        rcases List.mem_append.1 hs with h | h
        · exact hw s h
        · rw [List.mem_singleton.1 h]
          rcases hl x List.mem_cons_self with h1 | ⟨_, _, _, h1⟩
          · exact absurd h1 c2
          · exact h1
theorem diskF_40 (blocks n : Nat) (keep : Int) (h2 : 2 ≤ blocks) (hat : larea n (0 + 1) + chunksN (bookL n keep 1).length ≤ blocks) : ∀ s ∈ diskF blocks n keep, s.size = 40 := by
  have hl : (disk0 blocks).length = blocks := List.length_replicate ..
  refine doS_40 (-1) (disk0 blocks).length _ _ _ _ (planL_ok (disk0 blocks) n keep 1 0 (by rw [hl]; exact h2) (by decide) (by rw [hl]; exact hat)) (fun s hs => ?_) (by simp)
  rw [List.eq_of_mem_replicate hs]
  exact z40_size

theorem c_nil {α : Type} (d : Kd α) (w : World) (A : Option Addr) : d.C w A 0 [] := ⟨rfl, Nat.zero_le _, fun h => absurd h (by decide)⟩

theorem law_big (a0 a1 : Int) (w : World) (h : 200 < a0) : Calls Tryz.prog 3 #[.int .i64 a0, .int .i64 a1] w fun e w' => e = .returned (.bool true) ∧ Below w.heap.size w w' := by
  go_enter Tryz.func3, Tryz.ntmps3
  go_wp2_with fail
  refine (shown_calls w).mono ?_
  rintro e w1 ⟨rfl, hb1⟩
  have HB1 := Aside0.mk hb1
  clear hb1
  go_wp2
  go_ret
  exact ⟨rfl, HB1.out⟩

set_option maxRecDepth 100000 in
set_option maxHeartbeats 4000000 in
theorem law_bad (a0 a1 : Int) (w : World) (hle : a0 ≤ 200) (h : a0 < 1 ∨ cellsM a0 < 1 ∨ a1 < 0 ∨ cellsM a0 < a1) : Calls Tryz.prog 3 #[.int .i64 a0, .int .i64 a1] w fun e w' => e = .returned (.bool true) ∧ Below w.heap.size w w' := by
  have hu26 := Tryz.underlying26
  have hu33 := Tryz.underlying33
  have HF := Aside0.mk (fun W => format_bad a0 a1 W (by omega) h)
  have HG := Aside0.mk (fun W => refFormat_bad a0 a1 W (by omega) h)
  clear h
  go_enter Tryz.func3, Tryz.ntmps3
  go_wp2_with fail
  refine (shown_calls w).mono ?_
  rintro e w1 ⟨rfl, hb1⟩
  have HB1 := Aside0.mk hb1
  clear hb1
  go_wp2_with fail
  refine (HF.out w1).mono ?_
  rintro e w2 ⟨rfl, hb2⟩
  have HB2 := Aside0.mk (below_then HB1.out HB1.out.size hb2)
  clear hb2 HF
  obtain ⟨w3, hw3⟩ : ∃ w3, w3 = (w2.alloc (.cells #[.slice none 0 0, .slice none 0 0] 26)).alloc (.cells #[.slice none 0 0, .int .i64 0, .slice none 0 0, .slice none 0 0, .int .i64 0, .int .i64 0] 33) := ⟨_, rfl⟩
  have b0 : w3.heap[w2.heap.size]? = some (.cells #[.slice none 0 0, .slice none 0 0] 26) := by rw [hw3, Below.heap_alloc _ _ _ (by simp)]; exact World.alloc_heap_new _ _
  have b1 : w3.heap[w2.heap.size + 1]? = some (.cells #[.slice none 0 0, .int .i64 0, .slice none 0 0, .slice none 0 0, .int .i64 0, .int .i64 0] 33) := by
    rw [hw3]
    have := World.alloc_heap_new (w2.alloc (.cells #[.slice none 0 0, .slice none 0 0] 26)) (.cells #[.slice none 0 0, .int .i64 0, .slice none 0 0, .slice none 0 0, .int .i64 0, .int .i64 0] 33)
    rwa [World.size_alloc] at this
  have hb23 : Below w2.heap.size w2 w3 := by rw [hw3]; exact ((Below.refl _ w2).alloc (Nat.le_refl _) _).alloc (by simp) _
  have HB3 := Aside0.mk (below_then HB2.out HB2.out.size hb23)
  have HK0 := Aside0.mk (fun (W : World) (h : Below w3.heap.size w3 W) => (h.block _ (blk_lt b0)).trans b0)
  have HK1 := Aside0.mk (fun (W : World) (h : Below w3.heap.size w3 W) => (h.block _ (blk_lt b1)).trans b1)
  clear b0 b1 hb23
  go_wp2_with fail
  rw [← hw3]
  clear hw3
  refine (HG.out w3).mono ?_
  rintro e w4 ⟨rfl, hb4⟩
  obtain ⟨w5, hw5⟩ : ∃ w5, w5 = (w4.alloc (.cells #[.slice none 0 0, .slice none 0 0] 26)).alloc (.cells #[.slice none 0 0, .int .i64 0, .slice none 0 0, .slice none 0 0, .int .i64 0, .int .i64 0] 33) := ⟨_, rfl⟩
  have b0 : w5.heap[w4.heap.size]? = some (.cells #[.slice none 0 0, .slice none 0 0] 26) := by rw [hw5, Below.heap_alloc _ _ _ (by simp)]; exact World.alloc_heap_new _ _
  have b1 : w5.heap[w4.heap.size + 1]? = some (.cells #[.slice none 0 0, .int .i64 0, .slice none 0 0, .slice none 0 0, .int .i64 0, .int .i64 0] 33) := by
    rw [hw5]
    have := World.alloc_heap_new (w4.alloc (.cells #[.slice none 0 0, .slice none 0 0] 26)) (.cells #[.slice none 0 0, .int .i64 0, .slice none 0 0, .slice none 0 0, .int .i64 0, .int .i64 0] 33)
    rwa [World.size_alloc] at this
  have hb45 : Below w4.heap.size w4 w5 := by rw [hw5]; exact ((Below.refl _ w4).alloc (Nat.le_refl _) _).alloc (by simp) _
  have hb35 : Below w3.heap.size w3 w5 := below_then hb4 hb4.size hb45
  have HB5 := Aside0.mk (below_then HB3.out HB3.out.size hb35)
  have HK2 := Aside0.mk (fun (W : World) (h : Below w5.heap.size w5 W) => (h.block _ (blk_lt b0)).trans b0)
  have HK3 := Aside0.mk (fun (W : World) (h : Below w5.heap.size w5 W) => (h.block _ (blk_lt b1)).trans b1)
  have HB35 := Aside0.mk hb35
  have p0 : w5.cell? ⟨w2.heap.size, 0, none⟩ = some (.slice none 0 0) := (blk_cell (HK0.out w5 hb35) 0).trans rfl
  have p1 : w5.cell? ⟨w2.heap.size, 1, none⟩ = some (.slice none 0 0) := (blk_cell (HK0.out w5 hb35) 1).trans rfl
  have r0 : w5.cell? ⟨w4.heap.size, 0, none⟩ = some (.slice none 0 0) := (blk_cell b0 0).trans rfl
  have r1 : w5.cell? ⟨w4.heap.size, 1, none⟩ = some (.slice none 0 0) := (blk_cell b0 1).trans rfl
  rw [hw5] at p0 p1 r0 r1
  have HW5 := Aside0.mk hw5
  clear hw5 b0 b1 hb45 hb35 hb4
  go_wp2_with fail
  rw [← HW5.out]
  refine (assartref02_Same.calls 3 none 0 [] none 0 [] none 0 [] none 0 [] true w5 (c_nil _ _ _) (Nat.zero_le _) (c_nil _ _ _) (Nat.zero_le _) (c_nil _ _ _) (Nat.zero_le _) (c_nil _ _ _) (Nat.zero_le _) (refSame [] (by decide))).mono ?_
  rintro e w6 ⟨rfl, hb6⟩
  clear p0 p1 r0 r1
  have hb36 := below_then HB35.out HB35.out.size hb6
  obtain ⟨q0, q1, q2, q3, q4, q5⟩ := six_of (HK1.out w6 hb36)
  obtain ⟨s0, s1, s2, s3, s4, s5⟩ := six_of (HK3.out w6 hb6)
  have HB6 := Aside0.mk (below_then HB5.out HB5.out.size hb6)
  clear hb6 hb36
  go_wp2_with fail
  refine (refStateSame_calls none 0 0 0 0 0 none 0 w6 (c_nil _ _ _) (c_nil _ _ _) (by decide)).mono ?_
  rintro e w7 ⟨rfl, hb7⟩
  have HB7 := Aside0.mk (below_then HB6.out HB6.out.size hb7)
  clear hb7 q0 q1 q2 q3 q4 q5 s0 s1 s2 s3 s4 s5
  go_wp2_with fail
  go_quiet (fail)
  go_wp2
  go_ret
  exact ⟨rfl, pw_below_drewN HB7.out _⟩
end Go.Proofs.YtfolgjigfdbnoaaGreat.M
