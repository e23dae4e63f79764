/-
  Contracts of the references' Settle, Print, New and Same of blank states.
-/
import Derived.Test.YtfolgjigfdbnoaaGreatNd
namespace Go.Proofs.YtfolgjigfdbnoaaGreat.M
open Go.RowKit Go.Shelf Go.Proofs.YtfolgjigfdbnoaaGreatW.PrintWords Go.Proofs.YtfolgjigfdbnoaaGreatW.PrintLast Go.Proofs.YtfolgjigfdbnoaaGreatW.PrintMore
open PCommitFormats
set_option linter.unusedVariables false
set_option linter.unusedSimpArgs false

set_option maxHeartbeats 2000000 in
theorem refSettle_calls (A : Option Addr) (n c : Nat) (keep : Int) (w : World) (hA : Kd.C k75 w A n (blank n)) (hn : n ≤ 2000) :
    Calls Tryz.prog 67 #[.agg #[.slice A n c, .int .i64 keep]] w fun e w' => e = .returned (.agg #[.slice A n c, .int .i64 keep]) ∧ Below w.heap.size w w' := by
  have hu29 := Tryz.underlying29
  have hu75 := Tryz.underlying75
  have hn' : (n : Int) ≤ 2000 := by omega
  have HA := Aside0.mk hA
  clear hA
  go_enter Tryz.func67, Tryz.ntmps67
  obtain ⟨w2, hw2⟩ : ∃ w2, w2 = (w.alloc (.cells #[.slice A n c, .int .i64 keep] 29)).alloc (.cells #[.slice none 0 0, .int .i64 0] 29) := ⟨_, rfl⟩
  have b0 : w2.heap[w.heap.size]? = some (.cells #[.slice A n c, .int .i64 keep] 29) := by rw [hw2, Below.heap_alloc _ _ _ (by simp)]; exact World.alloc_heap_new _ _
  have b1 : w2.heap[w.heap.size + 1]? = some (.cells #[.slice none 0 0, .int .i64 0] 29) := by
    rw [hw2]
    have := World.alloc_heap_new (w.alloc (.cells #[.slice A n c, .int .i64 keep] 29)) (.cells #[.slice none 0 0, .int .i64 0] 29)
    rwa [World.size_alloc] at this
  have HB2 : Aside0 (Below w.heap.size w w2) := ⟨by rw [hw2]; exact ((Below.refl _ w).alloc (Nat.le_refl _) _).alloc (by simp) _⟩
  have c0 : w2.cell? ⟨w.heap.size, 0, none⟩ = some (.slice A n c) := (blk_cell b0 0).trans rfl
  have c1 : w2.cell? ⟨w.heap.size, 1, none⟩ = some (.int .i64 keep) := (blk_cell b0 1).trans rfl
  have s0 : w2.cell? ⟨w.heap.size + 1, 0, none⟩ = some (.slice none 0 0) := (blk_cell b1 0).trans rfl
  have s1 : w2.cell? ⟨w.heap.size + 1, 1, none⟩ = some (.int .i64 0) := (blk_cell b1 1).trans rfl
  have s2 : w2.frozen? ⟨w.heap.size + 1, 0, none⟩ = false := blk_frozen b1 0
  have s3 : w2.frozen? ⟨w.heap.size + 1, 1, none⟩ = false := blk_frozen b1 1
  have B1 := Aside0.mk b1
  have HA2 := Aside0.mk (Kd.C_below HA.out HB2.out)
  clear b0 b1
  go_wp2_with fail
  rw [← hw2]
  clear hw2
  go_loop [3] (fun v3 => ∃ k : Nat, v3 = .int .i64 (k : Int) ∧ k ≤ n) (fun v3 => n - (intOf v3).toNat)
  case atStart => exact ⟨0, rfl, Nat.zero_le _⟩
  case round =>
    obtain ⟨k, rfl, hk⟩ := hrel
    by_cases hlt : k < n
    · obtain ⟨ad, A3, c3, e, hx0, hx1, hx2, hx3, _, _⟩ := at_T75 HA2.out k (by omega) (by omega)
      subst e
      rw [rd_blank (by omega) (by omega)] at hx0 hx1 hx2 hx3
      simp only [z75, z73, List.length_nil, Int.toNat_natCast] at hx0 hx1 hx2 hx3
      go_wp2
      go_round
      case rel => exact ⟨k + 1, by simp, by omega⟩
      case measure => simp [intOf]; omega
    · obtain rfl : k = n := by omega
      go_wp2
      refine bodyPost_ret (results_cell_row rfl _ _ (w.heap.size + 1) 29 #[.slice A k c, .int .i64 keep] (0, 0) _ rfl (set_blk (set_blk B1.out 0 _) 1 _) Tryz.underlying29 rfl (by kernel_rfl)) rfl ?_
      exact ⟨rfl, (HB2.out.setCell (p := ⟨w.heap.size + 1, 0, none⟩) (Nat.le_succ _) _).setCell (p := ⟨w.heap.size + 1, 1, none⟩) (Nat.le_succ _) _⟩

theorem refTodo_calls (w : World) :
    Calls Tryz.prog 91 #[.slice none 0 0] w fun e w' => ∃ v, e = .returned v ∧ Kd.R (Kd.int .u8) 5 w' w.heap.size (fun _ => True) v (putL 2 0) ∧ Below w.heap.size w w' := by
  go_enter Tryz.func91, Tryz.ntmps91
  go_wp2_with fail
  refine (assartref01_Put.calls 8 0 2 _ _ (refPut2 0 (by omega) (by omega))).mono ?_
  rintro e w1 ⟨v1, rfl, ho1, hb1⟩
  have HB1 := Aside0.mk hb1
  have HO1 := Aside0.mk ho1
  clear ho1 hb1
  go_wp2
  refine wp_loop_rounds 1 ?_
  rw [rounds_succ]
  go_wp2
  go_ret
  exact ⟨_, rfl, HO1.out, HB1.out⟩

theorem refTodoSame_calls (w : World) :
    Calls Tryz.prog 23 #[.slice none 0 0, .slice none 0 0] w fun e w' => e = .returned (.bool true) ∧ w' = w := by
  go_enter Tryz.func23, Tryz.ntmps23
  go_wp2
  refine wp_loop_rounds 1 ?_
  rw [rounds_succ]
  go_wp2
  go_ret
  exact ⟨rfl, rfl⟩

set_option maxRecDepth 100000 in
set_option maxHeartbeats 1000000 in
theorem refStateNew_any (n keep : Int) (l : List S75) (k2 k3 : Int) (hf : assartref05_New.f n keep = some (l, k2, k3)) (hl : l.length ≤ 2000) (w : World) :
    Calls Tryz.prog 19 #[.int .i64 n, .int .i64 keep] w fun e w' => ((k3 ≠ 0 ∧ e = .returned (.tuple #[.agg #[.slice none 0 0, .int .i64 0, .slice none 0 0, .slice none 0 0, .int .i64 0, .int .i64 0], .int .i64 k3])) ∨
      (k3 = 0 ∧ ∃ A c, e = .returned (.tuple #[stV A l.length c k2 1 0, .int .i64 0]) ∧ l.length ≤ c ∧ Kd.C k75 w' A l.length l ∧ (∀ ad, A = some ad → w.heap.size ≤ ad.block ∧ ad.block < w'.heap.size))) ∧ Below w.heap.size w w' := by
  have hu29 := Tryz.underlying29
  have hu33 := Tryz.underlying33
  go_enter Tryz.func19, Tryz.ntmps19
  go_wp2_with fail
  refine (assartref05_New.calls n keep l k2 k3 _ hf).mono ?_
  rintro e w2 ⟨v0, rfl, hS, hb2⟩
  have hR := Kd.S_R hS
  obtain ⟨A, c, rfl⟩ := Kd.R_slice hR
  have b1 := (hb2.block w.heap.size (by simp)).trans (World.alloc_heap_new w (.cells #[.slice none 0 0, .int .i64 0, .slice none 0 0, .slice none 0 0, .int .i64 0, .int .i64 0] 33))
  have HB2 : Aside0 (Below w.heap.size w w2) := ⟨((Below.refl _ w).alloc (Nat.le_refl _) _).trans (hb2.mono (by simp))⟩
  have HR := Aside0.mk hR
  have b2 := (Below.heap_alloc w2 (.cells #[.slice A l.length c, .int .i64 k2] 29) _ (blk_lt b1)).trans b1
  have B2 := Aside0.mk b2
  have c0 : (w2.alloc (.cells #[.slice A l.length c, .int .i64 k2] 29)).cell? ⟨w.heap.size, 0, none⟩ = some (.slice none 0 0) := (blk_cell b2 0).trans rfl
  have f0 : (w2.alloc (.cells #[.slice A l.length c, .int .i64 k2] 29)).frozen? ⟨w.heap.size, 0, none⟩ = false := blk_frozen b2 0
  have c1 : (w2.alloc (.cells #[.slice A l.length c, .int .i64 k2] 29)).cell? ⟨w.heap.size, 1, none⟩ = some (.int .i64 0) := (blk_cell b2 1).trans rfl
  have f1 : (w2.alloc (.cells #[.slice A l.length c, .int .i64 k2] 29)).frozen? ⟨w.heap.size, 1, none⟩ = false := blk_frozen b2 1
  have c2 : (w2.alloc (.cells #[.slice A l.length c, .int .i64 k2] 29)).cell? ⟨w.heap.size, 2, none⟩ = some (.slice none 0 0) := (blk_cell b2 2).trans rfl
  have f2 : (w2.alloc (.cells #[.slice A l.length c, .int .i64 k2] 29)).frozen? ⟨w.heap.size, 2, none⟩ = false := blk_frozen b2 2
  have c3 : (w2.alloc (.cells #[.slice A l.length c, .int .i64 k2] 29)).cell? ⟨w.heap.size, 3, none⟩ = some (.slice none 0 0) := (blk_cell b2 3).trans rfl
  have f3 : (w2.alloc (.cells #[.slice A l.length c, .int .i64 k2] 29)).frozen? ⟨w.heap.size, 3, none⟩ = false := blk_frozen b2 3
  have c4 : (w2.alloc (.cells #[.slice A l.length c, .int .i64 k2] 29)).cell? ⟨w.heap.size, 4, none⟩ = some (.int .i64 0) := (blk_cell b2 4).trans rfl
  have f4 : (w2.alloc (.cells #[.slice A l.length c, .int .i64 k2] 29)).frozen? ⟨w.heap.size, 4, none⟩ = false := blk_frozen b2 4
  have c5 : (w2.alloc (.cells #[.slice A l.length c, .int .i64 k2] 29)).cell? ⟨w.heap.size, 5, none⟩ = some (.int .i64 0) := (blk_cell b2 5).trans rfl
  have f5 : (w2.alloc (.cells #[.slice A l.length c, .int .i64 k2] 29)).frozen? ⟨w.heap.size, 5, none⟩ = false := blk_frozen b2 5
  clear b1 b2 hR hS hb2 hf
  have hbx : Below w.heap.size w (w2.alloc (.cells #[.slice A l.length c, .int .i64 k2] 29)) := HB2.out.alloc HB2.out.size _
  have HBX := Aside0.mk hbx
  clear hbx
  by_cases hk : k3 = 0
  · subst hk
    go_wp2
    refine bodyPost_ret (results_ct rfl _ _ w.heap.size 33 #[.slice A l.length c, .int .i64 k2, .slice none 0 0, .slice none 0 0, .int .i64 1, .int .i64 0] (0, 0) _ rfl (set6_blk B2.out) Tryz.underlying33 rfl (by kernel_rfl)) rfl ?_
    have hR2 := Kd.R_step (w1 := set6 (w2.alloc (.cells #[.slice A l.length c, .int .i64 k2] 29)) w.heap.size (.slice A l.length c) (.int .i64 k2) (.slice none 0 0) (.slice none 0 0) (.int .i64 1) (.int .i64 0)) (Kd.R_bound (Kd.R_alloc HR.out (.cells #[.slice A l.length c, .int .i64 k2] 29))) (fun k hk _ => set6_other _ _ _ _ _ _ _ _ _ (by have := hk.2.1; simp at this; omega))
    refine ⟨⟨A, c, rfl, (Kd.R_reads' hR2).2.1, R_C hR2, fun ad e => ?_⟩, set6_below HBX.out (Nat.le_refl _) _ _ _ _ _ _⟩
    subst e
    obtain ⟨cs, hcs⟩ := r_typed hR2
    have hbs := r_base hR2
    rw [World.size_alloc] at hbs
    exact ⟨by omega, blk_lt hcs⟩
  · go_wp2
    refine bodyPost_ret (results_ct rfl _ _ w.heap.size 33 #[.slice none 0 0, .int .i64 0, .slice none 0 0, .slice none 0 0, .int .i64 0, .int .i64 0] (0, 0) _ rfl (set6_blk B2.out) Tryz.underlying33 rfl (by kernel_rfl)) rfl ?_
    exact ⟨.inl ⟨hk, rfl⟩, set6_below HBX.out (Nat.le_refl _) _ _ _ _ _ _⟩
theorem refHeapNew_good {n keep : Int} (h1 : 1 ≤ n) (h2 : n ≤ 2000) (h3 : 0 ≤ keep) (h4 : keep ≤ n) : assartref05_New.f n keep = some (blank n.toNat, keep, 0) := heapNew_good h1 h2 h3 h4
theorem refHeapNew_bad {n keep : Int} (h : n < 1 ∨ 2000 < n ∨ keep < 0 ∨ n < keep) : assartref05_New.f n keep = some ([], 0, 1) := heapNew_bad h
end Go.Proofs.YtfolgjigfdbnoaaGreat.M
