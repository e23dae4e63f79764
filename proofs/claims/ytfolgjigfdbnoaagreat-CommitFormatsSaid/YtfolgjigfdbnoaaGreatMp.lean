/-
  Contracts of state.New, (*job).run, commit.Do, commit.Many, commit.Follows of blank states.
-/
import Derived.Test.YtfolgjigfdbnoaaGreatMm
import Derived.Test.YtfolgjigfdbnoaaGreatMn
import Derived.Test.YtfolgjigfdbnoaaGreatMo
namespace Go.Proofs.YtfolgjigfdbnoaaGreat.M
open Go.RowKit Go.Shelf Go.Proofs.YtfolgjigfdbnoaaGreatW.PrintWords Go.Proofs.YtfolgjigfdbnoaaGreatW.PrintLast Go.Proofs.YtfolgjigfdbnoaaGreatW.PrintMore
open PCommitFormats
set_option linter.unusedVariables false
set_option linter.unusedSimpArgs false

theorem heapNew_good {n keep : Int} (h1 : 1 ≤ n) (h2 : n ≤ 2000) (h3 : 0 ≤ keep) (h4 : keep ≤ n) : heap_New.f n keep = some (blank n.toNat, keep, 0) := by
  rw [heap_New.f, if_neg (by omega), if_neg (by omega), if_neg (by omega), if_neg (by omega), if_pos (by omega), if_pos (by omega)]
  rfl
theorem heapNew_bad {n keep : Int} (h : n < 1 ∨ 2000 < n ∨ keep < 0 ∨ n < keep) : heap_New.f n keep = some ([], 0, 1) := by
  rw [heap_New.f]
  by_cases c1 : n < 1
  · rw [if_pos c1]
  by_cases c2 : n > 2000
  · rw [if_neg c1, if_pos c2]
  by_cases c3 : keep < 0
  · rw [if_neg c1, if_neg c2, if_pos c3]
  rw [if_neg c1, if_neg c2, if_neg c3, if_pos (by omega)]

/-- A state's store: six cells. -/
abbrev set6 (W : World) (b : Nat) (v0 v1 v2 v3 v4 v5 : Value) : World :=
  (((((W.setCell ⟨b, 0, none⟩ v0).setCell ⟨b, 1, none⟩ v1).setCell ⟨b, 2, none⟩ v2).setCell ⟨b, 3, none⟩ v3).setCell ⟨b, 4, none⟩ v4).setCell ⟨b, 5, none⟩ v5
theorem set6_blk {W : World} {b t : Nat} {u0 u1 u2 u3 u4 u5 v0 v1 v2 v3 v4 v5 : Value} (h : W.heap[b]? = some (.cells #[u0, u1, u2, u3, u4, u5] t (0, 0))) : (set6 W b v0 v1 v2 v3 v4 v5).heap[b]? = some (.cells #[v0, v1, v2, v3, v4, v5] t (0, 0)) :=
  set_blk (set_blk (set_blk (set_blk (set_blk (set_blk h 0 v0) 1 v1) 2 v2) 3 v3) 4 v4) 5 v5
theorem set6_other (W : World) (b k : Nat) (v0 v1 v2 v3 v4 v5 : Value) (h : k ≠ b) : (set6 W b v0 v1 v2 v3 v4 v5).heap[k]? = W.heap[k]? := by
  unfold set6
  rw [Below.heap_setCell _ _ _ _ h, Below.heap_setCell _ _ _ _ h, Below.heap_setCell _ _ _ _ h, Below.heap_setCell _ _ _ _ h, Below.heap_setCell _ _ _ _ h, Below.heap_setCell _ _ _ _ h]
theorem set6_size (W : World) (b : Nat) (v0 v1 v2 v3 v4 v5 : Value) : (set6 W b v0 v1 v2 v3 v4 v5).heap.size = W.heap.size := by simp [set6]
theorem set6_below {B b : Nat} {w W : World} (h : Below B w W) (hb : B ≤ b) (v0 v1 v2 v3 v4 v5 : Value) : Below B w (set6 W b v0 v1 v2 v3 v4 v5) :=
  (((((h.setCell (p := ⟨b, 0, none⟩) hb _).setCell (p := ⟨b, 1, none⟩) hb _).setCell (p := ⟨b, 2, none⟩) hb _).setCell (p := ⟨b, 3, none⟩) hb _).setCell (p := ⟨b, 4, none⟩) hb _).setCell (p := ⟨b, 5, none⟩) hb _

set_option maxRecDepth 100000 in
set_option maxHeartbeats 1000000 in
theorem stateNew_any (n keep : Int) (l : List S75) (k2 k3 : Int) (hf : heap_New.f n keep = some (l, k2, k3)) (hl : l.length ≤ 2000) (w : World) :
    Calls Tryz.prog 15 #[.int .i64 n, .int .i64 keep] w fun e w' => ((k3 ≠ 0 ∧ e = .returned (.tuple #[.agg #[.slice none 0 0, .int .i64 0, .slice none 0 0, .slice none 0 0, .int .i64 0, .int .i64 0], .int .i64 k3])) ∨
      (k3 = 0 ∧ ∃ A c, e = .returned (.tuple #[stV A l.length c k2 1 0, .int .i64 0]) ∧ l.length ≤ c ∧ Kd.C k75 w' A l.length l ∧ (∀ ad, A = some ad → ad.block < w'.heap.size))) ∧ Below w.heap.size w w' := by
  have hu29 := Tryz.underlying29
  have hu33 := Tryz.underlying33
  go_enter Tryz.func15, Tryz.ntmps15
  go_wp2_with fail
  refine (heap_New.calls n keep l k2 k3 _ hf).mono ?_
  rintro e w2 ⟨v0, rfl, hS, hb2⟩
  have hR := Kd.S_R hS
  obtain ⟨A, c, rfl⟩ := Kd.R_slice hR
  have b1 := (hb2.block w.heap.size (by simp)).trans (World.alloc_heap_new w (.cells #[.slice none 0 0, .int .i64 0, .slice none 0 0, .slice none 0 0, .int .i64 0, .int .i64 0] 33))
  have HB2 : Aside0 (Below w.heap.size w w2) := ⟨((Below.refl _ w).alloc (Nat.le_refl _) _).trans (hb2.mono (by simp))⟩
  have B1 := Aside0.mk b1
  have HR := Aside0.mk hR
  have b2 := (Below.heap_alloc w2 (.cells #[.slice A l.length c, .int .i64 k2] 29) _ (blk_lt b1)).trans b1
  have B2 := Aside0.mk b2
  have c0 : (w2.alloc (.cells #[.slice A l.length c, .int .i64 k2] 29)).cell? ⟨w.heap.size, 0, none⟩ = some (.slice none 0 0) := (blk_cell b2 0).trans rfl
  have f0 : (w2.alloc (.cells #[.slice A l.length c, .int .i64 k2] 29)).frozen? ⟨w.heap.size, 0, none⟩ = false := blk_frozen b2 0
  have c1 : (w2.alloc (.cells #[.slice A l.length c, .int .i64 k2] 29)).cell? ⟨w.heap.size, 1, none⟩ = some (.int .i64 0) := (blk_cell b2 1).trans rfl
  have f1 : (w2.alloc (.cells #[.slice A l.length c, .int .i64 k2] 29)).frozen? ⟨w.heap.size, 1, none⟩ = false := blk_frozen b2 1
  have c2 : (w2.alloc (.cells #[.slice A l.length c, .int .i64 k2] 29)).cell? ⟨w.heap.size, 2, none⟩ = some (.slice none 0 0) := (blk_cell b2 2).trans rfl
  have f2 : (w2.alloc (.cells #[.slice A l.length c, .int .i64 k2] 29)).frozen? ⟨w.heap.size, 2, none⟩ = false := blk_frozen b2 2
  have c3 : (w2.alloc (.cells #[.slice A l.length c, .int .i64 k2] 29)).cell? ⟨w.heap.size, 3, none⟩ = some (.slice none 0 0) := (blk_cell b2 3).trans rfl
  have f3 : (w2.alloc (.cells #[.slice A l.length c, .int .i64 k2] 29)).frozen? ⟨w.heap.size, 3, none⟩ = false := blk_frozen b2 3
  have c4 : (w2.alloc (.cells #[.slice A l.length c, .int .i64 k2] 29)).cell? ⟨w.heap.size, 4, none⟩ = some (.int .i64 0) := (blk_cell b2 4).trans rfl
  have f4 : (w2.alloc (.cells #[.slice A l.length c, .int .i64 k2] 29)).frozen? ⟨w.heap.size, 4, none⟩ = false := blk_frozen b2 4
  have c5 : (w2.alloc (.cells #[.slice A l.length c, .int .i64 k2] 29)).cell? ⟨w.heap.size, 5, none⟩ = some (.int .i64 0) := (blk_cell b2 5).trans rfl
  have f5 : (w2.alloc (.cells #[.slice A l.length c, .int .i64 k2] 29)).frozen? ⟨w.heap.size, 5, none⟩ = false := blk_frozen b2 5
  clear b1 b2 hR hS hb2 hf
  have hbx : Below w.heap.size w (w2.alloc (.cells #[.slice A l.length c, .int .i64 k2] 29)) := HB2.out.alloc HB2.out.size _
  have HBX := Aside0.mk hbx
  clear hbx
  by_cases hk : k3 = 0
  · subst hk
    go_wp2
    refine bodyPost_ret (results_ct rfl _ _ w.heap.size 33 #[.slice A l.length c, .int .i64 k2, .slice none 0 0, .slice none 0 0, .int .i64 1, .int .i64 0] (0, 0) _ rfl (set6_blk B2.out) Tryz.underlying33 rfl (by kernel_rfl)) rfl ?_
    have hR2 := Kd.R_step (w1 := set6 (w2.alloc (.cells #[.slice A l.length c, .int .i64 k2] 29)) w.heap.size (.slice A l.length c) (.int .i64 k2) (.slice none 0 0) (.slice none 0 0) (.int .i64 1) (.int .i64 0)) (Kd.R_bound (Kd.R_alloc HR.out (.cells #[.slice A l.length c, .int .i64 k2] 29))) (fun k hk _ => set6_other _ _ _ _ _ _ _ _ _ (by have := hk.2.1; simp at this; omega))
    refine ⟨⟨A, c, rfl, (Kd.R_reads' hR2).2.1, R_C hR2, fun ad e => ?_⟩, set6_below HBX.out (Nat.le_refl _) _ _ _ _ _ _⟩
    subst e
    obtain ⟨cs, hcs⟩ := r_typed hR2
    exact blk_lt hcs
  · go_wp2
    refine bodyPost_ret (results_ct rfl _ _ w.heap.size 33 #[.slice none 0 0, .int .i64 0, .slice none 0 0, .slice none 0 0, .int .i64 0, .int .i64 0] (0, 0) _ rfl (set6_blk B2.out) Tryz.underlying33 rfl (by kernel_rfl)) rfl ?_
    exact ⟨.inl ⟨hk, rfl⟩, set6_below HBX.out (Nat.le_refl _) _ _ _ _ _ _⟩
end Go.Proofs.YtfolgjigfdbnoaaGreat.M
