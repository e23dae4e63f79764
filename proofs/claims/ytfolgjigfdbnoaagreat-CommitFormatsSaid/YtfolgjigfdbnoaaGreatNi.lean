/-
  Contracts of assartref15.Settled, Do of blank states.
-/
import Derived.Test.YtfolgjigfdbnoaaGreatNh
namespace Go.Proofs.YtfolgjigfdbnoaaGreat.M
open Go.RowKit Go.Shelf Go.Proofs.YtfolgjigfdbnoaaGreatW.PrintWords Go.Proofs.YtfolgjigfdbnoaaGreatW.PrintLast Go.Proofs.YtfolgjigfdbnoaaGreatW.PrintMore
open PCommitFormats
set_option linter.unusedVariables false
set_option linter.unusedSimpArgs false

/-- Six cells of a block. -/
def six (W : World) (b : Nat) (v0 v1 v2 v3 v4 v5 : Value) : Prop := W.cell? ⟨b, 0, none⟩ = some v0 ∧ W.cell? ⟨b, 1, none⟩ = some v1 ∧ W.cell? ⟨b, 2, none⟩ = some v2 ∧ W.cell? ⟨b, 3, none⟩ = some v3 ∧ W.cell? ⟨b, 4, none⟩ = some v4 ∧ W.cell? ⟨b, 5, none⟩ = some v5
theorem six_of {W : World} {b : Nat} {t : TypeId} {v0 v1 v2 v3 v4 v5 : Value} (h : W.heap[b]? = some (.cells #[v0, v1, v2, v3, v4, v5] t (0, 0))) : six W b v0 v1 v2 v3 v4 v5 :=
  ⟨(blk_cell h 0).trans rfl, (blk_cell h 1).trans rfl, (blk_cell h 2).trans rfl, (blk_cell h 3).trans rfl, (blk_cell h 4).trans rfl, (blk_cell h 5).trans rfl⟩

set_option maxRecDepth 100000 in
set_option maxHeartbeats 4000000 in
theorem refSettled_calls (A : Option Addr) (n c : Nat) (keep next gen : Int) (w : World) (hA : Kd.C k75 w A n (blank n)) (hn : n ≤ 2000) (hg0 : 0 ≤ gen) (hg1 : gen ≤ 1000) :
    Calls Tryz.prog 40 #[stV A n c keep next gen] w fun e w' => e = .returned (stV A n c keep next (gen + 1)) ∧ Below w.heap.size w w' := by
  have hu29 := Tryz.underlying29
  have hu33 := Tryz.underlying33
  go_enter Tryz.func40, Tryz.ntmps40
  obtain ⟨w2, hw2⟩ : ∃ w2, w2 = (w.alloc (.cells #[.slice A n c, .int .i64 keep, .slice none 0 0, .slice none 0 0, .int .i64 next, .int .i64 gen] 33)).alloc (.cells #[.slice none 0 0, .int .i64 0, .slice none 0 0, .slice none 0 0, .int .i64 0, .int .i64 0] 33) := ⟨_, rfl⟩
  have b0 : w2.heap[w.heap.size]? = some (.cells #[.slice A n c, .int .i64 keep, .slice none 0 0, .slice none 0 0, .int .i64 next, .int .i64 gen] 33) := by rw [hw2, Below.heap_alloc _ _ _ (by simp)]; exact World.alloc_heap_new _ _
  have b1 : w2.heap[w.heap.size + 1]? = some (.cells #[.slice none 0 0, .int .i64 0, .slice none 0 0, .slice none 0 0, .int .i64 0, .int .i64 0] 33) := by
    rw [hw2]
    have := World.alloc_heap_new (w.alloc (.cells #[.slice A n c, .int .i64 keep, .slice none 0 0, .slice none 0 0, .int .i64 next, .int .i64 gen] 33)) (.cells #[.slice none 0 0, .int .i64 0, .slice none 0 0, .slice none 0 0, .int .i64 0, .int .i64 0] 33)
    rwa [World.size_alloc] at this
  have HB2 : Aside0 (Below w.heap.size w w2) := ⟨by rw [hw2]; exact ((Below.refl _ w).alloc (Nat.le_refl _) _).alloc (by simp) _⟩
  have HS := Aside0.mk (fun (W : World) (h : Below w2.heap.size w2 W) => refSettle_calls A n c keep W (Kd.C_below (Kd.C_below hA HB2.out) h) hn)
  have hK : ∀ W', Below w2.heap.size w2 W' → (W'.cell? ⟨w.heap.size, 0, none⟩ = some (.slice A n c) ∧ W'.cell? ⟨w.heap.size, 1, none⟩ = some (.int .i64 keep) ∧ W'.cell? ⟨w.heap.size, 2, none⟩ = some (.slice none 0 0) ∧ W'.cell? ⟨w.heap.size, 3, none⟩ = some (.slice none 0 0) ∧ W'.cell? ⟨w.heap.size, 4, none⟩ = some (.int .i64 next) ∧ W'.cell? ⟨w.heap.size, 5, none⟩ = some (.int .i64 gen)) ∧
      (W'.cell? ⟨w.heap.size + 1, 0, none⟩ = some (.slice none 0 0) ∧ W'.cell? ⟨w.heap.size + 1, 1, none⟩ = some (.int .i64 0) ∧ W'.cell? ⟨w.heap.size + 1, 2, none⟩ = some (.slice none 0 0) ∧ W'.cell? ⟨w.heap.size + 1, 3, none⟩ = some (.slice none 0 0) ∧ W'.cell? ⟨w.heap.size + 1, 4, none⟩ = some (.int .i64 0) ∧ W'.cell? ⟨w.heap.size + 1, 5, none⟩ = some (.int .i64 0)) ∧
      (W'.frozen? ⟨w.heap.size + 1, 0, none⟩ = false ∧ W'.frozen? ⟨w.heap.size + 1, 1, none⟩ = false ∧ W'.frozen? ⟨w.heap.size + 1, 2, none⟩ = false ∧ W'.frozen? ⟨w.heap.size + 1, 3, none⟩ = false ∧ W'.frozen? ⟨w.heap.size + 1, 4, none⟩ = false ∧ W'.frozen? ⟨w.heap.size + 1, 5, none⟩ = false) := fun W' hb => by
    have h0 := (hb.block _ (blk_lt b0)).trans b0
    have h1 := (hb.block _ (blk_lt b1)).trans b1
    exact ⟨six_of h0, six_of h1, blk_frozen h1 0, blk_frozen h1 1, blk_frozen h1 2, blk_frozen h1 3, blk_frozen h1 4, blk_frozen h1 5⟩
  have HK := Aside0.mk hK
  have HB1 := Aside0.mk (fun (W' : World) (hb : Below w2.heap.size w2 W') => (hb.block _ (blk_lt b1)).trans b1)
  clear hA hK b0 b1
  go_upto_region 1 with (fail)
  rw [← hw2]
  clear hw2
  obtain ⟨⟨a0, a1, a2, a3, a4, a5⟩, _⟩ := HK.out w2 (Below.refl _ _)
  go_region_held3 (fun W' => W'.cell? ⟨w.heap.size, 0, none⟩ = some (.slice A n c) ∧ W'.cell? ⟨w.heap.size, 1, none⟩ = some (.int .i64 keep) ∧ W'.cell? ⟨w.heap.size, 2, none⟩ = some (.slice none 0 0) ∧ W'.cell? ⟨w.heap.size, 3, none⟩ = some (.slice none 0 0) ∧ W'.cell? ⟨w.heap.size, 4, none⟩ = some (.int .i64 next) ∧ W'.cell? ⟨w.heap.size, 5, none⟩ = some (.int .i64 gen))
    (first | with_reducible exact ⟨a0, a1, a2, a3, a4, a5⟩ | with_reducible exact (HK.out _ HX.out).1 | (refine ⟨?_, ?_, ?_, ?_, ?_, ?_⟩ <;> go_simp) | go_keep)
    (first | (go_at_call 67; refine (HS.out _ (below_drew (Below.refl w2.heap.size w2))).mono ?_; rintro e w3 ⟨rfl, hb3⟩; have HX := Aside0.mk (below_step (below_drew (Below.refl w2.heap.size w2)) hb3); obtain ⟨_, ⟨c0, c1, c2, c3, c4, c5⟩, f0, f1, f2, f3, f4, f5⟩ := HK.out w3 HX.out; clear hb3))
  all_goals go_wp2
  refine bodyPost_ret (results_cell_row rfl _ _ (w.heap.size + 1) 33 #[.slice A n c, .int .i64 keep, .slice none 0 0, .slice none 0 0, .int .i64 next, .int .i64 (IntKind.i64.wrap (gen + 1))] (0, 0) _ rfl (set6_blk (HB1.out w3 HX.out)) Tryz.underlying33 rfl (by kernel_rfl)) rfl ?_
  rw [wrap_i64_in (by omega) (by omega)]
  exact ⟨rfl, set6_below (HB2.out.trans (HX.out.mono HB2.out.size)) (Nat.le_succ _) _ _ _ _ _ _⟩
end Go.Proofs.YtfolgjigfdbnoaaGreat.M
