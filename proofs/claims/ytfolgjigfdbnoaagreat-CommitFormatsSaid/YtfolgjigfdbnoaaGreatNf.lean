/-
  Contracts of the references' Same of blank states.
-/
import Derived.Test.YtfolgjigfdbnoaaGreatNe
namespace Go.Proofs.YtfolgjigfdbnoaaGreat.M
open Go.RowKit Go.Shelf Go.Proofs.YtfolgjigfdbnoaaGreatW.PrintWords Go.Proofs.YtfolgjigfdbnoaaGreatW.PrintLast Go.Proofs.YtfolgjigfdbnoaaGreatW.PrintMore
open PCommitFormats
set_option linter.unusedVariables false
set_option linter.unusedSimpArgs false

theorem refNodeSame (A3 : Option Addr) (c3 : Nat) (A4 : Option Addr) (c4 : Nat) (W : World) :
    Calls Tryz.prog 41 #[.agg #[.bool false, .slice A3 0 c3], .agg #[.bool false, .slice A4 0 c4]] W fun e w' => e = .returned (.bool true) ∧ Below W.heap.size W w' :=
  assartref04_Same.calls 2 false A3 c3 [] false A4 c4 [] true W ⟨rfl, by decide, fun h => absurd h (by decide)⟩ (Nat.zero_le _) ⟨rfl, by decide, fun h => absurd h (by decide)⟩ (Nat.zero_le _) (by kernel_rfl)

set_option maxRecDepth 100000 in
set_option maxHeartbeats 4000000 in
theorem refHeapSame_calls (A : Option Addr) (n c : Nat) (keep : Int) (A' : Option Addr) (c' : Nat) (w : World) (hA : Kd.C k75 w A n (blank n)) (hA' : Kd.C k75 w A' n (blank n)) (hn : n ≤ 2000) :
    Calls Tryz.prog 21 #[.agg #[.slice A n c, .int .i64 keep], .agg #[.slice A' n c', .int .i64 keep]] w fun e w' => e = .returned (.bool true) ∧ Below w.heap.size w w' := by
  have hu29 := Tryz.underlying29
  have hu75 := Tryz.underlying75
  have hu73 := Tryz.underlying73
  have hn' : (n : Int) ≤ 2000 := by omega
  have HA := Aside0.mk hA
  have HA' := Aside0.mk hA'
  clear hA hA'
  go_enter Tryz.func21, Tryz.ntmps21
  obtain ⟨w2, hw2⟩ : ∃ w2, w2 = (w.alloc (.cells #[.slice A n c, .int .i64 keep] 29)).alloc (.cells #[.slice A' n c', .int .i64 keep] 29) := ⟨_, rfl⟩
  have b0 : w2.heap[w.heap.size]? = some (.cells #[.slice A n c, .int .i64 keep] 29) := by rw [hw2, Below.heap_alloc _ _ _ (by simp)]; exact World.alloc_heap_new _ _
  have b1 : w2.heap[w.heap.size + 1]? = some (.cells #[.slice A' n c', .int .i64 keep] 29) := by
    rw [hw2]
    have := World.alloc_heap_new (w.alloc (.cells #[.slice A n c, .int .i64 keep] 29)) (.cells #[.slice A' n c', .int .i64 keep] 29)
    rwa [World.size_alloc] at this
  have HB2 : Aside0 (Below w.heap.size w w2) := ⟨by rw [hw2]; exact ((Below.refl _ w).alloc (Nat.le_refl _) _).alloc (by simp) _⟩
  have hsz2 : w2.heap.size = w.heap.size + 2 := by rw [hw2]; simp
  have c0 : w2.cell? ⟨w.heap.size, 0, none⟩ = some (.slice A n c) := (blk_cell b0 0).trans rfl
  have c1 : w2.cell? ⟨w.heap.size, 1, none⟩ = some (.int .i64 keep) := (blk_cell b0 1).trans rfl
  have d0 : w2.cell? ⟨w.heap.size + 1, 0, none⟩ = some (.slice A' n c') := (blk_cell b1 0).trans rfl
  have d1 : w2.cell? ⟨w.heap.size + 1, 1, none⟩ = some (.int .i64 keep) := (blk_cell b1 1).trans rfl
  have B0 := Aside0.mk b0
  have B1 := Aside0.mk b1
  clear b0 b1
  go_wp2_with fail
  rw [← hw2]
  clear hw2
  go_wp2
  clear c0 c1 d0 d1
  go_loopg [5, 6] (n + 1) (fun kq v5 v6 w' => ∃ k : Nat, v5 = .int .i64 (k : Int) ∧ k ≤ n ∧ Aside0 (n - k < kq) ∧ Aside0 (Below w2.heap.size w2 w'))
  case atStart => exact ⟨0, rfl, Nat.zero_le _, ⟨by omega⟩, ⟨Below.refl _ _⟩⟩
  case round =>
    obtain ⟨k, rfl, hk, HK, HB⟩ := hrel
    have c0 : wr.cell? ⟨w.heap.size, 0, none⟩ = some (.slice A n c) := (HB.out.cell (p := ⟨w.heap.size, 0, none⟩) (by show w.heap.size < _; omega)).trans ((blk_cell B0.out 0).trans rfl)
    cases gk with
    | zero => exact absurd HK.out (by omega)
    | succ k3 =>
      by_cases hlt : k < n
      · have d0 : wr.cell? ⟨w.heap.size + 1, 0, none⟩ = some (.slice A' n c') := (HB.out.cell (p := ⟨w.heap.size + 1, 0, none⟩) (by show w.heap.size + 1 < _; omega)).trans ((blk_cell B1.out 0).trans rfl)
        have hbw : Below w.heap.size w wr := HB2.out.trans (HB.out.mono HB2.out.size)
        obtain ⟨ad, A3, c3, e, hx0, hx1, hx2, hx3, _, _⟩ := at_T75 (Kd.C_below HA.out hbw) k (by omega) (by omega)
        cases e
        obtain ⟨ad', A3', c3', e, hy0, hy1, hy2, hy3, _, _⟩ := at_T75 (Kd.C_below HA'.out hbw) k (by omega) (by omega)
        cases e
        rw [rd_blank (by omega) (by omega)] at hx0 hx1 hx2 hx3 hy0 hy1 hy2 hy3
        simp only [z75, z73, List.length_nil, Int.toNat_natCast] at hx0 hx1 hx2 hx3 hy0 hy1 hy2 hy3
        have HKK : Aside0 (∀ W', Below wr.heap.size wr W' → W'.cell? ⟨w.heap.size, 0, none⟩ = some (.slice (some ad) n c) ∧ W'.cell? ⟨w.heap.size + 1, 0, none⟩ = some (.slice (some ad') n c') ∧ W'.cell? ⟨(ad.add (k * 4)).block, (ad.add (k * 4)).off + 2, none⟩ = some (.bool false) ∧ W'.cell? ⟨(ad.add (k * 4)).block, (ad.add (k * 4)).off + 3, none⟩ = some (.slice A3 0 c3) ∧ W'.cell? ⟨(ad'.add (k * 4)).block, (ad'.add (k * 4)).off + 2, none⟩ = some (.bool false) ∧ W'.cell? ⟨(ad'.add (k * 4)).block, (ad'.add (k * 4)).off + 3, none⟩ = some (.slice A3' 0 c3')) :=
          ⟨fun W' hb => ⟨(hb.cell (cell_lt c0)).trans c0, (hb.cell (cell_lt d0)).trans d0, (hb.cell (cell_lt hx2)).trans hx2, (hb.cell (cell_lt hx3)).trans hx3, (hb.cell (cell_lt hy2)).trans hy2, (hb.cell (cell_lt hy3)).trans hy3⟩⟩
        have HC2 : Aside0 (∀ W', Below wr.heap.size wr W' → (W'.cell? ⟨w.heap.size, 0, none⟩ = some (.slice (some ad) n c) ∧ W'.cell? ⟨w.heap.size + 1, 0, none⟩ = some (.slice (some ad') n c') ∧ W'.cell? (ad.add (k * 4)) = some (.int .i64 0) ∧ W'.cell? ⟨(ad.add (k * 4)).block, (ad.add (k * 4)).off + 1, none⟩ = some (.bool false) ∧ W'.cell? (ad'.add (k * 4)) = some (.int .i64 0) ∧ W'.cell? ⟨(ad'.add (k * 4)).block, (ad'.add (k * 4)).off + 1, none⟩ = some (.bool false))) :=
          ⟨fun W' hb => ⟨(hb.cell (cell_lt c0)).trans c0, (hb.cell (cell_lt d0)).trans d0, (hb.cell (cell_lt hx0)).trans hx0, (hb.cell (cell_lt hx1)).trans hx1, (hb.cell (cell_lt hy0)).trans hy0, (hb.cell (cell_lt hy1)).trans hy1⟩⟩
        clear hx0 hx1 hy0 hy1
        go_upto_region 6 with (fail)
        go_cut [6] (fun v6 wc => v6 = .bool true ∧ Aside0 (Below wr.heap.size wr wc))
        case first =>
          go_region_held3 (fun W' => W'.cell? ⟨w.heap.size, 0, none⟩ = some (.slice (some ad) n c) ∧ W'.cell? ⟨w.heap.size + 1, 0, none⟩ = some (.slice (some ad') n c') ∧ W'.cell? ⟨(ad.add (k * 4)).block, (ad.add (k * 4)).off + 2, none⟩ = some (.bool false) ∧ W'.cell? ⟨(ad.add (k * 4)).block, (ad.add (k * 4)).off + 3, none⟩ = some (.slice A3 0 c3) ∧ W'.cell? ⟨(ad'.add (k * 4)).block, (ad'.add (k * 4)).off + 2, none⟩ = some (.bool false) ∧ W'.cell? ⟨(ad'.add (k * 4)).block, (ad'.add (k * 4)).off + 3, none⟩ = some (.slice A3' 0 c3'))
            (first | with_reducible exact ⟨c0, d0, hx2, hx3, hy2, hy3⟩ | exact HKK.out _ HX.out | go_keep)
            (first | (go_at_call 41; refine (refNodeSame A3 c3 A3' c3' _).mono ?_; rintro e w6 ⟨rfl, hb6⟩; have HX := Aside0.mk (below_step (below_drew (Below.refl wr.heap.size wr)) hb6); clear hb6))
          all_goals go_wp2
          all_goals go_meet
          case rel => exact ⟨rfl, HX⟩
        case rest =>
          obtain ⟨rfl, HX⟩ := hcut
          obtain ⟨e0, e1, e2, e3, e4, e5⟩ := HC2.out wc HX.out
          clear c0 d0 hx2 hx3 hy2 hy3 HKK HC2
          go_wp2
          go_quiet (fail)
          go_wp2
          go_roundg k3
          case rel => exact ⟨k + 1, by simp, by omega, ⟨by have := HK.out; omega⟩, ⟨pw_below_drewN (below_then HB.out HB.out.size HX.out) _⟩⟩
          case measure => omega
      · obtain rfl : k = n := by omega
        have hbw : Below w.heap.size w wr := HB2.out.trans (HB.out.mono HB2.out.size)
        go_wp2
        go_ret
        exact ⟨rfl, hbw⟩

set_option maxRecDepth 100000 in
set_option maxHeartbeats 2000000 in
theorem refStateSame_calls (A : Option Addr) (n c : Nat) (keep next gen : Int) (A' : Option Addr) (c' : Nat) (w : World) (hA : Kd.C k75 w A n (blank n)) (hA' : Kd.C k75 w A' n (blank n)) (hn : n ≤ 2000) :
    Calls Tryz.prog 8 #[stV A n c keep next gen, stV A' n c' keep next gen] w fun e w' => e = .returned (.bool true) ∧ Below w.heap.size w w' := by
  have hu29 := Tryz.underlying29
  have hu33 := Tryz.underlying33
  have HH := Aside0.mk (fun (W : World) (h : Below w.heap.size w W) => refHeapSame_calls A n c keep A' c' W (Kd.C_below hA h) (Kd.C_below hA' h) hn)
  clear hA hA'
  go_enter Tryz.func8, Tryz.ntmps8
  obtain ⟨w2, hw2⟩ : ∃ w2, w2 = (w.alloc (.cells #[.slice A n c, .int .i64 keep, .slice none 0 0, .slice none 0 0, .int .i64 next, .int .i64 gen] 33)).alloc (.cells #[.slice A' n c', .int .i64 keep, .slice none 0 0, .slice none 0 0, .int .i64 next, .int .i64 gen] 33) := ⟨_, rfl⟩
  have b0 : w2.heap[w.heap.size]? = some (.cells #[.slice A n c, .int .i64 keep, .slice none 0 0, .slice none 0 0, .int .i64 next, .int .i64 gen] 33) := by rw [hw2, Below.heap_alloc _ _ _ (by simp)]; exact World.alloc_heap_new _ _
  have b1 : w2.heap[w.heap.size + 1]? = some (.cells #[.slice A' n c', .int .i64 keep, .slice none 0 0, .slice none 0 0, .int .i64 next, .int .i64 gen] 33) := by
    rw [hw2]
    have := World.alloc_heap_new (w.alloc (.cells #[.slice A n c, .int .i64 keep, .slice none 0 0, .slice none 0 0, .int .i64 next, .int .i64 gen] 33)) (.cells #[.slice A' n c', .int .i64 keep, .slice none 0 0, .slice none 0 0, .int .i64 next, .int .i64 gen] 33)
    rwa [World.size_alloc] at this
  have HB2 : Aside0 (Below w.heap.size w w2) := ⟨by rw [hw2]; exact ((Below.refl _ w).alloc (Nat.le_refl _) _).alloc (by simp) _⟩
  have B0 := Aside0.mk b0
  have B1 := Aside0.mk b1
  clear b0 b1
  go_wp2_with fail
  rw [← hw2]
  clear hw2
  refine (HH.out w2 HB2.out).mono ?_
  rintro e w3 ⟨rfl, hb3⟩
  have b0 := (hb3.block _ (blk_lt B0.out)).trans B0.out
  have b1 := (hb3.block _ (blk_lt B1.out)).trans B1.out
  have HB3 : Aside0 (Below w.heap.size w w3) := ⟨HB2.out.trans (hb3.mono HB2.out.size)⟩
  have p1 : w3.cell? ⟨w.heap.size, 2, none⟩ = some (.slice none 0 0) := (blk_cell b0 2).trans rfl
  have p2 : w3.cell? ⟨w.heap.size, 3, none⟩ = some (.slice none 0 0) := (blk_cell b0 3).trans rfl
  have p3 : w3.cell? ⟨w.heap.size, 4, none⟩ = some (.int .i64 next) := (blk_cell b0 4).trans rfl
  have p4 : w3.cell? ⟨w.heap.size, 5, none⟩ = some (.int .i64 gen) := (blk_cell b0 5).trans rfl
  have q1 : w3.cell? ⟨w.heap.size + 1, 2, none⟩ = some (.slice none 0 0) := (blk_cell b1 2).trans rfl
  have q2 : w3.cell? ⟨w.heap.size + 1, 3, none⟩ = some (.slice none 0 0) := (blk_cell b1 3).trans rfl
  have q3 : w3.cell? ⟨w.heap.size + 1, 4, none⟩ = some (.int .i64 next) := (blk_cell b1 4).trans rfl
  have q4 : w3.cell? ⟨w.heap.size + 1, 5, none⟩ = some (.int .i64 gen) := (blk_cell b1 5).trans rfl
  clear b0 b1 hb3
  go_wp2_with fail
  refine (assartref12_Vols.calls 2 none 0 [] none 0 [] true w3 ⟨rfl, by decide, fun h => absurd h (by decide)⟩ (Nat.zero_le _) ⟨rfl, by decide, fun h => absurd h (by decide)⟩ (Nat.zero_le _) refVols).mono ?_
  rintro e w4 ⟨rfl, ⟨nd, rfl⟩⟩
  go_wp2_with fail
  refine (refTodoSame_calls _).mono ?_
  rintro e w5 ⟨rfl, rfl⟩
  go_wp2
  first | go_ret | (go_quiet (fail); go_wp2; go_ret)
  exact ⟨rfl, by first | exact pw_below_drewN HB3.out _ | exact pw_below_drewN (pw_below_drewN HB3.out _) _⟩
end Go.Proofs.YtfolgjigfdbnoaaGreat.M
