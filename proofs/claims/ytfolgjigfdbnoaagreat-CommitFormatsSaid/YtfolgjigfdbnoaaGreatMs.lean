/-
  Contracts of commit.Many, commit.Follows of blank states.
-/
import Derived.Test.YtfolgjigfdbnoaaGreatMr
namespace Go.Proofs.YtfolgjigfdbnoaaGreat.M
open Go.RowKit Go.Shelf Go.Proofs.YtfolgjigfdbnoaaGreatW.PrintWords Go.Proofs.YtfolgjigfdbnoaaGreatW.PrintLast Go.Proofs.YtfolgjigfdbnoaaGreatW.PrintMore
open PCommitFormats
set_option linter.unusedVariables false
set_option linter.unusedSimpArgs false

set_option maxRecDepth 100000 in
set_option maxHeartbeats 2000000 in
theorem many_calls (AB : Option Addr) (cB : Nat) (B : List ByteArray) (A : Option Addr) (n c : Nat) (keep next gen : Int) (w : World) (hB : Kd.C Kd.string w AB B.length B) (hcB : B.length ≤ cB) (hBl : B.length ≤ 4000) (hA : Kd.C k75 w A n (blank n))
    (hn : n ≤ 2000) (hcell : cellsM B.length = n) (hk0 : 0 ≤ keep) (hk1 : keep ≤ 65535) (hx0 : 0 ≤ next) (hx1 : next ≤ 4294967295) (hg0 : 0 ≤ gen) (hg1 : gen ≤ 1000)
    (hat : larea n (gen + 1) + chunksN (bookL n keep next).length ≤ B.length) :
    Calls Tryz.prog 11 #[.agg #[.slice AB B.length cB, .slice none 0 0], stV A n c keep next gen] w fun e w' => e = .returned (.tuple #[.int .i64 (planL B n keep next gen).length, .int .i64 0]) ∧ Below w.heap.size w w' := by
  have hu26 := Tryz.underlying26
  have hu33 := Tryz.underlying33
  have HPL := Aside0.mk (fun (W : World) (h : Below w.heap.size w W) => plan_calls AB cB B A n c keep next gen W (Kd.C_below hB h) hcB hBl (Kd.C_below hA h) hn hcell hk0 hk1 hx0 hx1 hg0 hg1 hat)
  clear hB hA
  have hl := planL_length B n keep next gen hn
  obtain ⟨L, hL⟩ : ∃ L, L = planL B n keep next gen := ⟨_, rfl⟩
  rw [← hL] at hl HPL ⊢
  clear hL
  go_enter Tryz.func11, Tryz.ntmps11
  go_wp2_with fail
  refine (HPL.out _ (((Below.refl _ w).alloc (Nat.le_refl _) _).alloc (by simp) _)).mono ?_
  rintro e w5 ⟨v5, rfl, hR5, hb5⟩
  obtain ⟨Al, cl, rfl⟩ := Kd.R_slice hR5
  have HB5 : Aside0 (Below w.heap.size w w5) := ⟨((((Below.refl _ w).alloc (Nat.le_refl _) _).alloc (by simp) _)).trans (hb5.mono (by simp; omega))⟩
  clear hR5 hb5 HPL
  go_wp2
  go_ret2
  exact ⟨rfl, HB5.out⟩

set_option maxRecDepth 100000 in
set_option maxHeartbeats 4000000 in
theorem follows_calls (A : Option Addr) (n c : Nat) (keep next gen : Int) (A' : Option Addr) (c' : Nat) (keep' next' gen' : Int) (w : World) (hA : Kd.C k75 w A n (blank n)) (hA' : Kd.C k75 w A' n (blank n)) (hn : n ≤ 2000) :
    Calls Tryz.prog 13 #[stV A n c keep next gen, stV A' n c' keep' next' gen'] w fun e w' => e = .returned (.bool true) ∧ Below w.heap.size w w' := by
  have hu29 := Tryz.underlying29
  have hu33 := Tryz.underlying33
  have hu75 := Tryz.underlying75
  have hu73 := Tryz.underlying73
  have hn' : (n : Int) ≤ 2000 := by omega
  have HA := Aside0.mk hA
  have HA' := Aside0.mk hA'
  clear hA hA'
  go_enter Tryz.func13, Tryz.ntmps13
  obtain ⟨w2, hw2⟩ : ∃ w2, w2 = (w.alloc (.cells #[.slice A n c, .int .i64 keep, .slice none 0 0, .slice none 0 0, .int .i64 next, .int .i64 gen] 33)).alloc (.cells #[.slice A' n c', .int .i64 keep', .slice none 0 0, .slice none 0 0, .int .i64 next', .int .i64 gen'] 33) := ⟨_, rfl⟩
  have b0 : w2.heap[w.heap.size]? = some (.cells #[.slice A n c, .int .i64 keep, .slice none 0 0, .slice none 0 0, .int .i64 next, .int .i64 gen] 33) := by rw [hw2, Below.heap_alloc _ _ _ (by simp)]; exact World.alloc_heap_new _ _
  have b1 : w2.heap[w.heap.size + 1]? = some (.cells #[.slice A' n c', .int .i64 keep', .slice none 0 0, .slice none 0 0, .int .i64 next', .int .i64 gen'] 33) := by
    rw [hw2]
    have := World.alloc_heap_new (w.alloc (.cells #[.slice A n c, .int .i64 keep, .slice none 0 0, .slice none 0 0, .int .i64 next, .int .i64 gen] 33)) (.cells #[.slice A' n c', .int .i64 keep', .slice none 0 0, .slice none 0 0, .int .i64 next', .int .i64 gen'] 33)
    rwa [World.size_alloc] at this
  have HB2 : Aside0 (Below w.heap.size w w2) := ⟨by rw [hw2]; exact ((Below.refl _ w).alloc (Nat.le_refl _) _).alloc (by simp) _⟩
  have B1 := Aside0.mk b1
  clear b0 b1
  go_wp2
  rw [← hw2]
  clear hw2
  go_loopg [21] (n + 1) (fun kq v21 w' => ∃ k : Nat, v21 = .int .i64 (k : Int) ∧ k ≤ n ∧ Aside0 (n - k < kq) ∧ Aside0 (Below w2.heap.size w2 w'))
  case atStart => exact ⟨0, rfl, Nat.zero_le _, ⟨by omega⟩, ⟨Below.refl _ _⟩⟩
  case round =>
    obtain ⟨k, rfl, hk, HK, HB⟩ := hrel
    cases gk with
    | zero => exact absurd HK.out (by omega)
    | succ k3 =>
      by_cases hlt : k < n
      · have hbw : Below w.heap.size w wr := HB2.out.trans (HB.out.mono HB2.out.size)
        obtain ⟨ad, A3, c3, e, hx0, hx1, hx2, hx3, _, _⟩ := at_T75 (Kd.C_below HA.out hbw) k (by omega) (by omega)
        cases e
        obtain ⟨ad', A3', c3', e, hy0, hy1, hy2, hy3, _, _⟩ := at_T75 (Kd.C_below HA'.out (hbw.alloc hbw.size (.cells #[.int .i64 0, .bool false, .bool false, .slice A3 0 c3] 75))) k (by omega) (by omega)
        cases e
        rw [rd_blank (by omega) (by omega)] at hx0 hx1 hx2 hx3 hy0 hy1 hy2 hy3
        simp only [z75, z73, List.length_nil, Int.toNat_natCast] at hx0 hx1 hx2 hx3 hy0 hy1 hy2 hy3
        have b1 := (HB.out.block _ (blk_lt B1.out)).trans B1.out
        have hsz := blk_lt b1
        obtain ⟨o1, ho1⟩ : ∃ o1, o1 = (Obj.cells #[.int .i64 0, .bool false, .bool false, .slice A3 0 c3] 75) := ⟨_, rfl⟩
        have t0 : (wr.alloc o1).cell? ⟨w.heap.size + 1, 0, none⟩ = some (.slice (some ad') n c') := (blk_cell ((Below.heap_alloc wr _ _ hsz).trans b1) 0).trans rfl
        rw [ho1] at t0
        clear ho1 b1
        go_wp2
        go_roundg k3
        case rel => exact ⟨k + 1, by simp, by omega, ⟨by have := HK.out; omega⟩, ⟨below_alloc (below_alloc HB.out _) _⟩⟩
        case measure => omega
      · obtain rfl : k = n := by omega
        have hbw : Below w.heap.size w wr := HB2.out.trans (HB.out.mono HB2.out.size)
        go_wp2
        go_ret
        exact ⟨rfl, hbw⟩
end Go.Proofs.YtfolgjigfdbnoaaGreat.M
