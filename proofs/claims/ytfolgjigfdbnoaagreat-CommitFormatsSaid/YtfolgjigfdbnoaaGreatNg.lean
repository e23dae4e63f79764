/-
  Contract of assartref13.Print of a blank state.
-/
import Derived.Test.YtfolgjigfdbnoaaGreatNe
namespace Go.Proofs.YtfolgjigfdbnoaaGreat.M
open Go.RowKit Go.Shelf Go.Proofs.YtfolgjigfdbnoaaGreatW.PrintWords Go.Proofs.YtfolgjigfdbnoaaGreatW.PrintLast Go.Proofs.YtfolgjigfdbnoaaGreatW.PrintMore
open PCommitFormats
set_option linter.unusedVariables false
set_option linter.unusedSimpArgs false

theorem bookHead_eq (n : Nat) (keep next : Int) : ((((putL 4 next ++ putL 1 0) ++ putL 2 0) ++ putL 2 keep) ++ putL 2 n) = bookHead n keep next := by
  simp [bookHead, putL]

set_option maxRecDepth 100000 in
set_option maxHeartbeats 4000000 in
theorem refBookPrint_calls (A : Option Addr) (n c : Nat) (keep next gen : Int) (w : World) (hr : Kd.C k75 w A n (blank n)) (hn : n ≤ 2000) (hk0 : 0 ≤ keep) (hk1 : keep ≤ 65535) (hx0 : 0 ≤ next) (hx1 : next ≤ 4294967295) :
    Calls Tryz.prog 59 #[stV A n c keep next gen] w fun e w' => ∃ v, e = .returned (.tuple #[v, .int .i64 0]) ∧ Kd.R (Kd.int .u8) 5 w' w.heap.size (fun _ => True) v (bookL n keep next) ∧ Below w.heap.size w w' := by
  have hu29 := Tryz.underlying29
  have hu33 := Tryz.underlying33
  have hu75 := Tryz.underlying75
  have hn' : (n : Int) ≤ 2000 := by omega
  have HR := Aside0.mk hr
  clear hr
  go_enter Tryz.func59, Tryz.ntmps59
  obtain ⟨w1, hw1⟩ : ∃ w1, w1 = (w.alloc (.cells #[.slice A n c, .int .i64 keep, .slice none 0 0, .slice none 0 0, .int .i64 next, .int .i64 gen] 33)) := ⟨_, rfl⟩
  have b0 : w1.heap[w.heap.size]? = some (.cells #[.slice A n c, .int .i64 keep, .slice none 0 0, .slice none 0 0, .int .i64 next, .int .i64 gen] 33) := by rw [hw1]; exact World.alloc_heap_new _ _
  have HB1 : Aside0 (Below w.heap.size w w1) := ⟨by rw [hw1]; exact (Below.refl _ w).alloc (Nat.le_refl _) _⟩
  have B0 := Aside0.mk b0
  have c4 : w1.cell? ⟨w.heap.size, 4, none⟩ = some (.int .i64 next) := (blk_cell b0 4).trans rfl
  clear b0
  go_wp2_with fail
  rw [← hw1]
  clear hw1
  have HKB : Aside0 (∀ W', Below w1.heap.size w1 W' → W'.heap[w.heap.size]? = some (.cells #[.slice A n c, .int .i64 keep, .slice none 0 0, .slice none 0 0, .int .i64 next, .int .i64 gen] 33)) := ⟨fun W' hb => (hb.block _ (blk_lt B0.out)).trans B0.out⟩
  have HAB : Aside0 (∀ W', Below w1.heap.size w1 W' → Kd.C k75 W' A n (blank n)) := ⟨fun W' hb => Kd.C_below (Kd.C_below HR.out HB1.out) hb⟩
  clear HR B0
  refine (assartref01_Put.calls 8 next 4 _ _ (refPut4 next hx0 hx1)).mono ?_
  rintro e w2 ⟨v2, rfl, ho2, hb2⟩
  have c2 : w2.cell? ⟨w.heap.size, 2, none⟩ = some (.slice none 0 0) := (blk_cell (HKB.out w2 hb2) 2).trans rfl
  have HO2 := Aside0.mk ho2
  have HB2 := Aside0.mk hb2
  clear ho2 hb2 c4
  go_wp2_with fail
  refine (assartref01_Put.calls 8 0 1 _ _ (refPut1 0 (by omega) (by omega))).mono ?_
  rintro e w3 ⟨v3, rfl, ho3, hb3⟩
  obtain ⟨A3, c3, rfl⟩ := Kd.R_slice ho3
  have HO3 := Aside0.mk (R_C ho3)
  have HP3 := Aside0.mk (Kd.R_below HO2.out hb3)
  have HB3 := Aside0.mk (below_step HB2.out hb3)
  clear ho3 hb3 HO2 c2
  rw [putL_length] at HO3 ⊢
  go_wp2_with (first | ((with_reducible refine gate_builtin (b := .append) (xs := #[.tmp 10, .tmp 14]) rfl ?_); go_must (refine Kd.R_append_row (Value.int .u8) (0 : Int) (h1 := fun _ => rfl) (w0 := w1) w1.heap.size rfl (.tmp 10) (.tmp 14) 83 5 (.int .u8 0) 1 rfl Tryz.underlying83 info5 rfl (by omega) v2 (putL 4 next) (putL 1 0) A3 1 c3 (fun _ => True) rfl rfl (fun _ _ => trivial) HP3.out HO3.out HB3.out HB3.out.size (by simp [putL_length]) ?_); intro v4 w4 ho4 hb4 hg4 hat4; have HO4 := Aside0.mk ho4; have HB4 := Aside0.mk hb4; have d2 : w4.cell? ⟨w.heap.size, 2, none⟩ = some (.slice none 0 0) := (blk_cell (HKB.out w4 hb4) 2).trans rfl; have d3 : w4.cell? ⟨w.heap.size, 3, none⟩ = some (.slice none 0 0) := (blk_cell (HKB.out w4 hb4) 3).trans rfl; clear ho4 hb4 hg4 hat4))
  refine wp_loop_rounds 1 ?_
  rw [rounds_succ]
  go_wp2_with fail
  refine (refTodo_calls _).mono ?_
  rintro e w5 ⟨v5, rfl, ho5, hb5⟩
  obtain ⟨A5, c5, rfl⟩ := Kd.R_slice ho5
  have HO5 := Aside0.mk (R_C ho5)
  have HP5 := Aside0.mk (Kd.R_below HO4.out hb5)
  have HB5 := Aside0.mk (below_step HB4.out hb5)
  clear ho5 hb5 HO4 d2 d3
  rw [putL_length] at HO5 ⊢
  go_wp2_with (first | ((with_reducible refine gate_builtin (b := .append) (xs := #[.tmp 42, .tmp 45]) rfl ?_); go_must (refine Kd.R_append_row (Value.int .u8) (0 : Int) (h1 := fun _ => rfl) (w0 := w1) w1.heap.size rfl (.tmp 42) (.tmp 45) 83 5 (.int .u8 0) 1 rfl Tryz.underlying83 info5 rfl (by omega) v4 (putL 4 next ++ putL 1 0) (putL 2 0) A5 2 c5 (fun _ => True) rfl rfl (fun _ _ => trivial) HP5.out HO5.out HB5.out HB5.out.size (by simp [putL_length]) ?_); intro v6 w6 ho6 hb6 hg6 hat6; have HO6 := Aside0.mk ho6; have HB6 := Aside0.mk hb6; have d1 : w6.cell? ⟨w.heap.size, 1, none⟩ = some (.int .i64 keep) := (blk_cell (HKB.out w6 hb6) 1).trans rfl; clear ho6 hb6 hg6 hat6))
  refine (assartref01_Put.calls 8 keep 2 _ _ (refPut2 keep hk0 hk1)).mono ?_
  rintro e w7 ⟨v7, rfl, ho7, hb7⟩
  obtain ⟨A7, c7, rfl⟩ := Kd.R_slice ho7
  have HO7 := Aside0.mk (R_C ho7)
  have HP7 := Aside0.mk (Kd.R_below HO6.out hb7)
  have HB7 := Aside0.mk (below_step HB6.out hb7)
  clear ho7 hb7 HO6 d1
  rw [putL_length] at HO7 ⊢
  go_wp2_with (first | ((with_reducible refine gate_builtin (b := .append) (xs := #[.tmp 47, .tmp 51]) rfl ?_); go_must (refine Kd.R_append_row (Value.int .u8) (0 : Int) (h1 := fun _ => rfl) (w0 := w1) w1.heap.size rfl (.tmp 47) (.tmp 51) 83 5 (.int .u8 0) 1 rfl Tryz.underlying83 info5 rfl (by omega) v6 ((putL 4 next ++ putL 1 0) ++ putL 2 0) (putL 2 keep) A7 2 c7 (fun _ => True) rfl rfl (fun _ _ => trivial) HP7.out HO7.out HB7.out HB7.out.size (by simp [putL_length]) ?_); intro v8 w8 ho8 hb8 hg8 hat8; have HO8 := Aside0.mk ho8; have HB8 := Aside0.mk hb8; have d0 : w8.cell? ⟨w.heap.size, 0, none⟩ = some (.slice A n c) := (blk_cell (HKB.out w8 hb8) 0).trans rfl; clear ho8 hb8 hg8 hat8))
  refine (assartref01_Put.calls 8 n 2 _ _ (refPut2 n (by omega) (by omega))).mono ?_
  rintro e w9 ⟨v9, rfl, ho9, hb9⟩
  obtain ⟨A9, c9, rfl⟩ := Kd.R_slice ho9
  have HO9 := Aside0.mk (R_C ho9)
  have HP9 := Aside0.mk (Kd.R_below HO8.out hb9)
  have HB9 := Aside0.mk (below_step HB8.out hb9)
  clear ho9 hb9 HO8 d0
  rw [putL_length] at HO9 ⊢
  go_wp2_with (first | ((with_reducible refine gate_builtin (b := .append) (xs := #[.tmp 53, .tmp 58]) rfl ?_); go_must (refine Kd.R_append_row (Value.int .u8) (0 : Int) (h1 := fun _ => rfl) (w0 := w1) w1.heap.size rfl (.tmp 53) (.tmp 58) 83 5 (.int .u8 0) 1 rfl Tryz.underlying83 info5 rfl (by omega) v8 (((putL 4 next ++ putL 1 0) ++ putL 2 0) ++ putL 2 keep) (putL 2 n) A9 2 c9 (fun _ => True) rfl rfl (fun _ _ => trivial) HP9.out HO9.out HB9.out HB9.out.size (by simp [putL_length]) ?_); intro v10 w10 ho10 hb10 hg10 hat10; rw [bookHead_eq] at ho10; have HO10 := Aside0.mk ho10; have HB10 := Aside0.mk hb10; clear ho10 hb10 hg10 hat10))
  clear HP9 HB9 HO9 HP7 HO7 HB7 HB8 HP5 HO5 HB5 HB6 HP3 HO3 HB3 HB4 HB2
  go_loopg [4, 6] (n + 1) (fun kq v4 v6 w' => ∃ (i : Nat), v6 = .int .i64 (i : Int) ∧ i ≤ n ∧ Aside0 (n - i < kq) ∧ Aside0 (Kd.R (Kd.int .u8) 5 w' w1.heap.size (fun _ => True) v4 (bookHead n keep next ++ List.replicate (2 * i) 0)) ∧ Aside0 (Below w1.heap.size w1 w'))
  case atStart => exact ⟨0, rfl, Nat.zero_le _, ⟨by omega⟩, ⟨by rw [Nat.mul_zero, List.replicate_zero, List.append_nil]; exact HO10.out⟩, HB10⟩
  case round =>
    clear HO10 HB10
    obtain ⟨i, rfl, hi, HK, HO, HB⟩ := hrel
    have e0 : wr.cell? ⟨w.heap.size, 0, none⟩ = some (.slice A n c) := (blk_cell (HKB.out wr HB.out) 0).trans rfl
    cases gk with
    | zero => exact absurd HK.out (by omega)
    | succ k3 =>
      by_cases c2 : i < n
      · obtain ⟨ad, A3', c3', e, hx0, hx1, hx2, hx3, _, _⟩ := at_T75 (HAB.out wr HB.out) i (by omega) (by omega)
        cases e
        rw [rd_blank (by omega) (by omega)] at hx0
        simp only [z75, z73, Int.toNat_natCast] at hx0
        clear hx1 hx2 hx3
        go_wp2_with fail
        refine (assartref01_Put.calls 8 0 2 _ _ (refPut2 0 (by omega) (by omega))).mono ?_
        rintro e w5 ⟨v5, rfl, ho5, hb5⟩
        obtain ⟨A5', c5', rfl⟩ := Kd.R_slice ho5
        have HO5 := Aside0.mk (R_C ho5)
        have HP5 := Aside0.mk (Kd.R_below HO.out hb5)
        have HB5 := Aside0.mk (below_step HB.out hb5)
        clear ho5 hb5 HO HB hx0 e0
        rw [putL_length] at HO5 ⊢
        go_wp2_with (first | ((with_reducible refine gate_builtin (b := .append) (xs := #[.tmp 76, .tmp 84]) rfl ?_); go_must (refine Kd.R_append_row (Value.int .u8) (0 : Int) (h1 := fun _ => rfl) (w0 := w1) w1.heap.size rfl (.tmp 76) (.tmp 84) 83 5 (.int .u8 0) 1 rfl Tryz.underlying83 info5 rfl (by omega) u4 (bookHead n keep next ++ List.replicate (2 * i) 0) (putL 2 0) A5' 2 c5' (fun _ => True) rfl rfl (fun _ _ => trivial) HP5.out HO5.out HB5.out HB5.out.size (by rw [List.length_append, bookHead_length, List.length_replicate]; omega) ?_); intro v7 w7 ho7 hb7 hg7 hat7; have HO7 := Aside0.mk ho7; have HB7 := Aside0.mk hb7; clear hb7 hg7 hat7 ho7))
        go_roundg k3
        case rel => exact ⟨i + 1, by simp, by omega, ⟨by have := HK.out; omega⟩, ⟨by
          have h := HO7.out
          rw [List.append_assoc, show putL 2 0 = List.replicate 2 0 from rfl, List.replicate_append_replicate, show 2 * i + 2 = 2 * (i + 1) by omega] at h
          exact h⟩, HB7⟩
        case measure => omega
      · obtain rfl : i = n := by omega
        go_wp2
        go_ret2
        exact ⟨_, rfl, Kd.R_lower HO.out HB1.out.size, HB1.out.trans (HB.out.mono HB1.out.size)⟩
end Go.Proofs.YtfolgjigfdbnoaaGreat.M
