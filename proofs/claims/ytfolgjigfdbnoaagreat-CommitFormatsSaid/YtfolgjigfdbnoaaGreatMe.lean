/-
  Contracts of slices.Grow from nil, slices.Concat of byte rows, todo.Print of no tasks, and book.Print of a blank state.
-/
import Derived.Test.YtfolgjigfdbnoaaGreatMd
import Derived.Lib.AppendZerosOnto
import Derived.Lib.SliceRun
import Derived.Deep.RegionHeld3
namespace Go.Proofs.YtfolgjigfdbnoaaGreat.M
open Go.RowKit Go.Proofs.YtfolgjigfdbnoaaGreatW.PrintWords Go.Proofs.YtfolgjigfdbnoaaGreatW.PrintLast Go.Proofs.YtfolgjigfdbnoaaGreatW.PrintMore
open PCommitFormats
set_option linter.unusedVariables false
set_option linter.unusedSimpArgs false

set_option maxHeartbeats 2000000 in
set_option maxRecDepth 100000 in
theorem grow_nil_calls (n : Nat) (hn : n ≤ 1000000) (w : World) :
    Calls Tryz.prog 100 #[.slice none 0 0, .int .i64 n] w fun e w' => ∃ v, e = .returned v ∧ Kd.R (Kd.int .u8) 5 w' w.heap.size (fun _ => True) v [] ∧ Below w.heap.size w w' := by
  rcases Nat.eq_zero_or_pos n with rfl | hp
  · go_enter Tryz.func100, Tryz.ntmps100
    go_wp2
    go_ret
    exact ⟨_, rfl, Kd.R_nil _ _ _ _ _, Below.refl _ _⟩
  · obtain ⟨i0, hi, hzz⟩ := Option.map_eq_some_iff.1 info5
    simp only [Prod.mk.injEq] at hzz
    obtain ⟨hz0, hz1, hz2⟩ := hzz
    have h := fun ty => Lib.run_append_grow_zeros w 83 3 ty 5 i0 (.int .u8 0) .i64 .i64 Tryz.underlying83 Tryz.underlying3 hi hz0 none 0 0 [] (by rw [hz1]; exact run_firstCells_none w.drew 1 0 0 0) n (by omega) (by omega) (by omega) (by omega) (by rw [hz2]; omega) (by rw [hz2]; exact growslice_fits (by omega) (by omega))
    have hc1 := grownCap_ge w (0 + n) 0 5
    have hc2 := grownCap_le_maxLen w (0 + n) 0 5 (by simp only [maxLen]; omega)
    generalize grownCap w (0 + n) 0 5 = c at h hc1 hc2
    have hsz : (([] : List Value).toArray ++ Builtin.zeroCells (Value.int .u8 0).cells n ++ Builtin.zeroCells (Value.int .u8 0).cells (c - (0 + n))).size = c * 1 := by
      simp [size_zeroCells, Value.cells]
      omega
    generalize (([] : List Value).toArray ++ Builtin.zeroCells (Value.int .u8 0).cells n ++ Builtin.zeroCells (Value.int .u8 0).cells (c - (0 + n))) = Z at h hsz
    have hR : Kd.R (Kd.int .u8) 5 (w.drew.alloc (.cells Z 5)) w.heap.size (fun _ => True) (.slice (some ⟨w.heap.size, 0, none⟩) 0 c) [] := by
      refine Kd.R_of_own (enc := Value.int .u8) (h1 := fun _ => rfl) ⟨rfl, .inr ⟨w.heap.size, c, Z, rfl, Nat.le_refl _, World.alloc_heap_new w.drew _, Nat.zero_le _, hc2, hsz, by simp [encs]⟩⟩ (fun _ _ => trivial)
    rw [Nat.zero_add] at h hc1
    have HR := Aside0.mk hR
    clear hR hsz hi hz0 hz1 hz2
    simp only [maxLen] at hc2
    have hb : Below w.heap.size w (w.drew.alloc (.cells Z 5)) := below_alloc (below_drew (Below.refl _ _)) _
    have HB := Aside0.mk hb
    clear hb
    have hr := h 83
    clear h
    go_enter Tryz.func100, Tryz.ntmps100
    go_wp2_with (at_builtin; refine Lib.wpList_append_run _ rfl _ _ _ _ rfl _ _ rfl rfl _ _ hr ?_)
    go_ret
    exact ⟨_, rfl, HR.out, HB.out⟩

/-! ### slices.Concat -/
def lenSum (ls : List (List Int)) (i : Int) : Int := ((ls.take i.toNat).map (fun l => (l.length : Int))).sum
theorem rd_L1_at {ls : List (List Int)} {i : Int} (h1 : i.toNat < ls.length) : rd_L1 ls i = ls[i.toNat] := by simp [rd_L1, h1]
theorem lenSum_succ (ls : List (List Int)) (i : Int) (h0 : 0 ≤ i) (h1 : i < ls.length) : lenSum ls (i + 1) = lenSum ls i + (rd_L1 ls i).length := by
  have hlt : i.toNat < ls.length := by omega
  rw [rd_L1_at hlt]
  unfold lenSum
  rw [show (i + 1).toNat = i.toNat + 1 from by omega, List.take_succ_eq_append_getElem hlt, List.map_append, List.sum_append]
  rw [List.map_cons, List.map_nil, List.sum_cons, List.sum_nil]
  omega
theorem flat_succ (ls : List (List Int)) (i : Int) (h0 : 0 ≤ i) (h1 : i < ls.length) : (ls.take (i + 1).toNat).flatten = (ls.take i.toNat).flatten ++ rd_L1 ls i := by
  have hlt : i.toNat < ls.length := by omega
  rw [rd_L1_at hlt, show (i + 1).toNat = i.toNat + 1 from by omega, List.take_succ_eq_append_getElem hlt, List.flatten_append, List.flatten_cons, List.flatten_nil, List.append_nil]
theorem lenSum_flat (ls : List (List Int)) (i : Int) : lenSum ls i = (ls.take i.toNat).flatten.length := by
  unfold lenSum
  induction ls.take i.toNat with
  | nil => rfl
  | cons a l ih => simp [ih]
theorem lenSum_le (ls : List (List Int)) (i : Int) : 0 ≤ lenSum ls i ∧ lenSum ls i ≤ ls.flatten.length := by
  rw [lenSum_flat]
  refine ⟨by omega, ?_⟩
  have h := congrArg (fun l => l.flatten.length) (List.take_append_drop i.toNat ls)
  simp only [List.flatten_append, List.length_append] at h
  omega

set_option maxHeartbeats 4000000 in
set_option maxRecDepth 100000 in
theorem concat_calls (A : Option Addr) (c : Nat) (ls : List (List Int)) (w : World) (hr : Kd.C (Kd.slice 5 (Kd.int .u8)) w A ls.length ls) (hn : ls.length ≤ 1000) (hs : ls.flatten.length ≤ 100000) :
    Calls Tryz.prog 70 #[.slice A ls.length c] w fun e w' => ∃ v, e = .returned v ∧ Kd.R (Kd.int .u8) 5 w' w.heap.size (fun _ => True) v ls.flatten ∧ Below w.heap.size w w' := by
  have HR := Aside0.mk hr
  clear hr
  go_enter Tryz.func70, Tryz.ntmps70
  go_wp2
  go_loopg [3, 11] (ls.length + 1) (fun kq v3 v11 w' => ∃ (i : Int), v3 = .int .i64 (lenSum ls i) ∧ v11 = .int .i64 i ∧ 0 ≤ i ∧ i ≤ ls.length ∧ Aside0 (ls.length - i < kq) ∧ Drawn0 w w')
  case atStart => exact ⟨0, rfl, rfl, by omega, by omega, ⟨by omega⟩, Drawn0.refl _⟩
  case round =>
    obtain ⟨i, rfl, rfl, h0i, hi, HK, ⟨m, rfl⟩⟩ := hrel
    cases gk with
    | zero => exact absurd HK.out (by omega)
    | succ k2 =>
      obtain ⟨hl0, hl1⟩ := lenSum_le ls i
      by_cases c : i < ls.length
      · obtain ⟨ad, A0, c0, e, hx, hle, hC⟩ := at_L1 HR.out i (by omega) (by omega)
        cases e
        have e1 := lenSum_succ ls i h0i c
        obtain ⟨hm0, hm1⟩ := lenSum_le ls (i + 1)
        have hq : ((rd_L1 ls i).length : Int) ≤ 100000 := by omega
        have E1 := Aside0.mk e1
        clear e1 hC hle
        have hlt : ¬ (lenSum ls i + (rd_L1 ls i).length < 0) := by omega
        go_wp2
        go_roundg k2
        case rel => exact ⟨i + 1, by rw [E1.out], rfl, by omega, by omega, ⟨by have := HK.out; omega⟩, ⟨⟨m, rfl⟩⟩⟩
        case measure => omega
      · have hil : i = ls.length := by omega
        obtain ⟨N, hN⟩ : ∃ N : Nat, lenSum ls i = N := ⟨(lenSum ls i).toNat, by omega⟩
        rw [hN]
        have hN1 : N ≤ 100000 := by omega
        clear hN hil hl0 hl1 HK
        go_wp2_with fail
        refine (grow_nil_calls N (by omega) _).mono ?_
        rintro e w1 ⟨v1, rfl, ho1, hb1⟩
        have HB1 := Aside0.mk (below_step (pw_below_drewN (Below.refl _ _) m) hb1)
        have HO1 := Aside0.mk ho1
        clear ho1 hb1
        go_wp2
        go_loopg [6, 27] (ls.length + 1) (fun kq v6 v27 w' => ∃ (i : Int), v27 = .int .i64 i ∧ 0 ≤ i ∧ i ≤ ls.length ∧ Aside0 (ls.length - i < kq) ∧ Aside0 (Kd.R (Kd.int .u8) 5 w' w.heap.size (fun _ => True) v6 (ls.take i.toNat).flatten) ∧ Aside0 (Below w.heap.size w w'))
        case atStart => exact ⟨0, rfl, by omega, by omega, ⟨by omega⟩, HO1, HB1⟩
        case round =>
          clear HO1 HB1
          obtain ⟨j, rfl, h0j, hj, HK, HO, HB⟩ := hrel
          cases gk with
          | zero => exact absurd HK.out (by omega)
          | succ k3 =>
            by_cases c2 : j < ls.length
            · have HRw := Kd.C_below HR.out HB.out
              obtain ⟨ad, A0, c0, e, hx, hle, hC⟩ := at_L1 HRw j (by omega) (by omega)
              cases e
              have HC := Aside0.mk hC
              have HF := Aside0.mk (flat_succ ls j h0j c2)
              have HL := Aside0.mk (lenSum_le ls (j + 1))
              have HLe := Aside0.mk (lenSum_flat ls (j + 1))
              clear hC hle HRw
              go_wp2_with (first | ((with_reducible refine gate_builtin (b := .append) (xs := #[.tmp 31, .tmp 32]) rfl ?_); go_must (refine Kd.R_append_row (Value.int .u8) (0 : Int) (h1 := fun _ => rfl) (w0 := w) w.heap.size rfl (.tmp 31) (.tmp 32) 83 5 (.int .u8 0) 1 rfl Tryz.underlying83 info5 rfl (by omega) u6 (ls.take j.toNat).flatten (rd_L1 ls j) A0 (rd_L1 ls j).length c0 (fun _ => True) rfl rfl (fun _ _ => trivial) HO.out HC.out HB.out HB.out.size ?L ?_); (case L => have h1 := HL.out; have h2 := HLe.out; have h3 := congrArg List.length HF.out; simp only [List.length_append] at h3; omega); intro v3 w3 ho3 hb3 hg3 hat3; rw [← HF.out] at ho3; have HO3 := Aside0.mk ho3; have HB3 := Aside0.mk hb3; clear hb3 hg3 hat3 ho3))
              go_roundg k3
              case rel => exact ⟨j + 1, rfl, by omega, by omega, ⟨by have := HK.out; omega⟩, HO3, HB3⟩
              case measure => omega
            · have hil : j = ls.length := by omega
              have HO' : Aside0 (Kd.R (Kd.int .u8) 5 wr w.heap.size (fun _ => True) u6 ls.flatten) := ⟨by
                have h := HO.out
                rw [show (ls.take j.toNat) = ls from List.take_of_length_le (by omega)] at h
                exact h⟩
              clear HO hil
              go_wp2
              go_ret
              exact ⟨_, rfl, HO'.out, HB.out⟩
end Go.Proofs.YtfolgjigfdbnoaaGreat.M
