/-
  Contracts of slices.Repeat of one text, disk.New.
-/
import Derived.Test.YtfolgjigfdbnoaaGreatMl
namespace Go.Proofs.YtfolgjigfdbnoaaGreat.M
open Go.RowKit Go.Shelf Go.Proofs.YtfolgjigfdbnoaaGreatW.PrintWords Go.Proofs.YtfolgjigfdbnoaaGreatW.PrintLast Go.Proofs.YtfolgjigfdbnoaaGreatW.PrintMore
open PCommitFormats
set_option linter.unusedVariables false
set_option linter.unusedSimpArgs false

theorem mul_all : (List.range 4001).all (fun c => decide (bits_Mul.f 1 (c : Int) = some (0, (c : Int)))) = true := by kernel_rfl
theorem mul_one' {c : Nat} (h : c ≤ 4000) : bits_Mul.f 1 (c : Int) = some (0, (c : Int)) := by
  have := List.all_eq_true.1 mul_all c (List.mem_range.2 (by omega))
  simpa using this

/-- The row while it is filled. -/
def fill (s : ByteArray) (n c : Nat) : List ByteArray := List.replicate n s ++ List.replicate (c - n) ByteArray.empty
theorem fill_length {s : ByteArray} {n c : Nat} (h : n ≤ c) : (fill s n c).length = c := by simp [fill]; omega

theorem copy_first (W : World) (s : ByteArray) (g g1 c0 c : Nat) (hs : W.cell? ⟨g, 0, none⟩ = some (.string s)) (hW : W.heap[g1]? = some (.cells (encs Value.string (List.replicate c ByteArray.empty)).toArray 9)) (h1 : 1 ≤ c) :
    (Builtin.copy_ #[23, 23] 3 #[.slice (some ⟨g1, 0, none⟩) c c, .slice (some ⟨g, 0, none⟩) 1 c0]).run Tryz.prog W = .ok (.int .i64 1) (W.setRow g1 (encs Value.string (fill s 1 c)).toArray) := by
  have h := run_copy_row (P := Tryz.prog) W 23 23 3 9 g1 0 c c ⟨g, 0, none⟩ 1 c0 _ 9 [.string s] Tryz.underlying23 size9 hW (by show 1 = Nat.min 1 c; exact (Nat.min_eq_left h1).symm) (fun j v hj => by
    have hj0 : j = 0 := by
      have := (List.getElem?_eq_some_iff.1 hj).1
      simp at this
      omega
    subst hj0
    simp at hj
    subst hj
    rw [add_plain]
    exact hs) (by simp [encs]; omega) (by simp [Value.oneCell'])
  rw [h]
  have e : (List.take 0 (encs Value.string (List.replicate c ByteArray.empty)).toArray.toList ++ [Value.string s] ++ List.drop (0 + [Value.string s].length) (encs Value.string (List.replicate c ByteArray.empty)).toArray.toList) = encs Value.string (fill s 1 c) := by
    simp [encs, fill]
  rw [e]
  rfl

theorem copy_more (W : World) (s : ByteArray) (g1 c n : Nat) (hW : W.heap[g1]? = some (.cells (encs Value.string (fill s n c)).toArray 9)) (h1 : n < c) :
    (Builtin.copy_ #[23, 23] 3 #[.slice (some ⟨g1, n, none⟩) (c - n) (c - n), .slice (some ⟨g1, 0, none⟩) n c]).run Tryz.prog W = .ok (.int .i64 (min n (c - n) : Nat)) (W.setRow g1 (encs Value.string (fill s (n + min n (c - n)) c)).toArray) := by
  have h := run_copy_row (P := Tryz.prog) W 23 23 3 9 g1 n (c - n) (c - n) ⟨g1, 0, none⟩ n c _ 9 (encs Value.string (List.replicate (min n (c - n)) s)) Tryz.underlying23 size9 hW (by simp [encs]) (fun j v hj => by
    have hj0 : j < min n (c - n) := by
      have := (List.getElem?_eq_some_iff.1 hj).1
      simpa [encs] using this
    have hv : v = .string s := by
      simp [encs, List.getElem?_replicate] at hj
      exact hj.2.symm
    subst hv
    rw [add_plain, blk_cell hW]
    simp [encs, fill, List.getElem?_append, show j < n by omega]) (by simp [encs, fill]; try omega) (fun v hv => by simp [encs] at hv; rw [hv.2]; rfl)
  rw [h]
  have e : (List.take n (encs Value.string (fill s n c)).toArray.toList ++ encs Value.string (List.replicate (min n (c - n)) s) ++ List.drop (n + (encs Value.string (List.replicate (min n (c - n)) s)).length) (encs Value.string (fill s n c)).toArray.toList) = encs Value.string (fill s (n + min n (c - n)) c) := by
    have hd : c - n - min n (c - n) = c - (n + min n (c - n)) := by omega
    simp [encs, fill, List.drop_append, ← List.replicate_append_replicate]
    omega
  rw [e]
  simp [encs]
  rfl

set_option maxRecDepth 100000 in
set_option maxHeartbeats 2000000 in
theorem repeat_calls (s : ByteArray) (g c0 : Nat) (c : Nat) (w : World) (hs : w.cell? ⟨g, 0, none⟩ = some (.string s)) (h1 : 1 ≤ c) (h2 : c ≤ 4000) :
    Calls Tryz.prog 31 #[.slice (some ⟨g, 0, none⟩) 1 c0, .int .i64 (c : Int)] w fun e w' => ∃ v, e = .returned v ∧ Kd.R Kd.string 9 w' w.heap.size (fun _ => True) v (List.replicate c s) ∧ Below w.heap.size w w' := by
  have hM := fun W => bits_Mul.calls 1 (c : Int) 0 (c : Int) W (mul_one' h2)
  have h1' : (1 : Int) ≤ c := by omega
  have h2' : (c : Int) ≤ 4000 := by omega
  go_enter Tryz.func31, Tryz.ntmps31
  go_wp2_with fail
  refine (hM _).mono ?_
  rintro e w1 ⟨rfl, ⟨nd, rfl⟩⟩
  obtain ⟨w1, hw1⟩ : ∃ w1, w1 = w.drewN nd := ⟨_, rfl⟩
  have hs1 : w1.cell? ⟨g, 0, none⟩ = some (.string s) := by rw [hw1]; exact hs
  have HZ1 : Aside0 (w1.heap.size = w.heap.size) := ⟨by rw [hw1]; rfl⟩
  have HB1 : Aside0 (Below w.heap.size w w1) := ⟨by rw [hw1]; exact pw_below_drewN (Below.refl _ w) nd⟩
  rw [← hw1]
  clear hw1 hs hM
  have hmk := made_str w1 c (by omega)
  have hcp := copy_first (w1.alloc (.cells (encs Value.string (List.replicate c ByteArray.empty)).toArray 9)) s g w1.heap.size c0 c (((Below.refl _ w1).alloc (Nat.le_refl _) _).cell (cell_lt hs1) |>.trans hs1) (World.alloc_heap_new w1 _) h1
  have hgb : ((w1.alloc (.cells (encs Value.string (List.replicate c ByteArray.empty)).toArray 9)).setRow w1.heap.size (encs Value.string (fill s 1 c)).toArray).heap[w1.heap.size]? = some (.cells (encs Value.string (fill s 1 c)).toArray 9) := setRow_heap _ _ _ _ 9 (0, 0) (World.alloc_heap_new w1 _)
  have hb2 : Below w.heap.size w ((w1.alloc (.cells (encs Value.string (List.replicate c ByteArray.empty)).toArray 9)).setRow w1.heap.size (encs Value.string (fill s 1 c)).toArray) := by
    have h := HB1.out.alloc HB1.out.size (.cells (encs Value.string (List.replicate c ByteArray.empty)).toArray 9)
    exact ⟨h.os, h.tape, h.output, by simpa using h.size, fun k hk => (setRow_other _ _ _ _ (by have := HZ1.out; omega)).trans (h.block k hk)⟩
  have HG := Aside0.mk hgb
  have HB2 := Aside0.mk hb2
  clear hgb hb2 hs1
  go_wp2
  clear hmk hcp
  generalize ((w1.alloc (.cells (encs Value.string (List.replicate c ByteArray.empty)).toArray 9)).setRow w1.heap.size (encs Value.string (fill s 1 c)).toArray) = w2 at *
  go_loopg [8] (c + 1) (fun kq v8 w' => ∃ n : Nat, v8 = .int .i64 (n : Int) ∧ 1 ≤ n ∧ n ≤ c ∧ Aside0 (c - n < kq) ∧ Aside0 (w'.heap[w1.heap.size]? = some (.cells (encs Value.string (fill s n c)).toArray 9)) ∧ Aside0 (Below w.heap.size w w'))
  case atStart => exact ⟨1, rfl, Nat.le_refl _, h1, ⟨by omega⟩, HG, HB2⟩
  case round =>
    clear HG HB2
    obtain ⟨n, rfl, hn1, hn2, HK, HG, HB2⟩ := hrel
    have hn1' : (1 : Int) ≤ n := by omega
    have hn2' : (n : Int) ≤ c := by omega
    cases gk with
    | zero => exact absurd HK.out (by omega)
    | succ k3 =>
      by_cases hlt : n < c
      · have hcp : (Builtin.copy_ #[23, 23] 3 #[.slice (some ⟨w1.heap.size, n, none⟩) (c - n) (c - n), .slice (some ⟨w1.heap.size, 0, none⟩) n c]).run Tryz.prog wr.drew = .ok (.int .i64 (min n (c - n) : Nat)) (wr.setRow w1.heap.size (encs Value.string (fill s (n + min n (c - n)) c)).toArray).drew := copy_more wr.drew s w1.heap.size c n HG.out hlt
        have hlt' : (n : Int) < c := by omega
        obtain ⟨mm, hmm⟩ : ∃ mm, mm = min n (c - n) := ⟨_, rfl⟩
        rw [← hmm] at hcp
        have HM := Aside0.mk hmm
        have hmm1 : 1 ≤ mm := by omega
        have hmm2 : mm + n ≤ c := by omega
        have hmm3 : (mm : Int) + n ≤ c := by omega
        clear hmm
        go_wp2_with fail
        go_region
        all_goals go_wp2
        all_goals go_roundg k3
        case rel =>
          have hgb : (wr.setRow w1.heap.size (encs Value.string (fill s (n + mm) c)).toArray).heap[w1.heap.size]? = some (.cells (encs Value.string (fill s (n + mm) c)).toArray 9) := setRow_heap _ _ _ _ 9 (0, 0) HG.out
          have hb2 : Below w.heap.size w (wr.setRow w1.heap.size (encs Value.string (fill s (n + mm) c)).toArray) := by
            have h := HB2.out
            exact ⟨h.os, h.tape, h.output, by simpa using h.size, fun k hk => (setRow_other _ _ _ _ (by have := HZ1.out; omega)).trans (h.block k hk)⟩
          exact ⟨n + mm, by simp, by omega, by omega, ⟨by have := HK.out; omega⟩, ⟨hgb⟩, ⟨hb2.drew⟩⟩
        case measure => omega
      · obtain rfl : n = c := by omega
        go_wp2
        go_ret
        have hf : fill s n n = List.replicate n s := by simp [fill]
        rw [hf] at HG
        refine ⟨_, rfl, ?_, HB2.out⟩
        refine Kd.R_of_own (enc := Value.string) (h1 := fun _ => rfl) ?_ (fun _ _ => trivial)
        exact ⟨by simp [encs], .inr ⟨w1.heap.size, n, _, by simp, by have := HZ1.out; omega, HG.out, by simp, by simp only [maxLen]; omega, by simp [encs], by rw [List.take_of_length_le (by simp [encs])]⟩⟩

/-- A block of noughts. -/
def z40 : ByteArray := ⟨(Lib.repeatL [0] 40).toArray⟩
theorem rep40_calls (W : World) : Calls Tryz.prog 32 #[.string ⟨#[0]⟩, .int .i64 40] W fun e w' => e = .returned (.string z40) ∧ Below W.heap.size W w' :=
  Tryz.strings_Repeat ⟨#[0]⟩ 40 W (by omega) (by show 1 * 40 ≤ _; omega)

theorem diskNew_bad (n : Int) (h : n < 1 ∨ 4000 < n) (w : World) :
    Calls Tryz.prog 14 #[.int .i64 n] w fun e w' => e = .returned (.tuple #[.agg #[.slice none 0 0, .slice none 0 0], .int .i64 1]) ∧ Below w.heap.size w w' := by
  have hu26 := Tryz.underlying26
  go_enter Tryz.func14, Tryz.ntmps14
  have b1 := World.alloc_heap_new w (.cells #[.slice none 0 0, .slice none 0 0] 26)
  have B1 := Aside0.mk b1
  clear b1
  rcases (show n < 1 ∨ (1 ≤ n ∧ 4000 < n) by omega) with h1 | ⟨h1, h2⟩
  all_goals
    go_wp2
    refine bodyPost_ret (results_ct rfl _ _ w.heap.size 26 #[.slice none 0 0, .slice none 0 0] (0, 0) _ rfl (by first | exact B1.out | exact set_blk (set_blk B1.out 0 _) 1 _) Tryz.underlying26 rfl (by kernel_rfl)) rfl ?_
    refine ⟨rfl, ?_⟩
    repeat (first | exact Below.refl _ _ | refine Below.alloc ?_ (by simp) _ | refine Below.setCell ?_ (by simp) _)

set_option maxRecDepth 100000 in
set_option maxHeartbeats 1000000 in
theorem diskNew_calls (n : Nat) (h1 : 1 ≤ n) (h2 : n ≤ 4000) (w : World) :
    Calls Tryz.prog 14 #[.int .i64 (n : Int)] w fun e w' => ∃ v, e = .returned (.tuple #[.agg #[v, .slice none 0 0], .int .i64 0]) ∧ Kd.R Kd.string 9 w' w.heap.size (fun _ => True) v (List.replicate n z40) ∧ Below w.heap.size w w' := by
  have hu26 := Tryz.underlying26
  have h1' : (1 : Int) ≤ n := by omega
  have h2' : (n : Int) ≤ 4000 := by omega
  go_enter Tryz.func14, Tryz.ntmps14
  go_wp2_with fail
  refine (rep40_calls _).mono ?_
  rintro e w2 ⟨rfl, hb2⟩
  have b1 := (hb2.block w.heap.size (by simp)).trans (World.alloc_heap_new w (.cells #[.slice none 0 0, .slice none 0 0] 26))
  have HB2 : Aside0 (Below w.heap.size w w2) := ⟨((Below.refl _ w).alloc (Nat.le_refl _) _).trans (hb2.mono (by simp))⟩
  have hlt := blk_lt b1
  go_wp2_with fail
  refine (repeat_calls z40 w2.heap.size 1 n _ ((blk_cell (World.alloc_heap_new w2 (.cells #[.string z40] 9)) 0).trans rfl) h1 h2).mono ?_
  rintro e w3 ⟨v3, rfl, ho3, hb3⟩
  obtain ⟨A3, c3, rfl⟩ := Kd.R_slice ho3
  have b1' := (hb3.block w.heap.size (by simp; omega)).trans ((Below.heap_alloc w2 _ _ hlt).trans b1)
  have s0 : w3.cell? ⟨w.heap.size, 0, none⟩ = some (.slice none 0 0) := (blk_cell b1' 0).trans rfl
  have s1 : w3.cell? ⟨w.heap.size, 1, none⟩ = some (.slice none 0 0) := (blk_cell b1' 1).trans rfl
  have s2 : w3.frozen? ⟨w.heap.size, 0, none⟩ = false := blk_frozen b1' 0
  have s3 : w3.frozen? ⟨w.heap.size, 1, none⟩ = false := blk_frozen b1' 1
  have B1 := Aside0.mk b1'
  have HO := Aside0.mk ho3
  have HB3 : Aside0 (Below w.heap.size w w3) := ⟨(HB2.out.alloc HB2.out.size _).trans (hb3.mono (by have := HB2.out.size; simp; omega))⟩
  clear b1 b1' ho3 hb3 hb2
  rw [List.length_replicate] at HO ⊢
  go_wp2
  refine bodyPost_ret (results_ct rfl _ _ w.heap.size 26 #[.slice A3 n c3, .slice none 0 0] (0, 0) _ rfl (set_blk (set_blk B1.out 0 _) 1 _) Tryz.underlying26 rfl (by kernel_rfl)) rfl ?_
  refine ⟨_, rfl, ?_, (HB3.out.setCell (p := ⟨w.heap.size, 0, none⟩) (Nat.le_refl _) _).setCell (p := ⟨w.heap.size, 1, none⟩) (Nat.le_refl _) _⟩
  have hne : ∀ k, True ∧ (w2.alloc (.cells #[.string z40] 9)).heap.size ≤ k ∧ k < w3.heap.size ∧ (∃ q, q ∈ 9 :: Kd.string.E ∧ ∃ cells, w3.heap[k]? = some (.cells cells q (0, 0))) → k ≠ w.heap.size := fun k hk => by have := hk.2.1; simp at this; omega
  exact Kd.R_lower (Kd.R_mono (Kd.R_far (p := ⟨w.heap.size, 1, none⟩) (Kd.R_far (p := ⟨w.heap.size, 0, none⟩) (Kd.R_bound HO.out) hne _) hne _) (fun _ _ => trivial)) (by have := HB2.out.size; simp; omega)
end Go.Proofs.YtfolgjigfdbnoaaGreat.M
