/-
  Contract of assartref15.Format.
-/
import Derived.Test.YtfolgjigfdbnoaaGreatNj
import Derived.Test.YtfolgjigfdbnoaaGreatNl
namespace Go.Proofs.YtfolgjigfdbnoaaGreat.M
open Go.RowKit Go.Shelf Go.Proofs.YtfolgjigfdbnoaaGreatW.PrintWords Go.Proofs.YtfolgjigfdbnoaaGreatW.PrintLast Go.Proofs.YtfolgjigfdbnoaaGreatW.PrintMore
open PCommitFormats
set_option linter.unusedVariables false
set_option linter.unusedSimpArgs false

set_option maxRecDepth 100000 in
set_option maxHeartbeats 4000000 in
theorem refFormat_good (blocks n : Nat) (keep : Int) (w : World) (hb1 : 1 ≤ blocks) (hb2 : blocks ≤ 4000) (hcell : cellsM blocks = n) (hn : 1 ≤ n) (hk0 : 0 ≤ keep) (hk1 : keep ≤ n) :
    Calls Tryz.prog 6 #[.int .i64 (blocks : Int), .int .i64 keep] w fun e w' => ∃ A1 c1 A2 c2 A3 c3, e = .returned (.tuple #[.agg #[.slice A1 blocks c1, .slice A2 0 c2], stV A3 n c3 keep 1 1, .int .i64 0]) ∧ blocks ≤ c1 ∧ Kd.C Kd.string w' A1 blocks (diskF blocks n keep) ∧ Kd.C k75 w' A3 n (blank n) ∧ Below w.heap.size w w' := by
  obtain ⟨hc0, hc1, _, _⟩ := cellsM_spec blocks
  have hn2 : n ≤ 2000 := by omega
  have hu26 := Tryz.underlying26
  have hu29 := Tryz.underlying29
  have hu33 := Tryz.underlying33
  have hST : ∀ W : World, Calls Tryz.prog 19 #[.int .i64 (n : Int), .int .i64 keep] W fun e w' => (∃ A c, e = .returned (.tuple #[stV A n c keep 1 0, .int .i64 0]) ∧ n ≤ c ∧ Kd.C k75 w' A n (blank n) ∧ (∀ ad, A = some ad → W.heap.size ≤ ad.block ∧ ad.block < w'.heap.size)) ∧ Below W.heap.size W w' := fun W => by
    have h := refStateNew_any n keep (blank n) keep 0 (refHeapNew_good (n := (n : Int)) (by omega) (by omega) hk0 hk1) (by simp [blank]; omega) W
    refine h.mono fun e w' ⟨h1, h2⟩ => ⟨?_, h2⟩
    rcases h1 with ⟨h3, _⟩ | ⟨_, h3⟩
    · exact absurd rfl h3
    · simpa [blank] using h3
  have hCL : ∀ W : World, Calls Tryz.prog 10 #[.int .i64 (blocks : Int)] W fun e w' => e = .returned (.int .i64 (n : Int)) ∧ Drawn0 W w' := fun W =>
    assartref14_Cells.calls 3001 blocks n W (by rw [refCells, hcell])
  have hfit := cellsM_fits blocks (by omega) 1
  rw [hcell] at hfit
  have hbk2 : 2 ≤ blocks := by
    obtain ⟨_, _, h1, _⟩ := cellsM_spec blocks
    have h2 := h1 0 (by omega) (by omega)
    unfold baseM areaM at h2
    omega
  go_enter Tryz.func6, Tryz.ntmps6
  obtain ⟨w2, hw2⟩ : ∃ w2, w2 = (w.alloc (.cells #[.slice none 0 0, .slice none 0 0] 26)).alloc (.cells #[.slice none 0 0, .int .i64 0, .slice none 0 0, .slice none 0 0, .int .i64 0, .int .i64 0] 33) := ⟨_, rfl⟩
  have b0 : w2.heap[w.heap.size]? = some (.cells #[.slice none 0 0, .slice none 0 0] 26) := by rw [hw2, Below.heap_alloc _ _ _ (by simp)]; exact World.alloc_heap_new _ _
  have b1 : w2.heap[w.heap.size + 1]? = some (.cells #[.slice none 0 0, .int .i64 0, .slice none 0 0, .slice none 0 0, .int .i64 0, .int .i64 0] 33) := by
    rw [hw2]
    have := World.alloc_heap_new (w.alloc (.cells #[.slice none 0 0, .slice none 0 0] 26)) (.cells #[.slice none 0 0, .int .i64 0, .slice none 0 0, .slice none 0 0, .int .i64 0, .int .i64 0] 33)
    rwa [World.size_alloc] at this
  have hs2 : w2.heap.size = w.heap.size + 2 := by rw [hw2]; simp
  have HB2 : Aside0 (Below w.heap.size w w2) := ⟨by rw [hw2]; exact ((Below.refl _ w).alloc (Nat.le_refl _) _).alloc (by simp) _⟩
  have HK0 := Aside0.mk (fun (W' : World) (hb : Below w2.heap.size w2 W') => (hb.block _ (blk_lt b0)).trans b0)
  have HK1 := Aside0.mk (fun (W' : World) (hb : Below w2.heap.size w2 W') => (hb.block _ (blk_lt b1)).trans b1)
  have HCL := Aside0.mk hCL
  have HST := Aside0.mk hST
  have HFIT := Aside0.mk hfit
  clear b0 b1 hCL hST hfit
  go_wp2_with fail
  rw [← hw2]
  clear hw2
  refine (refNew_calls blocks hb1 hb2 w2).mono ?_
  rintro e w3 ⟨v3, rfl, ho3, hb3⟩
  obtain ⟨A3, c3, rfl⟩ := Kd.R_slice ho3
  rw [show (List.replicate blocks z40) = disk0 blocks from rfl] at ho3 ⊢
  have hd0 : (disk0 blocks).length = blocks := List.length_replicate ..
  rw [hd0] at ho3 ⊢
  have hA3 : ∀ ad, A3 = some ad → ad.block < w3.heap.size := fun ad e => by
    subst e
    obtain ⟨cs, h⟩ := r_typed ho3
    exact blk_lt h
  have HO3 := Aside0.mk ho3
  have HA3 := Aside0.mk hA3
  have HB3 := Aside0.mk hb3
  clear ho3 hb3 hA3
  go_wp2_with fail
  refine (HCL.out _).mono ?_
  rintro e w4 ⟨rfl, ⟨nd4, hw4⟩⟩
  obtain ⟨ob, hob⟩ : ∃ ob, ob = Obj.cells #[.slice A3 blocks c3, .slice none 0 0] 26 := ⟨_, rfl⟩
  rw [← hob] at hw4
  have hb4 : Below (w3.alloc ob).heap.size (w3.alloc ob) w4 := by rw [hw4]; exact pw_below_drewN (Below.refl _ _) nd4
  clear hw4
  go_wp2_with fail
  refine (HST.out _).mono ?_
  rintro e w5 ⟨⟨A5, c5, rfl, hcc5, hC5, hA5⟩, hb5⟩
  have hb34 : Below w3.heap.size w3 w4 := ((Below.refl _ w3).alloc (Nat.le_refl _) ob).trans (hb4.mono (by simp))
  have h34 : w3.heap.size < w4.heap.size := by have := hb4.size; simp at this; omega
  have hb35 : Below w3.heap.size w3 w5 := hb34.trans (hb5.mono (Nat.le_of_lt h34))
  have qd : w5.heap[w3.heap.size]? = some ob := (hb5.block _ h34).trans ((hb4.block _ (by simp)).trans (World.alloc_heap_new w3 _))
  rw [hob] at qd
  have hA5' : ∀ ad, A5 = some ad → w3.heap.size < ad.block ∧ ad.block < w5.heap.size := fun ad e => by have := hA5 ad e; omega
  obtain ⟨w6, hw6⟩ : ∃ w6, w6 = w5.alloc (.cells #[.slice A5 n c5, .int .i64 keep, .slice none 0 0, .slice none 0 0, .int .i64 1, .int .i64 0] 33) := ⟨_, rfl⟩
  have hb56 : Below w5.heap.size w5 w6 := by rw [hw6]; exact (Below.refl _ w5).alloc (Nat.le_refl _) _
  have x6 : w6.heap[w5.heap.size]? = some (.cells #[.slice A5 n c5, .int .i64 keep, .slice none 0 0, .slice none 0 0, .int .i64 1, .int .i64 0] 33) := by rw [hw6]; exact World.alloc_heap_new w5 _
  have hd35 : w3.heap.size < w5.heap.size := blk_lt qd
  have xd := (hb56.block _ hd35).trans qd
  have hb36 : Below w3.heap.size w3 w6 := hb35.trans (hb56.mono (Nat.le_of_lt hd35))
  have hb26 : Below w2.heap.size w2 w6 := HB3.out.trans (hb36.mono HB3.out.size)
  have d0 : w6.cell? ⟨w3.heap.size, 0, none⟩ = some (.slice A3 blocks c3) := (blk_cell xd 0).trans rfl
  have d1 : w6.cell? ⟨w3.heap.size, 1, none⟩ = some (.slice none 0 0) := (blk_cell xd 1).trans rfl
  have s0 : w6.cell? ⟨w5.heap.size, 0, none⟩ = some (.slice A5 n c5) := (blk_cell x6 0).trans rfl
  have s1 : w6.cell? ⟨w5.heap.size, 1, none⟩ = some (.int .i64 keep) := (blk_cell x6 1).trans rfl
  have s2 : w6.cell? ⟨w5.heap.size, 2, none⟩ = some (.slice none 0 0) := (blk_cell x6 2).trans rfl
  have s3 : w6.cell? ⟨w5.heap.size, 3, none⟩ = some (.slice none 0 0) := (blk_cell x6 3).trans rfl
  have s4 : w6.cell? ⟨w5.heap.size, 4, none⟩ = some (.int .i64 1) := (blk_cell x6 4).trans rfl
  have s5 : w6.cell? ⟨w5.heap.size, 5, none⟩ = some (.int .i64 0) := (blk_cell x6 5).trans rfl
  have hbl : (bookL n keep 1).length = 11 + 2 * n := by simp [bookL, bookHead_length]
  have hdo := refDo15_calls w2 w6 hb26 A3 c3 (disk0 blocks) A5 n c5 keep 1 0 (-1) (by omega) (by rw [hd0]; exact Kd.R_below HO3.out hb36) (by rw [hd0]; exact hb2) (by rw [hd0]; exact hbk2) (Kd.C_below hC5 hb56) (fun ad ad' e e' => by have := hA5' ad e; have := HA3.out ad' e'; omega) (fun ad e => by have := hA5' ad e; have := hb56.size; omega) hcc5 hn2 (by rw [hd0]; exact hcell) hk0 (by omega) (by omega) (by omega) (by omega) (by omega) (by rw [hd0, hbl]; exact HFIT.out)
  rw [hd0, show (doS (-1) (planL (disk0 blocks) n keep 1 0) (disk0 blocks) [] 0).1 = diskF blocks n keep from rfl] at hdo
  have HDO := Aside0.mk hdo
  rw [hw6] at d0 d1 s0 s1 s2 s3 s4 s5
  clear hdo hbl xd x6 qd hb34 hb35 hb36 hb26 hb56 hb4 hb5 hC5 hA5 hA5' hd0 hob
  go_wp2_with fail
  rw [← hw6]
  clear hw6
  with_reducible refine HDO.out.mono ?_
  rintro e w8 ⟨A1, c1, A2, c2, rfl, hcc1, hC1, hC2, hb8⟩
  have z0 := HK0.out w8 hb8
  have z1 := HK1.out w8 hb8
  have HB8 : Aside0 (Below w.heap.size w w8) := ⟨HB2.out.trans (hb8.mono HB2.out.size)⟩
  have HC1 := Aside0.mk hC1
  have HC2 := Aside0.mk hC2
  have Z0 := Aside0.mk z0
  have Z1 := Aside0.mk z1
  clear hC1 hC2 hb8 HDO d0 d1 s0 s1 s2 s3 s4 s5
  have e0 : w8.cell? ⟨w.heap.size, 0, none⟩ = some (.slice none 0 0) := (blk_cell z0 0).trans rfl
  have e1 : w8.cell? ⟨w.heap.size, 1, none⟩ = some (.slice none 0 0) := (blk_cell z0 1).trans rfl
  have f0 : w8.frozen? ⟨w.heap.size, 0, none⟩ = false := blk_frozen z0 0
  have f1 : w8.frozen? ⟨w.heap.size, 1, none⟩ = false := blk_frozen z0 1
  obtain ⟨t0, t1, t2, t3, t4, t5⟩ := six_of z1
  have u0 : w8.frozen? ⟨w.heap.size + 1, 0, none⟩ = false := blk_frozen z1 0
  have u1 : w8.frozen? ⟨w.heap.size + 1, 1, none⟩ = false := blk_frozen z1 1
  have u2 : w8.frozen? ⟨w.heap.size + 1, 2, none⟩ = false := blk_frozen z1 2
  have u3 : w8.frozen? ⟨w.heap.size + 1, 3, none⟩ = false := blk_frozen z1 3
  have u4 : w8.frozen? ⟨w.heap.size + 1, 4, none⟩ = false := blk_frozen z1 4
  have u5 : w8.frozen? ⟨w.heap.size + 1, 5, none⟩ = false := blk_frozen z1 5
  clear z0 z1
  go_wp2
  have hne0 := str_ne HC1.out (by omega) Z0.out (by simp)
  have hne1 := str_ne HC1.out (by omega) Z1.out (by simp)
  have hn0 := row_ne HC2.out (by omega) Z0.out (by simp)
  have hn1 := row_ne HC2.out (by omega) Z1.out (by simp)
  obtain ⟨w9, hw9⟩ : ∃ w9, w9 = (w8.setCell ⟨w.heap.size, 0, none⟩ (.slice A1 blocks c1)).setCell ⟨w.heap.size, 1, none⟩ (.slice A2 0 c2) := ⟨_, rfl⟩
  have x0 : w9.heap[w.heap.size]? = some (.cells #[.slice A1 blocks c1, .slice A2 0 c2] 26) := by rw [hw9]; exact set_blk (set_blk Z0.out 0 _) 1 _
  have x1 : w9.heap[w.heap.size + 1]? = some (.cells #[.slice none 0 0, .int .i64 0, .slice none 0 0, .slice none 0 0, .int .i64 0, .int .i64 0] 33) := by
    rw [hw9, Below.heap_setCell _ _ _ _ (by simp), Below.heap_setCell _ _ _ _ (by simp)]
    exact Z1.out
  have xB : Below w.heap.size w w9 := by rw [hw9]; exact (HB8.out.setCell (p := ⟨w.heap.size, 0, none⟩) (Nat.le_refl _) _).setCell (p := ⟨w.heap.size, 1, none⟩) (Nat.le_refl _) _
  have xC : Kd.C Kd.string w9 A1 blocks (diskF blocks n keep) := by rw [hw9]; exact c_far (c_far HC1.out hne0 _) hne0 _
  have xG : Kd.C k75 w9 A5 n (blank n) := by rw [hw9]; exact c75_any (c75_any HC2.out hn0 _) hn0 _
  rw [← hw9]
  clear hw9
  refine bodyPost_ret (results_cct rfl _ _ w.heap.size (w.heap.size + 1) 26 33 #[.slice A1 blocks c1, .slice A2 0 c2] #[.slice A5 n c5, .int .i64 keep, .slice none 0 0, .slice none 0 0, .int .i64 1, .int .i64 1] (0, 0) (0, 0) _ _ rfl ?z2 Tryz.underlying26 rfl (by kernel_rfl) rfl ?z3 Tryz.underlying33 rfl (by kernel_rfl)) rfl ?_
  case z2 =>
    rw [set6_other _ _ _ _ _ _ _ _ _ (by omega)]
    exact x0
  case z3 => exact set6_blk x1
  exact ⟨A1, c1, A2, c2, A5, c5, rfl, hcc1, c_far6 xC hne1 _ _ _ _ _ _, c75_any6 xG hn1 _ _ _ _ _ _, set6_below xB (by omega) _ _ _ _ _ _⟩

set_option maxRecDepth 100000 in
set_option maxHeartbeats 4000000 in
theorem refFormat_bad (blocks keep : Int) (w : World) (hb : blocks ≤ 4000) (h : blocks < 1 ∨ cellsM blocks < 1 ∨ keep < 0 ∨ cellsM blocks < keep) :
    Calls Tryz.prog 6 #[.int .i64 blocks, .int .i64 keep] w fun e w' => e = .returned (.tuple #[.agg #[.slice none 0 0, .slice none 0 0], stV none 0 0 0 0 0, .int .i64 1]) ∧ Below w.heap.size w w' := by
  obtain ⟨hc0, hc1, _, _⟩ := cellsM_spec blocks
  have hu26 := Tryz.underlying26
  have hu33 := Tryz.underlying33
  obtain ⟨w2, hw2⟩ : ∃ w2, w2 = (w.alloc (.cells #[.slice none 0 0, .slice none 0 0] 26)).alloc (.cells #[.slice none 0 0, .int .i64 0, .slice none 0 0, .slice none 0 0, .int .i64 0, .int .i64 0] 33) := ⟨_, rfl⟩
  have b0 : w2.heap[w.heap.size]? = some (.cells #[.slice none 0 0, .slice none 0 0] 26) := by rw [hw2, Below.heap_alloc _ _ _ (by simp)]; exact World.alloc_heap_new _ _
  have b1 : w2.heap[w.heap.size + 1]? = some (.cells #[.slice none 0 0, .int .i64 0, .slice none 0 0, .slice none 0 0, .int .i64 0, .int .i64 0] 33) := by
    rw [hw2]
    have := World.alloc_heap_new (w.alloc (.cells #[.slice none 0 0, .slice none 0 0] 26)) (.cells #[.slice none 0 0, .int .i64 0, .slice none 0 0, .slice none 0 0, .int .i64 0, .int .i64 0] 33)
    rwa [World.size_alloc] at this
  have HB2 : Aside0 (Below w.heap.size w w2) := ⟨by rw [hw2]; exact ((Below.refl _ w).alloc (Nat.le_refl _) _).alloc (by simp) _⟩
  have HK0 := Aside0.mk (fun (W' : World) (hb : Below w2.heap.size w2 W') => (hb.block _ (blk_lt b0)).trans b0)
  have HK1 := Aside0.mk (fun (W' : World) (hb : Below w2.heap.size w2 W') => (hb.block _ (blk_lt b1)).trans b1)
  clear b0 b1
  have hfin : ∀ (w7 : World) (tmps : Array Value), Below w2.heap.size w2 w7 → tmps.getD 4 undef = .pointer (some ⟨w.heap.size, 0, none⟩) → tmps.getD 5 undef = .pointer (some ⟨w.heap.size + 1, 0, none⟩) → tmps.getD 6 undef = .int .i64 1 → True := fun _ _ _ _ _ _ => trivial
  clear hfin
  by_cases c : blocks < 1
  · go_enter Tryz.func6, Tryz.ntmps6
    go_wp2_with fail
    rw [← hw2]
    clear hw2
    refine (refNew_fails blocks (.inl c) w2).mono ?_
    rintro e w3 ⟨rfl, hb3⟩
    obtain ⟨w7, hw7⟩ : ∃ w7, w7 = w3.alloc (.cells #[.slice none 0 0, .slice none 0 0] 26) := ⟨_, rfl⟩
    have hb7 : Below w2.heap.size w2 w7 := by rw [hw7]; exact hb3.alloc hb3.size _
    have z0 := HK0.out w7 hb7
    have z1 := HK1.out w7 hb7
    have Z0 := Aside0.mk z0
    have Z1 := Aside0.mk z1
    have HB7 : Aside0 (Below w.heap.size w w7) := ⟨HB2.out.trans (hb7.mono HB2.out.size)⟩
    have e0 : w7.cell? ⟨w.heap.size, 0, none⟩ = some (.slice none 0 0) := (blk_cell z0 0).trans rfl
    have e1 : w7.cell? ⟨w.heap.size, 1, none⟩ = some (.slice none 0 0) := (blk_cell z0 1).trans rfl
    have f0 : w7.frozen? ⟨w.heap.size, 0, none⟩ = false := blk_frozen z0 0
    have f1 : w7.frozen? ⟨w.heap.size, 1, none⟩ = false := blk_frozen z0 1
    obtain ⟨t0, t1, t2, t3, t4, t5⟩ := six_of z1
    have u0 : w7.frozen? ⟨w.heap.size + 1, 0, none⟩ = false := blk_frozen z1 0
    have u1 : w7.frozen? ⟨w.heap.size + 1, 1, none⟩ = false := blk_frozen z1 1
    have u2 : w7.frozen? ⟨w.heap.size + 1, 2, none⟩ = false := blk_frozen z1 2
    have u3 : w7.frozen? ⟨w.heap.size + 1, 3, none⟩ = false := blk_frozen z1 3
    have u4 : w7.frozen? ⟨w.heap.size + 1, 4, none⟩ = false := blk_frozen z1 4
    have u5 : w7.frozen? ⟨w.heap.size + 1, 5, none⟩ = false := blk_frozen z1 5
    rw [hw7] at e0 e1 f0 f1 t0 t1 t2 t3 t4 t5 u0 u1 u2 u3 u4 u5
    clear z0 z1 hb7 hb3
    have HW7 := Aside0.mk hw7
    clear hw7
    go_wp2
    rw [← HW7.out]
    obtain ⟨w9, hw9⟩ : ∃ w9, w9 = (w7.setCell ⟨w.heap.size, 0, none⟩ (.slice none 0 0)).setCell ⟨w.heap.size, 1, none⟩ (.slice none 0 0) := ⟨_, rfl⟩
    have x0 : w9.heap[w.heap.size]? = some (.cells #[.slice none 0 0, .slice none 0 0] 26) := by rw [hw9]; exact set_blk (set_blk Z0.out 0 _) 1 _
    have x1 : w9.heap[w.heap.size + 1]? = some (.cells #[.slice none 0 0, .int .i64 0, .slice none 0 0, .slice none 0 0, .int .i64 0, .int .i64 0] 33) := by
      rw [hw9, Below.heap_setCell _ _ _ _ (by simp), Below.heap_setCell _ _ _ _ (by simp)]
      exact Z1.out
    have xB : Below w.heap.size w w9 := by rw [hw9]; exact (HB7.out.setCell (p := ⟨w.heap.size, 0, none⟩) (Nat.le_refl _) _).setCell (p := ⟨w.heap.size, 1, none⟩) (Nat.le_refl _) _
    rw [← hw9]
    clear hw9
    refine bodyPost_ret (results_cct rfl _ _ w.heap.size (w.heap.size + 1) 26 33 #[.slice none 0 0, .slice none 0 0] #[.slice none 0 0, .int .i64 0, .slice none 0 0, .slice none 0 0, .int .i64 0, .int .i64 0] (0, 0) (0, 0) _ _ rfl ?z2 Tryz.underlying26 rfl (by kernel_rfl) rfl ?z3 Tryz.underlying33 rfl (by kernel_rfl)) rfl ?_
    case z2 =>
      rw [set6_other _ _ _ _ _ _ _ _ _ (by omega)]
      exact x0
    case z3 => exact set6_blk x1
    exact ⟨rfl, set6_below xB (by omega) _ _ _ _ _ _⟩
  · obtain ⟨n, rfl⟩ : ∃ n : Nat, blocks = n := ⟨blocks.toNat, by omega⟩
    have hST : ∀ W : World, Calls Tryz.prog 19 #[.int .i64 (cellsM n), .int .i64 keep] W fun e w' => e = .returned (.tuple #[stV none 0 0 0 0 0, .int .i64 1]) ∧ Below W.heap.size W w' := fun W => by
      refine (refStateNew_any (cellsM n) keep [] 0 1 (refHeapNew_bad (by omega)) (by simp) W).mono fun e w' ⟨h1, h2⟩ => ⟨?_, h2⟩
      rcases h1 with ⟨_, h3⟩ | ⟨h3, _⟩
      · exact h3
      · cases h3
    have hCL : ∀ W : World, Calls Tryz.prog 10 #[.int .i64 (n : Int)] W fun e w' => e = .returned (.int .i64 (cellsM n)) ∧ Drawn0 W w' := fun W =>
      assartref14_Cells.calls 3001 n _ W (refCells n)
    have HST := Aside0.mk hST
    have HCL := Aside0.mk hCL
    clear hST hCL
    go_enter Tryz.func6, Tryz.ntmps6
    go_wp2_with fail
    rw [← hw2]
    clear hw2
    refine (refNew_calls n (by omega) (by omega) w2).mono ?_
    rintro e w3 ⟨v3, rfl, ho3, hb3⟩
    obtain ⟨A3, c3, rfl⟩ := Kd.R_slice ho3
    clear ho3
    go_wp2_with fail
    refine (HCL.out _).mono ?_
    rintro e w4 ⟨rfl, ⟨nd4, hw4⟩⟩
    have hb24 : Below w2.heap.size w2 w4 := by rw [hw4]; exact pw_below_drewN (hb3.alloc hb3.size _) nd4
    clear hw4 hb3
    go_wp2_with fail
    refine (HST.out _).mono ?_
    rintro e w5 ⟨rfl, hb5⟩
    have hb25 : Below w2.heap.size w2 w5 := below_then hb24 hb24.size hb5
    clear hb24 hb5
    obtain ⟨w7, hw7⟩ : ∃ w7, w7 = w5.alloc (.cells #[.slice none 0 0, .int .i64 0, .slice none 0 0, .slice none 0 0, .int .i64 0, .int .i64 0] 33) := ⟨_, rfl⟩
    have hb7 : Below w2.heap.size w2 w7 := by rw [hw7]; exact hb25.alloc hb25.size _
    have z0 := HK0.out w7 hb7
    have z1 := HK1.out w7 hb7
    have Z0 := Aside0.mk z0
    have Z1 := Aside0.mk z1
    have HB7 : Aside0 (Below w.heap.size w w7) := ⟨HB2.out.trans (hb7.mono HB2.out.size)⟩
    have e0 : w7.cell? ⟨w.heap.size, 0, none⟩ = some (.slice none 0 0) := (blk_cell z0 0).trans rfl
    have e1 : w7.cell? ⟨w.heap.size, 1, none⟩ = some (.slice none 0 0) := (blk_cell z0 1).trans rfl
    have f0 : w7.frozen? ⟨w.heap.size, 0, none⟩ = false := blk_frozen z0 0
    have f1 : w7.frozen? ⟨w.heap.size, 1, none⟩ = false := blk_frozen z0 1
    obtain ⟨t0, t1, t2, t3, t4, t5⟩ := six_of z1
    have u0 : w7.frozen? ⟨w.heap.size + 1, 0, none⟩ = false := blk_frozen z1 0
    have u1 : w7.frozen? ⟨w.heap.size + 1, 1, none⟩ = false := blk_frozen z1 1
    have u2 : w7.frozen? ⟨w.heap.size + 1, 2, none⟩ = false := blk_frozen z1 2
    have u3 : w7.frozen? ⟨w.heap.size + 1, 3, none⟩ = false := blk_frozen z1 3
    have u4 : w7.frozen? ⟨w.heap.size + 1, 4, none⟩ = false := blk_frozen z1 4
    have u5 : w7.frozen? ⟨w.heap.size + 1, 5, none⟩ = false := blk_frozen z1 5
    rw [hw7] at e0 e1 f0 f1 t0 t1 t2 t3 t4 t5 u0 u1 u2 u3 u4 u5
    clear z0 z1 hb7 hb25
    have HW7 := Aside0.mk hw7
    clear hw7
    go_wp2
    rw [← HW7.out]
    obtain ⟨w9, hw9⟩ : ∃ w9, w9 = (w7.setCell ⟨w.heap.size, 0, none⟩ (.slice none 0 0)).setCell ⟨w.heap.size, 1, none⟩ (.slice none 0 0) := ⟨_, rfl⟩
    have x0 : w9.heap[w.heap.size]? = some (.cells #[.slice none 0 0, .slice none 0 0] 26) := by rw [hw9]; exact set_blk (set_blk Z0.out 0 _) 1 _
    have x1 : w9.heap[w.heap.size + 1]? = some (.cells #[.slice none 0 0, .int .i64 0, .slice none 0 0, .slice none 0 0, .int .i64 0, .int .i64 0] 33) := by
      rw [hw9, Below.heap_setCell _ _ _ _ (by simp), Below.heap_setCell _ _ _ _ (by simp)]
      exact Z1.out
    have xB : Below w.heap.size w w9 := by rw [hw9]; exact (HB7.out.setCell (p := ⟨w.heap.size, 0, none⟩) (Nat.le_refl _) _).setCell (p := ⟨w.heap.size, 1, none⟩) (Nat.le_refl _) _
    rw [← hw9]
    clear hw9
    refine bodyPost_ret (results_cct rfl _ _ w.heap.size (w.heap.size + 1) 26 33 #[.slice none 0 0, .slice none 0 0] #[.slice none 0 0, .int .i64 0, .slice none 0 0, .slice none 0 0, .int .i64 0, .int .i64 0] (0, 0) (0, 0) _ _ rfl ?z2 Tryz.underlying26 rfl (by kernel_rfl) rfl ?z3 Tryz.underlying33 rfl (by kernel_rfl)) rfl ?_
    case z2 =>
      rw [set6_other _ _ _ _ _ _ _ _ _ (by omega)]
      exact x0
    case z3 => exact set6_blk x1
    exact ⟨rfl, set6_below xB (by omega) _ _ _ _ _ _⟩
end Go.Proofs.YtfolgjigfdbnoaaGreat.M
