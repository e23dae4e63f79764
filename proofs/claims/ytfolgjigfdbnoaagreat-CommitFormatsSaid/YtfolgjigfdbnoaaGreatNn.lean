/-
  Contract of the statement's example.
-/
import Derived.Test.YtfolgjigfdbnoaaGreatNm
import Derived.Test.YtfolgjigfdbnoaaGreatNi
namespace Go.Proofs.YtfolgjigfdbnoaaGreat.M
open Go.RowKit Go.Shelf Go.Proofs.YtfolgjigfdbnoaaGreatW.PrintWords Go.Proofs.YtfolgjigfdbnoaaGreatW.PrintLast Go.Proofs.YtfolgjigfdbnoaaGreatW.PrintMore
open PCommitFormats
set_option linter.unusedVariables false
set_option linter.unusedSimpArgs false

/-- What a call hands back that is told its disk, its state and its error. -/
def tells (w : World) (nw gen err : Int) (e : Ending) (w' : World) : Prop :=
  ∃ (A1 : Option Addr) (c1 : Nat) (Aw : Option Addr) (lw cw : Nat) (A2 : Option Addr) (c2 : Nat), (lw : Int) = nw ∧ e = .returned (.tuple #[.agg #[.slice A1 135 c1, .slice Aw lw cw], stV A2 45 c2 2 1 gen, .int .i64 err]) ∧ Kd.C k75 w' A2 45 (blank 45) ∧ Below w.heap.size w w'

theorem fmt45 (w : World) : Calls Tryz.prog 5 #[.int .i64 135, .int .i64 2] w fun e w' => ∃ (A1 : Option Addr) (c1 : Nat) (A2 : Option Addr) (c2 : Nat), e = .returned (.tuple #[.agg #[.slice A1 135 c1, .slice none 0 0], stV A2 45 c2 2 1 1, .int .i64 0]) ∧ 135 ≤ c1 ∧ 45 ≤ c2 ∧ Kd.C Kd.string w' A1 135 (diskF 135 45 2) ∧ (∀ ad, A1 = some ad → ad.block < w'.heap.size) ∧ Kd.C k75 w' A2 45 (blank 45) ∧ (∀ ad, A2 = some ad → ad.block < w'.heap.size) ∧ Below w.heap.size w w' := by
  refine (format_good 135 45 2 w (by decide) (by decide) cells135' (by decide) (by decide) (by decide)).mono ?_
  rintro e w' ⟨A1, c1, A2, c2, he, h1, h2, h3, h4, h5, h6, h7⟩
  rw [diskF_length] at he h1 h3
  exact ⟨A1, c1, A2, c2, he, h1, h2, h3, h4, h5, h6, h7⟩
theorem fits45 : larea (45 : Nat) (1 + 1) + chunksN (11 + 2 * 45) ≤ ((135 : Nat) : Int) := by decide +kernel
theorem many45 (AB : Option Addr) (cB : Nat) (A : Option Addr) (c : Nat) (w : World) (hB : Kd.C Kd.string w AB 135 (diskF 135 45 2)) (hcB : 135 ≤ cB) (hA : Kd.C k75 w A 45 (blank 45)) :
    Calls Tryz.prog 11 #[.agg #[.slice AB 135 cB, .slice none 0 0], stV A 45 c 2 1 1] w fun e w' => e = .returned (.tuple #[.int .i64 4, .int .i64 0]) ∧ Below w.heap.size w w' := by
  have hl := diskF_length 135 45 2
  have h := many_calls AB cB (diskF 135 45 2) A 45 c 2 1 1 w (by rw [hl]; exact hB) (by rw [hl]; exact hcB) (by rw [hl]; decide) hA (by decide) (by rw [hl]; exact cells135') (by decide) (by decide) (by decide) (by decide) (by decide) (by decide) (by rw [hl]; exact fits45)
  rw [hl, plan45_len] at h
  exact h
theorem stopped45 (AB : Option Addr) (cB : Nat) (A : Option Addr) (c : Nat) (w : World) (hB : Kd.C Kd.string w AB 135 (diskF 135 45 2)) (hAB : ∀ ad, AB = some ad → ad.block < w.heap.size) (hcB : 135 ≤ cB) (hA : Kd.C k75 w A 45 (blank 45)) (hAl : ∀ ad, A = some ad → ad.block < w.heap.size) (hcn : 45 ≤ c) :
    Calls Tryz.prog 12 #[.agg #[.slice AB 135 cB, .slice none 0 0], stV A 45 c 2 1 1, .int .i64 1] w (tells w 1 1 8) := by
  have hl := diskF_length 135 45 2
  refine (commitDo' 135 AB cB (diskF 135 45 2) hl A 45 c 2 1 1 1 w hB hAB hcB (by decide) (by decide) hA hAl hcn (by decide) (by decide) cells135' (by decide) (by decide) (by decide) (by decide) (by decide) (by decide) fits45).mono ?_
  rintro e w' ⟨A1, c1, v2, A2, c2, he, hc1, hc2, hC1, hA1, ⟨bs, ok, hR⟩, hvn, hC2, hA2, hb⟩
  obtain ⟨h1, h2⟩ := stop45
  obtain ⟨Aw, cw, rfl⟩ := Kd.R_slice hR
  rw [h1, plan45_len, if_neg (by decide), if_neg (by decide), h2, hl] at he
  exact ⟨A1, c1, Aw, 1, cw, A2, c2, rfl, he, hC2, hb⟩
theorem done45 (AB : Option Addr) (cB : Nat) (A : Option Addr) (c : Nat) (w : World) (hB : Kd.C Kd.string w AB 135 (diskF 135 45 2)) (hAB : ∀ ad, AB = some ad → ad.block < w.heap.size) (hcB : 135 ≤ cB) (hA : Kd.C k75 w A 45 (blank 45)) (hAl : ∀ ad, A = some ad → ad.block < w.heap.size) (hcn : 45 ≤ c) :
    Calls Tryz.prog 12 #[.agg #[.slice AB 135 cB, .slice none 0 0], stV A 45 c 2 1 1, .int .i64 (-1)] w (tells w 0 2 0) := by
  have hl := diskF_length 135 45 2
  refine (commitRun 135 AB cB (diskF 135 45 2) hl A 45 c 2 1 1 (-1) w (by decide) hB hAB hcB (by decide) (by decide) hA hAl hcn (by decide) (by decide) cells135' (by decide) (by decide) (by decide) (by decide) (by decide) (by decide) fits45).mono ?_
  rintro e w' ⟨A1, c1, A2, c2, he, _, _, _, _, hC2, _, hb⟩
  rw [(doS_steps (-1) (by decide) _ _ _ 0 (by decide)).2, hl] at he
  exact ⟨A1, c1, none, 0, 0, A2, c2, rfl, he, hC2, hb⟩

set_option maxRecDepth 100000 in
set_option maxHeartbeats 4000000 in
theorem shown_calls (w : World) : Calls Tryz.prog 4 #[] w fun e w' => e = .returned (.bool true) ∧ Below w.heap.size w w' := by
  have hu26 := Tryz.underlying26
  have hu29 := Tryz.underlying29
  have hu33 := Tryz.underlying33
  go_enter Tryz.func4, Tryz.ntmps4
  go_wp2_with fail
  refine (fmt45 w).mono ?_
  rintro e w1 ⟨A1, c1, A2, c2, rfl, hc1, hc2, hC1, hA1, hC2, hA2, hb1⟩
  obtain ⟨w2, hw2⟩ : ∃ w2, w2 = (w1.alloc (.cells #[.slice A1 135 c1, .slice none 0 0] 26)).alloc (.cells #[.slice A2 45 c2, .int .i64 2, .slice none 0 0, .slice none 0 0, .int .i64 1, .int .i64 1] 33) := ⟨_, rfl⟩
  have hs2 : w2.heap.size = w1.heap.size + 2 := by rw [hw2]; simp
  have b0 : w2.heap[w1.heap.size]? = some (.cells #[.slice A1 135 c1, .slice none 0 0] 26) := by rw [hw2, Below.heap_alloc _ _ _ (by simp)]; exact World.alloc_heap_new _ _
  have b1 : w2.heap[w1.heap.size + 1]? = some (.cells #[.slice A2 45 c2, .int .i64 2, .slice none 0 0, .slice none 0 0, .int .i64 1, .int .i64 1] 33) := by
    rw [hw2]
    have := World.alloc_heap_new (w1.alloc (.cells #[.slice A1 135 c1, .slice none 0 0] 26)) (.cells #[.slice A2 45 c2, .int .i64 2, .slice none 0 0, .slice none 0 0, .int .i64 1, .int .i64 1] 33)
    rwa [World.size_alloc] at this
  have hb12 : Below w1.heap.size w1 w2 := by rw [hw2]; exact ((Below.refl _ w1).alloc (Nat.le_refl _) _).alloc (by simp) _
  have HB2 : Aside0 (Below w.heap.size w w2) := ⟨hb1.trans (hb12.mono hb1.size)⟩
  have HK0 := Aside0.mk (fun (W : World) (h : Below w2.heap.size w2 W) => (h.block _ (blk_lt b0)).trans b0)
  have HK1 := Aside0.mk (fun (W : World) (h : Below w2.heap.size w2 W) => (h.block _ (blk_lt b1)).trans b1)
  have HC1 := Aside0.mk (Kd.C_below hC1 hb12)
  have HC2 := Aside0.mk (Kd.C_below hC2 hb12)
  have HA1 : Aside0 (∀ ad, A1 = some ad → ad.block < w2.heap.size) := ⟨fun ad e => by have := hA1 ad e; omega⟩
  have HA2 : Aside0 (∀ ad, A2 = some ad → ad.block < w2.heap.size) := ⟨fun ad e => by have := hA2 ad e; omega⟩
  clear b0 b1 hb12 hb1 hC1 hC2 hA1 hA2
  go_wp2_with fail
  rw [← hw2]
  clear hw2
  refine (many45 A1 c1 A2 c2 w2 HC1.out hc1 HC2.out).mono ?_
  rintro e w3 ⟨rfl, hb3⟩
  have p0 : w3.cell? ⟨w1.heap.size, 0, none⟩ = some (.slice A1 135 c1) := (blk_cell (HK0.out w3 hb3) 0).trans rfl
  have p1 : w3.cell? ⟨w1.heap.size, 1, none⟩ = some (.slice none 0 0) := (blk_cell (HK0.out w3 hb3) 1).trans rfl
  obtain ⟨q0, q1, q2, q3, q4, q5⟩ := six_of (HK1.out w3 hb3)
  have HB3 := Aside0.mk hb3
  clear hb3
  go_wp2_with fail
  refine (stopped45 A1 c1 A2 c2 w3 (Kd.C_below HC1.out HB3.out) (fun ad e => Nat.lt_of_lt_of_le (HA1.out ad e) HB3.out.size) hc1 (Kd.C_below HC2.out HB3.out) (fun ad e => Nat.lt_of_lt_of_le (HA2.out ad e) HB3.out.size) hc2).mono ?_
  rintro e w4 ⟨A3, c3, Aw, lw, cw, A4, c4, hlw, rfl, hC4, hb4⟩
  obtain rfl : lw = 1 := by omega
  clear hlw p0 p1 q0 q1 q2 q3 q4 q5
  have hb24 : Below w2.heap.size w2 w4 := HB3.out.trans (hb4.mono HB3.out.size)
  obtain ⟨w5, hw5⟩ : ∃ w5, w5 = (w4.alloc (.cells #[.slice A3 135 c3, .slice Aw 1 cw] 26)).alloc (.cells #[.slice A4 45 c4, .int .i64 2, .slice none 0 0, .slice none 0 0, .int .i64 1, .int .i64 1] 33) := ⟨_, rfl⟩
  have hs5 : w5.heap.size = w4.heap.size + 2 := by rw [hw5]; simp
  have b0 : w5.heap[w4.heap.size]? = some (.cells #[.slice A3 135 c3, .slice Aw 1 cw] 26) := by rw [hw5, Below.heap_alloc _ _ _ (by simp)]; exact World.alloc_heap_new _ _
  have b1 : w5.heap[w4.heap.size + 1]? = some (.cells #[.slice A4 45 c4, .int .i64 2, .slice none 0 0, .slice none 0 0, .int .i64 1, .int .i64 1] 33) := by
    rw [hw5]
    have := World.alloc_heap_new (w4.alloc (.cells #[.slice A3 135 c3, .slice Aw 1 cw] 26)) (.cells #[.slice A4 45 c4, .int .i64 2, .slice none 0 0, .slice none 0 0, .int .i64 1, .int .i64 1] 33)
    rwa [World.size_alloc] at this
  have hb45 : Below w4.heap.size w4 w5 := by rw [hw5]; exact ((Below.refl _ w4).alloc (Nat.le_refl _) _).alloc (by simp) _
  have hb25 : Below w2.heap.size w2 w5 := hb24.trans (hb45.mono hb24.size)
  have HK2 := Aside0.mk (fun (W : World) (h : Below w5.heap.size w5 W) => (h.block _ (blk_lt b0)).trans b0)
  have HK3 := Aside0.mk (fun (W : World) (h : Below w5.heap.size w5 W) => (h.block _ (blk_lt b1)).trans b1)
  have HB5 := Aside0.mk hb25
  have p0 : w5.cell? ⟨w1.heap.size, 0, none⟩ = some (.slice A1 135 c1) := (blk_cell (HK0.out w5 hb25) 0).trans rfl
  have p1 : w5.cell? ⟨w1.heap.size, 1, none⟩ = some (.slice none 0 0) := (blk_cell (HK0.out w5 hb25) 1).trans rfl
  obtain ⟨q0, q1, q2, q3, q4, q5⟩ := six_of (HK1.out w5 hb25)
  rw [hw5] at p0 p1 q0 q1 q2 q3 q4 q5
  have HW5 := Aside0.mk hw5
  clear hw5 b0 b1 hb24 hb45 hb25 hb4 hC4
  go_wp2_with fail
  rw [← HW5.out]
  refine (done45 A1 c1 A2 c2 w5 (Kd.C_below HC1.out HB5.out) (fun ad e => Nat.lt_of_lt_of_le (HA1.out ad e) HB5.out.size) hc1 (Kd.C_below HC2.out HB5.out) (fun ad e => Nat.lt_of_lt_of_le (HA2.out ad e) HB5.out.size) hc2).mono ?_
  rintro e w6 ⟨A5, c5, Aw2, lw2, cw2, A6, c6, hlw2, rfl, hC6, hb6⟩
  obtain rfl : lw2 = 0 := by omega
  clear hlw2 p0 p1 q0 q1 q2 q3 q4 q5
  have hb26 : Below w2.heap.size w2 w6 := HB5.out.trans (hb6.mono HB5.out.size)
  obtain ⟨w7, hw7⟩ : ∃ w7, w7 = (w6.alloc (.cells #[.slice A5 135 c5, .slice Aw2 0 cw2] 26)).alloc (.cells #[.slice A6 45 c6, .int .i64 2, .slice none 0 0, .slice none 0 0, .int .i64 1, .int .i64 2] 33) := ⟨_, rfl⟩
  have hs7 : w7.heap.size = w6.heap.size + 2 := by rw [hw7]; simp
  have b0 : w7.heap[w6.heap.size]? = some (.cells #[.slice A5 135 c5, .slice Aw2 0 cw2] 26) := by rw [hw7, Below.heap_alloc _ _ _ (by simp)]; exact World.alloc_heap_new _ _
  have b1 : w7.heap[w6.heap.size + 1]? = some (.cells #[.slice A6 45 c6, .int .i64 2, .slice none 0 0, .slice none 0 0, .int .i64 1, .int .i64 2] 33) := by
    rw [hw7]
    have := World.alloc_heap_new (w6.alloc (.cells #[.slice A5 135 c5, .slice Aw2 0 cw2] 26)) (.cells #[.slice A6 45 c6, .int .i64 2, .slice none 0 0, .slice none 0 0, .int .i64 1, .int .i64 2] 33)
    rwa [World.size_alloc] at this
  have hb67 : Below w6.heap.size w6 w7 := by rw [hw7]; exact ((Below.refl _ w6).alloc (Nat.le_refl _) _).alloc (by simp) _
  have hb57 : Below w5.heap.size w5 w7 := hb6.trans (hb67.mono hb6.size)
  have hb27 : Below w2.heap.size w2 w7 := hb26.trans (hb67.mono hb26.size)
  have HB7 : Aside0 (Below w.heap.size w w7) := ⟨HB2.out.trans (hb27.mono HB2.out.size)⟩
  have p0 : w7.cell? ⟨w1.heap.size, 0, none⟩ = some (.slice A1 135 c1) := (blk_cell (HK0.out w7 hb27) 0).trans rfl
  have p1 : w7.cell? ⟨w1.heap.size, 1, none⟩ = some (.slice none 0 0) := (blk_cell (HK0.out w7 hb27) 1).trans rfl
  obtain ⟨q0, q1, q2, q3, q4, q5⟩ := six_of (HK1.out w7 hb27)
  have r1 : w7.cell? ⟨w4.heap.size, 1, none⟩ = some (.slice Aw 1 cw) := (blk_cell (HK2.out w7 hb57) 1).trans rfl
  obtain ⟨_, _, _, _, _, s5⟩ := six_of (HK3.out w7 hb57)
  have t1 : w7.cell? ⟨w6.heap.size, 1, none⟩ = some (.slice Aw2 0 cw2) := (blk_cell b0 1).trans rfl
  obtain ⟨u0, u1, u2, u3, u4, u5⟩ := six_of b1
  have HF := Aside0.mk (follows_calls A2 45 c2 2 1 1 A6 c6 2 1 2 w7 (Kd.C_below HC2.out hb27) (Kd.C_below hC6 hb67) (by decide))
  rw [hw7] at p0 p1 q0 q1 q2 q3 q4 q5 r1 s5 t1 u0 u1 u2 u3 u4 u5
  have HW7 := Aside0.mk hw7
  clear hw7 b0 b1 hb26 hb67 hb57 hb27 hb6 hC6
  go_wp2_with fail
  rw [← HW7.out]
  refine HF.out.mono ?_
  rintro e w8 ⟨rfl, hb8⟩
  have HB8 : Aside0 (Below w.heap.size w w8) := ⟨HB7.out.trans (hb8.mono HB7.out.size)⟩
  clear hb8 p0 p1 q0 q1 q2 q3 q4 q5 r1 s5 t1 u0 u1 u2 u3 u4 u5
  go_wp2
  go_ret
  exact ⟨rfl, HB8.out⟩
end Go.Proofs.YtfolgjigfdbnoaaGreat.M
