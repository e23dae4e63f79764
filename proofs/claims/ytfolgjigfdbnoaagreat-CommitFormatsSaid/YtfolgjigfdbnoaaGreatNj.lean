/-
  Contract of assartref15.Do of a blank state, where it isn't stopped.
-/
import Derived.Test.YtfolgjigfdbnoaaGreatNi
namespace Go.Proofs.YtfolgjigfdbnoaaGreat.M
open Go.RowKit Go.Shelf Go.Proofs.YtfolgjigfdbnoaaGreatW.PrintWords Go.Proofs.YtfolgjigfdbnoaaGreatW.PrintLast Go.Proofs.YtfolgjigfdbnoaaGreatW.PrintMore
open PCommitFormats
set_option linter.unusedVariables false
set_option linter.unusedSimpArgs false

theorem c75_kept {w W : World} {A : Option Addr} {n m : Nat} {S : Nat → Prop} (h : Kd.C k75 w A n (blank m)) (hk : Kept w W S) (hA : ∀ ad, A = some ad → ¬ S ad.block) : Kd.C k75 W A n (blank m) := by
  refine ⟨h.1, h.2.1, fun h0 => ?_⟩
  obtain ⟨ad, e, hc⟩ := h.2.2 h0
  refine ⟨ad, e, fun j p hj => ?_⟩
  obtain ⟨c, h1, h2, h3⟩ := hc j p hj
  have hp : p = z75 := by
    have := hj
    simp [blank, List.getElem?_replicate] at this
    exact this.2.symm
  subst hp
  refine ⟨c, h1, ?_, fun i' u' hi => ?_⟩
  · obtain ⟨A3, c3, e2, hc2, _⟩ := k75_open h2
    rw [e2]
    exact k75_mk _ z75 hc2 ⟨rfl, by show (0 : Nat) ≤ _; omega, fun h0 => absurd h0 (by show ¬ 0 < 0; omega)⟩
  · have h4 := h3 i' u' hi
    have hlt := cell_lt h4
    rw [World.cell?_of_block (hk.2 _ hlt (by show ¬ S ((ad.add _).block); rw [addb]; exact hA ad e))]
    exact h4

set_option maxRecDepth 100000 in
set_option maxHeartbeats 4000000 in
theorem refDo15_calls (w0 w : World) (hB0 : Below w0.heap.size w0 w) (AB : Option Addr) (cB : Nat) (B : List ByteArray) (A : Option Addr) (n c : Nat) (keep next gen stop : Int) (hstop : stop < 0)
    (hR0 : Kd.R Kd.string 9 w w0.heap.size (fun _ => True) (.slice AB B.length cB) B) (hBl : B.length ≤ 4000) (hB2 : 2 ≤ B.length) (hA : Kd.C k75 w A n (blank n)) (hne : ∀ ad ad', A = some ad → AB = some ad' → ad.block ≠ ad'.block) (hAl : ∀ ad, A = some ad → ad.block < w.heap.size) (hcn : n ≤ c)
    (hn : n ≤ 2000) (hcell : cellsM B.length = n) (hk0 : 0 ≤ keep) (hk1 : keep ≤ 65535) (hx0 : 0 ≤ next) (hx1 : next ≤ 4294967295) (hg0 : 0 ≤ gen) (hg1 : gen ≤ 1000)
    (hat : larea n (gen + 1) + chunksN (bookL n keep next).length ≤ B.length) :
    Calls Tryz.prog 20 #[.agg #[.slice AB B.length cB, .slice none 0 0], stV A n c keep next gen, .int .i64 stop] w fun e w' => ∃ A1 c1 A2 c2, e = .returned (.tuple #[.agg #[.slice A1 B.length c1, .slice A2 0 c2], stV A n c keep next (gen + 1), .int .i64 0]) ∧ B.length ≤ c1 ∧ Kd.C Kd.string w' A1 B.length (doS stop (planL B n keep next gen) B [] 0).1 ∧ Kd.C k75 w' A n (blank n) ∧ Below w0.heap.size w0 w' := by
  have hu26 := Tryz.underlying26
  have hu29 := Tryz.underlying29
  have hu33 := Tryz.underlying33
  have hPL := fun (W : World) (h : Below w.heap.size w W) => refPlan_calls AB cB B A n c keep next gen W (Kd.C_below (R_C hR0) h) (Kd.R_reads' hR0).2.1 hBl (Kd.C_below hA h) hn hcell hk0 hk1 hx0 hx1 hg0 hg1 hat
  obtain ⟨L, hL⟩ : ∃ L, L = planL B n keep next gen := ⟨_, rfl⟩
  have hLl : L.length ≤ 1000 := by rw [hL]; exact planL_length B n keep next gen hn
  have hLo : ∀ s ∈ L, okW B.length s := by rw [hL]; exact planL_ok B n keep next gen hB2 hg0 hat
  have hdn : (doS stop L B [] 0).2.1 = [] := by rw [hL]; exact planL_done stop hstop B n keep next gen
  obtain ⟨hs1, hs2⟩ := doS_steps stop hstop L B [] 0 (by omega)
  rw [Int.zero_add] at hs1
  rw [← hL] at hPL ⊢
  have HPL := Aside0.mk hPL
  have HDN := Aside0.mk hdn
  have HS1 := Aside0.mk hs1
  have HS2 := Aside0.mk hs2
  have HLO := Aside0.mk hLo
  have HNE := Aside0.mk hne
  clear hL hPL hdn hs1 hs2 hLo hat hcell hne
  have HR0 := Aside0.mk hR0
  have HA := Aside0.mk hA
  have HB0 := Aside0.mk hB0
  have HABl : Aside0 (∀ ad, AB = some ad → ad.block < w.heap.size) := ⟨fun ad e => by subst e; obtain ⟨cs, h⟩ := r_typed hR0; exact blk_lt h⟩
  clear hR0 hA hB0
  go_enter Tryz.func20, Tryz.ntmps20
  obtain ⟨w4, hw4⟩ : ∃ w4, w4 = (((w.alloc (.cells #[.slice AB B.length cB, .slice none 0 0] 26)).alloc (.cells #[.slice A n c, .int .i64 keep, .slice none 0 0, .slice none 0 0, .int .i64 next, .int .i64 gen] 33)).alloc (.cells #[.slice none 0 0, .slice none 0 0] 26)).alloc (.cells #[.slice none 0 0, .int .i64 0, .slice none 0 0, .slice none 0 0, .int .i64 0, .int .i64 0] 33) := ⟨_, rfl⟩
  obtain ⟨b0, b1, b2, b3, hs4, hb4⟩ := alloc4 w (.cells #[.slice AB B.length cB, .slice none 0 0] 26) (.cells #[.slice A n c, .int .i64 keep, .slice none 0 0, .slice none 0 0, .int .i64 next, .int .i64 gen] 33) (.cells #[.slice none 0 0, .slice none 0 0] 26) (.cells #[.slice none 0 0, .int .i64 0, .slice none 0 0, .slice none 0 0, .int .i64 0, .int .i64 0] 33)
  rw [← hw4] at b0 b1 b2 b3 hs4 hb4
  have B0 := Aside0.mk b0
  have B1 := Aside0.mk b1
  have B2 := Aside0.mk b2
  have B3 := Aside0.mk b3
  have HS4 := Aside0.mk hs4
  have HB4 := Aside0.mk hb4
  clear b0 b1 b2 b3 hs4 hb4
  go_wp2_with fail
  rw [← hw4]
  clear hw4
  refine (HPL.out w4 HB4.out).mono ?_
  rintro e w5 ⟨v5, rfl, hR5, hb5⟩
  obtain ⟨Al, cl, rfl⟩ := Kd.R_slice hR5
  have hbw5 : Below w.heap.size w w5 := below_then HB4.out HB4.out.size hb5
  have y0 := (hb5.block _ (blk_lt B0.out)).trans B0.out
  have y1 := (hb5.block _ (blk_lt B1.out)).trans B1.out
  have y2 := (hb5.block _ (blk_lt B2.out)).trans B2.out
  have y3 := (hb5.block _ (blk_lt B3.out)).trans B3.out
  have HS5 : Aside0 (w.heap.size + 4 ≤ w5.heap.size) := ⟨by have := hb5.size; have := HS4.out; omega⟩
  have c0 : w5.cell? ⟨w.heap.size, 0, none⟩ = some (.slice AB B.length cB) := (blk_cell y0 0).trans rfl
  have c1 : w5.cell? ⟨w.heap.size, 1, none⟩ = some (.slice none 0 0) := (blk_cell y0 1).trans rfl
  have hB05 : Below w0.heap.size w0 w5 := HB0.out.trans (hbw5.mono HB0.out.size)
  have hdo := refDo_calls w0 w5 hB05 AB cB B Al cl L stop hstop w4.heap.size (fun _ => True) (Kd.R_below HR0.out hbw5) hBl hR5 (by omega) HLO.out
  have HDO := Aside0.mk hdo
  have Y1 := Aside0.mk y1
  have Y2 := Aside0.mk y2
  have Y3 := Aside0.mk y3
  have HBW5 := Aside0.mk hbw5
  have HL5 := Aside0.mk (Kd.R_reads' hR5).2.2
  clear y0 y1 y2 y3 hbw5 hB05 hdo hR5 hb5 B0 B1 B2 B3 HPL
  go_wp2_with fail
  refine HDO.out.mono ?_
  rintro e w6 ⟨v6, v7, rfl, ho6, ho7, hb6, hk6⟩
  clear HDO c0 c1
  rw [HDN.out] at ho7
  rw [HS1.out]
  obtain ⟨A6, c6, rfl⟩ := Kd.R_slice ho6
  obtain ⟨A7, c7, rfl⟩ := Kd.R_slice ho7
  rw [HS2.out] at ho6 ⊢
  have HC6 : Aside0 (Kd.C Kd.string w6 A6 B.length (doS stop L B [] 0).1) := ⟨R_C ho6⟩
  have hc6 : B.length ≤ c6 := (Kd.R_reads' ho6).2.1
  have hnk : ∀ k, w.heap.size ≤ k → ¬ (∃ ad, AB = some ad ∧ k = ad.block) := fun k hk ⟨ad, e, h⟩ => by have := HABl.out ad e; omega
  have hs5 := HS5.out
  have z1 := (hk6.2 _ (by omega) (hnk _ (by omega))).trans Y1.out
  have z2 := (hk6.2 _ (by omega) (hnk _ (by omega))).trans Y2.out
  have z3 := (hk6.2 _ (by omega) (hnk _ (by omega))).trans Y3.out
  have HCA : Aside0 (Kd.C k75 w6 A n (blank n)) := ⟨c75_kept (Kd.C_below HA.out HBW5.out) hk6 (fun ad e ⟨ad', e', h⟩ => HNE.out ad ad' e e' h)⟩
  have hz6 : w5.heap.size ≤ w6.heap.size := hk6.1
  obtain ⟨w7, hw7⟩ : ∃ w7, w7 = w6.alloc (.cells #[.slice A6 B.length c6, .slice A7 0 c7] 26) := ⟨_, rfl⟩
  have hb67 : Below w6.heap.size w6 w7 := by rw [hw7]; exact (Below.refl _ w6).alloc (Nat.le_refl _) _
  have zd : w7.heap[w6.heap.size]? = some (.cells #[.slice A6 B.length c6, .slice A7 0 c7] 26) := by rw [hw7]; exact World.alloc_heap_new w6 _
  have Z1 := Aside0.mk ((hb67.block _ (blk_lt z1)).trans z1)
  have Z2 := Aside0.mk ((hb67.block _ (blk_lt z2)).trans z2)
  have Z3 := Aside0.mk ((hb67.block _ (blk_lt z3)).trans z3)
  have ZD := Aside0.mk zd
  have HB7 : Aside0 (Below w0.heap.size w0 w7) := ⟨hb6.trans (hb67.mono hb6.size)⟩
  have HC7 := Aside0.mk (Kd.C_below HC6.out hb67)
  have HA7 := Aside0.mk (Kd.C_below HCA.out hb67)
  clear z1 z2 z3 zd hb67 ho6 ho7 hb6 hk6 hnk
  go_wp2_with fail
  rw [← hw7]
  clear hw7
  have HKK : Aside0 (∀ W' : World, (∀ k, k ≠ w.heap.size + 1 + 1 → k ≠ w.heap.size + 1 + 1 + 1 → k < w7.heap.size → W'.heap[k]? = w7.heap[k]?) → W'.cell? ⟨w6.heap.size, 0, none⟩ = some (.slice A6 B.length c6) ∧ W'.cell? ⟨w6.heap.size, 1, none⟩ = some (.slice A7 0 c7) ∧ W'.cell? ⟨w.heap.size + 1, 0, none⟩ = some (.slice A n c) ∧ W'.cell? ⟨w.heap.size + 1, 1, none⟩ = some (.int .i64 keep) ∧ W'.cell? ⟨w.heap.size + 1, 2, none⟩ = some (.slice none 0 0) ∧ W'.cell? ⟨w.heap.size + 1, 3, none⟩ = some (.slice none 0 0) ∧ W'.cell? ⟨w.heap.size + 1, 4, none⟩ = some (.int .i64 next) ∧ W'.cell? ⟨w.heap.size + 1, 5, none⟩ = some (.int .i64 gen)) := ⟨fun W' hb => by
    have l1 := blk_lt Z1.out
    have ld := blk_lt ZD.out
    have h1 := (hb _ (by omega) (by omega) l1).trans Z1.out
    have hd := (hb _ (by omega) (by omega) ld).trans ZD.out
    exact ⟨(blk_cell hd 0).trans rfl, (blk_cell hd 1).trans rfl, six_of h1⟩⟩
  have hA6 : ∀ ad, A = some ad → ad.block ≠ w.heap.size + 1 + 1 := fun ad e => by have := hAl ad e; omega
  have HA6 := Aside0.mk hA6
  have HAL := Aside0.mk hAl
  clear hA6 hAl
  have hl2 := blk_lt Z2.out
  have hl3 := blk_lt Z3.out
  obtain ⟨g0, g1, g2, g3, g4, g5, g6, g7⟩ := HKK.out w7 (fun _ _ _ _ => rfl)
  have aq0 : w7.cell? ⟨w.heap.size + 1 + 1, 0, none⟩ = some (.slice none 0 0) := (blk_cell Z2.out 0).trans rfl
  have ar0 : w7.frozen? ⟨w.heap.size + 1 + 1, 0, none⟩ = false := blk_frozen Z2.out 0
  have aq1 : w7.cell? ⟨w.heap.size + 1 + 1, 1, none⟩ = some (.slice none 0 0) := (blk_cell Z2.out 1).trans rfl
  have ar1 : w7.frozen? ⟨w.heap.size + 1 + 1, 1, none⟩ = false := blk_frozen Z2.out 1
  have at0 : w7.cell? ⟨w.heap.size + 1 + 1 + 1, 0, none⟩ = some (.slice none 0 0) := (blk_cell Z3.out 0).trans rfl
  have au0 : w7.frozen? ⟨w.heap.size + 1 + 1 + 1, 0, none⟩ = false := blk_frozen Z3.out 0
  have at1 : w7.cell? ⟨w.heap.size + 1 + 1 + 1, 1, none⟩ = some (.int .i64 0) := (blk_cell Z3.out 1).trans rfl
  have au1 : w7.frozen? ⟨w.heap.size + 1 + 1 + 1, 1, none⟩ = false := blk_frozen Z3.out 1
  have at2 : w7.cell? ⟨w.heap.size + 1 + 1 + 1, 2, none⟩ = some (.slice none 0 0) := (blk_cell Z3.out 2).trans rfl
  have au2 : w7.frozen? ⟨w.heap.size + 1 + 1 + 1, 2, none⟩ = false := blk_frozen Z3.out 2
  have at3 : w7.cell? ⟨w.heap.size + 1 + 1 + 1, 3, none⟩ = some (.slice none 0 0) := (blk_cell Z3.out 3).trans rfl
  have au3 : w7.frozen? ⟨w.heap.size + 1 + 1 + 1, 3, none⟩ = false := blk_frozen Z3.out 3
  have at4 : w7.cell? ⟨w.heap.size + 1 + 1 + 1, 4, none⟩ = some (.int .i64 0) := (blk_cell Z3.out 4).trans rfl
  have au4 : w7.frozen? ⟨w.heap.size + 1 + 1 + 1, 4, none⟩ = false := blk_frozen Z3.out 4
  have at5 : w7.cell? ⟨w.heap.size + 1 + 1 + 1, 5, none⟩ = some (.int .i64 0) := (blk_cell Z3.out 5).trans rfl
  have au5 : w7.frozen? ⟨w.heap.size + 1 + 1 + 1, 5, none⟩ = false := blk_frozen Z3.out 5
  go_region_held3 (fun W' => W'.cell? ⟨w6.heap.size, 0, none⟩ = some (.slice A6 B.length c6) ∧ W'.cell? ⟨w6.heap.size, 1, none⟩ = some (.slice A7 0 c7) ∧ W'.cell? ⟨w.heap.size + 1, 0, none⟩ = some (.slice A n c) ∧ W'.cell? ⟨w.heap.size + 1, 1, none⟩ = some (.int .i64 keep) ∧ W'.cell? ⟨w.heap.size + 1, 2, none⟩ = some (.slice none 0 0) ∧ W'.cell? ⟨w.heap.size + 1, 3, none⟩ = some (.slice none 0 0) ∧ W'.cell? ⟨w.heap.size + 1, 4, none⟩ = some (.int .i64 next) ∧ W'.cell? ⟨w.heap.size + 1, 5, none⟩ = some (.int .i64 gen))
    (first | with_reducible exact ⟨g0, g1, g2, g3, g4, g5, g6, g7⟩ | with_reducible exact HKK.out _ (fun k h1 h2 h3 => HXA.out.block k h3) | with_reducible exact HKK.out _ (fun k h1 h2 h3 => (Below.heap_setCell _ _ _ _ h1).trans ((Below.heap_setCell _ _ _ _ h1).trans (HXA.out.block k h3))) | with_reducible exact HKK.out _ (fun k h1 h2 h3 => (set6_other _ _ _ _ _ _ _ _ _ h2).trans ((Below.heap_setCell _ _ _ _ h1).trans ((Below.heap_setCell _ _ _ _ h1).trans (HXA.out.block k h3)))) | with_reducible exact HKK.out _ (fun k h1 h2 h3 => (HXB.out k h3).trans ((Below.heap_setCell _ _ _ _ h1).trans (Below.heap_setCell _ _ _ _ h1))) | with_reducible exact HKK.out _ (fun k h1 h2 h3 => (set6_other _ _ _ _ _ _ _ _ _ h2).trans ((HXB.out k h3).trans ((Below.heap_setCell _ _ _ _ h1).trans (Below.heap_setCell _ _ _ _ h1)))) | with_reducible exact HKK.out _ (fun k h1 h2 h3 => (Below.heap_setCell _ _ _ _ h1).trans (Below.heap_setCell _ _ _ _ h1)) | go_keep)
    (first | (go_at_call 40; with_reducible refine (refSettled_calls A n c keep next gen _ (Kd.C_drew HA7.out) hn hg0 hg1).mono ?_; rintro e w8 ⟨rfl, hb8⟩; have HXA := Aside0.mk (below_step (below_drew (Below.refl w7.heap.size w7)) hb8); have j2 := (HXA.out.block _ hl2).trans Z2.out; have j3 := (HXA.out.block _ hl3).trans Z3.out; have bq0 : w8.cell? ⟨w.heap.size + 1 + 1, 0, none⟩ = some (.slice none 0 0) := (blk_cell j2 0).trans rfl; have br0 : w8.frozen? ⟨w.heap.size + 1 + 1, 0, none⟩ = false := blk_frozen j2 0; have bq1 : w8.cell? ⟨w.heap.size + 1 + 1, 1, none⟩ = some (.slice none 0 0) := (blk_cell j2 1).trans rfl; have br1 : w8.frozen? ⟨w.heap.size + 1 + 1, 1, none⟩ = false := blk_frozen j2 1; have bt0 : w8.cell? ⟨w.heap.size + 1 + 1 + 1, 0, none⟩ = some (.slice none 0 0) := (blk_cell j3 0).trans rfl; have bu0 : w8.frozen? ⟨w.heap.size + 1 + 1 + 1, 0, none⟩ = false := blk_frozen j3 0; have bt1 : w8.cell? ⟨w.heap.size + 1 + 1 + 1, 1, none⟩ = some (.int .i64 0) := (blk_cell j3 1).trans rfl; have bu1 : w8.frozen? ⟨w.heap.size + 1 + 1 + 1, 1, none⟩ = false := blk_frozen j3 1; have bt2 : w8.cell? ⟨w.heap.size + 1 + 1 + 1, 2, none⟩ = some (.slice none 0 0) := (blk_cell j3 2).trans rfl; have bu2 : w8.frozen? ⟨w.heap.size + 1 + 1 + 1, 2, none⟩ = false := blk_frozen j3 2; have bt3 : w8.cell? ⟨w.heap.size + 1 + 1 + 1, 3, none⟩ = some (.slice none 0 0) := (blk_cell j3 3).trans rfl; have bu3 : w8.frozen? ⟨w.heap.size + 1 + 1 + 1, 3, none⟩ = false := blk_frozen j3 3; have bt4 : w8.cell? ⟨w.heap.size + 1 + 1 + 1, 4, none⟩ = some (.int .i64 0) := (blk_cell j3 4).trans rfl; have bu4 : w8.frozen? ⟨w.heap.size + 1 + 1 + 1, 4, none⟩ = false := blk_frozen j3 4; have bt5 : w8.cell? ⟨w.heap.size + 1 + 1 + 1, 5, none⟩ = some (.int .i64 0) := (blk_cell j3 5).trans rfl; have bu5 : w8.frozen? ⟨w.heap.size + 1 + 1 + 1, 5, none⟩ = false := blk_frozen j3 5; have J2 := Aside0.mk j2; have J3 := Aside0.mk j3; clear hb8 j2 j3; have tokA : True := trivial))
  have tk := tokA
  have hs5' := HS5.out
  have h8 := HXA.out
  have hB8 : Below w0.heap.size w0 w8 := HB7.out.trans (h8.mono HB7.out.size)
  have hsz : w0.heap.size ≤ w.heap.size := HB0.out.size
  have xC := Kd.C_below HC7.out h8
  have xA := Kd.C_below HA7.out h8
  have hA7 : ∀ ad, A = some ad → ad.block ≠ w.heap.size + 1 + 1 + 1 := fun ad e => by have := HAL.out ad e; omega
  have hne2 := str_ne xC (by omega) J2.out (by simp)
  have hne3 := str_ne xC (by omega) J3.out (by simp)
  go_wp2
  obtain ⟨w9, hw9⟩ : ∃ w9, w9 = (w8.setCell ⟨w.heap.size + 1 + 1, 0, none⟩ (.slice A6 B.length c6)).setCell ⟨w.heap.size + 1 + 1, 1, none⟩ (.slice A7 0 c7) := ⟨_, rfl⟩
  have x0 : w9.heap[w.heap.size + 1 + 1]? = some (.cells #[.slice A6 B.length c6, .slice A7 0 c7] 26) := by rw [hw9]; exact set_blk (set_blk J2.out 0 _) 1 _
  have x1 : w9.heap[w.heap.size + 1 + 1 + 1]? = some (.cells #[.slice none 0 0, .int .i64 0, .slice none 0 0, .slice none 0 0, .int .i64 0, .int .i64 0] 33) := by
    rw [hw9, Below.heap_setCell _ _ _ _ (by simp), Below.heap_setCell _ _ _ _ (by simp)]
    exact J3.out
  have x9 : Below w0.heap.size w0 w9 := by rw [hw9]; exact (hB8.setCell (p := ⟨w.heap.size + 1 + 1, 0, none⟩) (by show w0.heap.size ≤ w.heap.size + 1 + 1; omega) _).setCell (p := ⟨w.heap.size + 1 + 1, 1, none⟩) (by show w0.heap.size ≤ w.heap.size + 1 + 1; omega) _
  have xC9 : Kd.C Kd.string w9 A6 B.length (doS stop L B [] 0).1 := by rw [hw9]; exact c_far (c_far xC hne2 _) hne2 _
  have xA9 : Kd.C k75 w9 A n (blank n) := by rw [hw9]; exact c75_any (c75_any xA HA6.out _) HA6.out _
  rw [← hw9]
  clear hw9
  refine bodyPost_ret (results_cct rfl _ _ (w.heap.size + 1 + 1) (w.heap.size + 1 + 1 + 1) 26 33 #[.slice A6 B.length c6, .slice A7 0 c7] #[.slice A n c, .int .i64 keep, .slice none 0 0, .slice none 0 0, .int .i64 next, .int .i64 (gen + 1)] (0, 0) (0, 0) _ _ rfl ?z2 Tryz.underlying26 rfl (by kernel_rfl) rfl ?z3 Tryz.underlying33 rfl (by kernel_rfl)) rfl ?_
  case z2 =>
    rw [set6_other _ _ _ _ _ _ _ _ _ (by omega)]
    exact x0
  case z3 => exact set6_blk x1
  exact ⟨A6, c6, A7, c7, rfl, hc6, c_far6 xC9 hne3 _ _ _ _ _ _, c75_any6 xA9 hA7 _ _ _ _ _ _, set6_below x9 (by omega) _ _ _ _ _ _⟩
end Go.Proofs.YtfolgjigfdbnoaaGreat.M
