/-
  Contract of (*job).run.
-/
import Derived.Test.YtfolgjigfdbnoaaGreatMp
namespace Go.Proofs.YtfolgjigfdbnoaaGreat.M
open Go.RowKit Go.Shelf Go.Proofs.YtfolgjigfdbnoaaGreatW.PrintWords Go.Proofs.YtfolgjigfdbnoaaGreatW.PrintLast Go.Proofs.YtfolgjigfdbnoaaGreatW.PrintMore
open PCommitFormats
set_option linter.unusedVariables false
set_option linter.unusedSimpArgs false

set_option maxRecDepth 100000 in
set_option maxHeartbeats 4000000 in
theorem run_calls (p : Nat) (AB : Option Addr) (cB : Nat) (B : List ByteArray) (A : Option Addr) (c : Nat) (l : List S58) (stop : Int) (w : World) (hp : w.heap[p]? = some (.cells #[.slice AB B.length cB, .slice none 0 0, .slice A l.length c, .func (.func 27) #[] #[]] 68))
    (hB : Kd.C Kd.string w AB B.length B) (hABp : ∀ ad, AB = some ad → ad.block < p) (hcB : B.length ≤ cB) (hBl : B.length ≤ 4000) (hB0 : 0 < B.length)
    (hC : Kd.C k58 w A l.length l) (hl : l.length ≤ 10000) (hok : ∀ s ∈ l, okW B.length s) :
    Calls Tryz.prog 28 #[.pointer (some ⟨p, 0, none⟩), .int .i64 stop] w fun e w' => ∃ A1 c1 v2, e = .returned (.bool (decide ((doS stop l B [] 0).2.2 = l.length))) ∧ w'.heap[p]? = some (.cells #[.slice A1 B.length c1, v2, .slice A l.length c, .func (.func 27) #[] #[]] 68) ∧ B.length ≤ c1 ∧ Kd.C Kd.string w' A1 B.length (doS stop l B [] 0).1 ∧ (∀ ad, A1 = some ad → ad.block < w'.heap.size) ∧ (A1 = AB ∨ ∀ ad, A1 = some ad → w.heap.size ≤ ad.block) ∧ (∃ base' ok', Kd.R k58 58 w' base' ok' v2 (doS stop l B [] 0).2.1) ∧ ((doS stop l B [] 0).2.1 = [] → v2 = .slice none 0 0) ∧ Below p w w' := by
  have hu26 := Tryz.underlying26
  have hu68 := Tryz.underlying68
  have hl' : (l.length : Int) ≤ 10000 := by omega
  have hAB : ∀ ad, AB = some ad → ad.block < w.heap.size := fun ad e => Nat.lt_trans (hABp ad e) (blk_lt hp)
  have HDO := Aside0.mk (fun (W : World) (h : Below w.heap.size w W) => do_calls AB cB B A c l stop W (Kd.C_below hB h) (fun ad e => Nat.lt_of_lt_of_le (hAB ad e) h.size) hcB hBl hB0 (.slice none 0 0) [] 0 (fun _ => True) (Kd.R_nil _ _ _ _ _) (fun _ => rfl) (Kd.C_below hC h) (by simp; omega) hok (by simp))
  have hR : ∃ R, R = doS stop l B [] 0 := ⟨_, rfl⟩
  obtain ⟨R, hRd⟩ := hR
  rw [← hRd] at HDO ⊢
  clear hRd hB hC hok
  have hlt := blk_lt hp
  have hK : ∀ W', Below w.heap.size w W' → W'.cell? ⟨p, 0, none⟩ = some (.slice AB B.length cB) ∧ W'.cell? ⟨p, 1, none⟩ = some (.slice none 0 0) ∧ W'.cell? ⟨p, 2, none⟩ = some (.slice A l.length c) ∧ W'.cell? ⟨p, 3, none⟩ = some (.func (.func 27) #[] #[]) := fun W' hb => by
    have h := (hb.block p hlt).trans hp
    exact ⟨(blk_cell h 0).trans rfl, (blk_cell h 1).trans rfl, (blk_cell h 2).trans rfl, (blk_cell h 3).trans rfl⟩
  have HK := Aside0.mk hK
  have HP := Aside0.mk hp
  clear hK hp
  obtain ⟨hc0, hc1, hc2, hc3⟩ := HK.out w (Below.refl _ _)
  go_enter Tryz.func28, Tryz.ntmps28
  go_upto_region 1 with (fail)
  go_cut [5, 6] (fun v5 v6 wc => ∃ (q : Nat) (A1 : Option Addr) (c1 : Nat) (v2 : Value), v5 = .pointer (some ⟨q, 0, none⟩) ∧ v6 = .int .i64 R.2.2 ∧ Aside0 (wc.heap[q]? = some (.cells #[.slice A1 B.length c1, v2] 26)) ∧ Aside0 (B.length ≤ c1) ∧ Aside0 (Kd.C Kd.string wc A1 B.length R.1) ∧ Aside0 (∀ ad, A1 = some ad → ad.block < wc.heap.size) ∧ Aside0 (A1 = AB ∨ ∀ ad, A1 = some ad → w.heap.size ≤ ad.block) ∧ Aside0 (∃ base' ok', Kd.R k58 58 wc base' ok' v2 R.2.1) ∧ Aside0 (R.2.1 = [] → v2 = .slice none 0 0) ∧ Aside0 (Below w.heap.size w wc))
  case first =>
    go_region_held3 (fun w' => w'.cell? ⟨p, 0, none⟩ = some (.slice AB B.length cB) ∧ w'.cell? ⟨p, 1, none⟩ = some (.slice none 0 0) ∧ w'.cell? ⟨p, 2, none⟩ = some (.slice A l.length c) ∧ w'.cell? ⟨p, 3, none⟩ = some (.func (.func 27) #[] #[]))
      (first | exact ⟨hc0, hc1, hc2, hc3⟩ | exact HK.out _ HX.out | exact HK.out _ (below_alloc HX.out _) | exact HK.out _ (below_alloc (Below.refl _ _) _) | exact HK.out _ (HX.out.setCell (p := ⟨w.heap.size, 0, none⟩) (Nat.le_refl _) _) | exact HK.out _ ((HX.out.setCell (p := ⟨w.heap.size, 0, none⟩) (Nat.le_refl _) _).setCell (p := ⟨w.heap.size, 1, none⟩) (Nat.le_refl _) _) | go_keep)
      (first | (go_at_call 27; refine (HDO.out _ (below_drew (Below.refl w.heap.size w))).mono ?_; rintro e w1 ⟨A1, c1, v2, rfl, hcc, hC1, hA1, hAA1, ⟨bs, ok', hR1⟩, hvn1, hb1⟩; obtain ⟨Av, cv, rfl⟩ := Kd.R_slice hR1; have HVN1 := Aside0.mk hvn1; clear hvn1; have HX := Aside0.mk (below_step (below_drew (Below.refl w.heap.size w)) hb1); have HC1 := Aside0.mk hC1; have HA1 := Aside0.mk hA1; have HR1 := Aside0.mk hR1; have HAA1 := Aside0.mk hAA1; clear hAA1; have Hcc := Aside0.mk hcc; clear hcc hC1 hA1 hR1 hb1; have tokA : True := trivial) | (go_at_call 27; refine (HDO.out _ (below_drew (below_alloc (Below.refl w.heap.size w) (.cells #[.slice none 0 0, .slice none 0 0] 26)))).mono ?_; rintro e w1 ⟨A1, c1, v2, rfl, hcc, hC1, hA1, hAA1, ⟨bs, ok', hR1⟩, hvn1, hb1⟩; obtain ⟨Av, cv, rfl⟩ := Kd.R_slice hR1; have HVN1 := Aside0.mk hvn1; clear hvn1; have HX := Aside0.mk (below_step (below_drew (below_alloc (Below.refl w.heap.size w) (.cells #[.slice none 0 0, .slice none 0 0] 26))) hb1); have hq := (hb1.block w.heap.size (by simp)).trans (World.alloc_heap_new w (.cells #[.slice none 0 0, .slice none 0 0] 26)); have q0 : w1.cell? ⟨w.heap.size, 0, none⟩ = some (.slice none 0 0) := (blk_cell hq 0).trans rfl; have q1 : w1.cell? ⟨w.heap.size, 1, none⟩ = some (.slice none 0 0) := (blk_cell hq 1).trans rfl; have q2 : w1.frozen? ⟨w.heap.size, 0, none⟩ = false := blk_frozen hq 0; have q3 : w1.frozen? ⟨w.heap.size, 1, none⟩ = false := blk_frozen hq 1; have HQ := Aside0.mk hq; have HC1 := Aside0.mk hC1; have HA1 := Aside0.mk hA1; have HR1 := Aside0.mk hR1; have HAA1 := Aside0.mk hAA1; clear hAA1; have Hcc := Aside0.mk hcc; clear hcc hC1 hA1 hR1 hb1 hq; have tokB : True := trivial))
    all_goals go_wp2
    all_goals go_meet
    case rel =>
      have tk := tokA
      have hbq : Below w1.heap.size w1 (w1.alloc (.cells #[.slice A1 B.length c1, .slice Av R.2.1.length cv] 26)) := (Below.refl _ w1).alloc (Nat.le_refl _) _
      exact ⟨w1.heap.size, A1, c1, _, rfl, rfl, ⟨World.alloc_heap_new w1 _⟩, Hcc, ⟨Kd.C_below HC1.out hbq⟩, ⟨fun ad e => Nat.lt_of_lt_of_le (HA1.out ad e) hbq.size⟩, ⟨HAA1.out.imp id (fun h ad e => by have := h ad e; simpa using this)⟩, ⟨bs, ok', Kd.R_below HR1.out hbq⟩, HVN1, ⟨below_then HX.out HX.out.size hbq⟩⟩
    case rel =>
      have tk := tokB
      have hne : ∀ ad, A1 = some ad → ad.block ≠ w.heap.size := fun ad e => by
        rcases HAA1.out with h | h
        · have := hAB ad (h ▸ e)
          omega
        · have := h ad e
          simp at this
          omega
      exact ⟨w.heap.size, A1, c1, _, rfl, rfl, ⟨set_blk (set_blk HQ.out 0 _) 1 _⟩, Hcc, ⟨c_far (c_far HC1.out hne _) hne _⟩, ⟨fun ad e => by have := HA1.out ad e; simpa using this⟩, ⟨HAA1.out.imp id (fun h ad e => by have := h ad e; simp at this; omega)⟩, ⟨bs, ok', Kd.R_set (Kd.R_set HR1.out HQ.out (by decide) 0 _) (set_blk HQ.out 0 _) (by decide) 1 _⟩, HVN1, ⟨(HX.out.setCell (p := ⟨w.heap.size, 0, none⟩) (Nat.le_refl _) _).setCell (p := ⟨w.heap.size, 1, none⟩) (Nat.le_refl _) _⟩⟩
  case rest =>
    clear hc0 hc1 hc2 hc3 HDO
    obtain ⟨q, A1, c1, v2, rfl, rfl, HQ, Hcc, HC1, HA1, HAA, HR1, HVN, HX⟩ := hcut
    obtain ⟨bs, ok', hR1⟩ := HR1.out
    obtain ⟨Av, cv, rfl⟩ := Kd.R_slice hR1
    have hp := (HX.out.block p hlt).trans HP.out
    have q0 : wc.cell? ⟨q, 0, none⟩ = some (.slice A1 B.length c1) := (blk_cell HQ.out 0).trans rfl
    have q1 : wc.cell? ⟨q, 1, none⟩ = some (.slice Av R.2.1.length cv) := (blk_cell HQ.out 1).trans rfl
    have p0 : wc.cell? ⟨p, 0, none⟩ = some (.slice AB B.length cB) := (blk_cell hp 0).trans rfl
    have p1 : wc.cell? ⟨p, 1, none⟩ = some (.slice none 0 0) := (blk_cell hp 1).trans rfl
    have p2 : wc.cell? ⟨p, 2, none⟩ = some (.slice A l.length c) := (blk_cell hp 2).trans rfl
    have f0 : wc.frozen? ⟨p, 0, none⟩ = false := blk_frozen hp 0
    have f1 : wc.frozen? ⟨p, 1, none⟩ = false := blk_frozen hp 1
    have HP2 := Aside0.mk hp
    have HRR := Aside0.mk hR1
    clear hp hR1 HR1 HP HK
    go_wp2
    go_ret
    have hne : ∀ ad, A1 = some ad → ad.block ≠ p := fun ad e => by
      rcases HAA.out with h | h
      · have := hABp ad (h ▸ e)
        omega
      · have := h ad e
        omega
    exact ⟨A1, c1, _, rfl, set_blk (set_blk HP2.out 0 _) 1 _, Hcc.out, c_far (c_far HC1.out hne _) hne _, fun ad e => by have := HA1.out ad e; simpa using this, HAA.out, ⟨bs, ok', Kd.R_set (Kd.R_set HRR.out HP2.out (by decide) 0 _) (set_blk HP2.out 0 _) (by decide) 1 _⟩, HVN.out, ((HX.out.mono (Nat.le_of_lt hlt)).setCell (p := ⟨p, 0, none⟩) (Nat.le_refl _) _).setCell (p := ⟨p, 1, none⟩) (Nat.le_refl _) _⟩
end Go.Proofs.YtfolgjigfdbnoaaGreat.M
