/-
  Contract of disk.Do.
-/
import Derived.Test.YtfolgjigfdbnoaaGreatMk
import Derived.Test.YtfolgjigfdbnoaaGreatMl
import Derived.Test.YtfolgjigfdbnoaaGreatKc
namespace Go.Proofs.YtfolgjigfdbnoaaGreat.M
open Go.RowKit Go.Shelf Go.Proofs.YtfolgjigfdbnoaaGreatW.PrintWords Go.Proofs.YtfolgjigfdbnoaaGreatW.PrintLast Go.Proofs.YtfolgjigfdbnoaaGreatW.PrintMore
open PCommitFormats
set_option linter.unusedVariables false
set_option linter.unusedSimpArgs false
attribute [local go_sem high] eqA58

/-- Is it a flush? -/
def isFl (s : S58) : Bool := (s.f0 == -1) && s.f1.toList.isEmpty
/-- A plan, done from step k on. -/
def doS (stop : Int) : List S58 → List ByteArray → List S58 → Int → List ByteArray × List S58 × Int
  | [], B, ws, k => (B, ws, k)
  | x :: r, B, ws, k => if k = stop then (B, ws, k) else if isFl x = true then doS stop r (applyL B ws) [] (k + 1) else doS stop r B (ws ++ [x]) (k + 1)
/-- A step of a plan that a disk of n blocks can do. -/
def okW (n : Nat) (s : S58) : Prop := isFl s = true ∨ (isFl s = false ∧ 0 ≤ s.f0 ∧ s.f0 < n ∧ s.f1.size = 40)

theorem c_far {w : World} {A : Option Addr} {n b i : Nat} {xs : List ByteArray} (h : Kd.C Kd.string w A n xs) (hA : ∀ ad, A = some ad → ad.block ≠ b) (u : Value) : Kd.C Kd.string (w.setCell ⟨b, i, none⟩ u) A n xs := by
  refine ⟨h.1, h.2.1, fun h0 => ?_⟩
  obtain ⟨ad, e, hc⟩ := h.2.2 h0
  refine ⟨ad, e, fun j p hj => ?_⟩
  obtain ⟨c, h1, h2, h3⟩ := hc j p hj
  refine ⟨c, h1, h2, fun i' u' hi => ?_⟩
  rw [World.cell?_of_block (Below.heap_setCell w ⟨b, i, none⟩ u _ (by rw [addb]; exact hA ad e))]
  exact h3 i' u' hi

set_option maxRecDepth 100000 in
set_option maxHeartbeats 4000000 in
theorem do_calls (AB : Option Addr) (cB : Nat) (B : List ByteArray) (A : Option Addr) (c : Nat) (l : List S58) (stop : Int) (w : World) (hB : Kd.C Kd.string w AB B.length B) (hAB : ∀ ad, AB = some ad → ad.block < w.heap.size) (hcB : B.length ≤ cB) (hBl : B.length ≤ 4000) (hB0 : 0 < B.length)
    (v : Value) (ws : List S58) (base : Nat) (ok : Nat → Prop) (hR : Kd.R k58 58 w base ok v ws) (hvn : ws = [] → v = .slice none 0 0)
    (hC : Kd.C k58 w A l.length l) (hl : l.length + ws.length ≤ 10000) (hok : ∀ s ∈ l, okW B.length s) (hok2 : ∀ s ∈ ws, 0 ≤ s.f0 ∧ s.f0 < B.length) :
    Calls Tryz.prog 27 #[.agg #[.slice AB B.length cB, v], .slice A l.length c, .int .i64 stop] w fun e w' => ∃ A1 c1 v2, e = .returned (.tuple #[.agg #[.slice A1 B.length c1, v2], .int .i64 (doS stop l B ws 0).2.2]) ∧ B.length ≤ c1 ∧ Kd.C Kd.string w' A1 B.length (doS stop l B ws 0).1 ∧ (∀ ad, A1 = some ad → ad.block < w'.heap.size) ∧ (A1 = AB ∨ ∀ ad, A1 = some ad → w.heap.size ≤ ad.block) ∧ (∃ base' ok', Kd.R k58 58 w' base' ok' v2 (doS stop l B ws 0).2.1) ∧ ((doS stop l B ws 0).2.1 = [] → v2 = .slice none 0 0) ∧ Below w.heap.size w w' := by
  have hl' : (l.length : Int) ≤ 10000 := by omega
  have hu26 := Tryz.underlying26
  have hu58 := Tryz.underlying58
  obtain ⟨Av, cv, rfl⟩ := Kd.R_slice hR
  have HB := Aside0.mk hB
  have HC := Aside0.mk hC
  have HR := Aside0.mk hR
  have HVN0 := Aside0.mk hvn
  clear hB hC hR hvn
  have hr : ∃ R, R = doS stop l B ws 0 := ⟨_, rfl⟩
  obtain ⟨R, hRd⟩ := hr
  rw [← hRd]
  have HRD := Aside0.mk hRd
  clear hRd
  go_enter Tryz.func27, Tryz.ntmps27
  go_wp2_with fail
  obtain ⟨w1, hw1⟩ : ∃ w1, w1 = (w.alloc (.cells #[.slice AB B.length cB, .slice Av ws.length cv] 26)).alloc (.cells #[.slice none 0 0, .slice none 0 0] 26) := ⟨_, rfl⟩
  have HB1 : Aside0 (Below w.heap.size w w1) := ⟨by rw [hw1]; exact ((Below.refl _ w).alloc (Nat.le_refl _) _).alloc (by simp) _⟩
  have hs1 : w1.heap.size = w.heap.size + 2 := by rw [hw1]; simp
  have b0 : w1.heap[w.heap.size]? = some (.cells #[.slice AB B.length cB, .slice Av ws.length cv] 26) := by rw [hw1, Below.heap_alloc _ _ _ (by simp)]; exact World.alloc_heap_new _ _
  have b1 : w1.heap[w.heap.size + 1]? = some (.cells #[.slice none 0 0, .slice none 0 0] 26) := by
    rw [hw1]
    have := World.alloc_heap_new (w.alloc (.cells #[.slice AB B.length cB, .slice Av ws.length cv] 26)) (.cells #[.slice none 0 0, .slice none 0 0] 26)
    rwa [World.size_alloc] at this
  rw [← hw1]
  clear hw1
  have HRes : Aside0 (Kd.R k58 58 w1 0 (fun k => k ≠ w.heap.size ∧ k ≠ w.heap.size + 1) (.slice Av ws.length cv) ws) := ⟨Kd.R_below (Kd.R_lower (Kd.R_mono (Kd.R_bound HR.out) (fun k hk => by have := hk.2.2.1; omega)) (Nat.zero_le _)) HB1.out⟩
  go_loopg [14] (l.length + 1) (fun kq v14 w' => ∃ (k : Nat) (B' : List ByteArray) (ws' : List S58) (A' : Option Addr) (c' : Nat) (v' : Value), v14 = .int .i64 (k : Int) ∧ k ≤ l.length ∧ Aside0 (l.length - k < kq) ∧ Aside0 (doS stop (l.drop k) B' ws' k = R) ∧ Aside0 (B'.length = B.length) ∧ Aside0 (w'.heap[w.heap.size]? = some (.cells #[.slice A' B.length c', v'] 26)) ∧ Aside0 (w'.heap[w.heap.size + 1]? = some (.cells #[.slice none 0 0, .slice none 0 0] 26)) ∧ Aside0 (Kd.C Kd.string w' A' B.length B') ∧ Aside0 (B.length ≤ c') ∧ Aside0 (∀ ad, A' = some ad → ad.block < w'.heap.size ∧ ad.block ≠ w.heap.size ∧ ad.block ≠ w.heap.size + 1) ∧ Aside0 (Kd.R k58 58 w' 0 (fun k => k ≠ w.heap.size ∧ k ≠ w.heap.size + 1) v' ws') ∧ Aside0 (ws'.length ≤ ws.length + k ∧ ∀ s ∈ ws', 0 ≤ s.f0 ∧ s.f0 < B.length) ∧ Aside0 (A' = AB ∨ ∀ ad, A' = some ad → w.heap.size ≤ ad.block) ∧ Aside0 (ws' = [] → v' = .slice none 0 0) ∧ Aside0 (Below w.heap.size w w'))
  case atStart => exact ⟨0, B, ws, AB, cB, _, rfl, Nat.zero_le _, ⟨by omega⟩, ⟨by rw [List.drop_zero]; exact HRD.out.symm⟩, ⟨rfl⟩, ⟨b0⟩, ⟨b1⟩, ⟨Kd.C_below HB.out HB1.out⟩, ⟨hcB⟩, ⟨fun ad e => by have := hAB ad e; omega⟩, HRes, ⟨by omega, hok2⟩, ⟨.inl rfl⟩, HVN0, HB1⟩
  case round =>
    clear HRes b0 b1 HB1 hs1
    obtain ⟨k, B', ws', A', c', v', rfl, hk, HK, HD, HL, H0, H1, HCB, Hc', HA', HRv, HWS, HAA, HVN, HBW⟩ := hrel
    cases gk with
    | zero => exact absurd HK.out (by omega)
    | succ k3 =>
      by_cases hlt : k < l.length
      · obtain ⟨ad, e, hx0, hx1⟩ := at_T58 (Kd.C_below HC.out HBW.out) k (by omega) (by omega)
        cases e
        rw [Int.toNat_natCast] at hx0 hx1
        have hdrop : l.drop k = rd_T58 l k :: l.drop (k + 1) := by
          rw [List.drop_eq_getElem_cons hlt]
          simp [rd_T58, List.getElem?_eq_getElem hlt]
        have hmem : rd_T58 l k ∈ l := by simp [rd_T58, List.getElem?_eq_getElem hlt]
        obtain ⟨x, hx⟩ : ∃ x, x = rd_T58 l k := ⟨_, rfl⟩
        rw [← hx] at hx0 hx1 hdrop hmem
        have hox := hok x hmem
        rw [hdrop] at HD
        clear hdrop hmem hx
        have hsz := HBW.out.size
        obtain ⟨x0, hx0'⟩ : ∃ x0, x0 = x.f0 := ⟨_, rfl⟩
        obtain ⟨x1, hx1'⟩ : ∃ x1, x1 = x.f1 := ⟨_, rfl⟩
        rw [← hx0'] at hx0
        rw [← hx1'] at hx1
        have HX0 := Aside0.mk hx0'
        have HX1 := Aside0.mk hx1'
        have HOX := Aside0.mk hox
        clear hx0' hx1' hox
        have a0 : (wr.alloc (.cells #[.int .i64 x0, .string x1] 58)).heap[w.heap.size]? = some (.cells #[.slice A' B.length c', v'] 26) := (Below.heap_alloc wr _ _ (blk_lt H0.out)).trans H0.out
        have a1 : (wr.alloc (.cells #[.int .i64 x0, .string x1] 58)).heap[w.heap.size + 1]? = some (.cells #[.slice none 0 0, .slice none 0 0] 26) := (Below.heap_alloc wr _ _ (blk_lt H1.out)).trans H1.out
        have c0 : (wr.alloc (.cells #[.int .i64 x0, .string x1] 58)).cell? ⟨w.heap.size, 0, none⟩ = some (.slice A' B.length c') := (blk_cell a0 0).trans rfl
        have c1 : (wr.alloc (.cells #[.int .i64 x0, .string x1] 58)).cell? ⟨w.heap.size, 1, none⟩ = some v' := (blk_cell a0 1).trans rfl
        have s0 : (wr.alloc (.cells #[.int .i64 x0, .string x1] 58)).cell? ⟨w.heap.size + 1, 0, none⟩ = some (.slice none 0 0) := (blk_cell a1 0).trans rfl
        have s1 : (wr.alloc (.cells #[.int .i64 x0, .string x1] 58)).cell? ⟨w.heap.size + 1, 1, none⟩ = some (.slice none 0 0) := (blk_cell a1 1).trans rfl
        have s2 : (wr.alloc (.cells #[.int .i64 x0, .string x1] 58)).frozen? ⟨w.heap.size + 1, 0, none⟩ = false := blk_frozen a1 0
        have s3 : (wr.alloc (.cells #[.int .i64 x0, .string x1] 58)).frozen? ⟨w.heap.size + 1, 1, none⟩ = false := blk_frozen a1 1
        have HA0 := Aside0.mk a0
        have HA1 := Aside0.mk a1
        clear a0 a1
        obtain ⟨Av', cv', rfl⟩ := Kd.R_slice HRv.out
        have hB2 : Below wr.heap.size wr (wr.alloc (.cells #[.int .i64 x0, .string x1] 58)) := (Below.refl _ wr).alloc (Nat.le_refl _) _
        have HB2 := Aside0.mk hB2
        clear hB2
        have HCB2 := Aside0.mk (Kd.C_below HCB.out HB2.out)
        have HRv2 := Aside0.mk (Kd.R_below HRv.out HB2.out)
        have HA2 : Aside0 (∀ ad, A' = some ad → ad.block < (wr.alloc (.cells #[.int .i64 x0, .string x1] 58)).heap.size ∧ ad.block ≠ w.heap.size ∧ ad.block ≠ w.heap.size + 1) := ⟨fun ad e => by have := HA'.out ad e; simp; omega⟩
        have HBW2 := Aside0.mk (below_then HBW.out HBW.out.size HB2.out)
        have HS2 : Aside0 (w.heap.size + 1 < (wr.alloc (.cells #[.int .i64 x0, .string x1] 58)).heap.size) := ⟨blk_lt HA1.out⟩
        have HFL := Aside0.mk (fun (h : (x0 == -1) = true ∧ x1.toList.isEmpty = true) => show isFl x = true by rw [isFl, ← HX0.out, ← HX1.out, h.1, h.2]; rfl)
        have HNF := Aside0.mk (fun (h : (x0 == -1) = false ∨ x1.toList.isEmpty = false) => show isFl x = false by rw [isFl, ← HX0.out, ← HX1.out]; rcases h with h | h <;> simp [h])
        clear HRv HA' HCB HBW hsz
        go_wp2_with fail
        · have hks : (k : Int) = stop := by have h : ((k : Int) == stop) = true := by assumption
                                            simpa using h
          have hd := HD.out
          rw [doS, if_pos hks] at hd
          refine bodyPost_ret (results_ct rfl _ _ (w.heap.size + 1) 26 #[.slice A' B.length c', .slice Av' ws'.length cv'] (0, 0) _ rfl (set_blk (set_blk HA1.out 0 _) 1 _) Tryz.underlying26 rfl (by kernel_rfl)) rfl ?_
          rw [← hd]
          refine ⟨A', c', _, rfl, Hc'.out, c_far (c_far HCB2.out (fun ad e => (HA2.out ad e).2.2) _) (fun ad e => (HA2.out ad e).2.2) _, fun ad e => by have := (HA2.out ad e).1; simpa using this, HAA.out, ⟨0, _, Kd.R_far (p := ⟨w.heap.size + 1, 1, none⟩) (Kd.R_far (p := ⟨w.heap.size + 1, 0, none⟩) HRv2.out (fun k hk => hk.2) _) (fun k hk => hk.2) _⟩, HVN.out, (HBW2.out.setCell (p := ⟨w.heap.size + 1, 0, none⟩) (by show w.heap.size ≤ w.heap.size + 1; omega) _).setCell (p := ⟨w.heap.size + 1, 1, none⟩) (by show w.heap.size ≤ w.heap.size + 1; omega) _⟩
        · have hfl := HFL.out (by assumption)
          have hks : ¬ (k : Int) = stop := by have h : ((k : Int) == stop) = false := by assumption
                                              simpa using h
          have hd := HD.out
          rw [doS, if_neg hks, if_pos hfl] at hd
          have hf := flush_calls A' c' B' (.slice Av' ws'.length cv') ws' 0 _ (wr.alloc (.cells #[.int .i64 x0, .string x1] 58)) (by rw [HL.out]; exact HCB2.out) (by rw [HL.out]; exact Hc'.out) (by rw [HL.out]; exact hBl) (by rw [HL.out]; exact hB0) HRv2.out (by have := HWS.out.1; omega) (by rw [HL.out]; exact HWS.out.2)
          rw [HL.out] at hf
          refine hf.mono ?_
          rintro e w5 ⟨v5, rfl, ho5, hb5⟩
          obtain ⟨A5, c5, rfl⟩ := Kd.R_slice ho5
          clear c0 c1 s0 s1 s2 s3 hf
          have hal : (applyL B' ws').length = B.length := by rw [applyL_length, HL.out]
          rw [hal] at ho5 ⊢
          have q0 := (hb5.block _ (blk_lt HA0.out)).trans HA0.out
          have q1 := (hb5.block _ (blk_lt HA1.out)).trans HA1.out
          have c0 : w5.cell? ⟨w.heap.size, 0, none⟩ = some (.slice A' B.length c') := (blk_cell q0 0).trans rfl
          have c1 : w5.cell? ⟨w.heap.size, 1, none⟩ = some (.slice Av' ws'.length cv') := (blk_cell q0 1).trans rfl
          have s2 : w5.frozen? ⟨w.heap.size, 0, none⟩ = false := blk_frozen q0 0
          have s3 : w5.frozen? ⟨w.heap.size, 1, none⟩ = false := blk_frozen q0 1
          have HQ0 := Aside0.mk q0
          have HQ1 := Aside0.mk q1
          have HO5 := Aside0.mk ho5
          have HB5 := Aside0.mk hb5
          have HD5 := Aside0.mk hd
          have HAL := Aside0.mk hal
          clear q0 q1 ho5 hb5 hd hal HD HA0 HA1 H0 H1
          go_wp2
          go_roundg k3
          case rel =>
            have hz : w.heap.size + 1 < (wr.alloc (.cells #[.int .i64 x0, .string x1] 58)).heap.size := HS2.out
            have hok5 : ∀ k, True ∧ (wr.alloc (.cells #[.int .i64 x0, .string x1] 58)).heap.size ≤ k ∧ k < w5.heap.size ∧ (∃ q, q ∈ 9 :: Kd.string.E ∧ ∃ cells, w5.heap[k]? = some (.cells cells q (0, 0))) → k ≠ w.heap.size := fun k hk => by have := hk.2.1; omega
            have h5 := Kd.R_far (p := ⟨w.heap.size, 1, none⟩) (Kd.R_far (p := ⟨w.heap.size, 0, none⟩) (Kd.R_bound HO5.out) hok5 (.slice A5 B.length c5)) hok5 (.slice none 0 0)
            have hlo : w.heap.size ≤ (wr.alloc (.cells #[.int .i64 x0, .string x1] 58)).heap.size := HBW2.out.size
            exact ⟨k + 1, applyL B' ws', [], A5, c5, .slice none 0 0, by simp, by omega, ⟨by have := HK.out; omega⟩, ⟨by rw [Int.natCast_add]; exact HD5.out⟩, HAL, ⟨set_blk (set_blk HQ0.out 0 _) 1 _⟩, ⟨by rw [Below.heap_setCell _ _ _ _ (by simp), Below.heap_setCell _ _ _ _ (by simp)]; exact HQ1.out⟩,
              ⟨by have h := R_C h5; exact h⟩, ⟨by have h := (Kd.R_reads' h5).2.1; first | exact h | (rw [HAL.out] at h; exact h)⟩, ⟨fun ad e => by
                subst e
                have hb := r_base h5
                obtain ⟨cs, hcs⟩ := r_typed h5
                have := blk_lt hcs
                refine ⟨this, by omega, by omega⟩⟩, ⟨Kd.R_nil _ _ _ _ _⟩, ⟨by simp, by simp⟩, ⟨.inr fun ad e => by
                subst e
                have := r_base h5
                omega⟩, ⟨fun _ => rfl⟩,
              ⟨((below_then HBW2.out hlo HB5.out).setCell (p := ⟨w.heap.size, 0, none⟩) (Nat.le_refl _) _).setCell (p := ⟨w.heap.size, 1, none⟩) (Nat.le_refl _) _⟩⟩
          case measure => omega
        · have hnf := HNF.out (by assumption)
          have hks : ¬ (k : Int) = stop := by have h : ((k : Int) == stop) = false := by assumption
                                              simpa using h
          have hd := HD.out
          rw [doS, if_neg hks, if_neg (by rw [hnf]; simp)] at hd
          have hw := HOX.out
          rcases hw with hw | ⟨_, hw0, hw1, hw2⟩
          · rw [hnf] at hw
            cases hw
          rw [← HX0.out] at hw0 hw1
          rw [← HX1.out] at hw2
          have hp := put_calls A' c' B' (.slice Av' ws'.length cv') ws' 0 _ x0 x1 (wr.alloc (.cells #[.int .i64 x0, .string x1] 58)) (by rw [HL.out]; exact HCB2.out) (by rw [HL.out]; exact Hc'.out) (by rw [HL.out]; exact hBl) HRv2.out (by have := HWS.out.1; omega) hw0 (by rw [HL.out]; exact hw1) hw2
          rw [HL.out] at hp
          refine hp.mono ?_
          rintro e w5 ⟨v5, rfl, ho5, hb5⟩
          obtain ⟨A5, c5, rfl⟩ := Kd.R_slice ho5
          clear c0 c1 s0 s1 s2 s3 hp
          have q0 := (hb5.block _ (blk_lt HA0.out)).trans HA0.out
          have q1 := (hb5.block _ (blk_lt HA1.out)).trans HA1.out
          have r0 : ∀ o, (w5.alloc o).heap[w.heap.size]? = some (.cells #[.slice A' B.length c', .slice Av' ws'.length cv'] 26) := fun o => (Below.heap_alloc w5 _ _ (blk_lt q0)).trans q0
          have c0 : ∀ o, (w5.alloc o).cell? ⟨w.heap.size, 0, none⟩ = some (.slice A' B.length c') := fun o => (blk_cell (r0 o) 0).trans rfl
          have c1 : ∀ o, (w5.alloc o).cell? ⟨w.heap.size, 1, none⟩ = some (.slice Av' ws'.length cv') := fun o => (blk_cell (r0 o) 1).trans rfl
          have s2 : ∀ o, (w5.alloc o).frozen? ⟨w.heap.size, 0, none⟩ = false := fun o => blk_frozen (r0 o) 0
          have s3 : ∀ o, (w5.alloc o).frozen? ⟨w.heap.size, 1, none⟩ = false := fun o => blk_frozen (r0 o) 1
          have HQ0 := Aside0.mk r0
          have HQ1 := Aside0.mk q1
          have HO5 := Aside0.mk ho5
          have HB5 := Aside0.mk hb5
          have HD5 := Aside0.mk hd
          clear q0 q1 r0 ho5 hb5 hd HD HA0 HA1 H0 H1
          go_wp2
          go_roundg k3
          case rel =>
            have hxe : (⟨x0, x1⟩ : S58) = x := by rw [HX0.out, HX1.out]
            have ho := HO5.out
            rw [hxe, List.length_append, List.length_singleton] at ho
            have hlo : w.heap.size ≤ (wr.alloc (.cells #[.int .i64 x0, .string x1] 58)).heap.size := HBW2.out.size
            have hz : w.heap.size + 1 < (wr.alloc (.cells #[.int .i64 x0, .string x1] 58)).heap.size := HS2.out
            have hB6 : Below (wr.alloc (.cells #[.int .i64 x0, .string x1] 58)).heap.size (wr.alloc (.cells #[.int .i64 x0, .string x1] 58)) (w5.alloc (.cells #[.slice A' B.length c', .slice A5 (ws'.length + 1) c5] 26)) := HB5.out.alloc HB5.out.size _
            have ho6 := Kd.R_alloc ho (.cells #[.slice A' B.length c', .slice A5 (ws'.length + 1) c5] 26)
            have h6 := Kd.R_far (p := ⟨w.heap.size, 1, none⟩) (Kd.R_far (p := ⟨w.heap.size, 0, none⟩) (Kd.R_mono (Kd.R_bound ho6) (ok' := fun k => k ≠ w.heap.size ∧ k ≠ w.heap.size + 1) (fun k hk => by have := hk.2.1; omega)) (fun k hk => hk.1) (.slice A' B.length c')) (fun k hk => hk.1) (.slice A5 (ws'.length + 1) c5)
            have hlen := HWS.out.1
            exact ⟨k + 1, B', ws' ++ [x], A', c', .slice A5 (ws'.length + 1) c5, by simp, by omega, ⟨by have := HK.out; omega⟩, ⟨by rw [Int.natCast_add]; exact HD5.out⟩, HL, ⟨set_blk (set_blk (HQ0.out _) 0 _) 1 _⟩,
              ⟨by rw [Below.heap_setCell _ _ _ _ (by simp), Below.heap_setCell _ _ _ _ (by simp), Below.heap_alloc _ _ _ (blk_lt HQ1.out)]; exact HQ1.out⟩,
              ⟨c_far (c_far (Kd.C_below HCB2.out hB6) (fun ad e => (HA2.out ad e).2.1) _) (fun ad e => (HA2.out ad e).2.1) _⟩, Hc',
              ⟨fun ad e => by
                have h1 := HA2.out ad e
                have h2 := hB6.size
                have h3 : ad.block < (w5.alloc (.cells #[.slice A' B.length c', .slice A5 (ws'.length + 1) c5] 26)).heap.size := by omega
                exact ⟨by simpa using h3, h1.2⟩⟩,
              ⟨Kd.R_lower h6 (Nat.zero_le _)⟩,
              ⟨by rw [List.length_append, List.length_singleton]; omega, fun s hs => by
                rcases List.mem_append.1 hs with hs | hs
                · exact HWS.out.2 s hs
                · rw [List.mem_singleton.1 hs, ← HX0.out]
                  exact ⟨hw0, hw1⟩⟩, HAA, ⟨fun h => by simp at h⟩,
              ⟨((below_then HBW2.out hlo hB6).setCell (p := ⟨w.heap.size, 0, none⟩) (Nat.le_refl _) _).setCell (p := ⟨w.heap.size, 1, none⟩) (Nat.le_refl _) _⟩⟩
          case measure => omega
      · obtain rfl : k = l.length := by omega
        have hd := HD.out
        rw [List.drop_length, doS] at hd
        have c0 : wr.cell? ⟨w.heap.size, 0, none⟩ = some (.slice A' B.length c') := (blk_cell H0.out 0).trans rfl
        have c1 : wr.cell? ⟨w.heap.size, 1, none⟩ = some v' := (blk_cell H0.out 1).trans rfl
        have s0 : wr.cell? ⟨w.heap.size + 1, 0, none⟩ = some (.slice none 0 0) := (blk_cell H1.out 0).trans rfl
        have s1 : wr.cell? ⟨w.heap.size + 1, 1, none⟩ = some (.slice none 0 0) := (blk_cell H1.out 1).trans rfl
        have s2 : wr.frozen? ⟨w.heap.size + 1, 0, none⟩ = false := blk_frozen H1.out 0
        have s3 : wr.frozen? ⟨w.heap.size + 1, 1, none⟩ = false := blk_frozen H1.out 1
        obtain ⟨Av', cv', rfl⟩ := Kd.R_slice HRv.out
        have HDD := Aside0.mk hd
        clear hd HD
        go_wp2
        refine bodyPost_ret (results_ct rfl _ _ (w.heap.size + 1) 26 #[.slice A' B.length c', .slice Av' ws'.length cv'] (0, 0) _ rfl (set_blk (set_blk H1.out 0 _) 1 _) Tryz.underlying26 rfl (by kernel_rfl)) rfl ?_
        rw [← HDD.out]
        refine ⟨A', c', _, rfl, Hc'.out, c_far (c_far HCB.out (fun ad e => (HA'.out ad e).2.2) _) (fun ad e => (HA'.out ad e).2.2) _, fun ad e => by have := (HA'.out ad e).1; simpa using this, HAA.out, ⟨0, _, Kd.R_far (p := ⟨w.heap.size + 1, 1, none⟩) (Kd.R_far (p := ⟨w.heap.size + 1, 0, none⟩) HRv.out (fun k hk => hk.2) _) (fun k hk => hk.2) _⟩, HVN.out, (HBW.out.setCell (p := ⟨w.heap.size + 1, 0, none⟩) (by show w.heap.size ≤ w.heap.size + 1; omega) _).setCell (p := ⟨w.heap.size + 1, 1, none⟩) (by show w.heap.size ≤ w.heap.size + 1; omega) _⟩
end Go.Proofs.YtfolgjigfdbnoaaGreat.M
