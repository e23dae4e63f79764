/-
  Contracts of commit.Do, commit.Many of blank states.
-/
import Derived.Test.YtfolgjigfdbnoaaGreatMq
namespace Go.Proofs.YtfolgjigfdbnoaaGreat.M
open Go.RowKit Go.Shelf Go.Proofs.YtfolgjigfdbnoaaGreatW.PrintWords Go.Proofs.YtfolgjigfdbnoaaGreatW.PrintLast Go.Proofs.YtfolgjigfdbnoaaGreatW.PrintMore
open PCommitFormats
set_option linter.unusedVariables false
set_option linter.unusedSimpArgs false

theorem chunkS_size (xs : List Int) (x : Nat) : (chunkS xs x).size = 40 := by
  have h : (chunkS xs x).size = (strOfNums (partL xs x)).size + (⟨(Lib.repeatL [0] (40 - (partL xs x).length)).toArray⟩ : ByteArray).size := by
    simp [chunkS, ByteArray.size_append]
  rw [h, strOfNums_size, rep_size, partL_length]
  omega
theorem superB_size (g s m : Int) : (superB g s m).size = 40 := by
  rw [superB, sealB, strOfNums_size]
  simp [pad36, putL_length, superL]

theorem planL_ok (B : List ByteArray) (n : Nat) (keep next gen : Int) (h2 : 2 ≤ B.length) (hg : 0 ≤ gen) (hat : larea n (gen + 1) + chunksN (bookL n keep next).length ≤ B.length) : ∀ s ∈ planL B n keep next gen, okW B.length s := by
  have hla : 0 ≤ larea n (gen + 1) := by
    have hb : 0 ≤ areaM n := by unfold areaM; omega
    unfold larea
    rcases (show (gen + 1) % 2 = 0 ∨ (gen + 1) % 2 = 1 by omega) with h | h <;> rw [h] <;> omega
  intro s hs
  rw [planL, List.mem_append] at hs
  rcases hs with hs | hs
  · obtain ⟨x, hx, he⟩ := List.mem_filterMap.1 hs
    have hx' := List.mem_range.1 hx
    unfold asked at he
    split at he
    · cases he
    · cases he
      refine .inr ⟨?_, by show 0 ≤ larea n (gen + 1) + (x : Int); omega, by show larea n (gen + 1) + (x : Int) < B.length; omega, chunkS_size _ _⟩
      simp only [isFl, Bool.and_eq_false_iff]
      left
      simp
      omega
  · simp only [List.mem_cons, List.not_mem_nil, or_false] at hs
    rcases hs with rfl | rfl | rfl
    · exact .inl (by simp [isFl, ByteArray.toList, ByteArray.toList.loop, ByteArray.size])
    · refine .inr ⟨?_, by show 0 ≤ (gen + 1) % 2; omega, by show (gen + 1) % 2 < (B.length : Int); omega, superB_size _ _ _⟩
      simp only [isFl, Bool.and_eq_false_iff]
      left
      simp
      omega
    · exact .inl (by simp [isFl, ByteArray.toList, ByteArray.toList.loop, ByteArray.size])

theorem planL_length (B : List ByteArray) (n : Nat) (keep next gen : Int) (hn : n ≤ 2000) : (planL B n keep next gen).length ≤ 1000 := by
  have h1 : ((List.range (chunksN (bookL n keep next).length)).filterMap (asked B (larea n (gen + 1)) (bookL n keep next))).length ≤ chunksN (bookL n keep next).length := Nat.le_trans (List.length_filterMap_le _ _) (by rw [List.length_range]; exact Nat.le_refl _)
  have h2 : (bookL n keep next).length = 11 + 2 * n := by simp [bookL, bookHead_length]
  have h3 : chunksN (bookL n keep next).length = ((bookL n keep next).length + 39) / 40 := rfl
  rw [planL, List.length_append]
  simp only [List.length_cons, List.length_nil]
  omega

/-- What commit.Do hands back. -/
def doneQ (w : World) (AB : Option Addr) (B : List ByteArray) (A : Option Addr) (n : Nat) (keep next gen stop : Int) (e : Ending) (w' : World) : Prop :=
  ∃ (A1 : Option Addr) (c1 : Nat) (v2 : Value) (A2 : Option Addr) (c2 : Nat),
    e = .returned (.tuple #[.agg #[.slice A1 B.length c1, v2], stV A2 n c2 keep next (if (doS stop (planL B n keep next gen) B [] 0).2.2 = (planL B n keep next gen).length then gen + 1 else gen), .int .i64 (if (doS stop (planL B n keep next gen) B [] 0).2.2 = (planL B n keep next gen).length then 0 else 8)]) ∧
    B.length ≤ c1 ∧ n ≤ c2 ∧ Kd.C Kd.string w' A1 B.length (doS stop (planL B n keep next gen) B [] 0).1 ∧ (∀ ad, A1 = some ad → ad.block < w'.heap.size) ∧ (∃ bs ok, Kd.R k58 58 w' bs ok v2 (doS stop (planL B n keep next gen) B [] 0).2.1) ∧ ((doS stop (planL B n keep next gen) B [] 0).2.1 = [] → v2 = .slice none 0 0) ∧ Kd.C k75 w' A2 n (blank n) ∧ (∀ ad, A2 = some ad → ad.block < w'.heap.size) ∧ Below w.heap.size w w'

theorem c_far6 {w : World} {A : Option Addr} {n b : Nat} {xs : List ByteArray} (h : Kd.C Kd.string w A n xs) (hA : ∀ ad, A = some ad → ad.block ≠ b) (v0 v1 v2 v3 v4 v5 : Value) : Kd.C Kd.string (set6 w b v0 v1 v2 v3 v4 v5) A n xs :=
  c_far (c_far (c_far (c_far (c_far (c_far h hA _) hA _) hA _) hA _) hA _) hA _
theorem c75_far {w : World} {g n b i m : Nat} (h : Kd.C k75 w (some ⟨g, 0, none⟩) n (blank m)) (hg : g ≠ b) (u : Value) : Kd.C k75 (w.setCell ⟨b, i, none⟩ u) (some ⟨g, 0, none⟩) n (blank m) := by
  refine ⟨h.1, h.2.1, fun h0 => ?_⟩
  obtain ⟨ad, e, hc⟩ := h.2.2 h0
  refine ⟨ad, e, fun j p hj => ?_⟩
  obtain ⟨c, h1, h2, h3⟩ := hc j p hj
  have hp : p = z75 := by
    have := hj
    simp [blank, List.getElem?_replicate] at this
    exact this.2.symm
  subst hp
  refine ⟨c, h1, ?_, fun i' u' hi => ?_⟩
  · obtain ⟨A3, c3, e2, hc2, _⟩ := k75_open h2
    rw [e2]
    exact k75_mk _ z75 hc2 ⟨rfl, by show (0 : Nat) ≤ _; omega, fun h0 => absurd h0 (by show ¬ 0 < 0; omega)⟩
  · cases e
    rw [World.cell?_of_block (Below.heap_setCell w ⟨b, i, none⟩ u _ (by rw [addb]; exact hg))]
    exact h3 i' u' hi
theorem c75_far6 {w : World} {g n b m : Nat} (h : Kd.C k75 w (some ⟨g, 0, none⟩) n (blank m)) (hA : g ≠ b) (v0 v1 v2 v3 v4 v5 : Value) : Kd.C k75 (set6 w b v0 v1 v2 v3 v4 v5) (some ⟨g, 0, none⟩) n (blank m) :=
  c75_far (c75_far (c75_far (c75_far (c75_far (c75_far h hA _) hA _) hA _) hA _) hA _) hA _
theorem r_set6 {w : World} {b t base : Nat} {ok : Nat → Prop} {v : Value} {xs : List S58} {cs : Array Value} (h : Kd.R k58 58 w base ok v xs) (hb : w.heap[b]? = some (.cells cs t (0, 0))) (ht : ∀ q, q ∈ 58 :: k58.E → q ≠ t) (v0 v1 v2 v3 v4 v5 : Value) : Kd.R k58 58 (set6 w b v0 v1 v2 v3 v4 v5) base ok v xs :=
  Kd.R_set (Kd.R_set (Kd.R_set (Kd.R_set (Kd.R_set (Kd.R_set h hb ht 0 v0) (set_blk hb 0 v0) ht 1 v1) (set_blk (set_blk hb 0 v0) 1 v1) ht 2 v2) (set_blk (set_blk (set_blk hb 0 v0) 1 v1) 2 v2) ht 3 v3) (set_blk (set_blk (set_blk (set_blk hb 0 v0) 1 v1) 2 v2) 3 v3) ht 4 v4) (set_blk (set_blk (set_blk (set_blk (set_blk hb 0 v0) 1 v1) 2 v2) 3 v3) 4 v4) ht 5 v5
theorem results_cct {P : Program} {fn : Func} {p p' u : Tmp} {ty ty' : TypeId} (h : fn.results = #[.cell p ty, .cell p' ty', .tmp u]) (tmps : Array Value) (w : World) (g g' : Nat) (t t' : TypeId) (cs cs' : Array Value) (fr fr' : Nat × Nat) (d d' : TypeDesc)
    (hp : tmps.getD p undef = .pointer (some ⟨g, 0, none⟩)) (hg : w.heap[g]? = some (.cells cs t fr))
    (hu : P.underlying ty = some d) (hd : (match d with | .struct _ | .array _ _ => true | _ => false) = true) (hi : (P.info? ty).map (·.size) = some cs.size)
    (hp' : tmps.getD p' undef = .pointer (some ⟨g', 0, none⟩)) (hg' : w.heap[g']? = some (.cells cs' t' fr'))
    (hu' : P.underlying ty' = some d') (hd' : (match d' with | .struct _ | .array _ _ => true | _ => false) = true) (hi' : (P.info? ty').map (·.size) = some cs'.size) :
    (results fn tmps).run P w = .ok (.tuple #[.agg cs, .agg cs', tmps.getD u undef]) w := by
  have h1 : tmps[p]?.getD undef = .pointer (some ⟨g, 0, none⟩) := by simpa using hp
  have h2 : tmps[p']?.getD undef = .pointer (some ⟨g', 0, none⟩) := by simpa using hp'
  simp [results, h, h1, h2, asAddr, run_loadVar_row w g t ty cs fr d hg hu hd hi, run_loadVar_row w g' t' ty' cs' fr' d' hg' hu' hd' hi']

theorem alloc4 (w : World) (a b c d : Obj) : ((((w.alloc a).alloc b).alloc c).alloc d).heap[w.heap.size]? = some a ∧ ((((w.alloc a).alloc b).alloc c).alloc d).heap[w.heap.size + 1]? = some b ∧ ((((w.alloc a).alloc b).alloc c).alloc d).heap[w.heap.size + 1 + 1]? = some c ∧ ((((w.alloc a).alloc b).alloc c).alloc d).heap[w.heap.size + 1 + 1 + 1]? = some d ∧ ((((w.alloc a).alloc b).alloc c).alloc d).heap.size = w.heap.size + 1 + 1 + 1 + 1 ∧ Below w.heap.size w ((((w.alloc a).alloc b).alloc c).alloc d) := by
  have s1 : (w.alloc a).heap.size = w.heap.size + 1 := World.size_alloc _ _
  have s2 : ((w.alloc a).alloc b).heap.size = w.heap.size + 1 + 1 := by rw [World.size_alloc, s1]
  have s3 : (((w.alloc a).alloc b).alloc c).heap.size = w.heap.size + 1 + 1 + 1 := by rw [World.size_alloc, s2]
  have s4 : ((((w.alloc a).alloc b).alloc c).alloc d).heap.size = w.heap.size + 1 + 1 + 1 + 1 := by rw [World.size_alloc, s3]
  refine ⟨?_, ?_, ?_, ?_, s4, ?_⟩
  · rw [Below.heap_alloc _ _ _ (by omega), Below.heap_alloc _ _ _ (by omega), Below.heap_alloc _ _ _ (by omega)]
    exact World.alloc_heap_new _ _
  · rw [Below.heap_alloc _ _ _ (by omega), Below.heap_alloc _ _ _ (by omega)]
    have := World.alloc_heap_new (w.alloc a) b
    rwa [s1] at this
  · rw [Below.heap_alloc _ _ _ (by omega)]
    have := World.alloc_heap_new ((w.alloc a).alloc b) c
    rwa [s2] at this
  · have := World.alloc_heap_new (((w.alloc a).alloc b).alloc c) d
    rwa [s3] at this
  · exact ((((Below.refl _ w).alloc (Nat.le_refl _) _).alloc (by omega) _).alloc (by omega) _).alloc (by omega) _

set_option maxRecDepth 100000 in
set_option maxHeartbeats 4000000 in
theorem commitDo_calls (AB : Option Addr) (cB : Nat) (B : List ByteArray) (A : Option Addr) (n c : Nat) (keep next gen stop : Int) (w : World) (hB : Kd.C Kd.string w AB B.length B) (hAB : ∀ ad, AB = some ad → ad.block < w.heap.size) (hcB : B.length ≤ cB) (hBl : B.length ≤ 4000) (hB2 : 2 ≤ B.length) (hA : Kd.C k75 w A n (blank n)) (hAl : ∀ ad, A = some ad → ad.block < w.heap.size) (hcn : n ≤ c)
    (hn : n ≤ 2000) (hn0 : 0 < n) (hcell : cellsM B.length = n) (hk0 : 0 ≤ keep) (hk1 : keep ≤ 65535) (hx0 : 0 ≤ next) (hx1 : next ≤ 4294967295) (hg0 : 0 ≤ gen) (hg1 : gen ≤ 1000)
    (hat : larea n (gen + 1) + chunksN (bookL n keep next).length ≤ B.length) :
    Calls Tryz.prog 12 #[.agg #[.slice AB B.length cB, .slice none 0 0], stV A n c keep next gen, .int .i64 stop] w (doneQ w AB B A n keep next gen stop) := by
  have hu26 := Tryz.underlying26
  have hu29 := Tryz.underlying29
  have hu33 := Tryz.underlying33
  have hu68 := Tryz.underlying68
  have HPL := Aside0.mk (fun (W : World) (h : Below w.heap.size w W) => plan_calls AB cB B A n c keep next gen W (Kd.C_below hB h) hcB hBl (Kd.C_below hA h) hn hcell hk0 hk1 hx0 hx1 hg0 hg1 hat)
  go_enter Tryz.func12, Tryz.ntmps12
  obtain ⟨w4, hw4⟩ : ∃ w4, w4 = (((w.alloc (.cells #[.slice AB B.length cB, .slice none 0 0] 26)).alloc (.cells #[.slice A n c, .int .i64 keep, .slice none 0 0, .slice none 0 0, .int .i64 next, .int .i64 gen] 33)).alloc (.cells #[.slice none 0 0, .slice none 0 0] 26)).alloc (.cells #[.slice none 0 0, .int .i64 0, .slice none 0 0, .slice none 0 0, .int .i64 0, .int .i64 0] 33) := ⟨_, rfl⟩
  obtain ⟨b0, b1, b2, b3, hs4, hb4⟩ := alloc4 w (.cells #[.slice AB B.length cB, .slice none 0 0] 26) (.cells #[.slice A n c, .int .i64 keep, .slice none 0 0, .slice none 0 0, .int .i64 next, .int .i64 gen] 33) (.cells #[.slice none 0 0, .slice none 0 0] 26) (.cells #[.slice none 0 0, .int .i64 0, .slice none 0 0, .slice none 0 0, .int .i64 0, .int .i64 0] 33)
  rw [← hw4] at b0 b1 b2 b3 hs4 hb4
  have B0 := Aside0.mk b0
  have B1 := Aside0.mk b1
  have B2 := Aside0.mk b2
  have B3 := Aside0.mk b3
  have HS4 := Aside0.mk hs4
  have HB4 := Aside0.mk hb4
  clear b0 b1 b2 b3 hs4 hb4
  go_wp2_with fail
  rw [← hw4]
  clear hw4
  refine (HPL.out w4 HB4.out).mono ?_
  rintro e w5 ⟨v5, rfl, hR5, hb5⟩
  obtain ⟨Al, cl, rfl⟩ := Kd.R_slice hR5
  have hC5 := (Kd.R_reads' hR5).2.2
  have hbw5 : Below w.heap.size w w5 := below_then HB4.out HB4.out.size hb5
  have B0' := Aside0.mk ((hb5.block _ (blk_lt B0.out)).trans B0.out)
  have B1' := Aside0.mk ((hb5.block _ (blk_lt B1.out)).trans B1.out)
  have B2' := Aside0.mk ((hb5.block _ (blk_lt B2.out)).trans B2.out)
  have B3' := Aside0.mk ((hb5.block _ (blk_lt B3.out)).trans B3.out)
  have HS5 : Aside0 (w.heap.size + 4 ≤ w5.heap.size) := ⟨by have := hb5.size; have := HS4.out; omega⟩
  have c0 : w5.cell? ⟨w.heap.size, 0, none⟩ = some (.slice AB B.length cB) := (blk_cell B0'.out 0).trans rfl
  have c1 : w5.cell? ⟨w.heap.size, 1, none⟩ = some (.slice none 0 0) := (blk_cell B0'.out 1).trans rfl
  obtain ⟨L, hL⟩ : ∃ L, L = planL B n keep next gen := ⟨_, rfl⟩
  rw [← hL] at hR5 hC5 ⊢
  have hLl : L.length ≤ 1000 := by rw [hL]; exact planL_length B n keep next gen hn
  have hLo : ∀ s ∈ L, okW B.length s := by rw [hL]; exact planL_ok B n keep next gen hB2 hg0 hat
  have HL := Aside0.mk hL
  have HBW5 := Aside0.mk hbw5
  have hbx : Below w5.heap.size w5 (w5.alloc (.cells #[.slice AB B.length cB, .slice none 0 0, .slice Al L.length cl, .func (.func 27) #[] #[]] 68)) := (Below.refl _ w5).alloc (Nat.le_refl _) _
  have hrun := run_calls w5.heap.size AB cB B Al cl L stop (w5.alloc (.cells #[.slice AB B.length cB, .slice none 0 0, .slice Al L.length cl, .func (.func 27) #[] #[]] 68)) (World.alloc_heap_new w5 _) (Kd.C_below hB (below_then hbw5 hbw5.size hbx)) (fun ad e => by have := hAB ad e; have := hbw5.size; omega) hcB hBl (by omega) (Kd.C_below hC5 hbx) (by omega) hLo
  have HBX := Aside0.mk hbx
  clear hL hR5 hb5 hbw5 hbx B0 B1 B2 B3 HS4 HPL
  go_wp2_with fail
  refine hrun.mono ?_
  rintro e w7 ⟨A1, c1', v2, rfl, hp7, hc1', hC1, hA1, hAA1, ⟨bs, ok', hR7⟩, hvn, hb7⟩
  clear hrun c0 c1
  obtain ⟨Av, cv, rfl⟩ := Kd.R_slice hR7
  have hbb : Below w5.heap.size w5 w7 := HBX.out.trans hb7
  have y1 := (hbb.block _ (blk_lt B1'.out)).trans B1'.out
  have y2 := (hbb.block _ (blk_lt B2'.out)).trans B2'.out
  have y3 := (hbb.block _ (blk_lt B3'.out)).trans B3'.out
  have Y1 := Aside0.mk y1
  have Y2 := Aside0.mk y2
  have Y3 := Aside0.mk y3
  have P7 := Aside0.mk hp7
  have HBB : Aside0 (Below w.heap.size w w7) := ⟨HBW5.out.trans (hbb.mono HBW5.out.size)⟩
  have HC1 := Aside0.mk hC1
  have HR7 := Aside0.mk hR7
  have HA1 := Aside0.mk hA1
  have HAA1 := Aside0.mk hAA1
  have HVN := Aside0.mk hvn
  clear hAA1 hvn
  have HC1' := Aside0.mk hc1'
  clear y1 y2 y3 hp7 hC1 hR7 hbb hb7 B0' B1' B2' B3' HBX hA1 hc1'
  by_cases hk : (doS stop L B [] 0).2.2 = L.length
  · generalize hRd : doS stop L B [] 0 = R at *
    have HRD := Aside0.mk hRd
    clear hRd
    have p0 : w7.cell? ⟨w5.heap.size, 0, none⟩ = some (.slice A1 B.length c1') := (blk_cell P7.out 0).trans rfl
    have p1 : w7.cell? ⟨w5.heap.size, 1, none⟩ = some (.slice Av R.2.1.length cv) := (blk_cell P7.out 1).trans rfl
    have s0 : w7.cell? ⟨w.heap.size + 1, 0, none⟩ = some (.slice A n c) := (blk_cell Y1.out 0).trans rfl
    have s1 : w7.cell? ⟨w.heap.size + 1, 1, none⟩ = some (.int .i64 keep) := (blk_cell Y1.out 1).trans rfl
    have s2 : w7.cell? ⟨w.heap.size + 1, 2, none⟩ = some (.slice none 0 0) := (blk_cell Y1.out 2).trans rfl
    have s3 : w7.cell? ⟨w.heap.size + 1, 3, none⟩ = some (.slice none 0 0) := (blk_cell Y1.out 3).trans rfl
    have s4 : w7.cell? ⟨w.heap.size + 1, 4, none⟩ = some (.int .i64 next) := (blk_cell Y1.out 4).trans rfl
    have s5 : w7.cell? ⟨w.heap.size + 1, 5, none⟩ = some (.int .i64 gen) := (blk_cell Y1.out 5).trans rfl
    have d0 : w7.cell? ⟨w.heap.size + 1 + 1, 0, none⟩ = some (.slice none 0 0) := (blk_cell Y2.out 0).trans rfl
    have d1 : w7.cell? ⟨w.heap.size + 1 + 1, 1, none⟩ = some (.slice none 0 0) := (blk_cell Y2.out 1).trans rfl
    have e0 : w7.frozen? ⟨w.heap.size + 1 + 1, 0, none⟩ = false := blk_frozen Y2.out 0
    have e1 : w7.frozen? ⟨w.heap.size + 1 + 1, 1, none⟩ = false := blk_frozen Y2.out 1
    have t0 : w7.cell? ⟨w.heap.size + 1 + 1 + 1, 0, none⟩ = some (.slice none 0 0) := (blk_cell Y3.out 0).trans rfl
    have t1 : w7.cell? ⟨w.heap.size + 1 + 1 + 1, 1, none⟩ = some (.int .i64 0) := (blk_cell Y3.out 1).trans rfl
    have t2 : w7.cell? ⟨w.heap.size + 1 + 1 + 1, 2, none⟩ = some (.slice none 0 0) := (blk_cell Y3.out 2).trans rfl
    have t3 : w7.cell? ⟨w.heap.size + 1 + 1 + 1, 3, none⟩ = some (.slice none 0 0) := (blk_cell Y3.out 3).trans rfl
    have t4 : w7.cell? ⟨w.heap.size + 1 + 1 + 1, 4, none⟩ = some (.int .i64 0) := (blk_cell Y3.out 4).trans rfl
    have t5 : w7.cell? ⟨w.heap.size + 1 + 1 + 1, 5, none⟩ = some (.int .i64 0) := (blk_cell Y3.out 5).trans rfl
    have u0 : w7.frozen? ⟨w.heap.size + 1 + 1 + 1, 0, none⟩ = false := blk_frozen Y3.out 0
    have u1 : w7.frozen? ⟨w.heap.size + 1 + 1 + 1, 1, none⟩ = false := blk_frozen Y3.out 1
    have u2 : w7.frozen? ⟨w.heap.size + 1 + 1 + 1, 2, none⟩ = false := blk_frozen Y3.out 2
    have u3 : w7.frozen? ⟨w.heap.size + 1 + 1 + 1, 3, none⟩ = false := blk_frozen Y3.out 3
    have u4 : w7.frozen? ⟨w.heap.size + 1 + 1 + 1, 4, none⟩ = false := blk_frozen Y3.out 4
    have u5 : w7.frozen? ⟨w.heap.size + 1 + 1 + 1, 5, none⟩ = false := blk_frozen Y3.out 5
    have hk2 : decide (R.2.2 = (L.length : Int)) = true := decide_eq_true hk
    rw [hk2]
    have hS := settle_calls A n c keep w7 (Kd.C_below hA HBB.out) hn hn0
    have hl1 := blk_lt Y1.out
    go_wp2_with fail
    refine hS.mono ?_
    rintro e w9 ⟨g, rfl, hC9, hg9, hgl9, hb9⟩
    clear hS p0 p1 s0 s1 s2 s3 s4 s5 d0 d1 e0 e1 t0 t1 t2 t3 t4 t5 u0 u1 u2 u3 u4 u5
    have q1 := (hb9.block _ hl1).trans Y1.out
    have q2 := (hb9.block _ (blk_lt Y2.out)).trans Y2.out
    have q3 := (hb9.block _ (blk_lt Y3.out)).trans Y3.out
    have qp := (hb9.block _ (blk_lt P7.out)).trans P7.out
    have s0 : w9.cell? ⟨w.heap.size + 1, 0, none⟩ = some (.slice A n c) := (blk_cell q1 0).trans rfl
    have s1 : w9.cell? ⟨w.heap.size + 1, 1, none⟩ = some (.int .i64 keep) := (blk_cell q1 1).trans rfl
    have s5 : w9.cell? ⟨w.heap.size + 1, 5, none⟩ = some (.int .i64 gen) := (blk_cell q1 5).trans rfl
    have f0 : w9.frozen? ⟨w.heap.size + 1, 0, none⟩ = false := blk_frozen q1 0
    have f1 : w9.frozen? ⟨w.heap.size + 1, 1, none⟩ = false := blk_frozen q1 1
    have f5 : w9.frozen? ⟨w.heap.size + 1, 5, none⟩ = false := blk_frozen q1 5
    have Q1 := Aside0.mk q1
    have Q2 := Aside0.mk q2
    have Q3 := Aside0.mk q3
    have QP := Aside0.mk qp
    have HC9 := Aside0.mk hC9
    have HG9 := Aside0.mk hg9
    have HGL9 := Aside0.mk hgl9
    have HB9 := Aside0.mk hb9
    clear q1 q2 q3 qp hC9 hg9 hgl9 hb9 hl1
    go_wp2_with fail
    obtain ⟨wx, hwx⟩ : ∃ wx, wx = ((w9.setCell ⟨w.heap.size + 1, 0, none⟩ (.slice (some ⟨g, 0, none⟩) n n)).setCell ⟨w.heap.size + 1, 1, none⟩ (.int .i64 keep)).setCell ⟨w.heap.size + 1, 5, none⟩ (.int .i64 (gen + 1)) := ⟨_, rfl⟩
    have x1 : wx.heap[w.heap.size + 1]? = some (.cells #[.slice (some ⟨g, 0, none⟩) n n, .int .i64 keep, .slice none 0 0, .slice none 0 0, .int .i64 next, .int .i64 (gen + 1)] 33) := by
      rw [hwx]
      exact set_blk (set_blk (set_blk Q1.out 0 _) 1 _) 5 _
    have hxo : ∀ k, k ≠ w.heap.size + 1 → wx.heap[k]? = w9.heap[k]? := fun k hk => by
      rw [hwx, Below.heap_setCell _ _ _ _ (by simpa using hk), Below.heap_setCell _ _ _ _ (by simpa using hk), Below.heap_setCell _ _ _ _ (by simpa using hk)]
    have x2 := (hxo _ (by omega)).trans Q2.out
    have x3 := (hxo _ (by omega)).trans Q3.out
    have h5 := HS5.out
    have xp := (hxo _ (by omega)).trans QP.out
    have hxs : wx.heap.size = w9.heap.size := by rw [hwx]; simp
    have hb9 : Below w.heap.size w w9 := HBB.out.trans (HB9.out.mono HBB.out.size)
    have xB : Below w.heap.size w wx := by
      rw [hwx]
      exact ((hb9.setCell (p := ⟨w.heap.size + 1, 0, none⟩) (by show w.heap.size ≤ w.heap.size + 1; omega) _).setCell (p := ⟨w.heap.size + 1, 1, none⟩) (by show w.heap.size ≤ w.heap.size + 1; omega) _).setCell (p := ⟨w.heap.size + 1, 5, none⟩) (by show w.heap.size ≤ w.heap.size + 1; omega) _
    have hne1 : ∀ ad, A1 = some ad → ad.block ≠ w.heap.size + 1 := fun ad e => by
      rcases HAA1.out with h | h
      · have := hAB ad (h ▸ e)
        omega
      · have := h ad e
        simp at *
        omega
    have hne2 : ∀ ad, A1 = some ad → ad.block ≠ w.heap.size + 1 + 1 := fun ad e => by
      rcases HAA1.out with h | h
      · have := hAB ad (h ▸ e)
        omega
      · have := h ad e
        simp at *
        omega
    have hne3 : ∀ ad, A1 = some ad → ad.block ≠ w.heap.size + 1 + 1 + 1 := fun ad e => by
      rcases HAA1.out with h | h
      · have := hAB ad (h ▸ e)
        omega
      · have := h ad e
        simp at *
        omega
    have xC : Kd.C Kd.string wx A1 B.length R.1 := by rw [hwx]; exact c_far (c_far (c_far (Kd.C_below HC1.out HB9.out) hne1 _) hne1 _) hne1 _
    have xR : Kd.R k58 58 wx bs ok' (.slice Av R.2.1.length cv) R.2.1 := by rw [hwx]; exact Kd.R_set (Kd.R_set (Kd.R_set (Kd.R_below HR7.out HB9.out) Q1.out (by decide) 0 _) (set_blk Q1.out 0 _) (by decide) 1 _) (set_blk (set_blk Q1.out 0 _) 1 _) (by decide) 5 _
    have hg1 : w.heap.size + 1 + 1 + 1 < g := by
      have h1 := HG9.out
      have h2 := blk_lt P7.out
      omega
    have hgl : g < wx.heap.size := by rw [hxs]; exact HGL9.out
    have xG : Kd.C k75 wx (some ⟨g, 0, none⟩) n (blank n) := by
      rw [hwx]
      exact c75_far (c75_far (c75_far HC9.out (by omega) _) (by omega) _) (by omega) _
    rw [← hwx]
    clear hwx s0 s1 s5 f0 f1 f5
    have p0 : wx.cell? ⟨w5.heap.size, 0, none⟩ = some (.slice A1 B.length c1') := (blk_cell xp 0).trans rfl
    have p1 : wx.cell? ⟨w5.heap.size, 1, none⟩ = some (.slice Av R.2.1.length cv) := (blk_cell xp 1).trans rfl
    have s0 : wx.cell? ⟨w.heap.size + 1, 0, none⟩ = some (.slice (some ⟨g, 0, none⟩) n n) := (blk_cell x1 0).trans rfl
    have s1 : wx.cell? ⟨w.heap.size + 1, 1, none⟩ = some (.int .i64 keep) := (blk_cell x1 1).trans rfl
    have s2 : wx.cell? ⟨w.heap.size + 1, 2, none⟩ = some (.slice none 0 0) := (blk_cell x1 2).trans rfl
    have s3 : wx.cell? ⟨w.heap.size + 1, 3, none⟩ = some (.slice none 0 0) := (blk_cell x1 3).trans rfl
    have s4 : wx.cell? ⟨w.heap.size + 1, 4, none⟩ = some (.int .i64 next) := (blk_cell x1 4).trans rfl
    have s5 : wx.cell? ⟨w.heap.size + 1, 5, none⟩ = some (.int .i64 (gen + 1)) := (blk_cell x1 5).trans rfl
    have d0 : wx.cell? ⟨w.heap.size + 1 + 1, 0, none⟩ = some (.slice none 0 0) := (blk_cell x2 0).trans rfl
    have d1 : wx.cell? ⟨w.heap.size + 1 + 1, 1, none⟩ = some (.slice none 0 0) := (blk_cell x2 1).trans rfl
    have e0 : wx.frozen? ⟨w.heap.size + 1 + 1, 0, none⟩ = false := blk_frozen x2 0
    have e1 : wx.frozen? ⟨w.heap.size + 1 + 1, 1, none⟩ = false := blk_frozen x2 1
    have t0 : wx.cell? ⟨w.heap.size + 1 + 1 + 1, 0, none⟩ = some (.slice none 0 0) := (blk_cell x3 0).trans rfl
    have t1 : wx.cell? ⟨w.heap.size + 1 + 1 + 1, 1, none⟩ = some (.int .i64 0) := (blk_cell x3 1).trans rfl
    have t2 : wx.cell? ⟨w.heap.size + 1 + 1 + 1, 2, none⟩ = some (.slice none 0 0) := (blk_cell x3 2).trans rfl
    have t3 : wx.cell? ⟨w.heap.size + 1 + 1 + 1, 3, none⟩ = some (.slice none 0 0) := (blk_cell x3 3).trans rfl
    have t4 : wx.cell? ⟨w.heap.size + 1 + 1 + 1, 4, none⟩ = some (.int .i64 0) := (blk_cell x3 4).trans rfl
    have t5 : wx.cell? ⟨w.heap.size + 1 + 1 + 1, 5, none⟩ = some (.int .i64 0) := (blk_cell x3 5).trans rfl
    have u0 : wx.frozen? ⟨w.heap.size + 1 + 1 + 1, 0, none⟩ = false := blk_frozen x3 0
    have u1 : wx.frozen? ⟨w.heap.size + 1 + 1 + 1, 1, none⟩ = false := blk_frozen x3 1
    have u2 : wx.frozen? ⟨w.heap.size + 1 + 1 + 1, 2, none⟩ = false := blk_frozen x3 2
    have u3 : wx.frozen? ⟨w.heap.size + 1 + 1 + 1, 3, none⟩ = false := blk_frozen x3 3
    have u4 : wx.frozen? ⟨w.heap.size + 1 + 1 + 1, 4, none⟩ = false := blk_frozen x3 4
    have u5 : wx.frozen? ⟨w.heap.size + 1 + 1 + 1, 5, none⟩ = false := blk_frozen x3 5
    have X2 := Aside0.mk x2
    have X3 := Aside0.mk x3
    have XB := Aside0.mk xB
    have XC := Aside0.mk xC
    have XR := Aside0.mk xR
    have XG := Aside0.mk xG
    have HXS := Aside0.mk hxs
    clear x1 x2 x3 xp xB xC xR xG hxs hxo
    go_region
    all_goals go_wp2
    obtain ⟨w8, hw8⟩ : ∃ w8, w8 = (wx.setCell ⟨w.heap.size + 1 + 1, 0, none⟩ (.slice A1 B.length c1')).setCell ⟨w.heap.size + 1 + 1, 1, none⟩ (.slice Av R.2.1.length cv) := ⟨_, rfl⟩
    have z2 : w8.heap[w.heap.size + 1 + 1]? = some (.cells #[.slice A1 B.length c1', .slice Av R.2.1.length cv] 26) := by rw [hw8]; exact set_blk (set_blk X2.out 0 _) 1 _
    have z3 : w8.heap[w.heap.size + 1 + 1 + 1]? = some (.cells #[.slice none 0 0, .int .i64 0, .slice none 0 0, .slice none 0 0, .int .i64 0, .int .i64 0] 33) := by
      rw [hw8, Below.heap_setCell _ _ _ _ (by simp), Below.heap_setCell _ _ _ _ (by simp)]
      exact X3.out
    have zB : Below w.heap.size w w8 := by rw [hw8]; exact (XB.out.setCell (p := ⟨w.heap.size + 1 + 1, 0, none⟩) (by show w.heap.size ≤ w.heap.size + 1 + 1; omega) _).setCell (p := ⟨w.heap.size + 1 + 1, 1, none⟩) (by show w.heap.size ≤ w.heap.size + 1 + 1; omega) _
    have zC : Kd.C Kd.string w8 A1 B.length R.1 := by rw [hw8]; exact c_far (c_far XC.out hne2 _) hne2 _
    have zR : Kd.R k58 58 w8 bs ok' (.slice Av R.2.1.length cv) R.2.1 := by rw [hw8]; exact Kd.R_set (Kd.R_set XR.out X2.out (by decide) 0 _) (set_blk X2.out 0 _) (by decide) 1 _
    have zG : Kd.C k75 w8 (some ⟨g, 0, none⟩) n (blank n) := by rw [hw8]; exact c75_far (c75_far XG.out (by omega) _) (by omega) _
    rw [← hw8]
    have zs : w8.heap.size = wx.heap.size := by rw [hw8]; simp
    clear hw8
    refine bodyPost_ret (results_cct rfl _ _ (w.heap.size + 1 + 1) (w.heap.size + 1 + 1 + 1) 26 33 #[.slice A1 B.length c1', .slice Av R.2.1.length cv] #[.slice (some ⟨g, 0, none⟩) n n, .int .i64 keep, .slice none 0 0, .slice none 0 0, .int .i64 next, .int .i64 (gen + 1)] (0, 0) (0, 0) _ _ rfl ?z2 Tryz.underlying26 rfl (by kernel_rfl) rfl ?z3 Tryz.underlying33 rfl (by kernel_rfl)) rfl ?_
    case z2 =>
      rw [heap_drew, set6_other _ _ _ _ _ _ _ _ _ (by omega)]
      exact z2
    case z3 =>
      rw [heap_drew]
      exact set6_blk z3
    · unfold doneQ
      rw [← HL.out, HRD.out, if_pos hk, if_pos hk]
      refine ⟨A1, c1', _, some ⟨g, 0, none⟩, n, rfl, HC1'.out, Nat.le_refl _, ?_, ?_, ?_, HVN.out, ?_, ?_, ?_⟩
      · exact Kd.C_drew (c_far6 zC hne3 _ _ _ _ _ _)
      · exact fun ad e => by
          have := HA1.out ad e
          have := HB9.out.size
          have := HXS.out
          rw [heap_drew, set6_size]
          omega
      · exact ⟨bs, ok', Kd.R_drew (r_set6 zR z3 (by decide) _ _ _ _ _ _)⟩
      · exact Kd.C_drew (c75_far6 zG (by omega) _ _ _ _ _ _)
      · exact fun ad e => by
          cases e
          rw [heap_drew, set6_size]
          show g < w8.heap.size
          omega
      · exact below_drew (set6_below zB (by omega) _ _ _ _ _ _)
  · generalize hRd : doS stop L B [] 0 = R at *
    have HRD := Aside0.mk hRd
    clear hRd
    have p0 : w7.cell? ⟨w5.heap.size, 0, none⟩ = some (.slice A1 B.length c1') := (blk_cell P7.out 0).trans rfl
    have p1 : w7.cell? ⟨w5.heap.size, 1, none⟩ = some (.slice Av R.2.1.length cv) := (blk_cell P7.out 1).trans rfl
    have s0 : w7.cell? ⟨w.heap.size + 1, 0, none⟩ = some (.slice A n c) := (blk_cell Y1.out 0).trans rfl
    have s1 : w7.cell? ⟨w.heap.size + 1, 1, none⟩ = some (.int .i64 keep) := (blk_cell Y1.out 1).trans rfl
    have s2 : w7.cell? ⟨w.heap.size + 1, 2, none⟩ = some (.slice none 0 0) := (blk_cell Y1.out 2).trans rfl
    have s3 : w7.cell? ⟨w.heap.size + 1, 3, none⟩ = some (.slice none 0 0) := (blk_cell Y1.out 3).trans rfl
    have s4 : w7.cell? ⟨w.heap.size + 1, 4, none⟩ = some (.int .i64 next) := (blk_cell Y1.out 4).trans rfl
    have s5 : w7.cell? ⟨w.heap.size + 1, 5, none⟩ = some (.int .i64 gen) := (blk_cell Y1.out 5).trans rfl
    have d0 : w7.cell? ⟨w.heap.size + 1 + 1, 0, none⟩ = some (.slice none 0 0) := (blk_cell Y2.out 0).trans rfl
    have d1 : w7.cell? ⟨w.heap.size + 1 + 1, 1, none⟩ = some (.slice none 0 0) := (blk_cell Y2.out 1).trans rfl
    have e0 : w7.frozen? ⟨w.heap.size + 1 + 1, 0, none⟩ = false := blk_frozen Y2.out 0
    have e1 : w7.frozen? ⟨w.heap.size + 1 + 1, 1, none⟩ = false := blk_frozen Y2.out 1
    have t0 : w7.cell? ⟨w.heap.size + 1 + 1 + 1, 0, none⟩ = some (.slice none 0 0) := (blk_cell Y3.out 0).trans rfl
    have t1 : w7.cell? ⟨w.heap.size + 1 + 1 + 1, 1, none⟩ = some (.int .i64 0) := (blk_cell Y3.out 1).trans rfl
    have t2 : w7.cell? ⟨w.heap.size + 1 + 1 + 1, 2, none⟩ = some (.slice none 0 0) := (blk_cell Y3.out 2).trans rfl
    have t3 : w7.cell? ⟨w.heap.size + 1 + 1 + 1, 3, none⟩ = some (.slice none 0 0) := (blk_cell Y3.out 3).trans rfl
    have t4 : w7.cell? ⟨w.heap.size + 1 + 1 + 1, 4, none⟩ = some (.int .i64 0) := (blk_cell Y3.out 4).trans rfl
    have t5 : w7.cell? ⟨w.heap.size + 1 + 1 + 1, 5, none⟩ = some (.int .i64 0) := (blk_cell Y3.out 5).trans rfl
    have u0 : w7.frozen? ⟨w.heap.size + 1 + 1 + 1, 0, none⟩ = false := blk_frozen Y3.out 0
    have u1 : w7.frozen? ⟨w.heap.size + 1 + 1 + 1, 1, none⟩ = false := blk_frozen Y3.out 1
    have u2 : w7.frozen? ⟨w.heap.size + 1 + 1 + 1, 2, none⟩ = false := blk_frozen Y3.out 2
    have u3 : w7.frozen? ⟨w.heap.size + 1 + 1 + 1, 3, none⟩ = false := blk_frozen Y3.out 3
    have u4 : w7.frozen? ⟨w.heap.size + 1 + 1 + 1, 4, none⟩ = false := blk_frozen Y3.out 4
    have u5 : w7.frozen? ⟨w.heap.size + 1 + 1 + 1, 5, none⟩ = false := blk_frozen Y3.out 5
    have hk2 : decide (R.2.2 = (L.length : Int)) = false := decide_eq_false hk
    rw [hk2]
    go_wp2_with fail
    go_region
    all_goals go_wp2
    have hne2 : ∀ ad, A1 = some ad → ad.block ≠ w.heap.size + 1 + 1 := fun ad e => by
      rcases HAA1.out with h | h
      · have := hAB ad (h ▸ e)
        omega
      · have := h ad e
        have := HS5.out
        simp at *
        omega
    have hne3 : ∀ ad, A1 = some ad → ad.block ≠ w.heap.size + 1 + 1 + 1 := fun ad e => by
      rcases HAA1.out with h | h
      · have := hAB ad (h ▸ e)
        omega
      · have := h ad e
        have := HS5.out
        simp at *
        omega
    obtain ⟨w8, hw8⟩ : ∃ w8, w8 = (w7.setCell ⟨w.heap.size + 1 + 1, 0, none⟩ (.slice A1 B.length c1')).setCell ⟨w.heap.size + 1 + 1, 1, none⟩ (.slice Av R.2.1.length cv) := ⟨_, rfl⟩
    have z2 : w8.heap[w.heap.size + 1 + 1]? = some (.cells #[.slice A1 B.length c1', .slice Av R.2.1.length cv] 26) := by rw [hw8]; exact set_blk (set_blk Y2.out 0 _) 1 _
    have z3 : w8.heap[w.heap.size + 1 + 1 + 1]? = some (.cells #[.slice none 0 0, .int .i64 0, .slice none 0 0, .slice none 0 0, .int .i64 0, .int .i64 0] 33) := by
      rw [hw8, Below.heap_setCell _ _ _ _ (by simp), Below.heap_setCell _ _ _ _ (by simp)]
      exact Y3.out
    have zB : Below w.heap.size w w8 := by rw [hw8]; exact (HBB.out.setCell (p := ⟨w.heap.size + 1 + 1, 0, none⟩) (by show w.heap.size ≤ w.heap.size + 1 + 1; omega) _).setCell (p := ⟨w.heap.size + 1 + 1, 1, none⟩) (by show w.heap.size ≤ w.heap.size + 1 + 1; omega) _
    have zC : Kd.C Kd.string w8 A1 B.length R.1 := by rw [hw8]; exact c_far (c_far HC1.out hne2 _) hne2 _
    have zR : Kd.R k58 58 w8 bs ok' (.slice Av R.2.1.length cv) R.2.1 := by rw [hw8]; exact Kd.R_set (Kd.R_set HR7.out Y2.out (by decide) 0 _) (set_blk Y2.out 0 _) (by decide) 1 _
    rw [← hw8]
    have zs : w8.heap.size = w7.heap.size := by rw [hw8]; simp
    clear hw8
    refine bodyPost_ret (results_cct rfl _ _ (w.heap.size + 1 + 1) (w.heap.size + 1 + 1 + 1) 26 33 #[.slice A1 B.length c1', .slice Av R.2.1.length cv] #[.slice A n c, .int .i64 keep, .slice none 0 0, .slice none 0 0, .int .i64 next, .int .i64 gen] (0, 0) (0, 0) _ _ rfl ?z2 Tryz.underlying26 rfl (by kernel_rfl) rfl ?z3 Tryz.underlying33 rfl (by kernel_rfl)) rfl ?_
    case z2 =>
      rw [heap_drew, set6_other _ _ _ _ _ _ _ _ _ (by omega)]
      exact z2
    case z3 =>
      rw [heap_drew]
      exact set6_blk z3
    · unfold doneQ
      rw [← HL.out, HRD.out, if_neg hk, if_neg hk]
      refine ⟨A1, c1', _, A, c, rfl, HC1'.out, hcn, ?_, ?_, ?_, HVN.out, ?_, ?_, ?_⟩
      · exact Kd.C_drew (c_far6 zC hne3 _ _ _ _ _ _)
      · exact fun ad e => by
          have := HA1.out ad e
          rw [heap_drew, set6_size]
          omega
      · exact ⟨bs, ok', Kd.R_drew (r_set6 zR z3 (by decide) _ _ _ _ _ _)⟩
      · exact Kd.C_below hA (below_drew (set6_below zB (by omega) _ _ _ _ _ _))
      · exact fun ad e => by
          have := hAl ad e
          have := zB.size
          rw [heap_drew, set6_size]
          omega
      · exact below_drew (set6_below zB (by omega) _ _ _ _ _ _)
end Go.Proofs.YtfolgjigfdbnoaaGreat.M
