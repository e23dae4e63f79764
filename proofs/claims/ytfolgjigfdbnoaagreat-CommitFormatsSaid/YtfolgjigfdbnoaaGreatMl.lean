/-
  Contracts of disk.kept, disk.laid and disk.Flush.
-/
import Derived.Test.YtfolgjigfdbnoaaGreatMj
namespace Go.Proofs.YtfolgjigfdbnoaaGreat.M
open Go.RowKit Go.Shelf Go.Proofs.YtfolgjigfdbnoaaGreatW.PrintWords Go.Proofs.YtfolgjigfdbnoaaGreatW.PrintLast Go.Proofs.YtfolgjigfdbnoaaGreatW.PrintMore
open PCommitFormats
set_option linter.unusedVariables false
set_option linter.unusedSimpArgs false
attribute [local go_sem] Oper.semAt_some

theorem flush1_calls (i : Int) (w : World) : Calls Tryz.prog 82 #[.int .i64 i] w fun e w' => e = .returned (.bool true) ∧ w' = w := by
  go_enter Tryz.func82, Tryz.ntmps82
  go_wp2
  go_ret
  exact ⟨rfl, rfl⟩

def itm (ws : List S58) (x : Nat) : S58 := rd_T58 ws ((min x (ws.length - 1) : Nat) : Int)

set_option maxRecDepth 100000 in
set_option maxHeartbeats 4000000 in
theorem kept1_in (m : Nat) (hm : 1 ≤ m) (l Bs Bi n₁ o : Nat) (A : Option Addr) (c : Nat) (ws : List S58) (hl : ws.length ≤ 100000) (h1 : Bi < n₁) (h2 : Bi ≠ o) (hA : ∀ ad, A = some ad → ad.block < n₁ ∧ ad.block ≠ o) (J Jx : List Nat → World → Prop)
    (hJn : ∀ ys W W', J ys W → W.grownBy W' none → J ys W')
    (hY : ∀ pre x W, J pre W → pre.length < ws.length → YieldAt Fence.wide (m - 1) Tryz.prog l #[.agg #[.int .i64 (itm ws x).f0, .string (itm ws x).f1]] W fun e W' =>
      (e = .returned (.bool true) ∧ J (pre ++ [x]) W' ∧ KpO n₁ o W W') ∨ (e = .returned (.bool false) ∧ Jx (pre ++ [x]) W'))
    (W : World) (hn₁ : n₁ ≤ W.heap.size) (hBs : W.cell? ⟨Bs, 0, none⟩ = some (.slice A ws.length c)) (hBi : W.cell? ⟨Bi, 0, none⟩ = some (.func (.func 82) #[] #[])) (hC : Kd.C k58 W A ws.length ws) (h0 : J [] W) :
    CallsIn Fence.wide m Tryz.prog 115 #[.func (.yield l) #[] #[], .pointer (some ⟨Bs, 0, none⟩), .pointer (some ⟨Bi, 0, none⟩)] W fun e W' => (∃ v, e = .returned v) ∧
      ((∃ ys, ys = List.range ws.length ∧ J ys W') ∨ (∃ pre, (∃ k, k ≤ ws.length ∧ pre = List.range k) ∧ Jx pre W')) := by
  have hl' : (ws.length : Int) ≤ 100000 := by omega
  have hu58 := Tryz.underlying58
  have HC := Aside0.mk hC
  clear hC
  refine callsIn_of_wp Tryz.func115 rfl trivial ?_ rfl
  simp only [Tryz.ntmps115, List.size_toArray, List.length_cons, List.length_nil, Nat.reduceAdd, Nat.reduceSub, Array.replicate_succ, Array.replicate_zero, List.push_toArray, List.append_toArray, List.nil_append, List.cons_append]
  gi_wp2
  gi_loopw [8] (fun i wr => ∃ k : Nat, k ≤ ws.length ∧ i = .int .i64 (k : Int) ∧ J (List.range k) wr ∧ Aside0 (KpO n₁ o W wr))
    (fun i _ => ws.length - (intOf i).toNat)
  case atStart => exact ⟨0, Nat.zero_le _, rfl, h0, ⟨KpO.refl _ _ _⟩⟩
  case round =>
    obtain ⟨k, hk, rfl, hJs, HK⟩ := hrel
    have cn := (HK.out.cell (p := ⟨Bi, 0, none⟩) h1 h2).trans hBi
    by_cases hlt : k < ws.length
    · obtain ⟨ad, e, hx0, hx1⟩ := at_T58 HC.out k (by omega) (by omega)
      obtain ⟨hg1, hg2⟩ := hA ad e
      subst e
      have hy0 := (HK.out.cell (p := ad.add ((k : Int).toNat * 2)) (by rw [addb]; exact hg1) (by rw [addb]; exact hg2)).trans hx0
      have hy1 := (HK.out.cell (p := ⟨(ad.add ((k : Int).toNat * 2)).block, (ad.add ((k : Int).toNat * 2)).off + 1, none⟩) (by show (ad.add _).block < n₁; rw [addb]; exact hg1) (by show (ad.add _).block ≠ o; rw [addb]; exact hg2)).trans hx1
      rw [Int.toNat_natCast] at hy0 hy1
      clear hx0 hx1
      have hlt0 : Bi < wr.heap.size := cell_lt cn
      have hy4 : ∀ o', (wr.alloc o').cell? ⟨Bi, 0, none⟩ = some (.func (.func 82) #[] #[]) := fun o' => (Below.cell (B := wr.heap.size) ((Below.refl _ wr).alloc (Nat.le_refl _) o') (p := ⟨Bi, 0, none⟩) hlt0).trans cn
      obtain ⟨a0, ha0⟩ : ∃ a0, a0 = (rd_T58 ws k).f0 := ⟨_, rfl⟩
      obtain ⟨a1, ha1⟩ : ∃ a1, a1 = (rd_T58 ws k).f1 := ⟨_, rfl⟩
      obtain ⟨fn, tmps, assign, body, hy, hR⟩ := hY _ k (wr.alloc (.cells #[.int .i64 (rd_T58 ws k).f0, .string (rd_T58 ws k).f1] 58)) (hJn _ _ _ hJs (World.grownBy_alloc wr _ none)) (by rw [List.length_range]; exact hlt)
      rw [itm, show min k (ws.length - 1) = k by omega] at hy
      rw [← ha0, ← ha1] at hy hR
      rw [← ha0] at hy0
      rw [← ha1] at hy1
      have HA0 := Aside0.mk ha0
      have HA1 := Aside0.mk ha1
      clear ha0 ha1
      gi_wp2_with fail
      refine ⟨trivial, (callsIn_wide.2 (flush1_calls k _)).mono ?_⟩
      rintro e w' ⟨rfl, rfl⟩
      gi_wp2
      refine hR.mono ?_
      have hKa : KpO n₁ o W (wr.alloc (.cells #[.int .i64 a0, .string a1] 58)) := HK.out.trans (KpO.below ((Below.refl n₁ wr).alloc (Nat.le_trans hn₁ HK.out.1) _))
      have HKa := Aside0.mk hKa
      clear hKa hy0 hy1 cn
      rintro e W3 (⟨rfl, hJ3, hk3⟩ | ⟨rfl, hJx3⟩)
      · gi_wp2
        go_roundw
        case rel => exact ⟨k + 1, by omega, by simp, by rw [List.range_succ]; exact hJ3, ⟨HKa.out.trans hk3⟩⟩
        case measure => simp [intOf]; omega
      · gi_wp2
        refine bodyPost_ret (results_none rfl _ _ _) rfl ?_
        exact ⟨⟨_, rfl⟩, .inr ⟨_, ⟨k + 1, by omega, List.range_succ.symm⟩, hJx3⟩⟩
    · obtain rfl : k = ws.length := by omega
      gi_wp2
      go_end0
      exact ⟨⟨_, rfl⟩, .inl ⟨_, rfl, hJs⟩⟩

set_option maxHeartbeats 1000000 in
theorem kept_in (m : Nat) (a : Option Addr) (len cap : Nat) (w : World) :
    CallsIn Fence.wide m Tryz.prog 106 #[.slice a len cap, .func (.func 82) #[] #[]] w fun e w' => e = .returned (.func (.func 115) #[] #[.pointer (some ⟨w.heap.size, 0, none⟩), .pointer (some ⟨w.heap.size + 1, 0, none⟩)]) ∧ w' = (w.alloc (.cells #[.slice a len cap] 24)).alloc (.cells #[.func (.func 82) #[] #[]] 69) := by
  refine callsIn_of_wp Tryz.func106 rfl trivial ?_ rfl
  simp only [Tryz.ntmps106, List.size_toArray, List.length_cons, List.length_nil, Nat.reduceAdd, Nat.reduceSub, Array.replicate_succ, Array.replicate_zero, List.push_toArray, List.append_toArray, List.nil_append, List.cons_append]
  gi_wp2
  go_ret
  exact ⟨rfl, rfl⟩

theorem kept_stops (m : Nat) (hm : 1 ≤ m) (Bs Bi n₁ o : Nat) (A : Option Addr) (c : Nat) (ws : List S58) (hl : ws.length ≤ 100000) (h1 : Bi < n₁) (h2 : Bi ≠ o) (hA : ∀ ad, A = some ad → ad.block < n₁ ∧ ad.block ≠ o)
    (w : World) (hn₁ : n₁ ≤ w.heap.size) (hs1 : Bs < w.heap.size) (hs2 : Bi < w.heap.size) (hBs : w.cell? ⟨Bs, 0, none⟩ = some (.slice A ws.length c)) (hBi : w.cell? ⟨Bi, 0, none⟩ = some (.func (.func 82) #[] #[])) (hC : Kd.C k58 w A ws.length ws) :
    SeqStopsK Fence.wide m Tryz.prog 115 #[.pointer (some ⟨Bs, 0, none⟩), .pointer (some ⟨Bi, 0, none⟩)] (fun x : Nat => #[.agg #[.int .i64 (itm ws x).f0, .string (itm ws x).f1]]) (KpO n₁ o) (fun ys => ys = List.range ws.length) (fun pre => ∃ k, k ≤ ws.length ∧ pre = List.range k) ws.length w := fun l J Jx W hW hA2 _ hY h0 =>
  kept1_in m hm l Bs Bi n₁ o A c ws hl h1 h2 hA J Jx (fun ys W W' h hg => hA2 ys W W' none h hg (fun r e => by cases e)) hY W (Nat.le_trans hn₁ hW.size) ((hW.cell (p := ⟨Bs, 0, none⟩) hs1).trans hBs) ((hW.cell (p := ⟨Bi, 0, none⟩) hs2).trans hBi) (Kd.C_below hC hW) h0

theorem made_str (W : World) (n : Nat) (hc : n ≤ 1000000) :
    (Instr.makeSlice 23 (.int .i64 (n : Int)) (.int .i64 (n : Int))).run Tryz.prog W = .ok (.slice (some ⟨W.heap.size, 0, none⟩) n n) (W.alloc (.cells (encs Value.string (List.replicate n ByteArray.empty)).toArray 9)) := by
  obtain ⟨i0, hi, hzz⟩ := Option.map_eq_some_iff.1 info9
  simp only [Prod.mk.injEq] at hzz
  obtain ⟨hz0, hz1, hz2⟩ := hzz
  have hr := run_make (P := Tryz.prog) W 23 9 i0 _ Tryz.underlying23 hi hz0 .i64 .i64 (n : Int) (n : Int) (by omega) (by omega) (by rw [hz2]; omega) (by omega)
  simp only [Int.toNat_natCast] at hr
  rw [hz1, Nat.mul_one] at hr
  have hcur : madeCells (Value.string ⟨#[]⟩).cells n = (encs Value.string (List.replicate n ByteArray.empty)).toArray := by
    apply Array.ext'
    apply List.ext_getElem?
    intro j
    simp [madeCells, Value.cells, encs, List.getElem?_replicate]
    by_cases hj : j < n <;> simp [hj, Nat.mod_one] <;> rfl
  rw [hcur] at hr
  exact hr

theorem r_str_new (W : World) (base : Nat) (hb : base ≤ W.heap.size) (xs : List ByteArray) (hl : xs.length ≤ 1000000) :
    Kd.R Kd.string 9 (W.alloc (.cells (encs Value.string xs).toArray 9)) base (fun _ => True) (.slice (some ⟨W.heap.size, 0, none⟩) xs.length xs.length) xs := by
  refine Kd.R_of_own (enc := Value.string) (h1 := fun _ => rfl) ?_ (fun _ _ => trivial)
  have h2 := World.ownsRow_lit (base := base) (e := 9) (size := 1) W (encs Value.string xs).toArray xs.length hb (by simp only [maxLen]; omega) (by simp [encs])
  simpa using h2

theorem ne_own {k g n c : Nat} (h : k ≠ g) : some k ≠ (Value.slice (some ⟨g, 0, none⟩) n c).ownBlock := by simp [Value.ownBlock, h]
theorem kept_own {W W' : World} {row : Option Nat} {g : Nat} {cs : Array Value} {t : TypeId} (h : W.heap[g]? = some (.cells cs t (0, 0))) (hg : W.grownBy W' row) (hr : ∀ r, row = some r → ∃ o : Obj, W.heap[r]? = some o ∧ o.isCells = false) : W'.heap[g]? = some (.cells cs t (0, 0)) := by
  refine (hg.block g (blk_lt h) (fun e => ?_)).trans h
  obtain ⟨o, ho, hc⟩ := hr g e.symm
  rw [h] at ho
  cases ho
  cases hc
theorem size9 : (Tryz.prog.info? 9).map (·.size) = some 1 := by kernel_rfl
/-- A disk's blocks with writes done. -/
def applyL (B : List ByteArray) (ws : List S58) : List ByteArray := ws.foldl (fun b s => b.set s.f0.toNat s.f1) B

theorem applyL_snoc (B : List ByteArray) (ws : List S58) (s : S58) : applyL B (ws ++ [s]) = (applyL B ws).set s.f0.toNat s.f1 := by simp [applyL]
theorem applyL_length (B : List ByteArray) (ws : List S58) : (applyL B ws).length = B.length := by
  induction ws using snocRec with
  | nil => rfl
  | snoc ws s ih => rw [applyL_snoc, List.length_set, ih]
theorem itm_mem {ws : List S58} (x : Nat) (h : 0 < ws.length) : itm ws x ∈ ws := by
  have hl : min x (ws.length - 1) < ws.length := by omega
  simp [itm, rd_T58, List.getElem?_eq_getElem hl]
theorem itm_all (ws : List S58) : (List.range ws.length).map (itm ws) = ws := by
  apply List.ext_getElem (by simp)
  intro i h1 h2
  simp [itm, rd_T58, show min i (ws.length - 1) = i by omega, List.getElem?_eq_getElem h2]

set_option maxRecDepth 100000 in
set_option maxHeartbeats 4000000 in
theorem laid_in (m : Nat) (hm : 4 ≤ m) (AB : Option Addr) (cB : Nat) (B : List ByteArray) (A : Option Addr) (c : Nat) (ws : List S58) (w : World) (hB : Kd.C Kd.string w AB B.length B) (hcB : B.length ≤ cB) (hBl : B.length ≤ 4000) (hB0 : 0 < B.length)
    (hC : Kd.C k58 w A ws.length ws) (hAl : ∀ ad, A = some ad → ad.block < w.heap.size) (hl : ws.length ≤ 100000) (hok : ∀ s ∈ ws, 0 ≤ s.f0 ∧ s.f0 < B.length) :
    CallsIn Fence.wide m Tryz.prog 81 #[.agg #[.slice AB B.length cB, .slice A ws.length c], .func (.func 82) #[] #[]] w fun e w' => ∃ v', e = .returned (.agg #[v', .slice none 0 0]) ∧ Kd.R Kd.string 9 w' w.heap.size (fun _ => True) v' (applyL B ws) ∧ Below w.heap.size w w' := by
  have hu26 := Tryz.underlying26
  have hu58 := Tryz.underlying58
  have hBl' : (B.length : Int) ≤ 4000 := by omega
  have HBB := Aside0.mk hB
  have HCC := Aside0.mk hC
  clear hB hC
  refine callsIn_of_wp_marks Tryz.func81 rfl trivial ?_ rfl
  simp only [Tryz.ntmps81, List.size_toArray, List.length_cons, List.length_nil, Nat.reduceAdd, Nat.reduceSub, Array.replicate_succ, Array.replicate_zero, List.push_toArray, List.append_toArray, List.nil_append, List.cons_append]
  refine wpIn_wide.2 ?_
  have hmk := made_str ((w.alloc (.cells #[.slice AB B.length cB, .slice A ws.length c] 26)).alloc (.cells #[.slice none 0 0, .slice none 0 0] 26)) B.length (by omega)
  rw [World.size_alloc, World.size_alloc] at hmk
  have hZ := r_str_new ((w.alloc (.cells #[.slice AB B.length cB, .slice A ws.length c] 26)).alloc (.cells #[.slice none 0 0, .slice none 0 0] 26)) w.heap.size (by simp; omega) (List.replicate B.length ByteArray.empty) (by simp; omega)
  rw [World.size_alloc, World.size_alloc, List.length_replicate] at hZ
  have HZ := Aside0.mk hZ
  clear hZ
  obtain ⟨w4, hw4⟩ : ∃ w4, w4 = (((w.alloc (.cells #[.slice AB B.length cB, .slice A ws.length c] 26)).alloc (.cells #[.slice none 0 0, .slice none 0 0] 26)).alloc (.cells (encs Value.string (List.replicate B.length ByteArray.empty)).toArray 9)).alloc (.cells #[.slice (some ⟨w.heap.size + 1 + 1, 0, none⟩) B.length B.length] 23) := ⟨_, rfl⟩
  have HB4 : Aside0 (Below w.heap.size w w4) := ⟨by rw [hw4]; exact ((((Below.refl _ w).alloc (Nat.le_refl _) _).alloc (by simp) _).alloc (by simp; omega) _).alloc (by simp; omega) _⟩
  have HS4 : Aside0 (w4.heap.size = w.heap.size + 4) := ⟨by rw [hw4]; simp⟩
  have b0 : w4.heap[w.heap.size]? = some (.cells #[.slice AB B.length cB, .slice A ws.length c] 26) := by rw [hw4, Below.heap_alloc _ _ _ (by simp; omega), Below.heap_alloc _ _ _ (by simp; omega), Below.heap_alloc _ _ _ (by simp)]; exact World.alloc_heap_new _ _
  have b1 : w4.heap[w.heap.size + 1]? = some (.cells #[.slice none 0 0, .slice none 0 0] 26) := by
    rw [hw4, Below.heap_alloc _ _ _ (by simp), Below.heap_alloc _ _ _ (by simp)]
    have := World.alloc_heap_new (w.alloc (.cells #[.slice AB B.length cB, .slice A ws.length c] 26)) (.cells #[.slice none 0 0, .slice none 0 0] 26)
    rwa [World.size_alloc] at this
  have b3 : w4.heap[w.heap.size + 1 + 1 + 1]? = some (.cells #[.slice (some ⟨w.heap.size + 1 + 1, 0, none⟩) B.length B.length] 23) := by
    rw [hw4]
    have := World.alloc_heap_new (((w.alloc (.cells #[.slice AB B.length cB, .slice A ws.length c] 26)).alloc (.cells #[.slice none 0 0, .slice none 0 0] 26)).alloc (.cells (encs Value.string (List.replicate B.length ByteArray.empty)).toArray 9)) (.cells #[.slice (some ⟨w.heap.size + 1 + 1, 0, none⟩) B.length B.length] 23)
    simpa using this
  have HZ4 : Aside0 (Kd.R Kd.string 9 w4 w.heap.size (fun _ => True) (.slice (some ⟨w.heap.size + 1 + 1, 0, none⟩) B.length B.length) (List.replicate B.length ByteArray.empty)) := ⟨by rw [hw4]; exact Kd.R_alloc HZ.out _⟩
  have B0 := Aside0.mk b0
  have B1 := Aside0.mk b1
  have B3 := Aside0.mk b3
  have hw4' := Aside0.mk hw4
  clear hw4 b0 b1 b3
  go_wp2_with (first | ((with_reducible refine gate_builtin (b := .copy) (xs := #[.tmp 11, .tmp 13]) rfl ?_); go_must (rw [← hw4'.out]; refine Kd.R_copy (enc := Value.string) (h1 := fun _ => rfl) ByteArray.empty (w0 := w) w.heap.size rfl (.tmp 11) (.tmp 13) 23 23 9 rfl Tryz.underlying23 size9 (.slice (some ⟨w.heap.size + 1 + 1, 0, none⟩) B.length B.length) (List.replicate B.length ByteArray.empty) B AB B.length cB (fun _ => True) rfl rfl HZ4.out (Kd.C_below HBB.out HB4.out) HB4.out HB4.out.size ?_); intro w5 ho5 hb5 hg5; have b0' : w5.heap[w.heap.size]? = some (.cells #[.slice AB B.length cB, .slice A ws.length c] 26) := (hg5.block _ (blk_lt B0.out) (ne_own (by omega))).trans B0.out; have b1' : w5.heap[w.heap.size + 1]? = some (.cells #[.slice none 0 0, .slice none 0 0] 26) := (hg5.block _ (blk_lt B1.out) (ne_own (by omega))).trans B1.out; have b3' : w5.heap[w.heap.size + 1 + 1 + 1]? = some (.cells #[.slice (some ⟨w.heap.size + 1 + 1, 0, none⟩) B.length B.length] 23) := (hg5.block _ (blk_lt B3.out) (ne_own (by omega))).trans B3.out; have p0 : w5.cell? ⟨w.heap.size, 1, none⟩ = some (.slice A ws.length c) := (blk_cell b0' 1).trans rfl; have B0' := Aside0.mk b0'; have B1' := Aside0.mk b1'; have B3' := Aside0.mk b3'; clear b0' b1' b3'; have HO5 := Aside0.mk ho5; have HB5 := Aside0.mk hb5; have HG5 := Aside0.mk hg5; clear ho5 hb5 hg5))
  refine ((callsIn_wide (n := 3)).1 (kept_in 3 A ws.length c w5)).mono ?_
  rintro e w6 ⟨rfl, rfl⟩
  clear p0
  go_wp2_with fail
  obtain ⟨wr, hwr⟩ : ∃ wr, wr = (w5.alloc (.cells #[.slice A ws.length c] 24)).alloc (.cells #[.func (.func 82) #[] #[]] 69) := ⟨_, rfl⟩
  have hs5 : w.heap.size + 4 ≤ w5.heap.size := by have := HG5.out.size; have := HS4.out; omega
  have hsr : wr.heap.size = w5.heap.size + 2 := by rw [hwr]; simp
  have HR5 : Aside0 (Below w5.heap.size w5 wr) := ⟨by rw [hwr]; exact ((Below.refl _ w5).alloc (Nat.le_refl _) _).alloc (by simp) _⟩
  have cS : wr.cell? ⟨w5.heap.size, 0, none⟩ = some (.slice A ws.length c) := by rw [hwr]; go_simp
  have cF : wr.cell? ⟨w5.heap.size + 1, 0, none⟩ = some (.func (.func 82) #[] #[]) := by rw [hwr]; go_simp
  have B1'' := Aside0.mk ((HR5.out.block _ (blk_lt B1'.out)).trans B1'.out)
  have B3'' := Aside0.mk ((HR5.out.block _ (blk_lt B3'.out)).trans B3'.out)
  have HWr : Aside0 (Below w.heap.size w wr) := ⟨HB5.out.trans (HR5.out.mono (by omega))⟩
  have hgb : w5.heap[w.heap.size + 1 + 1]? = some (.cells (encs Value.string B).toArray 9) := by
    have h := Kd.own_of_R HO5.out
    have hx : B.take (min B.length (List.replicate B.length ByteArray.empty).length) ++ (List.replicate B.length ByteArray.empty).drop (min B.length (List.replicate B.length ByteArray.empty).length) = B := by simp
    rw [hx] at h
    rcases h.2 with ⟨h0, _⟩ | ⟨g, cap, cur, h0, hb, hh, _, _, hsz, htk⟩
    · cases h0
    · cases h0
      rw [hh]
      rw [List.take_of_length_le (by simp; omega)] at htk
      rw [← htk]
  have GB : Aside0 (wr.heap[w.heap.size + 1 + 1]? = some (.cells (encs Value.string B).toArray 9)) := ⟨(HR5.out.block _ (blk_lt hgb)).trans hgb⟩
  clear hgb
  rw [← hwr]
  clear hwr
  refine (wpIn_wide (n := 3)).1 ?_
  refine (wpIn_rangeFunc_ownH rfl (by omega) (gf := 115) (lb := #[.pointer (some ⟨w5.heap.size, 0, none⟩), .pointer (some ⟨w5.heap.size + 1, 0, none⟩)]) rfl trivial (enters_of Tryz.func115 (by kernel_rfl) rfl)
    (kept_stops 2 (by omega) w5.heap.size (w5.heap.size + 1) wr.heap.size (w.heap.size + 1 + 1) A c ws hl (by omega) (by omega) (fun ad e => by have := hAl ad e; omega) wr (Nat.le_refl _) (by omega) (by omega) cS cF (Kd.C_below HCC.out HWr.out)) KpO.trans (fun W l o o' hl h1 h2 h3 => KpO.put W l o o' hl h1 h2 h3) (Below.refl _ _) (fun _ => rfl)
    (fun pre W => W.heap[w.heap.size + 1 + 1]? = some (.cells (encs Value.string (applyL B (pre.map (itm ws)))).toArray 9) ∧ KpO wr.heap.size (w.heap.size + 1 + 1) wr W ∧ Below w.heap.size w W)
    (fun _ _ _ => False)
    (fun s W W' row hs hg hr => ⟨kept_own hs.1 hg (fun r e => (hr r e).2), hs.2.1.trans ⟨hg.size, fun k hk _ => hg.block k (Nat.lt_of_lt_of_le hk hs.2.1.1) (fun e => by have := (hr k e.symm).1; omega)⟩, hs.2.2.grown hg hs.2.2.size (fun k e => by have := (hr k e).1; omega)⟩)
    (fun _ _ _ _ _ hs _ _ => hs)
    ⟨GB.out, KpO.refl _ _ _, HWr.out⟩
    (fun x a' W => ∃ p : Nat, a' = { tmps := #[Value.agg #[Value.slice AB B.length cB, Value.slice A ws.length c], Value.func (Fn.func 82) #[] #[], Value.pointer (some { block := w.heap.size, off := 0 }), undef, Value.pointer (some { block := w.heap.size + 1, off := 0 }), Value.pointer (some { block := w.heap.size + 1 + 1 + 1, off := 0 }), Value.pointer (some { block := p, off := 0 }), Value.pointer (some { block := w.heap.size, off := 0 }), Value.slice AB B.length cB, Value.int IntKind.i64 ↑B.length, Value.slice (some { block := w.heap.size + 1 + 1, off := 0 }) B.length B.length, Value.slice (some { block := w.heap.size + 1 + 1, off := 0 }) B.length B.length, Value.pointer (some { block := w.heap.size, off := 0 }), Value.slice AB B.length cB, Value.int IntKind.i64 ↑B.length, Value.pointer (some { block := w.heap.size, off := 1 }), Value.slice A ws.length c, Value.func (Fn.func 82) #[] #[], Value.func (Fn.func 115) #[] #[Value.pointer (some { block := w5.heap.size, off := 0 }), Value.pointer (some { block := w5.heap.size + 1, off := 0 })], Value.agg #[Value.int .i64 (itm ws x).f0, Value.string (itm ws x).f1], undef, undef, undef, undef, undef, undef, undef, undef], defers := [] } ∧ W.heap[p]? = some (.cells #[.int .i64 (itm ws x).f0, .string (itm ws x).f1] 58) ∧ wr.heap.size ≤ p)
    (fun x a' s W W' row hs hg hr => by obtain ⟨p, e1, e2, e3⟩ := hs; exact ⟨p, e1, kept_own e2 hg (fun r e => (hr r e).2), e3⟩)
    ?assign ?body ?done ?stop)
  case assign =>
    intro l pre x W K hI hK
    obtain ⟨hg, hk, hbw⟩ := hI
    gi_wp2
    have hb1 : Below W.heap.size W (W.alloc (.cells #[.int .i64 (itm ws x).f0, .string (itm ws x).f1] 58)) := (Below.refl _ W).alloc (Nat.le_refl _) _
    refine hK _ _ ((KeepsOthers.alloc W _).from _) (KpO.below (hb1.mono hk.1)) ⟨(hb1.block _ (blk_lt hg)).trans hg, hk.trans (KpO.below (hb1.mono hk.1)), hbw.trans (hb1.mono hbw.size)⟩ ⟨_, rfl, World.alloc_heap_new W _, hk.1⟩
  case body =>
    rintro l pre x a' W hl' hlo ⟨hg, hk, hbw⟩ ⟨p, rfl, hp, hpl⟩ hlt
    have hmem := hok _ (itm_mem x (Nat.lt_of_le_of_lt (Nat.zero_le _) hlt))
    obtain ⟨hm0, hm1⟩ := hmem
    have b3 := (hk.2 (w.heap.size + 1 + 1 + 1) (by omega) (by omega)).trans B3''.out
    have c3 : W.cell? ⟨w.heap.size + 1 + 1 + 1, 0, none⟩ = some (.slice (some ⟨w.heap.size + 1 + 1, 0, none⟩) B.length B.length) := (blk_cell b3 0).trans rfl
    have p0 : W.cell? ⟨p, 0, none⟩ = some (.int .i64 (itm ws x).f0) := (blk_cell hp 0).trans rfl
    have p1 : W.cell? ⟨p, 1, none⟩ = some (.string (itm ws x).f1) := (blk_cell hp 1).trans rfl
    have g0 : W.frozen? ⟨w.heap.size + 1 + 1, (itm ws x).f0.toNat, none⟩ = false := blk_frozen hg _
    obtain ⟨u, hu⟩ : ∃ u, W.cell? ⟨w.heap.size + 1 + 1, (itm ws x).f0.toNat, none⟩ = some u := by
      rw [blk_cell hg]
      exact ⟨_, Array.getElem?_eq_getElem (by simp [encs, applyL_length]; omega)⟩
    have HG := Aside0.mk hg
    have HK := Aside0.mk hk
    have HBW := Aside0.mk hbw
    obtain ⟨f0, hf0⟩ : ∃ f0, f0 = (itm ws x).f0 := ⟨_, rfl⟩
    obtain ⟨f1, hf1⟩ : ∃ f1, f1 = (itm ws x).f1 := ⟨_, rfl⟩
    rw [← hf0] at hm0 hm1 p0 g0 hu ⊢
    rw [← hf1] at p1 ⊢
    have HF0 := Aside0.mk hf0
    have HF1 := Aside0.mk hf1
    clear hg hk hbw hp hpl b3 hf0 hf1 cS cF
    gi_wp2
    have hset : (W.setCell ⟨w.heap.size + 1 + 1, f0.toNat, none⟩ (.string f1)).heap[w.heap.size + 1 + 1]? = some (.cells (encs Value.string (applyL B ((pre ++ [x]).map (itm ws)))).toArray 9) := by
      rw [List.map_append, List.map_cons, List.map_nil, applyL_snoc, ← HF0.out, ← HF1.out]
      have h := set_blk HG.out f0.toNat (.string f1)
      rw [h]
      simp [encs]
    have hkk : KpO wr.heap.size (w.heap.size + 1 + 1) W (W.setCell ⟨w.heap.size + 1 + 1, f0.toNat, none⟩ (.string f1)) := ⟨by simp, fun k hk hn => Below.heap_setCell _ _ _ _ hn⟩
    exact ⟨(KeepsOthers.setCell _ _ _).from _, hkk, hset, HK.out.trans hkk, HBW.out.setCell (p := ⟨w.heap.size + 1 + 1, f0.toNat, none⟩) (by show w.heap.size ≤ w.heap.size + 1 + 1; omega) _⟩
  case done =>
    rintro D ys W hD rfl ⟨hg, hk, hbw⟩ hK
    rw [itm_all] at hg
    have b3 := (hk.2 (w.heap.size + 1 + 1 + 1) (by omega) (by omega)).trans B3''.out
    have b1 := (hk.2 (w.heap.size + 1) (by omega) (by omega)).trans B1''.out
    have c3 : W.cell? ⟨w.heap.size + 1 + 1 + 1, 0, none⟩ = some (.slice (some ⟨w.heap.size + 1 + 1, 0, none⟩) B.length B.length) := (blk_cell b3 0).trans rfl
    have s0 : W.cell? ⟨w.heap.size + 1, 0, none⟩ = some (.slice none 0 0) := (blk_cell b1 0).trans rfl
    have s1 : W.cell? ⟨w.heap.size + 1, 1, none⟩ = some (.slice none 0 0) := (blk_cell b1 1).trans rfl
    have s2 : W.frozen? ⟨w.heap.size + 1, 0, none⟩ = false := blk_frozen b1 0
    have s3 : W.frozen? ⟨w.heap.size + 1, 1, none⟩ = false := blk_frozen b1 1
    have BB1 := Aside0.mk b1
    have HG := Aside0.mk hg
    have HBW := Aside0.mk hbw
    clear hg hk hbw b3 b1 cS cF
    go_wp2
    have hK' := ((KeepsOthers.setCell W ⟨w.heap.size + 1, 0, none⟩ (.slice (some ⟨w.heap.size + 1 + 1, 0, none⟩) B.length B.length)).trans (KeepsOthers.setCell _ ⟨w.heap.size + 1, 1, none⟩ (.slice none 0 0))).same D _ hK rfl
    refine ⟨by simp, .inl ⟨_, _, rfl, run_takeDeferred hK', ?_⟩⟩
    have hbr := kept_own (set_blk (set_blk BB1.out 0 (.slice (some ⟨w.heap.size + 1 + 1, 0, none⟩) B.length B.length)) 1 (.slice none 0 0)) (grownBy_putObj' _ D (.deferred none)) (fun r e => by cases e; exact ⟨_, hK', rfl⟩)
    refine ⟨.agg #[.slice (some ⟨w.heap.size + 1 + 1, 0, none⟩) B.length B.length, .slice none 0 0], results_cell_row rfl _ _ (w.heap.size + 1) 26 #[.slice (some ⟨w.heap.size + 1 + 1, 0, none⟩) B.length B.length, .slice none 0 0] (0, 0) _ rfl hbr Tryz.underlying26 rfl (by kernel_rfl), _, rfl, ?_, ?_⟩
    · have hgf : ((W.setCell ⟨w.heap.size + 1, 0, none⟩ (.slice (some ⟨w.heap.size + 1 + 1, 0, none⟩) B.length B.length)).setCell ⟨w.heap.size + 1, 1, none⟩ (.slice none 0 0)).heap[w.heap.size + 1 + 1]? = some (.cells (encs Value.string (applyL B ws)).toArray 9) := by
        rw [Below.heap_setCell _ _ _ _ (by simp), Below.heap_setCell _ _ _ _ (by simp)]
        exact HG.out
      have hgf2 := kept_own hgf (grownBy_putObj' _ D (.deferred none)) (fun r e => by cases e; exact ⟨_, hK', rfl⟩)
      refine Kd.R_of_own (enc := Value.string) (h1 := fun _ => rfl) ?_ (fun _ _ => trivial)
      have hlen := applyL_length B ws
      exact ⟨by simp [encs], .inr ⟨w.heap.size + 1 + 1, B.length, _, by rw [hlen], by omega, hgf2, by omega, by simp only [maxLen]; omega, by simp [encs, hlen], by rw [List.take_of_length_le (by simp [encs])]⟩⟩
    · exact ((HBW.out.setCell (p := ⟨w.heap.size + 1, 0, none⟩) (by show w.heap.size ≤ w.heap.size + 1; omega) _).setCell (p := ⟨w.heap.size + 1, 1, none⟩) (by show w.heap.size ≤ w.heap.size + 1; omega) _).trans (belowK_b (w := w) (Nat.le_refl _) _ D _ _ (by omega) hK' rfl rfl)
  case stop =>
    rintro D c pre W _ _ h _
    exact h.elim

set_option maxHeartbeats 2000000 in
theorem flush_calls (AB : Option Addr) (cB : Nat) (B : List ByteArray) (v : Value) (ws : List S58) (base : Nat) (ok : Nat → Prop) (w : World) (hB : Kd.C Kd.string w AB B.length B) (hcB : B.length ≤ cB) (hBl : B.length ≤ 4000) (hB0 : 0 < B.length)
    (hR : Kd.R k58 58 w base ok v ws) (hl : ws.length ≤ 100000) (hok : ∀ s ∈ ws, 0 ≤ s.f0 ∧ s.f0 < B.length) :
    Calls Tryz.prog 48 #[.agg #[.slice AB B.length cB, v]] w fun e w' => ∃ v', e = .returned (.agg #[v', .slice none 0 0]) ∧ Kd.R Kd.string 9 w' w.heap.size (fun _ => True) v' (applyL B ws) ∧ Below w.heap.size w w' := by
  obtain ⟨A, c, rfl⟩ := Kd.R_slice hR
  have hC := (Kd.R_reads' hR).2.2
  have hAl : ∀ ad, A = some ad → ad.block < w.heap.size := fun ad e => by
    subst e
    obtain ⟨cs, h⟩ := r_typed hR
    exact blk_lt h
  have hu26 := Tryz.underlying26
  have HL := fun (W : World) (h : Below w.heap.size w W) => (callsIn_wide (n := 4)).1 (laid_in 4 (by omega) AB cB B A c ws W (Kd.C_below hB h) hcB hBl hB0 (Kd.C_below hC h) (fun ad e => Nat.lt_of_lt_of_le (hAl ad e) h.size) hl hok)
  have HB := Aside0.mk hB
  have HC := Aside0.mk hC
  clear hB hC
  go_enter Tryz.func48, Tryz.ntmps48
  go_wp2_with fail
  refine (HL _ (((Below.refl _ w).alloc (Nat.le_refl _) _).alloc (by simp) _)).mono ?_
  rintro e w3 ⟨v3, rfl, ho3, hb3⟩
  clear HL
  obtain ⟨A3, c3, rfl⟩ := Kd.R_slice ho3
  have b1 : ((w.alloc (.cells #[.slice AB B.length cB, .slice A ws.length c] 26)).alloc (.cells #[.slice none 0 0, .slice none 0 0] 26)).heap[w.heap.size + 1]? = some (.cells #[.slice none 0 0, .slice none 0 0] 26) := by
    have := World.alloc_heap_new (w.alloc (.cells #[.slice AB B.length cB, .slice A ws.length c] 26)) (.cells #[.slice none 0 0, .slice none 0 0] 26)
    rwa [World.size_alloc] at this
  have b1' := (hb3.block _ (blk_lt b1)).trans b1
  have s0 : w3.cell? ⟨w.heap.size + 1, 0, none⟩ = some (.slice none 0 0) := (blk_cell b1' 0).trans rfl
  have s1 : w3.cell? ⟨w.heap.size + 1, 1, none⟩ = some (.slice none 0 0) := (blk_cell b1' 1).trans rfl
  have s2 : w3.frozen? ⟨w.heap.size + 1, 0, none⟩ = false := blk_frozen b1' 0
  have s3 : w3.frozen? ⟨w.heap.size + 1, 1, none⟩ = false := blk_frozen b1' 1
  have B1 := Aside0.mk b1'
  have HO := Aside0.mk ho3
  have HBB := Aside0.mk hb3
  clear b1 b1' ho3 hb3
  go_wp2
  refine bodyPost_ret (results_cell_row rfl _ _ (w.heap.size + 1) 26 #[.slice A3 (applyL B ws).length c3, .slice none 0 0] (0, 0) _ rfl (set_blk (set_blk B1.out 0 _) 1 _) Tryz.underlying26 rfl (by kernel_rfl)) rfl ?_
  have hb := HBB.out
  refine ⟨_, rfl, ?_, ?_⟩
  · have h1 := Kd.R_far (p := ⟨w.heap.size + 1, 0, none⟩) (Kd.R_bound HO.out) (fun k hk => by have := hk.2.1; simp at this; show k ≠ w.heap.size + 1; omega) (.slice A3 (applyL B ws).length c3)
    have h2 := Kd.R_far (p := ⟨w.heap.size + 1, 1, none⟩) h1 (fun k hk => by have := hk.2.1; simp at this; show k ≠ w.heap.size + 1; omega) (.slice none 0 0)
    exact Kd.R_lower (Kd.R_mono h2 (fun _ _ => trivial)) (by simp; omega)
  · exact ((((((Below.refl _ w).alloc (Nat.le_refl _) _).alloc (by simp) _).trans (hb.mono (by simp; omega)))).setCell (p := ⟨w.heap.size + 1, 0, none⟩) (by show w.heap.size ≤ w.heap.size + 1; omega) _).setCell (p := ⟨w.heap.size + 1, 1, none⟩) (by show w.heap.size ≤ w.heap.size + 1; omega) _

end Go.Proofs.YtfolgjigfdbnoaaGreat.M
