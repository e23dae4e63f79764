/-
  Contract of assartref14.Plan of a blank state and a disk where nothing waits.
-/
import Derived.Test.YtfolgjigfdbnoaaGreatNf
import Derived.Test.YtfolgjigfdbnoaaGreatNg
namespace Go.Proofs.YtfolgjigfdbnoaaGreat.M
open Go.RowKit Go.Shelf Go.Proofs.YtfolgjigfdbnoaaGreatW.PrintWords Go.Proofs.YtfolgjigfdbnoaaGreatW.PrintLast Go.Proofs.YtfolgjigfdbnoaaGreatW.PrintMore
open PCommitFormats
set_option linter.unusedVariables false
set_option linter.unusedSimpArgs false

theorem refAsked_calls (AB : Option Addr) (cB : Nat) (B : List ByteArray) (w0 W : World) (hW : Below w0.heap.size w0 W) (hB : Kd.C Kd.string w0 AB B.length B) (hcB : B.length ≤ cB) (v : Value) (l : List S58) (hl : l.length ≤ 100000) (ho : Kd.R k58 58 W w0.heap.size (fun k => w0.heap.size ≤ k) v l) (la : Int) (xs : List Int) (x : Nat) (h0 : 0 ≤ la + x) (h1 : la + x < B.length) :
    Calls Tryz.prog 61 #[.agg #[.slice AB B.length cB, .slice none 0 0], v, .int .i64 (la + x), .string (chunkS xs x)] W fun e w' => ∃ v', e = .returned v' ∧ Kd.R k58 58 w' w0.heap.size (fun k => w0.heap.size ≤ k) v' (l ++ (asked B la xs x).toList) ∧ Below w0.heap.size w0 w' := by
  refine (assartref14_asked.calls 4 AB cB B none 0 [] (fun k => w0.heap.size ≤ k) v l (la + x) (chunkS xs x) _ w0 W hW (Kd.C_kept_came Kd.heap_string hB hW (fun _ h => h)) hcB Kd.C_kept_nil (Nat.zero_le _) ho (refAsked B l hl la xs x h0 h1)).mono ?_
  rintro e w' ⟨v', he, hR, hb, _⟩
  exact ⟨v', he, Kd.R_mono hR (fun k hk => hk.elim id (fun h => Nat.le_trans hW.size h)), hb⟩

theorem filterMap_step (f : Nat → Option S58) (i : Nat) : (List.range (i + 1)).filterMap f = (List.range i).filterMap f ++ (f i).toList := by
  rw [List.range_succ, List.filterMap_append]
  cases h : f i <;> simp [List.filterMap_cons, h]

set_option maxRecDepth 100000 in
set_option maxHeartbeats 4000000 in
theorem refPlan_calls (AB : Option Addr) (cB : Nat) (B : List ByteArray) (A : Option Addr) (n c : Nat) (keep next gen : Int) (w : World) (hB : Kd.C Kd.string w AB B.length B) (hcB : B.length ≤ cB) (hBl : B.length ≤ 4000) (hA : Kd.C k75 w A n (blank n))
    (hn : n ≤ 2000) (hcell : cellsM B.length = n) (hk0 : 0 ≤ keep) (hk1 : keep ≤ 65535) (hx0 : 0 ≤ next) (hx1 : next ≤ 4294967295) (hg0 : 0 ≤ gen) (hg1 : gen ≤ 1000)
    (hat : larea n (gen + 1) + chunksN (bookL n keep next).length ≤ B.length) :
    Calls Tryz.prog 38 #[.agg #[.slice AB B.length cB, .slice none 0 0], stV A n c keep next gen] w fun e w' => ∃ v, e = .returned (.tuple #[v, .int .i64 0]) ∧ Kd.R k58 58 w' w.heap.size (fun _ => True) v (planL B n keep next gen) ∧ Below w.heap.size w w' := by
  have hu26 := Tryz.underlying26
  have hu29 := Tryz.underlying29
  have hu33 := Tryz.underlying33
  have hu75 := Tryz.underlying75
  have hn' : (n : Int) ≤ 2000 := by omega
  have hBL : (B.length : Int) ≤ 4000 := by omega
  have hcl : assartref14_Cells.f 3001 (B.length : Int) = some (n : Int) := by rw [refCells, hcell]
  go_enter Tryz.func38, Tryz.ntmps38
  obtain ⟨w1, hw1⟩ : ∃ w1, w1 = (w.alloc (.cells #[.slice AB B.length cB, .slice none 0 0] 26)).alloc (.cells #[.slice A n c, .int .i64 keep, .slice none 0 0, .slice none 0 0, .int .i64 next, .int .i64 gen] 33) := ⟨_, rfl⟩
  have b0 : w1.heap[w.heap.size]? = some (.cells #[.slice AB B.length cB, .slice none 0 0] 26) := by rw [hw1, Below.heap_alloc _ _ _ (by simp)]; exact World.alloc_heap_new _ _
  have b1 : w1.heap[w.heap.size + 1]? = some (.cells #[.slice A n c, .int .i64 keep, .slice none 0 0, .slice none 0 0, .int .i64 next, .int .i64 gen] 33) := by
    rw [hw1]
    have := World.alloc_heap_new (w.alloc (.cells #[.slice AB B.length cB, .slice none 0 0] 26)) (.cells #[.slice A n c, .int .i64 keep, .slice none 0 0, .slice none 0 0, .int .i64 next, .int .i64 gen] 33)
    rwa [World.size_alloc] at this
  have HB1 : Aside0 (Below w.heap.size w w1) := ⟨by rw [hw1]; exact ((Below.refl _ w).alloc (Nat.le_refl _) _).alloc (by simp) _⟩
  have HKD : Aside0 (∀ W', Below w1.heap.size w1 W' → W'.heap[w.heap.size]? = some (.cells #[.slice AB B.length cB, .slice none 0 0] 26)) := ⟨fun W' hb => (hb.block _ (blk_lt b0)).trans b0⟩
  have HKS : Aside0 (∀ W', Below w1.heap.size w1 W' → W'.heap[w.heap.size + 1]? = some (.cells #[.slice A n c, .int .i64 keep, .slice none 0 0, .slice none 0 0, .int .i64 next, .int .i64 gen] 33)) := ⟨fun W' hb => (hb.block _ (blk_lt b1)).trans b1⟩
  have HAB : Aside0 (Kd.C k75 w1 A n (blank n)) := ⟨Kd.C_below hA HB1.out⟩
  have HBB : Aside0 (Kd.C Kd.string w1 AB B.length B) := ⟨Kd.C_below hB HB1.out⟩
  have c0 : w1.cell? ⟨w.heap.size, 0, none⟩ = some (.slice AB B.length cB) := (blk_cell b0 0).trans rfl
  have d0 : w1.cell? ⟨w.heap.size + 1, 0, none⟩ = some (.slice A n c) := (blk_cell b1 0).trans rfl
  have HAT := Aside0.mk hat
  have HCL := Aside0.mk hcl
  clear b0 b1 hA hB hat hcl hcell
  go_wp2_with fail
  rw [← hw1]
  clear hw1
  go_wp2_with fail
  refine (assartref14_Cells.calls 3001 _ _ _ HCL.out).mono ?_
  rintro e w2 ⟨rfl, ⟨nd, rfl⟩⟩
  clear c0 d0
  have HB2 : Aside0 (Below w1.heap.size w1 (w1.drewN nd)) := ⟨pw_below_drewN (Below.refl _ _) nd⟩
  have d0 : (w1.drewN nd).cell? ⟨w.heap.size + 1, 0, none⟩ = some (.slice A n c) := (blk_cell (HKS.out _ HB2.out) 0).trans rfl
  have d1 : (w1.drewN nd).cell? ⟨w.heap.size + 1, 1, none⟩ = some (.int .i64 keep) := (blk_cell (HKS.out _ HB2.out) 1).trans rfl
  have d2 : (w1.drewN nd).cell? ⟨w.heap.size + 1, 2, none⟩ = some (.slice none 0 0) := (blk_cell (HKS.out _ HB2.out) 2).trans rfl
  have d3 : (w1.drewN nd).cell? ⟨w.heap.size + 1, 3, none⟩ = some (.slice none 0 0) := (blk_cell (HKS.out _ HB2.out) 3).trans rfl
  have d4 : (w1.drewN nd).cell? ⟨w.heap.size + 1, 4, none⟩ = some (.int .i64 next) := (blk_cell (HKS.out _ HB2.out) 4).trans rfl
  have d5 : (w1.drewN nd).cell? ⟨w.heap.size + 1, 5, none⟩ = some (.int .i64 gen) := (blk_cell (HKS.out _ HB2.out) 5).trans rfl
  generalize w1.drewN nd = w2 at *
  go_wp2_with fail
  refine (refBookPrint_calls A n c keep next gen w2 (Kd.C_below HAB.out HB2.out) hn hk0 hk1 hx0 hx1).mono ?_
  rintro e w3 ⟨v3, rfl, ho3, hb3⟩
  have HB3 := Aside0.mk (below_step HB2.out hb3)
  have hbl : (bookL n keep next).length = 11 + 2 * n := by simp [bookL, bookHead_length]
  obtain ⟨A3, c3, rfl⟩ := Kd.R_slice ho3
  have HO3 := Aside0.mk ho3
  clear ho3 hb3 d0 d1 d2 d3 d4 d5 HB2
  have d5 : w3.cell? ⟨w.heap.size + 1, 5, none⟩ = some (.int .i64 gen) := (blk_cell (HKS.out w3 HB3.out) 5).trans rfl
  have HBL := Aside0.mk hbl
  clear hbl
  go_wp2_with fail
  have d0 : w3.cell? ⟨w.heap.size + 1, 0, none⟩ = some (.slice A n c) := (blk_cell (HKS.out w3 HB3.out) 0).trans rfl
  go_loop [10, 11] (fun v10 v11 => ∃ k : Nat, v10 = .slice none 0 0 ∧ v11 = .int .i64 (k : Int) ∧ k ≤ n) (fun _ v11 => n - (intOf v11).toNat)
  case atStart => exact ⟨0, rfl, rfl, Nat.zero_le _⟩
  case round =>
    obtain ⟨k, rfl, rfl, hk⟩ := hrel
    by_cases hlt : k < n
    · obtain ⟨ad, A4, c4, e, hx0, _⟩ := at_T75 (Kd.C_below HAB.out HB3.out) k (by omega) (by omega)
      subst e
      rw [rd_blank (by omega) (by omega)] at hx0
      simp only [z75, z73, List.length_nil, Int.toNat_natCast] at hx0
      go_wp2
      go_round
      case rel => exact ⟨k + 1, rfl, by simp, by omega⟩
      case measure => simp [intOf]; omega
    · obtain rfl : k = n := by omega
      clear d0 d5
      go_wp2_with fail
      refine (assartref14_Chunks.calls _ A3 c3 (bookL k keep next) (chunksL (bookL k keep next)) w3 (R_C HO3.out) (Kd.R_reads' HO3.out).2.1 (refChunks _ (by have := HBL.out; omega))).mono ?_
      rintro e w4 ⟨v4, rfl, ho4, hb4⟩
      obtain ⟨A4, c4, rfl⟩ := Kd.R_slice ho4
      have HB4 := Aside0.mk (below_step HB3.out hb4)
      have HO4 := Aside0.mk ho4
      have HO3' := Aside0.mk (Kd.R_below HO3.out hb4)
      clear ho4 hb4
      have hlen : (chunksL (bookL k keep next)).length = chunksN (bookL k keep next).length := by simp [chunksL]
      have hN : chunksN (bookL k keep next).length ≤ 251 := by have := HBL.out; show ((bookL k keep next).length + 39) / 40 ≤ 251; omega
      have hN' : (chunksN (bookL k keep next).length : Int) ≤ 251 := by omega
      rw [hlen] at HO4 ⊢
      have HCK := Aside0.mk (R_C HO4.out)
      clear hlen
      go_wp2_with fail
      have HA4 : Aside0 (Kd.C Kd.string w4 AB B.length B) := ⟨Kd.C_below HBB.out HB4.out⟩
      have har : 0 ≤ areaM k ∧ areaM k ≤ 600 := by unfold areaM; omega
      obtain ⟨har0, har1⟩ := har
      have hla : 0 ≤ larea k (gen + 1) ∧ larea k (gen + 1) = 2 + (gen + 1) % 2 * areaM k := ⟨by
        unfold larea
        rcases (show (gen + 1) % 2 = 0 ∨ (gen + 1) % 2 = 1 by omega) with h | h <;> rw [h] <;> omega, rfl⟩
      have HLA := Aside0.mk hla
      clear hla
      obtain ⟨bk, hbk⟩ : ∃ bk, bk = bookL k keep next := ⟨_, rfl⟩
      rw [← hbk] at HO3 HO3' HCK HBL hN hN' HAT HO4 ⊢
      have HBK := Aside0.mk hbk
      clear hbk
      go_loopg [10, 15] (chunksN bk.length + 1) (fun kq v10 v15 w' => ∃ (i : Nat), v15 = .int .i64 (i : Int) ∧ i ≤ chunksN bk.length ∧ Aside0 (chunksN bk.length - i < kq) ∧ Aside0 (Kd.R k58 58 w' w4.heap.size (fun k => w4.heap.size ≤ k) v10 ((List.range i).filterMap (asked B (larea k (gen + 1)) bk))) ∧ Aside0 (Below w4.heap.size w4 w'))
      case atStart => exact ⟨0, rfl, Nat.zero_le _, ⟨by omega⟩, ⟨Kd.R_nil _ _ _ _ _⟩, ⟨Below.refl _ _⟩⟩
      case round =>
        obtain ⟨i, rfl, hi, HK, HO, HB⟩ := hrel
        cases gk with
        | zero => exact absurd HK.out (by omega)
        | succ k3 =>
          by_cases hil : i < chunksN bk.length
          · have hbw := below_then HB4.out HB4.out.size HB.out
            have p0 : wr.cell? ⟨w.heap.size, 0, none⟩ = some (.slice AB B.length cB) := (blk_cell (HKD.out wr hbw) 0).trans rfl
            have p1 : wr.cell? ⟨w.heap.size, 1, none⟩ = some (.slice none 0 0) := (blk_cell (HKD.out wr hbw) 1).trans rfl
            obtain ⟨ad, e, hx⟩ := Kd.at_string (Kd.C_below HCK.out HB.out) i (by omega) (by omega)
            cases e
            have hrd : rdOf ByteArray.empty (chunksL bk) i = chunkS bk i := by simp [rdOf, chunksL, List.getElem?_map, List.getElem?_range hil]
            rw [hrd, Int.toNat_natCast] at hx
            clear hrd hbw
            obtain ⟨s, hs⟩ : ∃ s, s = chunkS bk i := ⟨_, rfl⟩
            rw [← hs] at hx
            have HKK : Aside0 (∀ W', Below w4.heap.size w4 W' → W'.cell? ⟨w.heap.size, 0, none⟩ = some (.slice AB B.length cB) ∧ W'.cell? ⟨w.heap.size, 1, none⟩ = some (.slice none 0 0) ∧ W'.cell? (ad.add i) = some (.string s)) := ⟨fun W' hb => by
              have hbw := below_then HB4.out HB4.out.size hb
              obtain ⟨ad', e', hx'⟩ := Kd.at_string (Kd.C_below HCK.out hb) i (by omega) (by omega)
              cases e'
              rw [show rdOf ByteArray.empty (chunksL bk) i = chunkS bk i by simp [rdOf, chunksL, List.getElem?_map, List.getElem?_range hil], Int.toNat_natCast, ← hs] at hx'
              exact ⟨(blk_cell (HKD.out W' hbw) 0).trans rfl, (blk_cell (HKD.out W' hbw) 1).trans rfl, hx'⟩⟩
            have hlen : ((List.range i).filterMap (asked B (larea k (gen + 1)) bk)).length ≤ 251 := Nat.le_trans (List.length_filterMap_le _ _) (by rw [List.length_range]; omega)
            have HASK : Aside0 (∀ m : Nat, Calls Tryz.prog 61 #[.agg #[.slice AB B.length cB, .slice none 0 0], u10, .int .i64 (larea k (gen + 1) + (i : Int)), .string s] (wr.drewN m) fun e w' => ∃ v', e = .returned v' ∧ Kd.R k58 58 w' w4.heap.size (fun k => w4.heap.size ≤ k) v' ((List.range (i + 1)).filterMap (asked B (larea k (gen + 1)) bk)) ∧ Below w4.heap.size w4 w') := ⟨fun m => by
              rw [filterMap_step, hs]
              exact refAsked_calls AB cB B w4 (wr.drewN m) (pw_below_drewN HB.out m) HA4.out hcB u10 _ (by omega) (Kd.R_drewN HO.out m) (larea k (gen + 1)) bk i (by have := HLA.out.1; omega) (by have := HAT.out; omega)⟩
            have HARG : Aside0 (IntKind.i64.wrap (IntKind.i64.wrap (2 + IntKind.i64.wrap ((gen + 1).tmod 2 * areaM k)) + (i : Int)) = larea k (gen + 1) + (i : Int)) := ⟨by
              rw [Int.tmod_eq_emod_of_nonneg (by omega), HLA.out.2]
              rcases (show (gen + 1) % 2 = 0 ∨ (gen + 1) % 2 = 1 by omega) with h | h
              · rw [h, Int.zero_mul, wrap_i64_in (x := 0) (by omega) (by omega), wrap_i64_in (x := 2 + 0) (by omega) (by omega), wrap_i64_in (by omega) (by omega)]
              · rw [h, Int.one_mul, wrap_i64_in (x := areaM k) (by omega) (by omega), wrap_i64_in (x := 2 + areaM k) (by omega) (by omega), wrap_i64_in (by omega) (by omega)]⟩
            have HS := Aside0.mk hs
            clear hs hlen
            go_upto_block 3 with (fail)
            go_cut [10] from 79 to 99 (fun v10 wc => Aside0 (Kd.R k58 58 wc w4.heap.size (fun k => w4.heap.size ≤ k) v10 ((List.range (i + 1)).filterMap (asked B (larea k (gen + 1)) bk))) ∧ Aside0 (Below w4.heap.size w4 wc))
            case first =>
              go_upto_region 19 with (fail)
              go_region_held3 (fun W' => W'.cell? ⟨w.heap.size, 0, none⟩ = some (.slice AB B.length cB) ∧ W'.cell? ⟨w.heap.size, 1, none⟩ = some (.slice none 0 0) ∧ W'.cell? (ad.add i) = some (.string s))
                (first | with_reducible exact ⟨p0, p1, hx⟩ | exact HKK.out _ HX.out | go_keep)
                (first | (go_at_call 42; refine (assartref14_Area.calls 1000 k (areaM k) _ (refArea k (by omega) (by omega))).mono ?_; rintro e w6 ⟨rfl, ⟨nd6, rfl⟩⟩; have HX := Aside0.mk (pw_below_drewN (below_drew HB.out) nd6)) | (go_at_call 61; rw [HARG.out]; with_reducible refine (HASK.out _).mono ?_; rintro e w7 ⟨v7, rfl, ho7, hb7⟩; have HO7 := Aside0.mk ho7; have HX := Aside0.mk hb7; clear ho7 hb7))
              all_goals go_wp2
              all_goals go_meet
              case rel => exact ⟨HO7, HX⟩
            case rest =>
              obtain ⟨HO2, HB2⟩ := hcut
              clear p0 p1 hx HKK HASK HARG
              go_wp2
              go_roundg k3
              case rel => exact ⟨i + 1, by simp, by omega, ⟨by have := HK.out; omega⟩, HO2, HB2⟩
              case measure => omega
          · obtain rfl : i = chunksN bk.length := by omega
            have hbytes := bookL_bytes k keep next
            rw [← HBK.out] at hbytes
            have HBY := Aside0.mk hbytes
            clear hbytes
            go_wp2_with fail
            refine (assartref03_Book.calls _ A3 c3 bk bk.length (crc bk) wr (R_C (Kd.R_below HO3'.out HB.out)) (Kd.R_reads' HO3.out).2.1 (refBook bk HBY.out (by have := HBL.out; omega))).mono ?_
            rintro e w5 ⟨rfl, ⟨nd5, rfl⟩⟩
            obtain ⟨mm, hmm⟩ : ∃ mm, mm = crc bk := ⟨_, rfl⟩
            have hm := crc_bd bk
            rw [← hmm] at hm ⊢
            obtain ⟨hm0, hm1⟩ := hm
            have HMM := Aside0.mk hmm
            clear hmm
            go_wp2_with fail
            refine (assartref03_Print.calls 1100 (gen + 1) bk.length mm (superB (gen + 1) bk.length mm) 0 _ (refPrint (gen + 1) bk.length mm (by omega) (by omega) (by omega) (by have := HBL.out; omega) hm0 hm1)).mono ?_
            rintro e w6 ⟨rfl, hb6⟩
            have HB6 := Aside0.mk (below_step (pw_below_drewN HB.out nd5) hb6)
            have HO6 := Aside0.mk (Kd.R_below (Kd.R_drewN HO.out nd5) hb6)
            clear hb6
            have hlen : ((List.range (chunksN bk.length)).filterMap (asked B (larea k (gen + 1)) bk)).length ≤ 251 := Nat.le_trans (List.length_filterMap_le _ _) (by rw [List.length_range]; omega)
            obtain ⟨ls, hls⟩ : ∃ ls, ls = (List.range (chunksN bk.length)).filterMap (asked B (larea k (gen + 1)) bk) := ⟨_, rfl⟩
            rw [← hls] at hlen HO6
            have HLS := Aside0.mk hls
            clear hls HO
            go_wp2_with (first | ((with_reducible refine gate_builtin (b := .append) (xs := #[.tmp 113, .tmp 115]) rfl ?_); go_must (refine Kd.R_append k58 (w0 := w4) w4.heap.size rfl (.tmp 113) (.tmp 115) 24 58 (.agg #[.int .i64 0, .string ⟨#[]⟩]) 24 rfl Tryz.underlying24 info58 rfl (by decide) (by omega) u10 ls ⟨-1, ⟨#[]⟩⟩ [.int .i64 (-1), .string ⟨#[]⟩] (fun k => w4.heap.size ≤ k) (fun _ => False) rfl rfl (k58_mkM _ _ _ ⟨-1, ⟨#[]⟩⟩) (fun _ h => h.elim) (fun k hk => Nat.le_trans HB6.out.size hk) HO6.out HB6.out HB6.out.size (by omega) ?_); intro v7 w7 ho7 hb7 hg7 hat7; have HO7 := Aside0.mk ho7; have HB7 := Aside0.mk hb7; clear ho7 hb7 hg7 hat7) | ((with_reducible refine gate_builtin (b := .append) (xs := #[.tmp 117, .tmp 122]) rfl ?_); go_must (refine Kd.R_append k58 (w0 := w4) w4.heap.size rfl (.tmp 117) (.tmp 122) 24 58 (.agg #[.int .i64 0, .string ⟨#[]⟩]) 24 rfl Tryz.underlying24 info58 rfl (by decide) (by omega) v7 (ls ++ [⟨-1, ⟨#[]⟩⟩]) ⟨(gen + 1) % 2, superB (gen + 1) bk.length mm⟩ [.int .i64 ((gen + 1) % 2), .string (superB (gen + 1) bk.length mm)] (fun k => w4.heap.size ≤ k) (fun _ => False) rfl rfl (k58_mkM _ _ _ ⟨(gen + 1) % 2, superB (gen + 1) bk.length mm⟩) (fun _ h => h.elim) (fun k hk => Nat.le_trans HB7.out.size hk) HO7.out HB7.out HB7.out.size (by simp; omega) ?_); intro v8 w8 ho8 hb8 hg8 hat8; have HO8 := Aside0.mk ho8; have HB8 := Aside0.mk hb8; clear ho8 hb8 hg8 hat8) | ((with_reducible refine gate_builtin (b := .append) (xs := #[.tmp 124, .tmp 126]) rfl ?_); go_must (refine Kd.R_append k58 (w0 := w4) w4.heap.size rfl (.tmp 124) (.tmp 126) 24 58 (.agg #[.int .i64 0, .string ⟨#[]⟩]) 24 rfl Tryz.underlying24 info58 rfl (by decide) (by omega) v8 ((ls ++ [⟨-1, ⟨#[]⟩⟩]) ++ [⟨(gen + 1) % 2, superB (gen + 1) bk.length mm⟩]) ⟨-1, ⟨#[]⟩⟩ [.int .i64 (-1), .string ⟨#[]⟩] (fun k => w4.heap.size ≤ k) (fun _ => False) rfl rfl (k58_mkM _ _ _ ⟨-1, ⟨#[]⟩⟩) (fun _ h => h.elim) (fun k hk => Nat.le_trans HB8.out.size hk) HO8.out HB8.out HB8.out.size (by simp; omega) ?_); intro v9 w9 ho9 hb9 hg9 hat9; have HO9 := Aside0.mk ho9; have HB9 := Aside0.mk hb9; clear ho9 hb9 hg9 hat9))
            go_ret2
            have hw4 : w.heap.size ≤ w4.heap.size := Nat.le_trans HB1.out.size HB4.out.size
            refine ⟨v9, rfl, ?_, ?_⟩
            · have h := Kd.R_mono (Kd.R_lower HO9.out hw4) (ok' := fun _ => True) (fun _ _ => trivial)
              rw [planL, ← HBK.out, ← HLS.out, ← HMM.out]
              simpa using h
            · exact HB1.out.trans ((HB4.out.trans (HB9.out.mono HB4.out.size)).mono HB1.out.size)
end Go.Proofs.YtfolgjigfdbnoaaGreat.M
