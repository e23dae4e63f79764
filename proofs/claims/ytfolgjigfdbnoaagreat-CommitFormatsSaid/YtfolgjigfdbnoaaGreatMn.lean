/-
  Contracts of heap.own and heap.Settle of blank cells.
-/
import Derived.Test.YtfolgjigfdbnoaaGreatMj
namespace Go.Proofs.YtfolgjigfdbnoaaGreat.M
open Go.RowKit Go.Shelf Go.Proofs.YtfolgjigfdbnoaaGreatW.PrintWords Go.Proofs.YtfolgjigfdbnoaaGreatW.PrintLast Go.Proofs.YtfolgjigfdbnoaaGreatW.PrintMore
open PCommitFormats
set_option linter.unusedVariables false
set_option linter.unusedSimpArgs false

theorem run_copy_rows (w : World) (dT sT ty elem : TypeId) (size : Nat) (g dLen dCap : Nat) (a : Addr) (sLen sCap : Nat) (cur : Array Value) (t : TypeId) (cs : List Value)
    (hu : Tryz.prog.underlying dT = some (.slice elem)) (hs : (Tryz.prog.info? elem).map (·.size) = some size)
    (hg : w.heap[g]? = some (.cells cur t (0, 0))) (hn : cs.length = Nat.min sLen dLen * size)
    (hsrc : ∀ j v, cs[j]? = some v → w.cell? (a.add j) = some v) (hfit : cs.length ≤ cur.size) (h1 : ∀ v ∈ cs, v.oneCell' = true) :
    (Builtin.copy_ #[dT, sT] ty #[.slice (some ⟨g, 0, none⟩) dLen dCap, .slice (some a) sLen sCap]).run Tryz.prog w =
      .ok (goInt (Nat.min sLen dLen)) (w.setRow g (cs ++ cur.toList.drop cs.length).toArray) := by
  have hl := run_loadCells_list (P := Tryz.prog) w a cs hsrc
  have hst := run_storeCells_at Tryz.prog g 0 t cs 0 cur w hg (by simpa using hfit) h1
  cases hq : Tryz.prog.info? elem with
  | none => simp [hq] at hs
  | some i =>
    have hi : i.size = size := by simpa [hq] using hs
    simp [Builtin.copy_, run_underlying hu, Builtin.lenOf, Builtin.firstCells, sizeOf, typeInfo, hq, hi, ← hn, hl, hst]

theorem made75 (W : World) (n : Nat) (hc : n ≤ 1000000) :
    ∃ Z : Array Value, Z.size = n * 4 ∧ (Instr.makeSlice 27 (.int .i64 (n : Int)) (.int .i64 (n : Int))).run Tryz.prog W = .ok (.slice (some ⟨W.heap.size, 0, none⟩) n n) (W.alloc (.cells Z 75)) := by
  obtain ⟨i0, hi, hzz⟩ := Option.map_eq_some_iff.1 info75
  simp only [Prod.mk.injEq] at hzz
  obtain ⟨hz0, hz1, hz2⟩ := hzz
  have hr := run_make (P := Tryz.prog) W 27 75 i0 _ Tryz.underlying27 hi hz0 .i64 .i64 (n : Int) (n : Int) (by omega) (by omega) (by rw [hz2]; omega) (by omega)
  simp only [Int.toNat_natCast] at hr
  rw [hz1] at hr
  exact ⟨_, by simp [size_madeCells], hr⟩

theorem size75 : (Tryz.prog.info? 75).map (·.size) = some 4 := by kernel_rfl

theorem reps_one {R : S75 → List Value → Prop} (hR : ∀ p c, R p c → c.length = 4) {ps : List S75} {cs : List Value} (h : Reps R 4 ps cs) (hk : ∀ p c, R p c → ∀ u ∈ c, u.oneCell' = true) : ∀ v ∈ cs, v.oneCell' = true := by
  intro v hv
  obtain ⟨j, hj, rfl⟩ := List.mem_iff_getElem.1 hv
  have hl := h.1
  have hq : j / 4 < ps.length := by omega
  have h2 := h.2 (j / 4) _ (List.getElem?_eq_getElem hq)
  refine hk _ _ h2 _ ?_
  rw [List.mem_iff_getElem]
  refine ⟨j % 4, by rw [hR _ _ h2]; omega, ?_⟩
  simp only [List.getElem_take, List.getElem_drop]
  congr 1
  omega

theorem blank_pin {w : World} {n : Nat} {cs : List Value} (h : Reps (k75.K w) 4 (blank n) cs) {i : Nat} (hi : i < n) : cs[i * 4 + 1]? = some (.bool false) := by
  have h2 := h.2 i z75 (by simp [blank, List.getElem?_replicate, hi])
  obtain ⟨A3, c3, e, _, _⟩ := k75_open h2
  have h3 := congrArg (fun l => l[1]?) e
  rw [List.getElem?_take_of_lt (by omega), List.getElem?_drop] at h3
  rw [h3]
  rfl

theorem blank_K {w W : World} {n : Nat} {cs : List Value} (h : Reps (k75.K w) 4 (blank n) cs) : Reps (k75.K W) 4 (blank n) cs := by
  refine ⟨h.1, fun j p hj => ?_⟩
  have hp : p = z75 := by
    have := hj
    simp [blank, List.getElem?_replicate] at this
    exact this.2.symm
  subst hp
  obtain ⟨A3, c3, e, hc, _⟩ := k75_open (h.2 j z75 hj)
  rw [e]
  exact k75_mk W z75 hc ⟨rfl, by show (0 : Nat) ≤ _; omega, fun h0 => absurd h0 (by show ¬ 0 < 0; omega)⟩
theorem c_of_blk {w W : World} {g n : Nat} {cs : List Value} (h0 : Reps (k75.K w) 4 (blank n) cs) (hg : W.heap[g]? = some (.cells cs.toArray 75)) (hn : n ≤ 100000) : Kd.C k75 W (some ⟨g, 0, none⟩) n (blank n) := by
  have h := blank_K (W := W) h0
  refine ⟨by simp [blank], by omega, fun _ => ⟨_, rfl, fun j p hj => ⟨(cs.drop (j * 4)).take 4, ?_, h.2 j p hj, fun i u hi => ?_⟩⟩⟩
  · exact k75.K_len (h.2 j p hj)
  · rw [add_plain, blk_cell hg]
    have hi4 : i < 4 := by
      have := (List.getElem?_eq_some_iff.1 hi).1
      rw [k75.K_len (h.2 j p hj)] at this
      exact this
    rw [List.getElem?_take_of_lt hi4, List.getElem?_drop] at hi
    rw [show j * k75.sz + i = j * 4 + i from rfl]
    simpa using hi

set_option maxHeartbeats 2000000 in
theorem own_calls (A : Option Addr) (n c : Nat) (keep : Int) (w : World) (hA : Kd.C k75 w A n (blank n)) (hn : n ≤ 2000) (hn0 : 0 < n) :
    Calls Tryz.prog 50 #[.agg #[.slice A n c, .int .i64 keep]] w fun e w' => ∃ (p g : Nat) (cs : List Value), e = .returned (.pointer (some ⟨p, 0, none⟩)) ∧ w'.heap[p]? = some (.cells #[.slice (some ⟨g, 0, none⟩) n n, .int .i64 keep] 113) ∧ w'.heap[g]? = some (.cells cs.toArray 75) ∧ Reps (k75.K w) 4 (blank n) cs ∧ w.heap.size ≤ p ∧ w.heap.size ≤ g ∧ p ≠ g ∧ Below w.heap.size w w' := by
  have hu29 := Tryz.underlying29
  have hu113 := Tryz.underlying113
  have hn' : (n : Int) ≤ 2000 := by omega
  obtain ⟨ad, A3, c3, e, _⟩ := at_T75 hA 0 (by omega) (by omega)
  subst e
  obtain ⟨cs, hreps0, hcs⟩ := ReadsRow.inner_ hA
  have hreps : Reps (k75.K w) 4 (blank n) cs := hreps0
  have hlc : cs.length = n * 4 := by rw [hreps.1]; simp [blank]
  obtain ⟨Z, hZ, hmk⟩ := made75 (w.alloc (.cells #[.slice (some ad) n c, .int .i64 keep] 29)) n (by omega)
  rw [World.size_alloc] at hmk
  have hcp := run_copy_rows ((w.alloc (.cells #[.slice (some ad) n c, .int .i64 keep] 29)).alloc (.cells Z 75)) 27 27 3 75 4 (w.heap.size + 1) n n ad n c Z 75 cs Tryz.underlying27 size75 (by have := World.alloc_heap_new (w.alloc (.cells #[.slice (some ad) n c, .int .i64 keep] 29)) (.cells Z 75); rwa [World.size_alloc] at this) (by rw [hlc]; simp) (fun j v hj => by
    have h := hcs j v hj
    exact ((((Below.refl _ w).alloc (Nat.le_refl _) _).alloc (by simp) _).cell (cell_lt h)).trans h) (by omega) (reps_one (fun p c h => k75.K_len h) hreps (fun p c h => k75.K_one h))
  obtain ⟨w3, hw3⟩ : ∃ w3, w3 = ((w.alloc (.cells #[.slice (some ad) n c, .int .i64 keep] 29)).alloc (.cells Z 75)).setRow (w.heap.size + 1) (cs ++ Z.toList.drop cs.length).toArray := ⟨_, rfl⟩
  rw [← hw3] at hcp
  have hg3 : w3.heap[w.heap.size + 1]? = some (.cells cs.toArray 75) := by
    rw [hw3, setRow_heap _ _ Z _ 75 (0, 0) (by have := World.alloc_heap_new (w.alloc (.cells #[.slice (some ad) n c, .int .i64 keep] 29)) (.cells Z 75); rwa [World.size_alloc] at this)]
    rw [List.drop_of_length_le (by simp; omega), List.append_nil]
  have hw0 : ((w.alloc (.cells #[.slice (some ad) n c, .int .i64 keep] 29)).alloc (.cells Z 75)).heap[w.heap.size]? = some (.cells #[.slice (some ad) n c, .int .i64 keep] 29) := by rw [Below.heap_alloc _ _ _ (by simp)]; exact World.alloc_heap_new _ _
  have h03 : w3.heap[w.heap.size]? = some (.cells #[.slice (some ad) n c, .int .i64 keep] 29) := by rw [hw3, setRow_other _ _ _ _ (by omega)]; exact hw0
  have hs3 : w3.heap.size = w.heap.size + 2 := by rw [hw3]; simp
  have HB3 : Aside0 (Below w.heap.size w w3) := ⟨by
    have h2 : Below w.heap.size w ((w.alloc (.cells #[.slice (some ad) n c, .int .i64 keep] 29)).alloc (.cells Z 75)) := ((Below.refl _ w).alloc (Nat.le_refl _) _).alloc (by simp) _
    rw [hw3]
    exact ⟨h2.os, h2.tape, h2.output, by simpa using h2.size, fun k hk => (setRow_other _ _ _ _ (by omega)).trans (h2.block k hk)⟩⟩
  have q0 : w3.cell? ⟨w.heap.size, 0, none⟩ = some (.slice (some ad) n c) := (blk_cell h03 0).trans rfl
  have q1 : w3.cell? ⟨w.heap.size, 1, none⟩ = some (.int .i64 keep) := (blk_cell h03 1).trans rfl
  have HREP := Aside0.mk hreps
  have HG3 := Aside0.mk hg3
  have HS3 := Aside0.mk hs3
  clear hreps hreps0 hcs hA hg3 h03 hw0 hw3 hs3 hlc hZ
  go_enter Tryz.func50, Tryz.ntmps50
  go_wp2
  go_ret
  have hb : Below w3.heap.size w3 (w3.alloc (.cells #[.slice (some ⟨w.heap.size + 1, 0, none⟩) n n, .int .i64 keep] 113)) := (Below.refl _ w3).alloc (Nat.le_refl _) _
  exact ⟨w3.heap.size, w.heap.size + 1, cs, rfl, World.alloc_heap_new w3 _, (hb.block _ (blk_lt HG3.out)).trans HG3.out, HREP.out, by have := HS3.out; omega, by omega, by have := HS3.out; omega, below_then HB3.out HB3.out.size hb⟩

set_option maxHeartbeats 2000000 in
theorem settle_calls (A : Option Addr) (n c : Nat) (keep : Int) (w : World) (hA : Kd.C k75 w A n (blank n)) (hn : n ≤ 2000) (hn0 : 0 < n) :
    Calls Tryz.prog 29 #[.agg #[.slice A n c, .int .i64 keep]] w fun e w' => ∃ g : Nat, e = .returned (.agg #[.slice (some ⟨g, 0, none⟩) n n, .int .i64 keep]) ∧ Kd.C k75 w' (some ⟨g, 0, none⟩) n (blank n) ∧ w.heap.size ≤ g ∧ g < w'.heap.size ∧ Below w.heap.size w w' := by
  have hu29 := Tryz.underlying29
  have hu113 := Tryz.underlying113
  have hu75 := Tryz.underlying75
  have hn' : (n : Int) ≤ 2000 := by omega
  have HO := fun (W : World) (h : Below w.heap.size w W) => own_calls A n c keep W (Kd.C_below hA h) hn hn0
  clear hA
  go_enter Tryz.func29, Tryz.ntmps29
  go_wp2_with fail
  refine (HO _ (((Below.refl _ w).alloc (Nat.le_refl _) _).alloc (by simp) _)).mono ?_
  rintro e w3 ⟨p, g, cs, rfl, hp, hg, hreps, hlp, hlg, hpg, hb3⟩
  clear HO
  have b1 : ((w.alloc (.cells #[.slice A n c, .int .i64 keep] 29)).alloc (.cells #[.slice none 0 0, .int .i64 0] 29)).heap[w.heap.size + 1]? = some (.cells #[.slice none 0 0, .int .i64 0] 29) := by
    have := World.alloc_heap_new (w.alloc (.cells #[.slice A n c, .int .i64 keep] 29)) (.cells #[.slice none 0 0, .int .i64 0] 29)
    rwa [World.size_alloc] at this
  have b1' := (hb3.block _ (blk_lt b1)).trans b1
  obtain ⟨w2, hw2⟩ : ∃ w2, w2 = (w.alloc (.cells #[.slice A n c, .int .i64 keep] 29)).alloc (.cells #[.slice none 0 0, .int .i64 0] 29) := ⟨_, rfl⟩
  have hs2 : w2.heap.size = w.heap.size + 2 := by rw [hw2]; simp
  have hB2 : Below w.heap.size w w2 := by rw [hw2]; exact ((Below.refl _ w).alloc (Nat.le_refl _) _).alloc (by simp) _
  rw [← hw2] at hreps hlp hlg hb3
  clear hw2 b1
  have HREP := Aside0.mk hreps
  have HP := Aside0.mk hp
  have HG := Aside0.mk hg
  have H1 := Aside0.mk b1'
  have HB3 := Aside0.mk hb3
  have HB2 := Aside0.mk hB2
  have c0 : w3.cell? ⟨p, 0, none⟩ = some (.slice (some ⟨g, 0, none⟩) n n) := (blk_cell hp 0).trans rfl
  clear hreps hp hg b1' hb3 hB2
  go_wp2
  clear c0
  go_loopg [13] (n + 1) (fun kq v13 w' => ∃ k : Nat, v13 = .int .i64 (k : Int) ∧ k ≤ n ∧ Aside0 (n - k < kq) ∧ Aside0 (w'.heap[p]? = some (.cells #[.slice (some ⟨g, 0, none⟩) n n, .int .i64 keep] 113)) ∧ Aside0 (w'.heap[g]? = some (.cells cs.toArray 75)) ∧ Aside0 (w'.heap[w.heap.size + 1]? = some (.cells #[.slice none 0 0, .int .i64 0] 29)) ∧ Aside0 (Below w2.heap.size w2 w'))
  case atStart => exact ⟨0, rfl, Nat.zero_le _, ⟨by omega⟩, HP, HG, H1, HB3⟩
  case round =>
    clear HP HG H1 HB3
    obtain ⟨k, rfl, hk, HK, HP, HG, H1, HB3⟩ := hrel
    cases gk with
    | zero => exact absurd HK.out (by omega)
    | succ k3 =>
      have c0 : wr.cell? ⟨p, 0, none⟩ = some (.slice (some ⟨g, 0, none⟩) n n) := (blk_cell HP.out 0).trans rfl
      by_cases hlt : k < n
      · have c1 : wr.cell? ⟨g, k * 4 + 1, none⟩ = some (.bool false) := by rw [blk_cell HG.out]; simpa using blank_pin HREP.out hlt
        have s1 : wr.frozen? ⟨g, k * 4 + 1, none⟩ = false := blk_frozen HG.out _
        have had : (⟨g, 0, none⟩ : Addr).add (k * 4) = ⟨g, k * 4, none⟩ := add_plain _ _
        go_wp2
        go_roundg k3
        case rel =>
          have hset : (wr.setCell ⟨g, k * 4 + 1, none⟩ (.bool false)).heap[g]? = some (.cells cs.toArray 75) := by
            rw [set_blk HG.out]
            have h := blank_pin HREP.out hlt
            have hs : cs.set (k * 4 + 1) (.bool false) = cs := by
              apply List.ext_getElem?
              intro j
              rw [List.getElem?_set]
              split
              · rename_i e
                subst e
                rw [h]
                simp [(List.getElem?_eq_some_iff.1 h).1]
              · rfl
            simp [hs]
          exact ⟨k + 1, by simp, by omega, ⟨by have := HK.out; omega⟩, ⟨(Below.heap_setCell _ _ _ _ (by simpa using hpg)).trans HP.out⟩, ⟨hset⟩, ⟨(Below.heap_setCell _ _ _ _ (by show w.heap.size + 1 ≠ g; omega)).trans H1.out⟩, ⟨HB3.out.setCell (p := ⟨g, k * 4 + 1, none⟩) hlg _⟩⟩
        case measure => omega
      · obtain rfl : k = n := by omega
        have c1 : wr.cell? ⟨p, 1, none⟩ = some (.int .i64 keep) := (blk_cell HP.out 1).trans rfl
        have s0 : wr.cell? ⟨w.heap.size + 1, 0, none⟩ = some (.slice none 0 0) := (blk_cell H1.out 0).trans rfl
        have s1 : wr.cell? ⟨w.heap.size + 1, 1, none⟩ = some (.int .i64 0) := (blk_cell H1.out 1).trans rfl
        have s2 : wr.frozen? ⟨w.heap.size + 1, 0, none⟩ = false := blk_frozen H1.out 0
        have s3 : wr.frozen? ⟨w.heap.size + 1, 1, none⟩ = false := blk_frozen H1.out 1
        go_wp2
        refine bodyPost_ret (results_cell_row rfl _ _ (w.heap.size + 1) 29 #[.slice (some ⟨g, 0, none⟩) k k, .int .i64 keep] (0, 0) _ rfl (set_blk (set_blk H1.out 0 _) 1 _) Tryz.underlying29 rfl (by kernel_rfl)) rfl ?_
        have hgf : ((wr.setCell ⟨w.heap.size + 1, 0, none⟩ (.slice (some ⟨g, 0, none⟩) k k)).setCell ⟨w.heap.size + 1, 1, none⟩ (.int .i64 keep)).heap[g]? = some (.cells cs.toArray 75) := by
          rw [Below.heap_setCell _ _ _ _ (by show g ≠ w.heap.size + 1; omega), Below.heap_setCell _ _ _ _ (by show g ≠ w.heap.size + 1; omega)]
          exact HG.out
        have hbw : Below w.heap.size w wr := HB2.out.trans (HB3.out.mono HB2.out.size)
        exact ⟨g, rfl, c_of_blk HREP.out hgf (by omega), by omega, blk_lt hgf, (hbw.setCell (p := ⟨w.heap.size + 1, 0, none⟩) (by show w.heap.size ≤ w.heap.size + 1; omega) _).setCell (p := ⟨w.heap.size + 1, 1, none⟩) (by show w.heap.size ≤ w.heap.size + 1; omega) _⟩
end Go.Proofs.YtfolgjigfdbnoaaGreat.M
