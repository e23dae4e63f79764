/-
  Contract of commit.Format.
-/
import Derived.Test.YtfolgjigfdbnoaaGreatMs
import Derived.Test.YtfolgjigfdbnoaaGreatNb
namespace Go.Proofs.YtfolgjigfdbnoaaGreat.M
open Go.RowKit Go.Shelf Go.Proofs.YtfolgjigfdbnoaaGreatW.PrintWords Go.Proofs.YtfolgjigfdbnoaaGreatW.PrintLast Go.Proofs.YtfolgjigfdbnoaaGreatW.PrintMore
open PCommitFormats
set_option linter.unusedVariables false
set_option linter.unusedSimpArgs false

theorem doS_steps (stop : Int) (hs : stop < 0) : ∀ (l : List S58) (B : List ByteArray) (ws : List S58) (k : Int), 0 ≤ k → (doS stop l B ws k).2.2 = k + l.length ∧ (doS stop l B ws k).1.length = B.length := by
  intro l
  induction l with
  | nil => intro B ws k hk; simp [doS]
  | cons x l ih =>
    intro B ws k hk
    rw [doS, if_neg (by omega)]
    by_cases c : isFl x = true
    · rw [if_pos c]
      obtain ⟨h1, h2⟩ := ih (applyL B ws) [] (k + 1) (by omega)
      rw [h1, h2, applyL_length]
      refine ⟨?_, rfl⟩
      rw [List.length_cons]
      omega
    · rw [if_neg c]
      obtain ⟨h1, h2⟩ := ih B (ws ++ [x]) (k + 1) (by omega)
      rw [h1, h2]
      refine ⟨?_, rfl⟩
      rw [List.length_cons]
      omega
theorem doS_app (stop : Int) (hs : stop < 0) : ∀ (l m : List S58) (B : List ByteArray) (ws : List S58) (k : Int), 0 ≤ k → doS stop (l ++ m) B ws k = doS stop m (doS stop l B ws k).1 (doS stop l B ws k).2.1 (doS stop l B ws k).2.2 := by
  intro l
  induction l with
  | nil => intro m B ws k hk; simp [doS]
  | cons x l ih =>
    intro m B ws k hk
    have hk' : ¬ k = stop := by omega
    by_cases c : isFl x = true
    · simp only [List.cons_append, doS, if_neg hk', if_pos c]
      exact ih m _ _ _ (by omega)
    · simp only [List.cons_append, doS, if_neg hk', if_neg c]
      exact ih m _ _ _ (by omega)
theorem isFl_flush : isFl ⟨-1, ⟨#[]⟩⟩ = true := by simp [isFl, ByteArray.toList, ByteArray.toList.loop, ByteArray.size]
theorem planL_done (stop : Int) (hs : stop < 0) (B : List ByteArray) (n : Nat) (keep next gen : Int) : (doS stop (planL B n keep next gen) B [] 0).2.1 = [] := by
  have e : planL B n keep next gen = ((List.range (chunksN (bookL n keep next).length)).filterMap (asked B (larea n (gen + 1)) (bookL n keep next)) ++ [⟨-1, ⟨#[]⟩⟩, ⟨(gen + 1) % 2, superB (gen + 1) (bookL n keep next).length (crc (bookL n keep next))⟩]) ++ [⟨-1, ⟨#[]⟩⟩] := by
    rw [planL]
    simp
  rw [e, doS_app _ hs _ _ _ _ _ (by omega)]
  obtain ⟨h1, h2⟩ := doS_steps stop hs ((List.range (chunksN (bookL n keep next).length)).filterMap (asked B (larea n (gen + 1)) (bookL n keep next)) ++ [⟨-1, ⟨#[]⟩⟩, ⟨(gen + 1) % 2, superB (gen + 1) (bookL n keep next).length (crc (bookL n keep next))⟩]) B [] 0 (by omega)
  rw [doS, if_neg (by rw [h1]; omega), if_pos isFl_flush]
  rfl

/-- A disk of so many noughts; what it holds behind the first commit. -/
def disk0 (blocks : Nat) : List ByteArray := List.replicate blocks z40
def plan0 (blocks n : Nat) (keep : Int) : List S58 := planL (disk0 blocks) n keep 1 0
def diskF (blocks n : Nat) (keep : Int) : List ByteArray := (doS (-1) (plan0 blocks n keep) (disk0 blocks) [] 0).1
theorem diskF_length (blocks n : Nat) (keep : Int) : (diskF blocks n keep).length = blocks := by
  rw [diskF, (doS_steps (-1) (by omega) _ _ _ 0 (by omega)).2, disk0, List.length_replicate]

def fmtQ (w : World) (B : List ByteArray) (n : Nat) (keep next gen : Int) (e : Ending) (w' : World) : Prop :=
  ∃ (A1 : Option Addr) (c1 : Nat) (A2 : Option Addr) (c2 : Nat), e = .returned (.tuple #[.agg #[.slice A1 B.length c1, .slice none 0 0], stV A2 n c2 keep next gen, .int .i64 0]) ∧ B.length ≤ c1 ∧ n ≤ c2 ∧
    Kd.C Kd.string w' A1 B.length B ∧ (∀ ad, A1 = some ad → ad.block < w'.heap.size) ∧ Kd.C k75 w' A2 n (blank n) ∧ (∀ ad, A2 = some ad → ad.block < w'.heap.size) ∧ Below w.heap.size w w'

theorem cell_mem {w : World} {p : Addr} {b : Nat} {cs : Array Value} {t : TypeId} {v : Value} (hb : w.heap[b]? = some (.cells cs t (0, 0))) (hp : p.block = b) (hc : w.cell? p = some v) : v ∈ cs := by
  unfold World.cell? at hc
  rw [hp, hb] at hc
  simp only at hc
  split at hc
  · cases hc
  · exact Array.mem_of_getElem? hc
theorem str_ne {w : World} {A : Option Addr} {n b : Nat} {xs : List ByteArray} {cs : Array Value} {t : TypeId} (h : Kd.C Kd.string w A n xs) (hn : 0 < n) (hb : w.heap[b]? = some (.cells cs t (0, 0))) (hcs : ∀ s, Value.string s ∉ cs) : ∀ ad, A = some ad → ad.block ≠ b := by
  intro ad e hbk
  obtain ⟨ad', e', hc⟩ := Kd.at_string h 0 (by omega) (by omega)
  rw [e] at e'
  cases e'
  exact hcs _ (cell_mem hb (by rw [addb]; exact hbk) hc)
theorem row_ne {w : World} {A : Option Addr} {n b : Nat} {xs : List S75} {cs : Array Value} {t : TypeId} (h : Kd.C k75 w A n xs) (hn : 0 < n) (hb : w.heap[b]? = some (.cells cs t (0, 0))) (hcs : ∀ s, Value.bool s ∉ cs) : ∀ ad, A = some ad → ad.block ≠ b := by
  intro ad e hbk
  obtain ⟨ad', A3, c3, e', _, hc, _⟩ := at_T75 h 0 (by omega) (by omega)
  rw [e] at e'
  cases e'
  exact hcs _ (cell_mem hb (by show (ad.add _).block = b; rw [addb]; exact hbk) hc)

theorem c75_any {w : World} {A : Option Addr} {n b i m : Nat} (h : Kd.C k75 w A n (blank m)) (hg : ∀ ad, A = some ad → ad.block ≠ b) (u : Value) : Kd.C k75 (w.setCell ⟨b, i, none⟩ u) A n (blank m) := by
  refine ⟨h.1, h.2.1, fun h0 => ?_⟩
  obtain ⟨ad, e, hc⟩ := h.2.2 h0
  refine ⟨ad, e, fun j p hj => ?_⟩
  obtain ⟨c, h1, h2, h3⟩ := hc j p hj
  have hp : p = z75 := by
    have := hj
    simp [blank, List.getElem?_replicate] at this
    exact this.2.symm
  subst hp
  refine ⟨c, h1, ?_, fun i' u' hi => ?_⟩
  · obtain ⟨A3, c3, e2, hc2, _⟩ := k75_open h2
    rw [e2]
    exact k75_mk _ z75 hc2 ⟨rfl, by show (0 : Nat) ≤ _; omega, fun h0 => absurd h0 (by show ¬ 0 < 0; omega)⟩
  · rw [World.cell?_of_block (Below.heap_setCell w ⟨b, i, none⟩ u _ (by rw [addb]; exact hg ad e))]
    exact h3 i' u' hi
theorem c75_any6 {w : World} {A : Option Addr} {n b m : Nat} (h : Kd.C k75 w A n (blank m)) (hA : ∀ ad, A = some ad → ad.block ≠ b) (v0 v1 v2 v3 v4 v5 : Value) : Kd.C k75 (set6 w b v0 v1 v2 v3 v4 v5) A n (blank m) :=
  c75_any (c75_any (c75_any (c75_any (c75_any (c75_any h hA _) hA _) hA _) hA _) hA _) hA _

theorem first2 (a b : Int) : commit_first.f 3 [a, b] = some (if a = 0 then b else a) := by
  unfold commit_first.f
  simp only [commit_first.l0, List.length_cons, List.length_nil]
  by_cases h : a = 0
  · by_cases h2 : b = 0
    · simp [h, h2, rd, wrap64]
    · simp [h, h2, rd, wrap64]
  · simp [h, rd, wrap64]

theorem commitDo' (m : Nat) (AB : Option Addr) (cB : Nat) (B : List ByteArray) (hm : B.length = m) (A : Option Addr) (n c : Nat) (keep next gen stop : Int) (w : World) (hB : Kd.C Kd.string w AB m B) (hAB : ∀ ad, AB = some ad → ad.block < w.heap.size) (hcB : m ≤ cB) (hBl : m ≤ 4000) (hB2 : 2 ≤ m) (hA : Kd.C k75 w A n (blank n)) (hAl : ∀ ad, A = some ad → ad.block < w.heap.size) (hcn : n ≤ c)
    (hn : n ≤ 2000) (hn0 : 0 < n) (hcell : cellsM m = n) (hk0 : 0 ≤ keep) (hk1 : keep ≤ 65535) (hx0 : 0 ≤ next) (hx1 : next ≤ 4294967295) (hg0 : 0 ≤ gen) (hg1 : gen ≤ 1000)
    (hat : larea n (gen + 1) + chunksN (11 + 2 * n) ≤ m) :
    Calls Tryz.prog 12 #[.agg #[.slice AB m cB, .slice none 0 0], stV A n c keep next gen, .int .i64 stop] w (doneQ w AB B A n keep next gen stop) := by
  subst hm
  exact commitDo_calls AB cB B A n c keep next gen stop w hB hAB hcB hBl hB2 hA hAl hcn hn hn0 hcell hk0 hk1 hx0 hx1 hg0 hg1 (by
    rw [show (bookL n keep next).length = 11 + 2 * n by simp [bookL, bookHead_length]]
    exact hat)

theorem commitRun (m : Nat) (AB : Option Addr) (cB : Nat) (B : List ByteArray) (hm : B.length = m) (A : Option Addr) (n c : Nat) (keep next gen stop : Int) (w : World) (hstop : stop < 0) (hB : Kd.C Kd.string w AB m B) (hAB : ∀ ad, AB = some ad → ad.block < w.heap.size) (hcB : m ≤ cB) (hBl : m ≤ 4000) (hB2 : 2 ≤ m) (hA : Kd.C k75 w A n (blank n)) (hAl : ∀ ad, A = some ad → ad.block < w.heap.size) (hcn : n ≤ c)
    (hn : n ≤ 2000) (hn0 : 0 < n) (hcell : cellsM m = n) (hk0 : 0 ≤ keep) (hk1 : keep ≤ 65535) (hx0 : 0 ≤ next) (hx1 : next ≤ 4294967295) (hg0 : 0 ≤ gen) (hg1 : gen ≤ 1000)
    (hat : larea n (gen + 1) + chunksN (11 + 2 * n) ≤ m) :
    Calls Tryz.prog 12 #[.agg #[.slice AB m cB, .slice none 0 0], stV A n c keep next gen, .int .i64 stop] w (fmtQ w (doS stop (planL B n keep next gen) B [] 0).1 n keep next (gen + 1)) := by
  refine (commitDo' m AB cB B hm A n c keep next gen stop w hB hAB hcB hBl hB2 hA hAl hcn hn hn0 hcell hk0 hk1 hx0 hx1 hg0 hg1 hat).mono ?_
  rintro e w' ⟨A1, c1, v2, A2, c2, he, hc1, hc2, hC1, hA1, _, hvn, hC2, hA2, hb⟩
  obtain ⟨h1, h2⟩ := doS_steps stop hstop (planL B n keep next gen) B [] 0 (by omega)
  rw [if_pos (by rw [h1]; omega), if_pos (by rw [h1]; omega), hvn (planL_done stop hstop B n keep next gen)] at he
  refine ⟨A1, c1, A2, c2, ?_, by rw [h2]; exact hc1, hc2, by rw [h2]; exact hC1, hA1, hC2, hA2, hb⟩
  rw [he, h2]

set_option maxRecDepth 100000 in
set_option maxHeartbeats 4000000 in
theorem format_good (blocks n : Nat) (keep : Int) (w : World) (hb1 : 1 ≤ blocks) (hb2 : blocks ≤ 4000) (hcell : cellsM blocks = n) (hn : 1 ≤ n) (hk0 : 0 ≤ keep) (hk1 : keep ≤ n) :
    Calls Tryz.prog 5 #[.int .i64 (blocks : Int), .int .i64 keep] w (fmtQ w (diskF blocks n keep) n keep 1 1) := by
  obtain ⟨hc0, hc1, _, _⟩ := cellsM_spec blocks
  have hn2 : n ≤ 2000 := by omega
  have hu26 := Tryz.underlying26
  have hu29 := Tryz.underlying29
  have hu33 := Tryz.underlying33
  have hST : ∀ W, Calls Tryz.prog 15 #[.int .i64 (n : Int), .int .i64 keep] W fun e w' => (∃ A c, e = .returned (.tuple #[stV A n c keep 1 0, .int .i64 0]) ∧ n ≤ c ∧ Kd.C k75 w' A n (blank n) ∧ (∀ ad, A = some ad → ad.block < w'.heap.size)) ∧ Below W.heap.size W w' := fun W => by
    have h := stateNew_any n keep (blank n) keep 0 (heapNew_good (n := (n : Int)) (by omega) (by omega) hk0 hk1) (by simp [blank]; omega) W
    refine h.mono fun e w' ⟨h1, h2⟩ => ⟨?_, h2⟩
    rcases h1 with ⟨h3, _⟩ | ⟨_, h3⟩
    · exact absurd rfl h3
    · simpa [blank] using h3
  have hCL : ∀ W, Calls Tryz.prog 16 #[.int .i64 (blocks : Int)] W fun e w' => e = .returned (.int .i64 (n : Int)) ∧ Below W.heap.size W w' := fun W => by
    have h := cells_calls blocks W
    rwa [hcell] at h
  have hfit := cellsM_fits blocks (by omega) 1
  rw [hcell] at hfit
  have hbk2 : 2 ≤ blocks := by
    obtain ⟨_, _, h1, _⟩ := cellsM_spec blocks
    have h2 := h1 0 (by omega) (by omega)
    unfold baseM areaM at h2
    omega
  go_enter Tryz.func5, Tryz.ntmps5
  obtain ⟨w2, hw2⟩ : ∃ w2, w2 = (w.alloc (.cells #[.slice none 0 0, .slice none 0 0] 26)).alloc (.cells #[.slice none 0 0, .int .i64 0, .slice none 0 0, .slice none 0 0, .int .i64 0, .int .i64 0] 33) := ⟨_, rfl⟩
  have b0 : w2.heap[w.heap.size]? = some (.cells #[.slice none 0 0, .slice none 0 0] 26) := by rw [hw2, Below.heap_alloc _ _ _ (by simp)]; exact World.alloc_heap_new _ _
  have b1 : w2.heap[w.heap.size + 1]? = some (.cells #[.slice none 0 0, .int .i64 0, .slice none 0 0, .slice none 0 0, .int .i64 0, .int .i64 0] 33) := by
    rw [hw2]
    have := World.alloc_heap_new (w.alloc (.cells #[.slice none 0 0, .slice none 0 0] 26)) (.cells #[.slice none 0 0, .int .i64 0, .slice none 0 0, .slice none 0 0, .int .i64 0, .int .i64 0] 33)
    rwa [World.size_alloc] at this
  have hs2 : w2.heap.size = w.heap.size + 2 := by rw [hw2]; simp
  have HB2 : Aside0 (Below w.heap.size w w2) := ⟨by rw [hw2]; exact ((Below.refl _ w).alloc (Nat.le_refl _) _).alloc (by simp) _⟩
  have B0 := Aside0.mk b0
  have B1 := Aside0.mk b1
  clear b0 b1
  go_wp2_with fail
  rw [← hw2]
  clear hw2
  refine (diskNew_calls blocks hb1 hb2 w2).mono ?_
  rintro e w3 ⟨v3, rfl, ho3, hb3⟩
  obtain ⟨A3, c3, rfl⟩ := Kd.R_slice ho3
  rw [List.length_replicate] at ho3 ⊢
  have hC3 : Kd.C Kd.string w3 A3 blocks (disk0 blocks) := R_C ho3
  have hcc3 : blocks ≤ c3 := by have := (Kd.R_reads' ho3).2.1; exact this
  have hA3 : ∀ ad, A3 = some ad → ad.block < w3.heap.size := fun ad e => by
    subst e
    obtain ⟨cs, h⟩ := r_typed ho3
    exact blk_lt h
  have HC3 := Aside0.mk hC3
  have HA3 := Aside0.mk hA3
  have B0' := Aside0.mk ((hb3.block _ (blk_lt B0.out)).trans B0.out)
  have B1' := Aside0.mk ((hb3.block _ (blk_lt B1.out)).trans B1.out)
  have HB3 : Aside0 (Below w.heap.size w w3) := ⟨HB2.out.trans (hb3.mono (by omega))⟩
  have HCL := Aside0.mk hCL
  have HST := Aside0.mk hST
  have HFIT := Aside0.mk hfit
  clear ho3 hb3 B0 B1 HB2 hC3 hA3 hCL hST hfit
  have o3 : ∀ o, (w3.alloc o).heap[w.heap.size]? = some (.cells #[.slice none 0 0, .slice none 0 0] 26) := fun o => (Below.heap_alloc w3 _ _ (blk_lt B0'.out)).trans B0'.out
  go_wp2_with fail
  refine (HCL.out _).mono ?_
  rintro e w4 ⟨rfl, hb4⟩
  go_wp2_with fail
  refine (HST.out _).mono ?_
  rintro e w5 ⟨⟨A5, c5, rfl, hcc5, hC5, hA5⟩, hb5⟩
  obtain ⟨ob, hob⟩ : ∃ ob, ob = Obj.cells #[.slice A3 blocks c3, .slice none 0 0] 26 := ⟨_, rfl⟩
  rw [← hob] at hb4
  have hb35 : Below w3.heap.size w3 w5 := (((Below.refl _ w3).alloc (Nat.le_refl _) ob).trans (hb4.mono (by simp))).trans (hb5.mono (by have := hb4.size; simp at this; omega))
  have q0 := (hb35.block _ (blk_lt B0'.out)).trans B0'.out
  have q1 := (hb35.block _ (blk_lt B1'.out)).trans B1'.out
  have qd : w5.heap[w3.heap.size]? = some ob := (hb5.block _ (by have := hb4.size; simp at this; omega)).trans ((hb4.block _ (by simp)).trans (World.alloc_heap_new w3 _))
  rw [hob] at qd
  obtain ⟨w6, hw6⟩ : ∃ w6, w6 = w5.alloc (.cells #[.slice A5 n c5, .int .i64 keep, .slice none 0 0, .slice none 0 0, .int .i64 1, .int .i64 0] 33) := ⟨_, rfl⟩
  have hb56 : Below w5.heap.size w5 w6 := by rw [hw6]; exact (Below.refl _ w5).alloc (Nat.le_refl _) _
  have x6 : w6.heap[w5.heap.size]? = some (.cells #[.slice A5 n c5, .int .i64 keep, .slice none 0 0, .slice none 0 0, .int .i64 1, .int .i64 0] 33) := by rw [hw6]; exact World.alloc_heap_new w5 _
  have hfst : ∀ W : World, Calls Tryz.prog 17 #[.slice (some ⟨W.heap.size, 0, none⟩) 2 2] (W.alloc (.cells #[.int .i64 0, .int .i64 0] 34)) fun e w' => e = .returned (.int .i64 0) ∧ Drawn0 (W.alloc (.cells #[.int .i64 0, .int .i64 0] 34)) w' := fun W => commit_first.calls 3 _ 2 [0, 0] 0 _ (R_C (r_new W W.heap.size (Nat.le_refl _) [0, 0] .i64 34 (by decide))) (by decide) (first2 0 0)
  have hs6 : w6.heap.size = w5.heap.size + 1 := by rw [hw6]; simp
  have hf6 := hfst w6
  rw [hs6] at hf6
  have HF := Aside0.mk hf6
  clear hf6
  have h35 := hb35.size
  have hd35 : w3.heap.size < w5.heap.size := blk_lt qd
  have h3 := HB3.out.size
  have X0 := Aside0.mk ((hb56.block _ (blk_lt q0)).trans q0)
  have X1 := Aside0.mk ((hb56.block _ (blk_lt q1)).trans q1)
  have XD := Aside0.mk ((hb56.block _ hd35).trans qd)
  have X6 := Aside0.mk x6
  have HB36 : Aside0 (Below w3.heap.size w3 w6) := ⟨hb35.trans (hb56.mono h35)⟩
  have HC5 := Aside0.mk (Kd.C_below hC5 hb56)
  have HA5 : Aside0 (∀ ad, A5 = some ad → ad.block < w6.heap.size) := ⟨fun ad e => by have := hA5 ad e; omega⟩
  clear q0 q1 qd x6 hb4 hb5 hb35 hb56 hC5 hA5 hfst B0' B1' HCL HST hob o3
  go_wp2_with fail
  rw [← hw6]
  clear hw6
  with_reducible refine HF.out.mono ?_
  rintro e w7 ⟨rfl, ⟨nd, hw7⟩⟩
  have hb67 : Below w6.heap.size w6 w7 := by rw [hw7]; exact pw_below_drewN ((Below.refl _ w6).alloc (Nat.le_refl _) _) nd
  clear hw7 HF
  have h36 := HB36.out.size
  have x0 := (hb67.block _ (blk_lt X0.out)).trans X0.out
  have x1 := (hb67.block _ (blk_lt X1.out)).trans X1.out
  have xd := (hb67.block _ (blk_lt XD.out)).trans XD.out
  have x6 := (hb67.block _ (blk_lt X6.out)).trans X6.out
  have Y0 := Aside0.mk x0
  have Y1 := Aside0.mk x1
  have HB37 : Aside0 (Below w3.heap.size w3 w7) := ⟨HB36.out.trans (hb67.mono h36)⟩
  have HC7 := Aside0.mk (Kd.C_below HC5.out hb67)
  have HA7 : Aside0 (∀ ad, A5 = some ad → ad.block < w7.heap.size) := ⟨fun ad e => by have := HA5.out ad e; have := hb67.size; omega⟩
  have d0 : w7.cell? ⟨w3.heap.size, 0, none⟩ = some (.slice A3 blocks c3) := (blk_cell xd 0).trans rfl
  have d1 : w7.cell? ⟨w3.heap.size, 1, none⟩ = some (.slice none 0 0) := (blk_cell xd 1).trans rfl
  have s0 : w7.cell? ⟨w5.heap.size, 0, none⟩ = some (.slice A5 n c5) := (blk_cell x6 0).trans rfl
  have s1 : w7.cell? ⟨w5.heap.size, 1, none⟩ = some (.int .i64 keep) := (blk_cell x6 1).trans rfl
  have s2 : w7.cell? ⟨w5.heap.size, 2, none⟩ = some (.slice none 0 0) := (blk_cell x6 2).trans rfl
  have s3 : w7.cell? ⟨w5.heap.size, 3, none⟩ = some (.slice none 0 0) := (blk_cell x6 3).trans rfl
  have s4 : w7.cell? ⟨w5.heap.size, 4, none⟩ = some (.int .i64 1) := (blk_cell x6 4).trans rfl
  have s5 : w7.cell? ⟨w5.heap.size, 5, none⟩ = some (.int .i64 0) := (blk_cell x6 5).trans rfl
  clear x0 x1 xd x6 hb67 X0 X1 XD X6 HB36 HC5 HA5
  have hDO := commitRun blocks A3 c3 (disk0 blocks) (List.length_replicate ..) A5 n c5 keep 1 0 (-1) w7 (by omega) (Kd.C_below HC3.out HB37.out) (fun ad e => Nat.lt_of_lt_of_le (HA3.out ad e) HB37.out.size) hcc3 hb2 hbk2 HC7.out HA7.out hcc5 hn2 (by omega) hcell hk0 (by omega) (by omega) (by omega) (by omega) (by omega) HFIT.out
  rw [show (doS (-1) (planL (disk0 blocks) n keep 1 0) (disk0 blocks) [] 0).1 = diskF blocks n keep from rfl] at hDO
  have HDO := Aside0.mk hDO
  clear hDO
  obtain ⟨BF, hBF⟩ : ∃ BF, BF = diskF blocks n keep := ⟨_, rfl⟩
  rw [← hBF] at HDO ⊢
  have HBF := Aside0.mk hBF
  clear hBF
  go_wp2_with fail
  with_reducible refine HDO.out.mono ?_
  rintro e w8 ⟨A1, c1, A2, c2, rfl, hcc1, hcc2, hC1, hA1, hC2, hA2, hb8⟩
  have z0 := (hb8.block _ (blk_lt Y0.out)).trans Y0.out
  have z1 := (hb8.block _ (blk_lt Y1.out)).trans Y1.out
  have HB8 : Aside0 (Below w.heap.size w w8) := ⟨HB3.out.trans ((HB37.out.trans (hb8.mono HB37.out.size)).mono HB3.out.size)⟩
  have HC1 := Aside0.mk hC1
  have HA1 := Aside0.mk hA1
  have HC2 := Aside0.mk hC2
  have HA2 := Aside0.mk hA2
  have Z0 := Aside0.mk z0
  have Z1 := Aside0.mk z1
  clear hC1 hA1 hC2 hA2 hb8 HDO d0 d1 s0 s1 s2 s3 s4 s5
  have e0 : w8.cell? ⟨w.heap.size, 0, none⟩ = some (.slice none 0 0) := (blk_cell z0 0).trans rfl
  have e1 : w8.cell? ⟨w.heap.size, 1, none⟩ = some (.slice none 0 0) := (blk_cell z0 1).trans rfl
  have f0 : w8.frozen? ⟨w.heap.size, 0, none⟩ = false := blk_frozen z0 0
  have f1 : w8.frozen? ⟨w.heap.size, 1, none⟩ = false := blk_frozen z0 1
  have t0 : w8.cell? ⟨w.heap.size + 1, 0, none⟩ = some (.slice none 0 0) := (blk_cell z1 0).trans rfl
  have t1 : w8.cell? ⟨w.heap.size + 1, 1, none⟩ = some (.int .i64 0) := (blk_cell z1 1).trans rfl
  have t2 : w8.cell? ⟨w.heap.size + 1, 2, none⟩ = some (.slice none 0 0) := (blk_cell z1 2).trans rfl
  have t3 : w8.cell? ⟨w.heap.size + 1, 3, none⟩ = some (.slice none 0 0) := (blk_cell z1 3).trans rfl
  have t4 : w8.cell? ⟨w.heap.size + 1, 4, none⟩ = some (.int .i64 0) := (blk_cell z1 4).trans rfl
  have t5 : w8.cell? ⟨w.heap.size + 1, 5, none⟩ = some (.int .i64 0) := (blk_cell z1 5).trans rfl
  have u0 : w8.frozen? ⟨w.heap.size + 1, 0, none⟩ = false := blk_frozen z1 0
  have u1 : w8.frozen? ⟨w.heap.size + 1, 1, none⟩ = false := blk_frozen z1 1
  have u2 : w8.frozen? ⟨w.heap.size + 1, 2, none⟩ = false := blk_frozen z1 2
  have u3 : w8.frozen? ⟨w.heap.size + 1, 3, none⟩ = false := blk_frozen z1 3
  have u4 : w8.frozen? ⟨w.heap.size + 1, 4, none⟩ = false := blk_frozen z1 4
  have u5 : w8.frozen? ⟨w.heap.size + 1, 5, none⟩ = false := blk_frozen z1 5
  clear z0 z1
  go_wp2
  have hl : BF.length = blocks := by rw [HBF.out, diskF_length]
  have hne0 := str_ne HC1.out (by omega) Z0.out (by simp)
  have hne1 := str_ne HC1.out (by omega) Z1.out (by simp)
  have hn0 := row_ne HC2.out (by omega) Z0.out (by simp)
  have hn1 := row_ne HC2.out (by omega) Z1.out (by simp)
  obtain ⟨w9, hw9⟩ : ∃ w9, w9 = (w8.setCell ⟨w.heap.size, 0, none⟩ (.slice A1 BF.length c1)).setCell ⟨w.heap.size, 1, none⟩ (.slice none 0 0) := ⟨_, rfl⟩
  have x0 : w9.heap[w.heap.size]? = some (.cells #[.slice A1 BF.length c1, .slice none 0 0] 26) := by rw [hw9]; exact set_blk (set_blk Z0.out 0 _) 1 _
  have x1 : w9.heap[w.heap.size + 1]? = some (.cells #[.slice none 0 0, .int .i64 0, .slice none 0 0, .slice none 0 0, .int .i64 0, .int .i64 0] 33) := by
    rw [hw9, Below.heap_setCell _ _ _ _ (by simp), Below.heap_setCell _ _ _ _ (by simp)]
    exact Z1.out
  have xB : Below w.heap.size w w9 := by rw [hw9]; exact (HB8.out.setCell (p := ⟨w.heap.size, 0, none⟩) (Nat.le_refl _) _).setCell (p := ⟨w.heap.size, 1, none⟩) (Nat.le_refl _) _
  have xC : Kd.C Kd.string w9 A1 BF.length BF := by rw [hw9]; exact c_far (c_far HC1.out hne0 _) hne0 _
  have xG : Kd.C k75 w9 A2 n (blank n) := by
    rw [hw9]
    exact c75_any (c75_any HC2.out hn0 _) hn0 _
  rw [← hw9]
  have zs : w9.heap.size = w8.heap.size := by rw [hw9]; simp
  clear hw9
  refine bodyPost_ret (results_cct rfl _ _ w.heap.size (w.heap.size + 1) 26 33 #[.slice A1 BF.length c1, .slice none 0 0] #[.slice A2 n c2, .int .i64 keep, .slice none 0 0, .slice none 0 0, .int .i64 1, .int .i64 1] (0, 0) (0, 0) _ _ rfl ?z2 Tryz.underlying26 rfl (by kernel_rfl) rfl ?z3 Tryz.underlying33 rfl (by kernel_rfl)) rfl ?_
  case z2 =>
    rw [set6_other _ _ _ _ _ _ _ _ _ (by omega)]
    exact x0
  case z3 => exact set6_blk x1
  rw [← HBF.out]
  refine ⟨A1, c1, A2, c2, rfl, hcc1, hcc2, c_far6 xC hne1 _ _ _ _ _ _, ?_, ?_, ?_, set6_below xB (by omega) _ _ _ _ _ _⟩
  · exact fun ad e => by
      have := HA1.out ad e
      rw [set6_size]
      omega
  · exact c75_any6 xG hn1 _ _ _ _ _ _
  · exact fun ad e => by
      have := HA2.out ad e
      rw [set6_size]
      omega
end Go.Proofs.YtfolgjigfdbnoaaGreat.M
