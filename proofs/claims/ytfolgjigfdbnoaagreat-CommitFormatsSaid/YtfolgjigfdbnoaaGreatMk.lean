/-
  Contracts of slices.Clip and disk.Put.
-/
import Derived.Test.YtfolgjigfdbnoaaGreatMj
import Derived.ArgAppend
namespace Go.Proofs.YtfolgjigfdbnoaaGreat.M
open Go.RowKit Go.Shelf Go.Proofs.YtfolgjigfdbnoaaGreatW.PrintWords Go.Proofs.YtfolgjigfdbnoaaGreatW.PrintLast Go.Proofs.YtfolgjigfdbnoaaGreatW.PrintMore
open PCommitFormats
set_option linter.unusedVariables false
set_option linter.unusedSimpArgs false
attribute [local go_sem] Oper.semAt_some

/-- The append of writes, under a name that the walk leaves alone. -/
def app24 (args : Array Value) : Sem Value := Builtin.append_ #[24, 24] 24 args
theorem builtin_append24 (cs : Array Bool) (args : Array Value) : builtin .append #[24, 24] 24 cs args = (do pure (.value (← app24 args))) := rfl
attribute [local go_sem ↓ high] builtin_append24

theorem flat_of_reps {W : World} {base : Nat} {ok : Nat → Prop} : ∀ {ps : List S58} {cs : List Value}, Reps (k58.M W base ok) 2 ps cs → cs = flat58 ps
  | [], cs, h => by
    have := h.1
    simp at this
    simp [this, flat58]
  | p :: ps, cs, h => by
    have h0 := h.2 0 p rfl
    rw [Nat.zero_mul, List.drop_zero] at h0
    have h1 := k58_openM h0
    have h2 : Reps (k58.M W base ok) 2 ps (cs.drop 2) := ⟨by have := h.1; simp at this ⊢; omega, fun j q hj => by
      have := h.2 (j + 1) q (by simpa using hj)
      rw [Nat.add_mul, Nat.one_mul] at this
      rwa [List.drop_drop, Nat.add_comm]⟩
    have h3 := flat_of_reps h2
    rw [← List.take_append_drop 2 cs, h1, h3]
    simp [flat58]

theorem own_of_r58 {W : World} {base : Nat} {ok : Nat → Prop} {v : Value} {ws : List S58} (h : Kd.R k58 58 W base ok v ws) : W.ownsRow base 58 2 v ws.length (flat58 ws) := by
  obtain ⟨_, inner, ho, hr⟩ := h
  rw [flat_of_reps hr] at ho
  exact ho

/-- v clipped. -/
def clipV : Value → Value
  | .slice A n _ => .slice A n n
  | v => v

theorem clip_in (m : Nat) {w0 : World} {base : Nat} {ok : Nat → Prop} {v : Value} {ws : List S58} (h : Kd.R k58 58 w0 base ok v ws) (hl : ws.length ≤ 1000000) (w : World) :
    CallsIn Fence.wide m Tryz.prog 84 #[v] w fun e w' => e = .returned (clipV v) ∧ w' = w := by
  have ho := own_of_r58 h
  have hl' : (ws.length : Int) ≤ 1000000 := by omega
  refine callsIn_of_wp Tryz.func84 rfl trivial ?_ rfl
  rcases ho.2 with ⟨rfl, hx⟩ | ⟨g, cap, cur, rfl, hb, hh, hcap, _⟩
  · simp only [Tryz.ntmps84, List.size_toArray, List.length_cons, List.length_nil, Nat.reduceAdd, Nat.reduceSub, Array.replicate_succ, Array.replicate_zero, List.push_toArray, List.append_toArray, List.nil_append, List.cons_append]
    gi_wp2
    go_ret
    exact ⟨rfl, rfl⟩
  · simp only [Tryz.ntmps84, List.size_toArray, List.length_cons, List.length_nil, Nat.reduceAdd, Nat.reduceSub, Array.replicate_succ, Array.replicate_zero, List.push_toArray, List.append_toArray, List.nil_append, List.cons_append]
    have hcap' : (ws.length : Int) ≤ cap := by omega
    gi_wp2
    go_ret
    exact ⟨rfl, rfl⟩

/-- The append behind a clip: a row of its own, new. -/
theorem app24_fact {W : World} {base : Nat} {ok : Nat → Prop} {v : Value} {ws : List S58} (h : Kd.R k58 58 W base ok v ws) (hl : ws.length ≤ 1000000) (at_ : Int) (s : ByteArray) :
    ∃ (g c : Nat) (v2 : Value) (w2 : World), v2 = .slice (some ⟨g, 0, none⟩) (ws.length + 1) c ∧ (app24 #[clipV v, .slice (some ⟨W.heap.size, 0, none⟩) 1 1]).run Tryz.prog (W.alloc (.cells #[.int .i64 at_, .string s] 58)) = .ok v2 w2 ∧
      w2.ownsRow W.heap.size 58 2 v2 (ws ++ [(⟨at_, s⟩ : S58)]).length (flat58 (ws ++ [(⟨at_, s⟩ : S58)])) ∧ Below W.heap.size W w2 := by
  obtain ⟨i0, hi, hz0, hz1, hz2⟩ := info_parts info58
  have ho := own_of_r58 h
  have fin : ∀ v' w', w'.ownsRow W.heap.size 58 2 v' (ws.length + 1) (flat58 ws ++ [.int .i64 at_, .string s]) → (W.alloc (.cells #[.int .i64 at_, .string s] 58)).grownBy w' none → (∃ g c, v' = .slice (some ⟨g, 0, none⟩) (ws.length + 1) c) ∧ w'.ownsRow W.heap.size 58 2 v' (ws ++ [(⟨at_, s⟩ : S58)]).length (flat58 (ws ++ [(⟨at_, s⟩ : S58)])) ∧ Below W.heap.size W w' := by
    intro v' w' h1 h2
    obtain ⟨g, c, hg⟩ := ownsRow_succ h1
    refine ⟨⟨g, c, hg⟩, ?_, ((Below.refl _ W).alloc (Nat.le_refl _) _).grown h2 (by simp) (fun k e => by cases e)⟩
    rw [flat58_append, List.length_append]
    exact h1
  rcases ho.2 with ⟨rfl, hx⟩ | ⟨g, cap, cur, rfl, hb, hh, hcap, _⟩
  · obtain rfl : ws = [] := List.eq_nil_of_length_eq_zero hx
    obtain ⟨v', w', hrun, h1, h2, _⟩ := run_append_own (P := Tryz.prog) (w := W.alloc (.cells #[.int .i64 at_, .string s] 58)) W.heap.size 24 24 58 i0 (.agg #[.int .i64 0, .string ⟨#[]⟩]) 2 24 Tryz.underlying24 hi hz0 hz1 hz2 rfl (by decide) (.slice none 0 0) 0 [] (World.ownsRow_nil _ _ _ _) ⟨W.heap.size, 0, none⟩ 1 1 [.int .i64 at_, .string s] rfl (cells_new W _ 58) (by simp [Value.oneCell']) (by simp only [maxLen]; omega) (by omega) (by simp)
    obtain ⟨⟨g, c, hg⟩, h3, h4⟩ := fin v' w' h1 h2
    exact ⟨g, c, v', w', hg, hrun, h3, h4⟩
  · obtain ⟨v', w', hrun, h1, h2⟩ := run_append_arg_grows (P := Tryz.prog) (w := W.alloc (.cells #[.int .i64 at_, .string s] 58)) 24 24 58 i0 (.agg #[.int .i64 0, .string ⟨#[]⟩]) 2 24 Tryz.underlying24 hi hz0 hz1 hz2 rfl (by decide) ⟨g, 0, none⟩ ws.length ws.length (flat58 ws) (flat58_length ws) (fun j u hj => by
      have hc := (ho.alloc (.cells #[.int .i64 at_, .string s] 58)).cells (g := g) rfl j u hj
      exact hc) ⟨W.heap.size, 0, none⟩ 1 1 [.int .i64 at_, .string s] rfl (cells_new W _ 58) (by omega) (by simp only [maxLen]; omega) (by omega)
    obtain ⟨⟨g, c, hg⟩, h3, h4⟩ := fin v' w' (own_weaken h1 (by simp)) h2
    exact ⟨g, c, v', w', hg, hrun, h3, h4⟩

set_option maxRecDepth 100000 in
set_option maxHeartbeats 2000000 in
theorem put_in (m : Nat) (hm : 3 ≤ m) (AB : Option Addr) (cB : Nat) (B : List ByteArray) (v : Value) (ws : List S58) (base : Nat) (ok : Nat → Prop) (at_ : Int) (s : ByteArray) (w : World) (hB : Kd.C Kd.string w AB B.length B) (hcB : B.length ≤ cB) (hBl : B.length ≤ 4000)
    (hR : Kd.R k58 58 w base ok v ws) (hl : ws.length ≤ 100000) (h0 : 0 ≤ at_) (h1 : at_ < B.length) (hs : s.size = 40) :
    CallsIn Fence.wide m Tryz.prog 49 #[.agg #[.slice AB B.length cB, v], .int .i64 at_, .string s] w fun e w' => ∃ v', e = .returned (.tuple #[.agg #[.slice AB B.length cB, v'], .int .i64 0]) ∧ Kd.R k58 58 w' w.heap.size (fun _ => True) v' (ws ++ [(⟨at_, s⟩ : S58)]) ∧ Below w.heap.size w w' := by
  have h1m : 1 ≤ m := by omega
  have hu26 := Tryz.underlying26
  have hu58 := Tryz.underlying58
  have hmx : Tryz.prog.follows .mixedOrders = true := by kernel_rfl
  obtain ⟨A, c, rfl⟩ := Kd.R_slice hR
  have hrd := Kd.R_reads' hR
  refine callsIn_of_wp Tryz.func49 rfl trivial ?_ rfl
  simp only [Tryz.ntmps49, List.size_toArray, List.length_cons, List.length_nil, Nat.reduceAdd, Nat.reduceSub, Array.replicate_succ, Array.replicate_zero, List.push_toArray, List.append_toArray, List.nil_append, List.cons_append]
  have HR := Aside0.mk hR
  have HRD := Aside0.mk hrd
  have HBB := Aside0.mk hB
  clear hR hrd hB
  have hw3 : ∃ w3, w3 = ((w.alloc (.cells #[.slice AB B.length cB, .slice A ws.length c] 26)).alloc (.cells #[.slice none 0 0, .slice none 0 0] 26)).alloc (.cells #[.int .i64 at_, .string s] 58) := ⟨_, rfl⟩
  obtain ⟨w3, hw3⟩ := hw3
  have b0 : w3.heap[w.heap.size]? = some (.cells #[.slice AB B.length cB, .slice A ws.length c] 26) := by rw [hw3, Below.heap_alloc _ _ _ (by simp; omega), Below.heap_alloc _ _ _ (by simp)]; exact World.alloc_heap_new _ _
  have b1 : w3.heap[w.heap.size + 1]? = some (.cells #[.slice none 0 0, .slice none 0 0] 26) := by
    rw [hw3, Below.heap_alloc _ _ _ (by simp)]
    have := World.alloc_heap_new (w.alloc (.cells #[.slice AB B.length cB, .slice A ws.length c] 26)) (.cells #[.slice none 0 0, .slice none 0 0] 26)
    rwa [World.size_alloc] at this
  have b2 : w3.heap[w.heap.size + 1 + 1]? = some (.cells #[.int .i64 at_, .string s] 58) := by
    rw [hw3]
    have := World.alloc_heap_new ((w.alloc (.cells #[.slice AB B.length cB, .slice A ws.length c] 26)).alloc (.cells #[.slice none 0 0, .slice none 0 0] 26)) (.cells #[.int .i64 at_, .string s] 58)
    simpa using this
  have HB3 : Aside0 (Below w.heap.size w w3) := ⟨by rw [hw3]; exact (((Below.refl _ w).alloc (Nat.le_refl _) _).alloc (by simp) _).alloc (by simp; omega) _⟩
  have HS3 : Aside0 (w3.heap.size = w.heap.size + 3) := ⟨by rw [hw3]; simp⟩
  gi_wp2_with fail
  rw [← hw3]
  clear hw3
  refine ⟨trivial, (callsIn_wide.2 (disk_fits.calls AB cB B A c ws at_ s true w3 (Kd.C_below HBB.out HB3.out) hcB (Kd.C_below HRD.out.2.2 HB3.out) HRD.out.2.1 (by simp [disk_fits.f, h0, h1, hs]))).mono ?_⟩
  rintro e w4 ⟨rfl, hb4⟩
  have b0' := (hb4.block _ (blk_lt b0)).trans b0
  have b1' := (hb4.block _ (blk_lt b1)).trans b1
  have b2' := (hb4.block _ (blk_lt b2)).trans b2
  have HB4 : Aside0 (Below w.heap.size w w4) := ⟨below_then HB3.out HB3.out.size hb4⟩
  obtain ⟨g5, c5, v5, w5, hv5, hrun, hown5, hb5⟩ := app24_fact (Kd.R_drew (Kd.R_below HR.out HB4.out)) (by omega) at_ s
  have hrun' : (app24 #[.slice A ws.length ws.length, .slice (some ⟨w4.heap.size, 0, none⟩) 1 1]).run Tryz.prog ((w4.alloc (.cells #[.int .i64 at_, .string s] 58)).drew) = .ok v5 w5 := hrun
  have hclip := fun W => clip_in (m - 1) HR.out (by omega) W
  have hcv : clipV (.slice A ws.length c) = .slice A ws.length ws.length := rfl
  rw [hcv] at hclip
  have a0 : (w4.alloc (.cells #[.int .i64 at_, .string s] 58)).heap[w.heap.size]? = some (.cells #[.slice AB B.length cB, .slice A ws.length c] 26) := (Below.heap_alloc w4 _ _ (blk_lt b0')).trans b0'
  have a2 : (w4.alloc (.cells #[.int .i64 at_, .string s] 58)).heap[w.heap.size + 1 + 1]? = some (.cells #[.int .i64 at_, .string s] 58) := (Below.heap_alloc w4 _ _ (blk_lt b2')).trans b2'
  have hb5' : Below w4.heap.size w4 w5 := ((Below.refl _ w4).drew).trans hb5
  have d0 := (hb5'.block _ (blk_lt b0')).trans b0'
  have d1 := (hb5'.block _ (blk_lt b1')).trans b1'
  have d2 := (hb5'.block _ (blk_lt b2')).trans b2'
  have p0 : w4.cell? ⟨w.heap.size, 0, none⟩ = some (.slice AB B.length cB) := (blk_cell b0' 0).trans rfl
  have p1 : w4.cell? ⟨w.heap.size, 1, none⟩ = some (.slice A ws.length c) := (blk_cell b0' 1).trans rfl
  have p2 : w4.cell? ⟨w.heap.size + 1 + 1, 0, none⟩ = some (.int .i64 at_) := (blk_cell b2' 0).trans rfl
  have p3 : w4.cell? ⟨w.heap.size + 1 + 1, 1, none⟩ = some (.string s) := (blk_cell b2' 1).trans rfl
  have q0 : (w4.alloc (.cells #[.int .i64 at_, .string s] 58)).cell? ⟨w.heap.size, 0, none⟩ = some (.slice AB B.length cB) := (blk_cell a0 0).trans rfl
  have q1 : (w4.alloc (.cells #[.int .i64 at_, .string s] 58)).cell? ⟨w.heap.size, 1, none⟩ = some (.slice A ws.length c) := (blk_cell a0 1).trans rfl
  have q2 : (w4.alloc (.cells #[.int .i64 at_, .string s] 58)).cell? ⟨w.heap.size + 1 + 1, 0, none⟩ = some (.int .i64 at_) := (blk_cell a2 0).trans rfl
  have q3 : (w4.alloc (.cells #[.int .i64 at_, .string s] 58)).cell? ⟨w.heap.size + 1 + 1, 1, none⟩ = some (.string s) := (blk_cell a2 1).trans rfl
  have r0 : w5.cell? ⟨w.heap.size, 0, none⟩ = some (.slice AB B.length cB) := (blk_cell d0 0).trans rfl
  have r1 : w5.cell? ⟨w.heap.size, 1, none⟩ = some (.slice A ws.length c) := (blk_cell d0 1).trans rfl
  have r2 : w5.cell? ⟨w.heap.size + 1 + 1, 0, none⟩ = some (.int .i64 at_) := (blk_cell d2 0).trans rfl
  have r3 : w5.cell? ⟨w.heap.size + 1 + 1, 1, none⟩ = some (.string s) := (blk_cell d2 1).trans rfl
  have s0 : w5.cell? ⟨w.heap.size + 1, 0, none⟩ = some (.slice none 0 0) := (blk_cell d1 0).trans rfl
  have s1 : w5.cell? ⟨w.heap.size + 1, 1, none⟩ = some (.slice none 0 0) := (blk_cell d1 1).trans rfl
  have s2 : w5.frozen? ⟨w.heap.size + 1, 0, none⟩ = false := blk_frozen d1 0
  have s3 : w5.frozen? ⟨w.heap.size + 1, 1, none⟩ = false := blk_frozen d1 1
  have D1 := Aside0.mk d1
  have HS4 : Aside0 (w.heap.size + 1 < w4.heap.size) := ⟨blk_lt b1'⟩
  have HO5 := Aside0.mk hown5
  have HB5 := Aside0.mk hb5'
  have h84 : Fence.wide.fn 84 := trivial
  subst hv5
  clear hrun b0 b1 b2 b0' b1' b2' a0 a2 d0 d1 d2 hown5 hb5 hb5' hb4 hcv
  gi_wp2
  gi_region_with_o (gi_at_call 84; refine (hclip _).mono ?_; rintro e w' ⟨rfl, rfl⟩)
  all_goals gi_wp2
  all_goals
    refine bodyPost_ret (results_ct rfl _ _ (w.heap.size + 1) 26 #[.slice AB B.length cB, .slice (some ⟨g5, 0, none⟩) (ws.length + 1) c5] (0, 0) _ rfl (set_blk (set_blk D1.out 0 _) 1 _) Tryz.underlying26 rfl (by kernel_rfl)) rfl ?_
    have hz : w.heap.size + 1 < w4.heap.size := HS4.out
    exact ⟨_, rfl, r58_of_own (own_weaken (ownsRow_setCell_below (ownsRow_setCell_below HO5.out (a := ⟨w.heap.size + 1, 0, none⟩) hz _) (a := ⟨w.heap.size + 1, 1, none⟩) hz _) (HB4.out.size)), ((below_then HB4.out HB4.out.size HB5.out).setCell (p := ⟨w.heap.size + 1, 0, none⟩) (by show w.heap.size ≤ w.heap.size + 1; omega) _).setCell (p := ⟨w.heap.size + 1, 1, none⟩) (by show w.heap.size ≤ w.heap.size + 1; omega) _⟩

theorem put_calls (AB : Option Addr) (cB : Nat) (B : List ByteArray) (v : Value) (ws : List S58) (base : Nat) (ok : Nat → Prop) (at_ : Int) (s : ByteArray) (w : World) (hB : Kd.C Kd.string w AB B.length B) (hcB : B.length ≤ cB) (hBl : B.length ≤ 4000)
    (hR : Kd.R k58 58 w base ok v ws) (hl : ws.length ≤ 100000) (h0 : 0 ≤ at_) (h1 : at_ < B.length) (hs : s.size = 40) :
    Calls Tryz.prog 49 #[.agg #[.slice AB B.length cB, v], .int .i64 at_, .string s] w fun e w' => ∃ v', e = .returned (.tuple #[.agg #[.slice AB B.length cB, v'], .int .i64 0]) ∧ Kd.R k58 58 w' w.heap.size (fun _ => True) v' (ws ++ [⟨at_, s⟩]) ∧ Below w.heap.size w w' :=
  (callsIn_wide (n := 3)).1 (put_in 3 (by omega) AB cB B v ws base ok at_ s w hB hcB hBl hR hl h0 h1 hs)

end Go.Proofs.YtfolgjigfdbnoaaGreat.M
