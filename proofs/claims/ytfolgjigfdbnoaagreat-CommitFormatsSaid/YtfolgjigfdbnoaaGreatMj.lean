/-
  Contract of plan.Plan of a blank state and a disk where nothing waits.
-/
import Derived.Test.YtfolgjigfdbnoaaGreatMi
namespace Go.Proofs.YtfolgjigfdbnoaaGreat.M
open Go.RowKit Go.Shelf Go.Proofs.YtfolgjigfdbnoaaGreatW.PrintWords Go.Proofs.YtfolgjigfdbnoaaGreatW.PrintLast Go.Proofs.YtfolgjigfdbnoaaGreatW.PrintMore
open PCommitFormats
set_option linter.unusedVariables false
set_option linter.unusedSimpArgs false
attribute [local go_sem] Oper.semAt_some

def flat58 (l : List S58) : List Value := l.flatMap fun s => [.int .i64 s.f0, .string s.f1]
theorem snocRec {α : Type} {P : List α → Prop} (xs : List α) (nil : P []) (snoc : ∀ (xs : List α) (x : α), P xs → P (xs ++ [x])) : P xs := by
  have h : ∀ n (xs : List α), xs.length = n → P xs := by
    intro n
    induction n with
    | zero => intro xs h; rw [List.length_eq_zero_iff.1 h]; exact nil
    | succ n ih =>
      intro xs h
      have hne : xs ≠ [] := by intro e; subst e; simp at h
      rw [← List.dropLast_concat_getLast hne]
      exact snoc _ _ (ih _ (by simp [h]))
  exact h _ xs rfl
theorem flat58_append (a b : List S58) : flat58 (a ++ b) = flat58 a ++ flat58 b := by simp [flat58]
theorem flat58_length (l : List S58) : (flat58 l).length = l.length * 2 := by
  induction l with
  | nil => rfl
  | cons x l ih => simp only [flat58, List.flatMap_cons, List.length_append, List.length_cons, List.length_nil] at *; omega

theorem cells_new (W : World) (cs : List Value) (t : TypeId) : ∀ j u, cs[j]? = some u → (W.alloc (.cells cs.toArray t)).cell? ((⟨W.heap.size, 0, none⟩ : Addr).add j) = some u := fun j u h => by
  rw [add_plain, blk_cell (World.alloc_heap_new W _) j]
  simpa using h

theorem box_append58 {W w2 : World} {n₁ o k m size : Nat} {t : TypeId} {v v2 : Value} {xs ys : List Value} {tmp : Obj} (hv : Boxed W o t v) (hte : t ≠ 58) (ho : o < n₁) (hn : n₁ ≤ W.heap.size) (hrow : W.ownsRow n₁ 58 size v k xs)
    (hown2 : w2.ownsRow n₁ 58 size v2 m ys) (hgrow : (W.alloc tmp).grownBy w2 v.ownBlock) :
    Boxed w2 o t v ∧ Boxed (w2.setCell ⟨o, 0, none⟩ v2) o t v2 ∧ (w2.setCell ⟨o, 0, none⟩ v2).ownsRow n₁ 58 size v2 m ys ∧ KeepsOthers W (w2.setCell ⟨o, 0, none⟩ v2) ∧ KpR o W (w2.setCell ⟨o, 0, none⟩ v2) ∧ Below o W (w2.setCell ⟨o, 0, none⟩ v2) := by
  obtain ⟨h1, h2, h3, h4, h5, h6⟩ := box_append hv hte ho hn hrow hown2 hgrow
  refine ⟨h1, h2, h3, h4, ⟨h4.size, fun k cs t f hk ht hko => ?_⟩, h6⟩
  rw [Below.heap_setCell _ _ _ _ (by simpa using hko), hgrow.block k (by simp; have := blk_lt hk; omega) (fun e => ?_), Below.heap_alloc _ _ _ (blk_lt hk)]
  · exact hk
  · obtain ⟨cells, hc⟩ := own_typed hrow k e.symm
    rw [hk] at hc
    cases hc
    exact ht rfl

/-- What of the book's blocks is to be written. -/
def asked (B : List ByteArray) (la : Int) (xs : List Int) (x : Nat) : Option S58 :=
  if ((rdOf ByteArray.empty B (la + x)).toList == (chunkS xs x).toList) = true then none else some ⟨la + x, chunkS xs x⟩
theorem fm_some (f : Nat → Option S58) (pre : List Nat) (x : Nat) (y : S58) (h : f x = some y) : (pre ++ [x]).filterMap f = pre.filterMap f ++ [y] := by simp [List.filterMap_append, List.filterMap_cons, h]
theorem fm_none (f : Nat → Option S58) (pre : List Nat) (x : Nat) (h : f x = none) : (pre ++ [x]).filterMap f = pre.filterMap f := by simp [List.filterMap_append, List.filterMap_cons, h]
theorem filterMap_congr' {f g : Nat → Option S58} {l : List Nat} (h : ∀ x ∈ l, f x = g x) : l.filterMap f = l.filterMap g := by
  induction l with
  | nil => rfl
  | cons a l ih =>
    rw [List.filterMap_cons, List.filterMap_cons, h a (List.mem_cons_self), ih fun x hx => h x (List.mem_cons_of_mem _ hx)]
theorem asked_some {B : List ByteArray} {la : Int} {xs : List Int} {x : Nat} (h : (!((rdOf ByteArray.empty B (la + x)).toList == (chunkS xs x).toList)) = true) : asked B la xs x = some ⟨la + x, chunkS xs x⟩ := if_neg (by simpa using h)
theorem asked_none {B : List ByteArray} {la : Int} {xs : List Int} {x : Nat} (h : (!((rdOf ByteArray.empty B (la + x)).toList == (chunkS xs x).toList)) = false) : asked B la xs x = none := if_pos (by simpa using h)

theorem set_blk {w : World} {b : Nat} {t : TypeId} {cs : Array Value} (h : w.heap[b]? = some (.cells cs t (0, 0))) (i : Nat) (v : Value) : (w.setCell ⟨b, i, none⟩ v).heap[b]? = some (.cells (cs.setIfInBounds i v) t (0, 0)) := by
  simp [World.setCell, Array.getElem?_modify, h]
theorem r_block {α : Type} {d : Kd α} {e base : Nat} {ok : Nat → Prop} {w : World} {v : Value} {xs : List α} (h : d.R e w base ok v xs) (h0 : 0 < xs.length) : ∃ g c, v = .slice (some ⟨g, 0, none⟩) xs.length c ∧ base ≤ g ∧ g < w.heap.size ∧ xs.length ≤ c ∧ d.C w (some ⟨g, 0, none⟩) xs.length xs := by
  obtain ⟨A, c, rfl⟩ := Kd.R_slice h
  have hr := (Kd.R_reads' h).2
  obtain ⟨inner, ho⟩ := Kd.R_own h
  rcases ho.2 with ⟨hv, hx⟩ | ⟨g, cap, cur, hv, hb, hh, _⟩
  · simp at hv
    omega
  · cases hv
    exact ⟨g, c, rfl, hb, blk_lt hh, hr.1, hr.2⟩

theorem c_low {w W : World} {g b n : Nat} {xs : List Int} (h : Kd.C (Kd.int .u8) w (some ⟨g, 0, none⟩) n xs) (hg : g < b) (hb : Below b w W) : Kd.C (Kd.int .u8) W (some ⟨g, 0, none⟩) n xs := by
  refine ⟨h.1, h.2.1, fun h0 => ?_⟩
  obtain ⟨ad, e, hc⟩ := h.2.2 h0
  refine ⟨ad, e, fun j p hj => ?_⟩
  obtain ⟨c, h1, h2, h3⟩ := hc j p hj
  refine ⟨c, h1, h2, fun i u hi => (hb.cell (p := ad.add _) ?_).trans (h3 i u hi)⟩
  cases e
  rw [addb]
  exact hg
theorem bookL_bytes (n : Nat) (keep next : Int) : Bytes (bookL n keep next) := by
  unfold bookL bookHead
  refine Bytes.append ?_ (Bytes.zeros _)
  simp only [List.flatten_cons, List.flatten_nil, List.append_nil]
  exact ((putL_bytes 4 _).append (fun x hx => by simp at hx; omega)).append ((putL_bytes 2 _).append ((putL_bytes 2 _).append (putL_bytes 2 _)))

def planL (B : List ByteArray) (n : Nat) (keep next gen : Int) : List S58 :=
  (List.range (chunksN (bookL n keep next).length)).filterMap (asked B (larea n (gen + 1)) (bookL n keep next)) ++ [⟨-1, ⟨#[]⟩⟩, ⟨(gen + 1) % 2, superB (gen + 1) (bookL n keep next).length (crc (bookL n keep next))⟩, ⟨-1, ⟨#[]⟩⟩]
theorem reps58 (W : World) (base : Nat) (ok : Nat → Prop) : ∀ xs : List S58, Reps (k58.M W base ok) 2 xs (flat58 xs) := by
  intro xs
  induction xs using snocRec with
  | nil => exact Reps.none _ _
  | snoc xs x ih =>
    rw [flat58_append]
    exact Reps.snoc ih (k58_mkM W base ok x) rfl
theorem r58_of_own {W : World} {base : Nat} {v : Value} {xs : List S58} (h : W.ownsRow base 58 2 v xs.length (flat58 xs)) : Kd.R k58 58 W base (fun _ => True) v xs :=
  ⟨fun _ _ => trivial, flat58 xs, h, reps58 _ _ _ xs⟩

set_option maxRecDepth 100000 in
set_option maxHeartbeats 4000000 in
theorem plan_in (m : Nat) (hm : 4 ≤ m) (AB : Option Addr) (cB : Nat) (B : List ByteArray) (A : Option Addr) (n c : Nat) (keep next gen : Int) (w : World) (hB : Kd.C Kd.string w AB B.length B) (hcB : B.length ≤ cB) (hBl : B.length ≤ 4000) (hA : Kd.C k75 w A n (blank n))
    (hn : n ≤ 2000) (hcell : cellsM B.length = n) (hk0 : 0 ≤ keep) (hk1 : keep ≤ 65535) (hx0 : 0 ≤ next) (hx1 : next ≤ 4294967295) (hg0 : 0 ≤ gen) (hg1 : gen ≤ 1000)
    (hat : larea n (gen + 1) + chunksN (bookL n keep next).length ≤ B.length) :
    CallsIn Fence.wide m Tryz.prog 26 #[.agg #[.slice AB B.length cB, .slice none 0 0], stV A n c keep next gen] w fun e w' => ∃ v, e = .returned (.tuple #[v, .int .i64 0]) ∧ Kd.R k58 58 w' w.heap.size (fun _ => True) v (planL B n keep next gen) ∧ Below w.heap.size w w' := by
  have h1m : 1 ≤ m := by omega
  have hu26 := Tryz.underlying26
  have hu33 := Tryz.underlying33
  have hu29 := Tryz.underlying29
  have hu93 := Tryz.underlying93
  have hu95 := Tryz.underlying95
  have hmx : Tryz.prog.follows .mixedOrders = true := by kernel_rfl
  refine callsIn_of_wp_marks Tryz.func26 rfl trivial ?_ rfl
  simp only [Tryz.ntmps26, List.size_toArray, List.length_cons, List.length_nil, Nat.reduceAdd, Nat.reduceSub, Array.replicate_succ, Array.replicate_zero, List.push_toArray, List.append_toArray, List.nil_append, List.cons_append]
  refine wpIn_wide.2 ?_
  have hBL : (B.length : Int) ≤ 4000 := by omega
  go_upto_region 2 with (fail)
  obtain ⟨w0, hw0⟩ : ∃ w0, w0 = (((w.alloc (.cells #[.slice AB B.length cB, .slice none 0 0] 26)).alloc (.cells #[.slice A n c, .int .i64 keep, .slice none 0 0, .slice none 0 0, .int .i64 next, .int .i64 gen] 33)).alloc (.cells #[.int .i64 n, .slice A n c, .int .i64 keep, .slice none 0 0, .slice none 0 0, .int .i64 next, .int .i64 gen, .slice none 0 0] 95)) := ⟨_, rfl⟩
  have hs0 : w0.heap.size = w.heap.size + 3 := by rw [hw0]; simp
  have b0 : w0.heap[w.heap.size]? = some (.cells #[.slice AB B.length cB, .slice none 0 0] 26) := by rw [hw0, Below.heap_alloc _ _ _ (by simp; omega), Below.heap_alloc _ _ _ (by simp)]; exact World.alloc_heap_new _ _
  have b1 : w0.heap[w.heap.size + 1]? = some (.cells #[.slice A n c, .int .i64 keep, .slice none 0 0, .slice none 0 0, .int .i64 next, .int .i64 gen] 33) := by
    rw [hw0, Below.heap_alloc _ _ _ (by simp)]
    have := World.alloc_heap_new (w.alloc (.cells #[.slice AB B.length cB, .slice none 0 0] 26)) (.cells #[.slice A n c, .int .i64 keep, .slice none 0 0, .slice none 0 0, .int .i64 next, .int .i64 gen] 33)
    rwa [World.size_alloc] at this
  have b2 : w0.heap[w.heap.size + 1 + 1]? = some (.cells #[.int .i64 n, .slice A n c, .int .i64 keep, .slice none 0 0, .slice none 0 0, .int .i64 next, .int .i64 gen, .slice none 0 0] 95) := by
    rw [hw0]
    have := World.alloc_heap_new ((w.alloc (.cells #[.slice AB B.length cB, .slice none 0 0] 26)).alloc (.cells #[.slice A n c, .int .i64 keep, .slice none 0 0, .slice none 0 0, .int .i64 next, .int .i64 gen] 33)) (.cells #[.int .i64 n, .slice A n c, .int .i64 keep, .slice none 0 0, .slice none 0 0, .int .i64 next, .int .i64 gen, .slice none 0 0] 95)
    simpa using this
  have HB0 : Aside0 (Below w.heap.size w w0) := ⟨by rw [hw0]; exact (((Below.refl _ w).alloc (Nat.le_refl _) _).alloc (by simp) _).alloc (by simp; omega) _⟩
  rw [← hw0]
  clear hw0
  have hl0 := blk_lt b0
  have hl1 := blk_lt b1
  have hl2 := blk_lt b2
  have hK : ∀ W', Below w0.heap.size w0 W' → W'.cell? ⟨w.heap.size, 0, none⟩ = some (.slice AB B.length cB) ∧ W'.cell? ⟨w.heap.size + 1 + 1, 0, none⟩ = some (.int .i64 n) := fun W' hb => ⟨(hb.cell (p := ⟨w.heap.size, 0, none⟩) hl0).trans ((blk_cell b0 0).trans rfl), (hb.cell (p := ⟨w.heap.size + 1 + 1, 0, none⟩) hl2).trans ((blk_cell b2 0).trans rfl)⟩
  have HK := Aside0.mk hK
  clear hK
  have B0 := Aside0.mk b0
  have B1 := Aside0.mk b1
  have B2 := Aside0.mk b2
  clear b0 b1 b2
  obtain ⟨hc0, hc1⟩ := HK.out w0 (Below.refl _ _)
  go_cut [34] from 27 to 33 (fun v wc => v = .bool false ∧ Aside0 (Below w0.heap.size w0 wc))
  case first =>
    go_region_held3 (fun w' => w'.cell? ⟨w.heap.size, 0, none⟩ = some (.slice AB B.length cB) ∧ w'.cell? ⟨w.heap.size + 1 + 1, 0, none⟩ = some (.int .i64 n))
      (first | exact ⟨hc0, hc1⟩ | exact HK.out _ HX.out | go_keep)
      (first | (go_at_call 16; refine (cells_calls _ _).mono ?_; rintro e w1 ⟨rfl, hb1⟩; have HX := Aside0.mk (below_step (below_drew (Below.refl w0.heap.size w0)) hb1); clear hb1))
    all_goals
      go_wp2
      go_meet
      case rel => exact ⟨by simp [hcell], HX⟩
  case rest =>
    obtain ⟨rfl, HX⟩ := hcut
    clear hc0 hc1
    have d0 : wc.cell? ⟨w.heap.size + 1, 0, none⟩ = some (.slice A n c) := (HX.out.cell (p := ⟨w.heap.size + 1, 0, none⟩) hl1).trans ((blk_cell B1.out 0).trans rfl)
    have d1 : wc.cell? ⟨w.heap.size + 1, 1, none⟩ = some (.int .i64 keep) := (HX.out.cell (p := ⟨w.heap.size + 1, 1, none⟩) hl1).trans ((blk_cell B1.out 1).trans rfl)
    have d2 : wc.cell? ⟨w.heap.size + 1, 2, none⟩ = some (.slice none 0 0) := (HX.out.cell (p := ⟨w.heap.size + 1, 2, none⟩) hl1).trans ((blk_cell B1.out 2).trans rfl)
    have d3 : wc.cell? ⟨w.heap.size + 1, 3, none⟩ = some (.slice none 0 0) := (HX.out.cell (p := ⟨w.heap.size + 1, 3, none⟩) hl1).trans ((blk_cell B1.out 3).trans rfl)
    have d4 : wc.cell? ⟨w.heap.size + 1, 4, none⟩ = some (.int .i64 next) := (HX.out.cell (p := ⟨w.heap.size + 1, 4, none⟩) hl1).trans ((blk_cell B1.out 4).trans rfl)
    have d5 : wc.cell? ⟨w.heap.size + 1, 5, none⟩ = some (.int .i64 gen) := (HX.out.cell (p := ⟨w.heap.size + 1, 5, none⟩) hl1).trans ((blk_cell B1.out 5).trans rfl)
    go_wp2_with fail
    refine (bookPrint_calls A n c keep next gen wc (Kd.C_below hA (below_then HB0.out HB0.out.size HX.out)) hn hk0 hk1 hx0 hx1).mono ?_
    rintro e w2 ⟨v, rfl, hv, hb2⟩
    clear d0 d1 d2 d3 d4 d5
    have hbl : (bookL n keep next).length = 11 + 2 * n := by simp [bookL, bookHead_length]
    obtain ⟨g, tc, rfl, hg, hgl, htc, hCt⟩ := r_block hv (by omega)
    have HBL := Aside0.mk hbl
    clear hbl
    have HTC := Aside0.mk htc
    clear htc
    have HY : Aside0 (Below w0.heap.size w0 w2) := ⟨below_step HX.out hb2⟩
    have B0' := Aside0.mk ((HY.out.block _ hl0).trans B0.out)
    have B1' := Aside0.mk ((HY.out.block _ hl1).trans B1.out)
    have b2' := (HY.out.block _ hl2).trans B2.out
    have HW2 : Aside0 (Below w.heap.size w w2) := ⟨below_then HB0.out HB0.out.size HY.out⟩
    have hs2 : w.heap.size + 3 ≤ w2.heap.size := by have := HY.out.size; omega
    have HG := Aside0.mk (Nat.le_trans HX.out.size hg)
    have HGL := Aside0.mk hgl
    have HCt := Aside0.mk hCt
    have HV := Aside0.mk hv
    have HX2 := HX
    clear HX HY B0 B1 B2 hb2 hv hg hgl hCt hl0 hl1 hl2 HK
    have d5 : w2.cell? ⟨w.heap.size + 1, 5, none⟩ = some (.int .i64 gen) := (blk_cell B1'.out 5).trans rfl
    have d8 : w2.cell? ⟨w.heap.size + 1 + 1, 7, none⟩ = some (.slice none 0 0) := (blk_cell b2' 7).trans rfl
    have f8 : w2.frozen? ⟨w.heap.size + 1 + 1, 7, none⟩ = false := by simp [World.frozen?, b2']
    have B2' := Aside0.mk b2'
    clear b2'
    go_upto_region 8 with (fail)
    obtain ⟨w3, hw3⟩ : ∃ w3, w3 = w2.setCell ⟨w.heap.size + 1 + 1, 7, none⟩ (.slice (some ⟨g, 0, none⟩) (bookL n keep next).length tc) := ⟨_, rfl⟩
    have b3 : w3.heap[w.heap.size + 1 + 1]? = some (.cells (cmC n A c keep next gen g (bookL n keep next).length tc) 95) := by rw [hw3]; exact set_blk B2'.out 7 _
    have hs3 : w3.heap.size = w2.heap.size := by rw [hw3]; simp
    have k3 : ∀ k, k ≠ w.heap.size + 1 + 1 → w3.heap[k]? = w2.heap[k]? := fun k hk => by rw [hw3]; exact Below.heap_setCell _ _ _ _ hk
    have HW3 : Aside0 (Below w.heap.size w w3) := ⟨by rw [hw3]; exact HW2.out.setCell (p := ⟨w.heap.size + 1 + 1, 7, none⟩) (by show w.heap.size ≤ w.heap.size + 1 + 1; omega) _⟩
    have B0'' := Aside0.mk ((k3 _ (by omega)).trans B0'.out)
    have B1'' := Aside0.mk ((k3 _ (by omega)).trans B1'.out)
    have HCt3 : Aside0 (Kd.C (Kd.int .u8) w3 (some ⟨g, 0, none⟩) (bookL n keep next).length (bookL n keep next)) := ⟨by
      rw [hw3]
      exact (Kd.R_reads' (Kd.R_far (p := ⟨w.heap.size + 1 + 1, 7, none⟩) (Kd.R_bound HV.out) (fun k hk => by have := HX2.out.size; have := hk.2.1; show k ≠ w.heap.size + 1 + 1; omega) _)).2.2⟩
    rw [← hw3]
    clear hw3 k3 d5 d8 f8 B0' B1' B2' HW2 HCt HV HX2
    have b4 := (Below.heap_alloc w3 (.cells #[.slice none 0 0] 24) _ (blk_lt b3)).trans b3
    have d0 : (w3.alloc (.cells #[.slice none 0 0] 24)).cell? ⟨w.heap.size + 1 + 1, 0, none⟩ = some (.int .i64 n) := (blk_cell b4 0).trans rfl
    have d1 : (w3.alloc (.cells #[.slice none 0 0] 24)).cell? ⟨w.heap.size + 1 + 1, 1, none⟩ = some (.slice A n c) := (blk_cell b4 1).trans rfl
    have d2 : (w3.alloc (.cells #[.slice none 0 0] 24)).cell? ⟨w.heap.size + 1 + 1, 2, none⟩ = some (.int .i64 keep) := (blk_cell b4 2).trans rfl
    have d3 : (w3.alloc (.cells #[.slice none 0 0] 24)).cell? ⟨w.heap.size + 1 + 1, 3, none⟩ = some (.slice none 0 0) := (blk_cell b4 3).trans rfl
    have d4 : (w3.alloc (.cells #[.slice none 0 0] 24)).cell? ⟨w.heap.size + 1 + 1, 4, none⟩ = some (.slice none 0 0) := (blk_cell b4 4).trans rfl
    have d5 : (w3.alloc (.cells #[.slice none 0 0] 24)).cell? ⟨w.heap.size + 1 + 1, 5, none⟩ = some (.int .i64 next) := (blk_cell b4 5).trans rfl
    have d6 : (w3.alloc (.cells #[.slice none 0 0] 24)).cell? ⟨w.heap.size + 1 + 1, 6, none⟩ = some (.int .i64 gen) := (blk_cell b4 6).trans rfl
    have d7 : (w3.alloc (.cells #[.slice none 0 0] 24)).cell? ⟨w.heap.size + 1 + 1, 7, none⟩ = some (.slice (some ⟨g, 0, none⟩) (bookL n keep next).length tc) := (blk_cell b4 7).trans rfl
    have B4 := Aside0.mk b4
    clear b4
    go_wp2_with fail
    refine ((callsIn_wide (n := 3)).1 (blocks_in 3 n A c keep next gen g _ tc _)).mono ?_
    rintro e w4 ⟨rfl, rfl⟩
    clear d0 d1 d2 d3 d4 d5 d6 d7
    go_wp2_with fail
    obtain ⟨wr, hwr⟩ : ∃ wr, wr = (w3.alloc (.cells #[.slice none 0 0] 24)).alloc (.cells (cmC n A c keep next gen g (bookL n keep next).length tc) 95) := ⟨_, rfl⟩
    have hsr : wr.heap.size = w2.heap.size + 2 := by rw [hwr]; simp [hs3]
    have HR3 : Aside0 (Below w3.heap.size w3 wr) := ⟨by rw [hwr]; exact ((Below.refl _ w3).alloc (Nat.le_refl _) _).alloc (by simp) _⟩
    have bO : Boxed wr w2.heap.size 24 (.slice none 0 0) := by rw [hwr, ← hs3]; exact (Boxed.new w3 24 (.slice none 0 0)).alloc _
    have bC : wr.heap[w2.heap.size + 1]? = some (.cells (cmC n A c keep next gen g (bookL n keep next).length tc) 95) := by
      rw [hwr, ← hs3]
      have := World.alloc_heap_new (w3.alloc (.cells #[.slice none 0 0] 24)) (.cells (cmC n A c keep next gen g (bookL n keep next).length tc) 95)
      rwa [World.size_alloc] at this
    have HWr : Aside0 (Below w.heap.size w wr) := ⟨HW3.out.trans (HR3.out.mono (by have := HW3.out.size; omega))⟩
    have hbk : (bookL n keep next).length = 11 + 2 * n := HBL.out
    rw [← hwr]
    refine (wpIn_wide (n := 3)).1 ?_
    refine (wpIn_rangeFunc_ownG rfl (by omega) (gf := 72) (lb := #[.pointer (some ⟨w2.heap.size + 1, 0, none⟩)]) rfl trivial (enters_of Tryz.func72 (by kernel_rfl) rfl)
      (blocks_stops 2 (by omega) (w2.heap.size + 1) w2.heap.size n A c keep next gen g tc (bookL n keep next) hn hg0 (by omega) (by omega) HTC.out (by omega) wr bC bO (Kd.C_below hA HWr.out) (Kd.C_below HCt3.out HR3.out)) KpR.trans (fun W l o o' hl h1 h2 h3 => KpR.put W l o o' h1 h2) (Below.refl _ _) (fun _ => rfl)
      (fun pre W => (∃ v, Boxed W w2.heap.size 24 v ∧ W.ownsRow wr.heap.size 58 2 v (pre.filterMap fun x => asked B (larea n (gen + 1)) (bookL n keep next) (min x (chunksN (bookL n keep next).length - 1))).length (flat58 (pre.filterMap fun x => asked B (larea n (gen + 1)) (bookL n keep next) (min x (chunksN (bookL n keep next).length - 1)))) ∧ True) ∧ Below w2.heap.size wr W)
      (fun _ _ _ => False)
      (OwnFrom.and (Own.from (holdsRow_own wr.heap.size w2.heap.size 24 58 2 (fun pre : List Nat => (pre.filterMap fun x => asked B (larea n (gen + 1)) (bookL n keep next) (min x (chunksN (bookL n keep next).length - 1))).length) (fun pre : List Nat => flat58 (pre.filterMap fun x => asked B (larea n (gen + 1)) (bookL n keep next) (min x (chunksN (bookL n keep next).length - 1)))) (fun _ _ => True)) _) (ownFrom_below (by omega) (by omega)))
      (fun _ _ _ _ _ hs _ _ => hs)
      ⟨⟨_, bO, World.ownsRow_nil _ _ _ _, trivial⟩, Below.refl _ _⟩
      (fun x => { tmps := #[Value.agg #[Value.slice AB B.length cB, Value.slice none 0 0], stV A n c keep next gen, Value.pointer (some { block := w.heap.size, off := 0 }), Value.pointer (some { block := w.heap.size + 1, off := 0 }), Value.slice none 0 0, Value.int IntKind.i64 0, Value.pointer (some { block := w.heap.size + 1 + 1, off := 0 }), Value.slice (some { block := g, off := 0 }) (bookL n keep next).length tc, Value.int IntKind.i64 0, Value.pointer (some { block := w2.heap.size, off := 0 }), Value.int IntKind.i64 (larea n (gen + 1) + (min x (chunksN (bookL n keep next).length - 1) : Nat)), Value.string (chunkS (bookL n keep next) (min x (chunksN (bookL n keep next).length - 1))), undef, undef, undef, undef, undef, undef, undef, undef, Value.pointer (some { block := w.heap.size + 1, off := 0 }), Value.pointer (some { block := w.heap.size + 1, off := 0 }), Value.slice A n c, Value.int IntKind.i64 ↑n, Value.agg #[Value.int IntKind.i64 ↑n], Value.agg #[Value.slice A n c, Value.int IntKind.i64 keep, Value.slice none 0 0, Value.slice none 0 0, Value.int IntKind.i64 next, Value.int IntKind.i64 gen], Value.agg #[Value.int IntKind.i64 ↑n, Value.slice A n c, Value.int IntKind.i64 keep, Value.slice none 0 0, Value.slice none 0 0, Value.int IntKind.i64 next, Value.int IntKind.i64 gen, Value.slice none 0 0], u27, u28, u29, u30, u31, u32, u33, Value.bool false, Value.tuple #[Value.slice (some { block := g, off := 0 }) (bookL n keep next).length tc, Value.int IntKind.i64 0], Value.agg #[Value.slice A n c, Value.int IntKind.i64 keep, Value.slice none 0 0, Value.slice none 0 0, Value.int IntKind.i64 next, Value.int IntKind.i64 gen], Value.tuple #[Value.slice (some { block := g, off := 0 }) (bookL n keep next).length tc, Value.int IntKind.i64 0], Value.slice (some { block := g, off := 0 }) (bookL n keep next).length tc, Value.int IntKind.i64 0, Value.int IntKind.i64 0, Value.bool false, Value.bool false, Value.pointer (some { block := w.heap.size + 1, off := 5 }), Value.int IntKind.i64 gen, Value.bool false, Value.bool false, Value.slice (some { block := g, off := 0 }) (bookL n keep next).length tc, Value.pointer (some { block := w.heap.size + 1 + 1, off := 7 }), Value.agg #[Value.int IntKind.i64 ↑n, Value.slice A n c, Value.int IntKind.i64 keep, Value.slice none 0 0, Value.slice none 0 0, Value.int IntKind.i64 next, Value.int IntKind.i64 gen, Value.slice (some { block := g, off := 0 }) (bookL n keep next).length tc], Value.func (Fn.func 72) #[] #[Value.pointer (some { block := w2.heap.size + 1, off := 0 })], Value.int IntKind.i64 (larea n (gen + 1) + (min x (chunksN (bookL n keep next).length - 1) : Nat)), Value.string (chunkS (bookL n keep next) (min x (chunksN (bookL n keep next).length - 1))), undef, undef, undef, undef, undef, undef, undef, undef, undef, undef, undef, undef, undef, undef, undef, undef, undef, undef, undef, undef, undef, undef, undef, undef, undef, undef, undef, undef, undef, undef, undef, undef, undef, undef, undef, undef, undef, undef, undef, undef, undef], defers := [] }) ?assign ?body ?done ?stop)
    case assign =>
      intro l x W K hK
      clear hbk
      gi_wp2
      exact hK
    case body =>
      rintro l pre x W ⟨⟨v, hv, hrow, _⟩, hBW⟩ hlt
      have hN : chunksN (bookL n keep next).length = ((bookL n keep next).length + 39) / 40 := rfl
      have hN2 : chunksN (bookL n keep next).length ≤ 251 := by omega
      have hlen : (pre.filterMap fun x => asked B (larea n (gen + 1)) (bookL n keep next) (min x (chunksN (bookL n keep next).length - 1))).length ≤ 251 := Nat.le_trans (List.length_filterMap_le _ _) (by omega)
      have hla : 0 ≤ larea n (gen + 1) := by
        have hb : 0 ≤ areaM n := by unfold areaM; omega
        unfold larea
        rcases (show (gen + 1) % 2 = 0 ∨ (gen + 1) % 2 = 1 by omega) with h | h <;> rw [h] <;> omega
      clear hbk hN
      obtain ⟨ix, hix⟩ : ∃ ix, ix = min x (chunksN (bookL n keep next).length - 1) := ⟨_, rfl⟩
      have hixl : ix < chunksN (bookL n keep next).length := by omega
      rw [← hix]
      have HIX := Aside0.mk hix
      clear hix
      obtain ⟨s, hs⟩ : ∃ s, s = chunkS (bookL n keep next) ix := ⟨_, rfl⟩
      rw [← hs]
      obtain ⟨at_, hat_⟩ : ∃ at_, at_ = larea n (gen + 1) + (ix : Int) := ⟨_, rfl⟩
      rw [← hat_]
      have hat0 : 0 ≤ at_ := by omega
      have hat1 : at_ < B.length := by omega
      have HS := Aside0.mk hs
      have HAT := Aside0.mk hat_
      clear hs hat_ hla hat hixl
      obtain ⟨i0, hi, hz0, hz1, hz2⟩ := info_parts info58
      have hc := hv.cell
      have hbw : Below w.heap.size w W := HWr.out.trans (hBW.mono (by omega))
      have e0 : W.cell? ⟨w.heap.size, 0, none⟩ = some (.slice AB B.length cB) := (hBW.cell (p := ⟨w.heap.size, 0, none⟩) (by show w.heap.size < w2.heap.size; omega)).trans ((HR3.out.cell (p := ⟨w.heap.size, 0, none⟩) (blk_lt B0''.out)).trans ((blk_cell B0''.out 0).trans rfl))
      have e1 : W.cell? ⟨w.heap.size, 1, none⟩ = some (.slice none 0 0) := (hBW.cell (p := ⟨w.heap.size, 1, none⟩) (by show w.heap.size < w2.heap.size; omega)).trans ((HR3.out.cell (p := ⟨w.heap.size, 1, none⟩) (blk_lt B0''.out)).trans ((blk_cell B0''.out 1).trans rfl))
      have hd : 1 ≤ 3 - 1 - 1 := by omega
      have h45 : Fence.wide.fn 45 := trivial
      have hBW' := Kd.C_below hB hbw
      have HHB := Aside0.mk hBW'
      clear hBW'
      gi_wp2_with (first | (gi_at_call 45; refine (CallsIn.inRound l (callsIn_wide.2 (read_calls AB cB B at_ hat0 hat1 hBl W HHB.out hcB))).mono ?_; rintro e w' ⟨rfl, hb45⟩; have hv' := boxed_below hv hb45; have hrow' := owns_below hrow hb45; have hcw' := hv'.cell; have HB45 := Aside0.mk hb45; clear hb45 hv hrow hc e0 e1) | (gi_at_builtin; refine wpListIn_append_own _ rfl _ _ 24 rfl wr.heap.size 58 i0 (.agg #[.int .i64 0, .string ⟨#[]⟩]) 2 24 Tryz.underlying24 hi hz0 hz1 hz2 rfl (by decide) _ _ _ rfl (hrow'.alloc _) ⟨w'.heap.size, 0, none⟩ 1 1 [.int .i64 at_, .string s] rfl rfl (cells_new w' [.int .i64 at_, .string s] 58) (by simp [Value.oneCell']) (by simp only [maxLen]; omega) (by omega) (by have := HB45.out.size; have := hBW.size; simp; omega) ?_; intro v' w1 hown' hgrow _; obtain ⟨g', cap', rfl⟩ := ownsRow_succ hown'; obtain ⟨hv1, hv2, hr2, hk2, hp2, hb2⟩ := box_append58 hv' (by decide) (by omega) (by have := HB45.out.size; have := hBW.size; omega) hrow' hown' hgrow; have hc1 := hv1.cell; have hf1 := hv1.frozen; have Q1 := Aside0.mk hv2; have Q2 := Aside0.mk hr2; have Q3 := Aside0.mk hk2; have Q4 := Aside0.mk hp2; have Q5 := Aside0.mk hb2; clear hv1 hv2 hr2 hk2 hp2 hb2 hown' hgrow))
      · rename_i hq
        refine ⟨((others_below HB45.out).trans Q3.out).from _, (KpR.grown HB45.out).trans Q4.out, ⟨_, Q1.out, ?_, trivial⟩, (hBW.trans (HB45.out.mono (by have := hBW.size; omega))).trans Q5.out⟩
        have hq2 : (!((rdOf ByteArray.empty B at_).toList == s.toList)) = true := by assumption
        rw [HAT.out, HS.out] at hq2
        have q2 := Q2.out
        rw [HAT.out, HS.out, HIX.out] at q2
        rw [HIX.out] at hq2
        have e3 := fm_some (fun x => asked B (larea n (gen + 1)) (bookL n keep next) (min x (chunksN (bookL n keep next).length - 1))) pre x _ (asked_some hq2)
        rw [e3, List.length_append, flat58_append]
        exact q2
      · rename_i hq
        have hq2 : (!((rdOf ByteArray.empty B at_).toList == s.toList)) = false := by assumption
        rw [HAT.out, HS.out, HIX.out] at hq2
        refine ⟨(others_below HB45.out).from _, KpR.grown HB45.out, ⟨_, hv', ?_, trivial⟩, hBW.trans (HB45.out.mono (by have := hBW.size; omega))⟩
        have e3 := fm_none (fun x => asked B (larea n (gen + 1)) (bookL n keep next) (min x (chunksN (bookL n keep next).length - 1))) pre x (asked_none hq2)
        rw [e3]
        exact hrow'
    case done =>
      rintro D ys W hD rfl ⟨⟨v, hv, hrow, _⟩, hBW⟩ hK
      have e1 : (List.range (chunksN (bookL n keep next).length)).filterMap (fun x => asked B (larea n (gen + 1)) (bookL n keep next) (min x (chunksN (bookL n keep next).length - 1))) = (List.range (chunksN (bookL n keep next).length)).filterMap (asked B (larea n (gen + 1)) (bookL n keep next)) := filterMap_congr' fun x hx => by
        have := List.mem_range.1 hx
        rw [show min x (chunksN (bookL n keep next).length - 1) = x by omega]
      rw [e1] at hrow
      have hlen : ((List.range (chunksN (bookL n keep next).length)).filterMap (asked B (larea n (gen + 1)) (bookL n keep next))).length ≤ 251 := Nat.le_trans (List.length_filterMap_le _ _) (by rw [List.length_range]; show ((bookL n keep next).length + 39) / 40 ≤ 251; omega)
      clear e1 hbk hat
      have hc := hv.cell
      have hbw : Below w.heap.size w W := HWr.out.trans (hBW.mono (by omega))
      have d5 : W.cell? ⟨w.heap.size + 1, 5, none⟩ = some (.int .i64 gen) := (hBW.cell (p := ⟨w.heap.size + 1, 5, none⟩) (by show w.heap.size + 1 < w2.heap.size; omega)).trans ((HR3.out.cell (p := ⟨w.heap.size + 1, 5, none⟩) (blk_lt B1''.out)).trans ((blk_cell B1''.out 5).trans rfl))
      go_wp2_with fail
      refine (book_calls _ _ _ _ W (c_low (Kd.C_below HCt3.out HR3.out) HGL.out hBW) (bookL_bytes n keep next) (by have := HBL.out; omega)).mono ?_
      rintro e w5 ⟨rfl, hd5⟩
      have hb5 := hd5.below
      clear hd5
      have hm := crc_bd (bookL n keep next)
      obtain ⟨hm0, hm1⟩ := hm
      obtain ⟨mm, hmm⟩ : ∃ mm, mm = crc (bookL n keep next) := ⟨_, rfl⟩
      rw [← hmm] at hm0 hm1 ⊢
      have HMM := Aside0.mk hmm
      clear hmm d5 hc
      have hv5 := boxed_below hv hb5
      have hrow5 := owns_below hrow hb5
      have HB5 := Aside0.mk hb5
      clear hb5 hv hrow
      go_wp2_with fail
      refine (print_calls (gen + 1) ((bookL n keep next).length) mm w5 (by omega) (by omega) (by omega) (by have := HBL.out; omega) hm0 hm1).mono ?_
      rintro e w6 ⟨rfl, hb6⟩
      have hv6 := boxed_below hv5 hb6
      have hrow6 := owns_below hrow5 hb6
      have HB6 := Aside0.mk (below_step HB5.out hb6)
      have hc := hv6.cell
      have hc7 := (hv6.alloc (.cells #[.int .i64 (-1), .string ⟨#[]⟩] 58)).cell
      clear hb6 hv5 hrow5
      obtain ⟨i0, hi, hz0, hz1, hz2⟩ := info_parts info58
      have hnews : ∀ j u, [Value.int .i64 (-1), .string ⟨#[]⟩, .int .i64 ((gen + 1) % 2), .string (superB (gen + 1) (bookL n keep next).length mm), .int .i64 (-1), .string ⟨#[]⟩][j]? = some u → ((w6.alloc (.cells #[.int .i64 (-1), .string ⟨#[]⟩] 58)).alloc (.cells #[.int .i64 (-1), .string ⟨#[]⟩, .int .i64 ((gen + 1) % 2), .string (superB (gen + 1) (bookL n keep next).length mm), .int .i64 (-1), .string ⟨#[]⟩] 58)).cell? ((⟨w6.heap.size + 1, 0, none⟩ : Addr).add j) = some u := by
        have h := cells_new (w6.alloc (.cells #[.int .i64 (-1), .string ⟨#[]⟩] 58)) [Value.int .i64 (-1), .string ⟨#[]⟩, .int .i64 ((gen + 1) % 2), .string (superB (gen + 1) (bookL n keep next).length mm), .int .i64 (-1), .string ⟨#[]⟩] 58
        rwa [World.size_alloc] at h
      have HNW := Aside0.mk hnews
      clear hnews
      have HRW := Aside0.mk hrow6
      clear hrow6
      go_wp2_with (first | ((with_reducible refine gate_builtin (b := .append) (xs := #[.tmp 85, .tmp 92]) rfl ?_); go_must (refine wpList_append_own _ rfl _ _ 24 rfl wr.heap.size 58 i0 (.agg #[.int .i64 0, .string ⟨#[]⟩]) 2 24 Tryz.underlying24 hi hz0 hz1 hz2 rfl (by decide) _ _ _ rfl ((HRW.out.alloc _).alloc _) ⟨w6.heap.size + 1, 0, none⟩ 3 3 _ rfl rfl HNW.out (by simp [Value.oneCell']) (by simp only [maxLen]; omega) (by omega) (by have := HB6.out.size; have := hBW.size; simp; omega) ?_); intro v7 w7 hown7 hgrow7 _; obtain ⟨g7, cap7, rfl⟩ := ownsRow_succ hown7; have HO7 := Aside0.mk hown7; have HG7 := Aside0.mk hgrow7; clear hown7 hgrow7))
      have hK6 : w6.heap[D]? = some (.deferred (some [])) := (HB6.out.block D (blk_lt hK)).trans hK
      have hk7 : KeepsOthers w6 w7 := ((KeepsOthers.alloc w6 _).trans (KeepsOthers.alloc _ _)).trans (KeepsOthers.of_grownBy HG7.out fun j o ej hj => by
        obtain ⟨cells, hcl⟩ := own_typed ((HRW.out.alloc _).alloc _) j ej
        rw [hcl] at hj
        cases hj
        rfl)
      have hK7 := hk7.same D _ hK6 rfl
      refine ⟨by simp, .inl ⟨_, _, rfl, run_takeDeferred hK7, ?_⟩⟩
      refine ⟨.tuple #[.slice (some ⟨g7, 0, none⟩) (((List.range (chunksN (bookL n keep next).length)).filterMap (asked B (larea n (gen + 1)) (bookL n keep next))).length + 2 + 1) cap7, .int .i64 0], by simp [results, Tryz.f26, go_sem], _, rfl, ?_, ?_⟩
      · have q := ownsRow_putObj (own_weaken HO7.out (show w.heap.size ≤ wr.heap.size by omega)) (.deferred none) hK7 rfl
        refine r58_of_own (xs := planL B n keep next gen) ?_
        rw [planL, flat58_append, ← HMM.out, List.length_append]
        exact q
      · have hw7 : Below w.heap.size w w7 := by
          have h6 : Below w.heap.size w w6 := below_then hbw hbw.size HB6.out
          refine ((h6.alloc h6.size _).alloc (by have := h6.size; simp; omega) _).grown HG7.out (by have := h6.size; simp; omega) fun k hk => ?_
          have := own_base HRW.out k hk
          omega
        exact hw7.trans (belowK_b (w := w) (Nat.le_refl _) w7 D _ _ (by omega) hK7 rfl rfl)
    case stop =>
      rintro D c pre W _ _ h _
      exact h.elim

theorem plan_calls (AB : Option Addr) (cB : Nat) (B : List ByteArray) (A : Option Addr) (n c : Nat) (keep next gen : Int) (w : World) (hB : Kd.C Kd.string w AB B.length B) (hcB : B.length ≤ cB) (hBl : B.length ≤ 4000) (hA : Kd.C k75 w A n (blank n))
    (hn : n ≤ 2000) (hcell : cellsM B.length = n) (hk0 : 0 ≤ keep) (hk1 : keep ≤ 65535) (hx0 : 0 ≤ next) (hx1 : next ≤ 4294967295) (hg0 : 0 ≤ gen) (hg1 : gen ≤ 1000)
    (hat : larea n (gen + 1) + chunksN (bookL n keep next).length ≤ B.length) :
    Calls Tryz.prog 26 #[.agg #[.slice AB B.length cB, .slice none 0 0], stV A n c keep next gen] w fun e w' => ∃ v, e = .returned (.tuple #[v, .int .i64 0]) ∧ Kd.R k58 58 w' w.heap.size (fun _ => True) v (planL B n keep next gen) ∧ Below w.heap.size w w' :=
  (callsIn_wide (n := 4)).1 (plan_in 4 (by omega) AB cB B A n c keep next gen w hB hcB hBl hA hn hcell hk0 hk1 hx0 hx1 hg0 hg1 hat)

end Go.Proofs.YtfolgjigfdbnoaaGreat.M
