/-
  Contracts of slices.Chunk at 40 and of plan.Chunks.
-/
import Derived.Test.YtfolgjigfdbnoaaGreatMg
import Derived.Test.YtfolgjigfdbnoaaGreatShelf
import Derived.Shelf.RegionOpen
namespace Go.Proofs.YtfolgjigfdbnoaaGreat.M
open Go.RowKit Go.Shelf Go.Proofs.YtfolgjigfdbnoaaGreatW.PrintWords Go.Proofs.YtfolgjigfdbnoaaGreatW.PrintLast Go.Proofs.YtfolgjigfdbnoaaGreatW.PrintMore
open PCommitFormats
set_option linter.unusedVariables false
set_option linter.unusedSimpArgs false
attribute [local go_sem] Oper.semAt_some

/-- What a round keeps: all that lay below n₁ but for one block. -/
def KpO (n₁ o : Nat) (A B : World) : Prop := A.heap.size ≤ B.heap.size ∧ ∀ k, k < n₁ → k ≠ o → B.heap[k]? = A.heap[k]?
theorem KpO.refl (n₁ o : Nat) (A : World) : KpO n₁ o A A := ⟨Nat.le_refl _, fun _ _ _ => rfl⟩
theorem KpO.trans {n₁ o : Nat} {A B C : World} (h : KpO n₁ o A B) (k : KpO n₁ o B C) : KpO n₁ o A C := ⟨Nat.le_trans h.1 k.1, fun i hi hn => (k.2 i hi hn).trans (h.2 i hi hn)⟩
theorem KpO.below {n₁ o : Nat} {A B : World} (h : Below n₁ A B) : KpO n₁ o A B := ⟨h.size, fun k hk _ => h.block k hk⟩
theorem KpO.cell {n₁ o : Nat} {A B : World} (h : KpO n₁ o A B) {p : Addr} (hp : p.block < n₁) (hn : p.block ≠ o) : B.cell? p = A.cell? p := World.cell?_of_block (w := A) (h.2 p.block hp hn)
theorem KpO.put {n₁ o : Nat} (W : World) (l : Nat) (ob ob' : Obj) (hl : n₁ ≤ l) (h : W.heap[l]? = some ob) (hc : ob.isCells = false) (hw : ob.isWalk = false) : KpO n₁ o W (W.putObj l ob') :=
  ⟨by simp [World.putObj], fun k hk _ => World.putObj_heap_other (by omega)⟩

/-- 'out = append(out, ..)' for a box below n₁ and a row from n₁ on. -/
theorem box_append {W w2 : World} {n₁ o k m size : Nat} {t e : TypeId} {v v2 : Value} {xs ys : List Value} {tmp : Obj} (hv : Boxed W o t v) (hte : t ≠ e) (ho : o < n₁) (hn : n₁ ≤ W.heap.size) (hrow : W.ownsRow n₁ e size v k xs)
    (hown2 : w2.ownsRow n₁ e size v2 m ys) (hgrow : (W.alloc tmp).grownBy w2 v.ownBlock) :
    Boxed w2 o t v ∧ Boxed (w2.setCell ⟨o, 0, none⟩ v2) o t v2 ∧ (w2.setCell ⟨o, 0, none⟩ v2).ownsRow n₁ e size v2 m ys ∧ KeepsOthers W (w2.setCell ⟨o, 0, none⟩ v2) ∧ KpO n₁ o W (w2.setCell ⟨o, 0, none⟩ v2) ∧ Below o W (w2.setCell ⟨o, 0, none⟩ v2) := by
  obtain ⟨h1, h2, h3, h4, h5⟩ := hv.appended hte (own_weaken hrow (Nat.le_of_lt ho)) (Nat.le_trans (Nat.le_of_lt ho) hn) (Nat.le_refl o) (own_weaken hown2 (Nat.le_of_lt ho)) hgrow
  refine ⟨h1, h2, hown2.kept (grownBy_setCell' w2 o v2) (.inr (h1.not_row hte hown2).symm), h4, ⟨h4.size, fun k hk hko => ?_⟩, h5⟩
  rw [Below.heap_setCell _ _ _ _ (by simpa using hko), hgrow.block k (by simp; omega) (fun e => by have := own_base hrow k e.symm; omega), Below.heap_alloc _ _ _ (by omega)]

/-- The append of strings, under a name that the walk leaves alone. -/
def app23 (args : Array Value) : Sem Value := Builtin.append_ #[23, 23] 23 args
theorem builtin_append23 (cs : Array Bool) (args : Array Value) : builtin .append #[23, 23] 23 cs args = (do pure (.value (← app23 args))) := rfl
attribute [local go_sem ↓ high] builtin_append23
theorem app23_fact {W : World} {n₁ o k : Nat} {v : Value} {xs : List Value} (hv : Boxed W o 23 v) (ho : o < n₁) (hn : n₁ ≤ W.heap.size) (hrow : W.ownsRow n₁ 9 1 v k xs) (hk : k ≤ 1000) (s : ByteArray) :
    ∃ (g c : Nat) (v2 : Value) (w2 : World), v2 = .slice (some ⟨g, 0, none⟩) (k + 1) c ∧ (app23 #[v, .slice (some ⟨W.heap.size, 0, none⟩) 1 1]).run Tryz.prog (W.alloc (.cells #[.string s] 9)) = .ok v2 w2 ∧ (W.alloc (.cells #[.string s] 9)).cell? ⟨o, 0, none⟩ = some v ∧ w2.cell? ⟨o, 0, none⟩ = some v ∧ w2.frozen? ⟨o, 0, none⟩ = false ∧
      Boxed (w2.setCell ⟨o, 0, none⟩ v2) o 23 v2 ∧ (w2.setCell ⟨o, 0, none⟩ v2).ownsRow n₁ 9 1 v2 (k + 1) (xs ++ [.string s]) ∧ KeepsOthers W (w2.setCell ⟨o, 0, none⟩ v2) ∧ KpO n₁ o W (w2.setCell ⟨o, 0, none⟩ v2) ∧ Below o W (w2.setCell ⟨o, 0, none⟩ v2) := by
  obtain ⟨i0, hi, hz0, hz1, hz2⟩ := info_parts info9
  obtain ⟨v2, w2, hrun, hown2, hgrow, _⟩ := run_append_own (P := Tryz.prog) (w := W.alloc (.cells #[.string s] 9)) n₁ 23 23 9 i0 (.string ⟨#[]⟩) 1 16 Tryz.underlying23 hi hz0 hz1 hz2 rfl (by decide) v k xs (hrow.alloc _) ⟨W.heap.size, 0, none⟩ 1 1 [.string s] rfl (cell_one_new _ _ _) (by simp [Value.oneCell']) (by simp only [maxLen]; omega) (by omega) (by simp; omega)
  obtain ⟨h1, h2, h3, h4, h5, h6⟩ := box_append hv (by decide) ho hn hrow hown2 hgrow
  obtain ⟨g', cap', hg'⟩ := ownsRow_succ hown2
  exact ⟨g', cap', v2, w2, hg', hrun, (hv.alloc _).cell, h1.cell, h1.frozen, h2, h3, h4, h5, h6⟩
theorem boxed_below {W W' : World} {o : Nat} {t : TypeId} {v : Value} (h : Boxed W o t v) (hb : Below W.heap.size W W') : Boxed W' o t v := (hb.block o h.lt).trans h
theorem owns_below {W W' : World} {n₁ k size : Nat} {e : TypeId} {v : Value} {xs : List Value} (h : W.ownsRow n₁ e size v k xs) (hb : Below W.heap.size W W') : W'.ownsRow n₁ e size v k xs := own_move h (fun k hk => hb.block k (own_lt h k hk))
theorem others_below {W W' : World} (hb : Below W.heap.size W W') : KeepsOthers W W' := ⟨hb.size, fun k o hk _ => (hb.block k (blk_lt hk)).trans hk⟩

/-- How many chunks; one of them. -/
def chunksN (L : Nat) : Nat := (L + 39) / 40
def partV (b L cap x : Nat) : Value := .slice (some ⟨b, 40 * x, none⟩) (min 40 (L - 40 * x)) (min 40 (L - 40 * x))

set_option maxRecDepth 100000 in
set_option maxHeartbeats 2000000 in
theorem chunk1_in (n : Nat) (hn : 1 ≤ n) (l Bs Bn n₁ o b L cap : Nat) (hL : L ≤ 10000) (hcap : L ≤ cap) (h1 : Bs < n₁) (h2 : Bn < n₁) (h3 : Bs ≠ o) (h4 : Bn ≠ o) (J Jx : List Nat → World → Prop)
    (hY : ∀ pre x W, J pre W → pre.length < chunksN L → YieldAt Fence.wide (n - 1) Tryz.prog l #[partV b L cap (min x (chunksN L - 1))] W fun e W' =>
      (e = .returned (.bool true) ∧ J (pre ++ [x]) W' ∧ KpO n₁ o W W') ∨ (e = .returned (.bool false) ∧ Jx (pre ++ [x]) W'))
    (hJd : ∀ ys W, J ys W → J ys W.drew) (W : World) (hBs : W.cell? ⟨Bs, 0, none⟩ = some (.slice (some ⟨b, 0, none⟩) L cap)) (hBn : W.cell? ⟨Bn, 0, none⟩ = some (.int .i64 40)) (h0 : J [] W) :
    CallsIn Fence.wide n Tryz.prog 114 #[.func (.yield l) #[] #[], .pointer (some ⟨Bs, 0, none⟩), .pointer (some ⟨Bn, 0, none⟩)] W fun e W' => (∃ v, e = .returned v) ∧
      ((∃ ys, ys = List.range (chunksN L) ∧ J ys W') ∨ (∃ pre, (∃ k, k ≤ chunksN L ∧ pre = List.range k) ∧ Jx pre W')) := by
  have hL' : (L : Int) ≤ 10000 := by omega
  refine callsIn_of_wp Tryz.func114 rfl trivial ?_ rfl
  simp only [Tryz.ntmps114, List.size_toArray, List.length_cons, List.length_nil, Nat.reduceAdd, Nat.reduceSub, Array.replicate_succ, Array.replicate_zero, List.push_toArray, List.append_toArray, List.nil_append, List.cons_append]
  gi_wp2
  gi_loopw [4] (fun i wr => ∃ k : Nat, k ≤ chunksN L ∧ i = .int .i64 (40 * (k : Int)) ∧ J (List.range k) wr ∧ KpO n₁ o W wr)
    (fun i _ => 20000 - (intOf i).toNat)
  case atStart => exact ⟨0, Nat.zero_le _, rfl, h0, KpO.refl _ _ _⟩
  case round =>
    obtain ⟨k, hk, rfl, hJs, hnx⟩ := hrel
    have cs := (hnx.cell (p := ⟨Bs, 0, none⟩) h1 h3).trans hBs
    have cn := (hnx.cell (p := ⟨Bn, 0, none⟩) h2 h4).trans hBn
    have hkN : chunksN L = (L + 39) / 40 := rfl
    by_cases hlt : 40 * k < L
    · have hkc : k < chunksN L := by omega
      obtain ⟨fn, tmps, assign, body, hy, hR⟩ := hY _ k wr.drew (hJd _ _ hJs) (by rw [List.length_range]; exact hkc)
      rw [show min k (chunksN L - 1) = k by omega] at hy
      gi_wp2
      have hmx : Tryz.prog.follows .mixedOrders = true := by kernel_rfl
      have hi0 : (0 : Int) ≤ 40 * (k : Int) := by omega
      have hi1 : 40 * (k : Int) ≤ L := by omega
      have hi2 : (L : Int) ≤ cap := by omega
      gi_region
      obtain ⟨m, hm⟩ : ∃ m : Nat, m = min 40 (L - 40 * k) := ⟨_, rfl⟩
      have hm0 : 0 < m ∧ m ≤ 40 ∧ m + 40 * k ≤ L := by omega
      obtain ⟨hm0, hm1, hm2⟩ := hm0
      rw [show (min 40 ((L - 40 * k : Nat) : Int)) = (m : Int) by omega]
      unfold partV at hy
      rw [← hm] at hy
      have HM := Aside0.mk hm
      clear hm
      have hm3 : (m : Int) + 40 * (k : Int) ≤ L := by omega
      have hm4 : (m : Int) ≤ 40 := by omega
      have hm5 : (0 : Int) < m := by omega
      gi_wp2
      refine hR.mono ?_
      rintro e W3 (⟨rfl, hJ3, hk3⟩ | ⟨rfl, hJx3⟩)
      · have hnx3 : KpO n₁ o W W3 := hnx.trans ((show KpO n₁ o wr wr.drew from ⟨Nat.le_refl _, fun _ _ _ => rfl⟩).trans hk3)
        have cn3 := (hnx3.cell (p := ⟨Bn, 0, none⟩) h2 h4).trans hBn
        gi_wp2
        go_roundw
        case rel => exact ⟨k + 1, by omega, by simp; omega, by rw [List.range_succ]; exact hJ3, hnx3⟩
        case measure => simp [intOf]; omega
      · gi_wp2
        refine bodyPost_ret (results_none rfl _ _ _) rfl ?_
        exact ⟨⟨_, rfl⟩, .inr ⟨_, ⟨k + 1, by omega, List.range_succ.symm⟩, hJx3⟩⟩
    · obtain rfl : k = chunksN L := by omega
      gi_wp2
      go_end0
      exact ⟨⟨_, rfl⟩, .inl ⟨_, rfl, hJs⟩⟩

set_option maxHeartbeats 1000000 in
theorem chunk_in (n : Nat) (a : Option Addr) (len cap : Nat) (w : World) :
    CallsIn Fence.wide n Tryz.prog 104 #[.slice a len cap, .int .i64 40] w fun e w' => e = .returned (.func (.func 114) #[] #[.pointer (some ⟨w.heap.size, 0, none⟩), .pointer (some ⟨w.heap.size + 1, 0, none⟩)]) ∧ w' = (w.alloc (.cells #[.slice a len cap] 83)).alloc (.cells #[.int .i64 40] 3) := by
  refine callsIn_of_wp Tryz.func104 rfl trivial ?_ rfl
  simp only [Tryz.ntmps104, List.size_toArray, List.length_cons, List.length_nil, Nat.reduceAdd, Nat.reduceSub, Array.replicate_succ, Array.replicate_zero, List.push_toArray, List.append_toArray, List.nil_append, List.cons_append]
  gi_wp2
  go_ret
  exact ⟨rfl, rfl⟩

theorem chunk_stops (n : Nat) (hn : 1 ≤ n) (Bs Bn n₁ o b L cap : Nat) (hL : L ≤ 10000) (hcap : L ≤ cap) (h1 : Bs < n₁) (h2 : Bn < n₁) (h3 : Bs ≠ o) (h4 : Bn ≠ o) (w : World) (hs1 : Bs < w.heap.size) (hs2 : Bn < w.heap.size)
    (hBs : w.cell? ⟨Bs, 0, none⟩ = some (.slice (some ⟨b, 0, none⟩) L cap)) (hBn : w.cell? ⟨Bn, 0, none⟩ = some (.int .i64 40)) :
    SeqStopsK Fence.wide n Tryz.prog 114 #[.pointer (some ⟨Bs, 0, none⟩), .pointer (some ⟨Bn, 0, none⟩)] (fun x : Nat => #[partV b L cap (min x (chunksN L - 1))]) (KpO n₁ o) (fun ys => ys = List.range (chunksN L)) (fun pre => ∃ k, k ≤ chunksN L ∧ pre = List.range k) (chunksN L) w := fun l J Jx W hW hA _ hY h0 =>
  chunk1_in n hn l Bs Bn n₁ o b L cap hL hcap h1 h2 h3 h4 J Jx hY (fun ys W h => hA ys W W.drew none h ⟨rfl, rfl, rfl, Nat.le_refl _, fun _ _ _ => rfl⟩ (fun r e => by cases e)) W ((hW.cell (p := ⟨Bs, 0, none⟩) hs1).trans hBs) ((hW.cell (p := ⟨Bn, 0, none⟩) hs2).trans hBn) h0

def partL (xs : List Int) (x : Nat) : List Int := (xs.drop (40 * x)).take 40
def chunkS (xs : List Int) (x : Nat) : ByteArray := strOfNums (partL xs x) ++ ⟨(Lib.repeatL [0] (40 - (partL xs x).length)).toArray⟩
theorem partL_length (xs : List Int) (x : Nat) : (partL xs x).length = min 40 (xs.length - 40 * x) := by simp [partL]
theorem strOfNums_size (l : List Int) : (strOfNums l).size = l.length := by simp [strOfNums, ByteArray.size]

theorem part_string {w : World} {b : Nat} {xs : List Int} (h : Kd.C (Kd.int .u8) w (some ⟨b, 0, none⟩) xs.length xs) (x : Nat) (hx : 40 * x < xs.length) :
    (convert 83 9 (partV b xs.length xs.length x)).run Tryz.prog w = .ok (.string (strOfNums (partL xs x))) w := by
  refine run_convert_bytes_arg (P := Tryz.prog) w 83 5 Tryz.underlying83 Tryz.underlying5 b (40 * x) _ _ (partL xs x) (partL_length xs x) (fun i hi => ?_) 9 Tryz.underlying9
  obtain ⟨ad, e, hc⟩ := Kd.at_int h (40 * x + i : Nat) (by omega) (by omega)
  cases e
  have ha : (⟨b, 0, none⟩ : Addr).add (40 * x + i) = ⟨b, 40 * x + i, none⟩ := by simp [Addr.add]; omega
  rw [show ((40 * x + i : Nat) : Int).toNat = 40 * x + i by omega, ha] at hc
  rw [hc]
  simp [rd, partL, List.getD, List.getElem?_take, List.getElem?_drop, show i < 40 by omega, show (40 * (x : Int) + (i : Int)).toNat = 40 * x + i by omega]

theorem wrap_i64_in {x : Int} (h0 : -9223372036854775808 ≤ x) (h1 : x ≤ 9223372036854775807) : IntKind.i64.wrap x = x := by
  rw [show IntKind.i64.wrap x = wrap64 x from by simp only [IntKind.wrap, wrap64, IntKind.signed, IntKind.bits]; simp; split <;> omega]
  exact wrap64_in h0 h1
theorem rep_size (m : Nat) : (⟨(Lib.repeatL [0] (40 - m)).toArray⟩ : ByteArray).size = 40 - m := by
  simp [ByteArray.size, Lib.repeatL_length]
theorem rep_calls (m : Nat) (hm : m ≤ 40) (W : World) : Calls Tryz.prog 32 #[.string ⟨#[0]⟩, (.int .i64 (IntKind.i64.wrap (40 - (m : Int)))) ] W fun e w' => e = .returned (.string ⟨(Lib.repeatL [0] (40 - m)).toArray⟩) ∧ Below W.heap.size W w' := by
  have h := Tryz.strings_Repeat ⟨#[0]⟩ (40 - m) W (by omega) (by show 1 * (40 - m) ≤ _; omega)
  rw [show ((40 - m : Nat) : Int) = IntKind.i64.wrap (40 - (m : Int)) by rw [wrap_i64_in (by omega) (by omega)]; omega] at h
  exact h

set_option maxRecDepth 100000 in
set_option maxHeartbeats 1000000 in
theorem chunks_in (n : Nat) (hn : 3 ≤ n) (b cap : Nat) (xs : List Int) (hL : xs.length ≤ 10000) (hcap : xs.length ≤ cap) (w : World) (hr : Kd.C (Kd.int .u8) w (some ⟨b, 0, none⟩) xs.length xs) :
    CallsIn Fence.wide n Tryz.prog 75 #[.slice (some ⟨b, 0, none⟩) xs.length cap] w fun e w' => ∃ v, e = .returned v ∧ w'.ownsRow w.heap.size 9 1 v (chunksN xs.length) (((List.range (chunksN xs.length)).map (chunkS xs)).map Value.string) ∧ Below w.heap.size w w' := by
  have h1n : 1 ≤ n := by omega
  refine callsIn_of_wp_marks Tryz.func75 rfl trivial ?_ rfl
  simp only [Tryz.ntmps75, List.size_toArray, List.length_cons, List.length_nil, Nat.reduceAdd, Nat.reduceSub, Array.replicate_succ, Array.replicate_zero, List.push_toArray, List.append_toArray, List.nil_append, List.cons_append]
  gi_wp2_with fail
  refine ⟨trivial, (chunk_in (n - 1) _ _ _ _).mono ?_⟩
  rintro e w' ⟨rfl, rfl⟩
  gi_wp2
  obtain ⟨wr, hwr⟩ : ∃ wr, wr = (((w.alloc (.cells #[.slice none 0 0] 23)).alloc (.cells #[.slice (some ⟨b, 0, none⟩) xs.length cap] 83)).alloc (.cells #[.int .i64 40] 3)) := ⟨_, rfl⟩
  have hs5 : wr.heap.size = w.heap.size + 3 := by rw [hwr]; simp
  have bO : Boxed wr w.heap.size 23 (.slice none 0 0) := by rw [hwr]; exact ((Boxed.new w 23 (.slice none 0 0)).alloc _).alloc _
  have c1 : wr.cell? ⟨w.heap.size + 1, 0, none⟩ = some (.slice (some ⟨b, 0, none⟩) xs.length cap) := by rw [hwr]; go_simp
  have c2 : wr.cell? ⟨w.heap.size + 1 + 1, 0, none⟩ = some (.int .i64 40) := by rw [hwr]; go_simp
  have hB : Below w.heap.size w wr := by rw [hwr]; repeat (first | exact Below.refl _ _ | refine Below.alloc ?_ (by simp <;> omega) _)
  go_simp
  rw [← hwr]
  have hr5 := Kd.C_below hr hB
  refine wpIn_rangeFunc_ownG rfl h1n (gf := 114) (lb := #[.pointer (some ⟨w.heap.size + 1, 0, none⟩), .pointer (some ⟨w.heap.size + 1 + 1, 0, none⟩)]) rfl trivial (enters_of Tryz.func114 (by kernel_rfl) rfl)
    (chunk_stops (n - 1) (by omega) (w.heap.size + 1) (w.heap.size + 1 + 1) wr.heap.size w.heap.size b xs.length cap hL hcap (by omega) (by omega) (by omega) (by omega) wr (by omega) (by omega) c1 c2) KpO.trans (fun W l o o' hl h1 h2 h3 => KpO.put W l o o' hl h1 h2 h3) (Below.refl _ _) (fun _ => rfl)
    (fun pre W => (∃ v, Boxed W w.heap.size 23 v ∧ W.ownsRow wr.heap.size 9 1 v pre.length (((pre.map fun x => chunkS xs (min x (chunksN xs.length - 1)))).map Value.string) ∧ True) ∧ Below w.heap.size wr W)
    (fun _ _ _ => False)
    (OwnFrom.and (Own.from (holdsRow_own wr.heap.size w.heap.size 23 9 1 (fun pre : List Nat => pre.length) (fun pre : List Nat => ((pre.map fun x => chunkS xs (min x (chunksN xs.length - 1)))).map Value.string) (fun _ _ => True)) _) (ownFrom_below (by omega) (by omega)))
    (fun _ _ _ _ _ hs _ _ => hs)
    ⟨⟨_, bO, World.ownsRow_nil _ _ _ _, trivial⟩, Below.refl _ _⟩
    (fun x => { tmps := #[.slice (some ⟨b, 0, none⟩) xs.length cap, undef, .slice none 0 0, .pointer (some ⟨w.heap.size, 0, none⟩), partV b xs.length cap (min x (chunksN xs.length - 1)), undef, .slice (some ⟨b, 0, none⟩) xs.length cap, .func (.func 114) #[] #[.pointer (some ⟨w.heap.size + 1, 0, none⟩), .pointer (some ⟨w.heap.size + 1 + 1, 0, none⟩)], partV b xs.length cap (min x (chunksN xs.length - 1)), undef, undef, undef, undef, undef, undef, undef, undef, undef, undef, undef, undef], defers := [] }) ?assign ?body ?done ?stop
  case assign =>
    intro l x W K hK
    gi_wp2
    exact hK
  case body =>
    rintro l pre x W ⟨⟨v, hv, hrow, _⟩, hBW⟩ hlt
    have hd : 1 ≤ n - 1 - 1 := by omega
    have hmx : Tryz.prog.follows .mixedOrders = true := by kernel_rfl
    have h32 : (Fence.wide.inRound l).fn 32 := trivial
    have hN : chunksN xs.length = (xs.length + 39) / 40 := rfl
    obtain ⟨ix, hix⟩ : ∃ ix, ix = min x (chunksN xs.length - 1) := ⟨_, rfl⟩
    have hixl : 40 * ix < xs.length := by omega
    obtain ⟨s, hs⟩ : ∃ s, s = strOfNums (partL xs ix) := ⟨_, rfl⟩
    have hsz : s.size ≤ 40 := by rw [hs, strOfNums_size, partL_length]; omega
    have hsz' : (s.size : Int) ≤ 40 := by omega
    have hconv := part_string (Kd.C_below hr (hB.trans hBW)) ix hixl
    rw [← hs] at hconv
    rw [← hix]
    have hpv : partV b xs.length cap ix = partV b xs.length xs.length ix := rfl
    rw [hpv]
    generalize hp : partV b xs.length xs.length ix = pv at hconv
    have HS := Aside0.mk hs
    have HIX := Aside0.mk hix
    clear hs hix hN
    have h32' : Fence.wide.fn 32 := trivial
    obtain ⟨sp, hsp⟩ : ∃ sp : ByteArray, sp = ⟨(Lib.repeatL [0] (40 - s.size)).toArray⟩ := ⟨_, rfl⟩
    have hrep := rep_calls s.size hsz
    rw [← hsp] at hrep
    have HSP := Aside0.mk hsp
    have hspz : sp.size = 40 - s.size := by rw [hsp]; exact rep_size _
    have hspz' : (sp.size : Int) ≤ 40 := by omega
    have hspt : s.size + sp.size ≤ 40 := by omega
    clear hspz
    clear hsp
    have hc := hv.cell
    have hf := hv.frozen
    have hn1 : chunksN xs.length ≤ 1000 := by show (xs.length + 39) / 40 ≤ 1000; omega
    have HF := Aside0.mk (fun (w' : World) (hb : Below W.heap.size W w') => app23_fact (boxed_below hv hb) (by omega : w.heap.size < wr.heap.size) (by have := hb.size; have := hBW.size; omega) (owns_below hrow hb) (by omega) (s ++ sp))
    gi_wp2
    gi_region_with_o (first | (gi_at_call 32; refine (CallsIn.inRound l (callsIn_wide.2 (hrep _))).mono ?_; rintro e w' ⟨rfl, hb32⟩; have hb33 : Below W.heap.size W w' := ((Below.refl _ W).drew).trans hb32; have hcw' := (boxed_below hv hb33).cell; obtain ⟨g2, cp2, v2, w2, rfl, hrun, hcw1, hcw2, hfw2, q1, q2, q3, q4, q5⟩ := HF.out w' hb33; have Q1 := Aside0.mk q1; have Q2 := Aside0.mk q2; have Q3 := Aside0.mk q3; have Q4 := Aside0.mk q4; have Q5 := Aside0.mk q5; have HB33 := Aside0.mk hb33; clear q1 q2 q3 q4 q5 hb32 hb33))
    all_goals gi_wp2
    all_goals
      refine ⟨((others_below HB33.out).trans Q3.out).from _, (KpO.below (HB33.out.mono (by have := hBW.size; omega))).trans Q4.out, ⟨_, Q1.out, ?_, trivial⟩, (hBW.trans (HB33.out.mono (by have := hBW.size; omega))).trans Q5.out⟩
      have e1 : s ++ sp = chunkS xs (min x (chunksN xs.length - 1)) := by rw [← HIX.out, chunkS, HSP.out, HS.out, strOfNums_size]
      have q2 := Q2.out
      rw [e1] at q2
      simpa using q2
  case done =>
    rintro D ys W hD rfl ⟨⟨v, hv, hrow, _⟩, hBW⟩ hK
    have hc := hv.cell
    gi_wp2
    refine ⟨by simp, .inl ⟨_, _, rfl, run_takeDeferred hK, ?_⟩⟩
    refine ⟨_, results_tmp rfl _ _ _, v, rfl, ?_, (hB.trans hBW).trans (belowK_b (w := w) (Nat.le_refl _) W D _ _ (by omega) hK rfl rfl)⟩
    have q := own_weaken (ownsRow_putObj hrow (.deferred none) hK rfl) (show w.heap.size ≤ wr.heap.size by omega)
    rw [List.length_range] at q
    have e1 : (List.range (chunksN xs.length)).map (fun x => chunkS xs (min x (chunksN xs.length - 1))) = (List.range (chunksN xs.length)).map (chunkS xs) := List.map_congr_left fun x hx => by
      have := List.mem_range.1 hx
      rw [show min x (chunksN xs.length - 1) = x by omega]
    rw [e1] at q
    exact q
  case stop =>
    rintro D c pre W _ _ h _
    exact h.elim

def chunksL (xs : List Int) : List ByteArray := (List.range (chunksN xs.length)).map (chunkS xs)
theorem chunks_calls (b cap : Nat) (xs : List Int) (hL : xs.length ≤ 10000) (hcap : xs.length ≤ cap) (w : World) (hr : Kd.C (Kd.int .u8) w (some ⟨b, 0, none⟩) xs.length xs) :
    Calls Tryz.prog 75 #[.slice (some ⟨b, 0, none⟩) xs.length cap] w fun e w' => ∃ v, e = .returned v ∧ Kd.R Kd.string 9 w' w.heap.size (fun _ => True) v (chunksL xs) ∧ Below w.heap.size w w' :=
  ((callsIn_wide (n := 3)).1 (chunks_in 3 (by omega) b cap xs hL hcap w hr)).mono fun e w' ⟨v, he, ho, hb⟩ => ⟨v, he, Kd.R_of_own (enc := Value.string) (h1 := fun _ => rfl) (by rw [show (chunksL xs).length = chunksN xs.length by simp [chunksL]]; exact ho) (fun _ _ => trivial), hb⟩

end Go.Proofs.YtfolgjigfdbnoaaGreat.M
