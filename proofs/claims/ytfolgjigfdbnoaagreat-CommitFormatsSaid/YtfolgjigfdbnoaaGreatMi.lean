/-
  Contracts of layout.area, commit.blocks and its iterator, of a blank state.
-/
import Derived.Test.YtfolgjigfdbnoaaGreatMh
namespace Go.Proofs.YtfolgjigfdbnoaaGreat.M
open Go.RowKit Go.Shelf Go.Proofs.YtfolgjigfdbnoaaGreatW.PrintWords Go.Proofs.YtfolgjigfdbnoaaGreatW.PrintLast Go.Proofs.YtfolgjigfdbnoaaGreatW.PrintMore
open PCommitFormats
set_option linter.unusedVariables false
set_option linter.unusedSimpArgs false
attribute [local go_sem] Oper.semAt_some

def larea (n gen : Int) : Int := 2 + gen % 2 * areaM n

theorem larea_calls (n gen : Int) (h0 : 0 ≤ n) (h1 : n ≤ 10000) (h2 : 0 ≤ gen) (w : World) :
    Calls Tryz.prog 76 #[.agg #[.int .i64 n], .int .i64 gen] w fun e w' => e = .returned (.int .i64 (larea n gen)) ∧ Below w.heap.size w w' := by
  have hb : 0 ≤ areaM n ∧ areaM n ≤ 600 := by unfold areaM; omega
  obtain ⟨hb0, hb1⟩ := hb
  have hm : 0 ≤ gen % 2 ∧ gen % 2 ≤ 1 := by omega
  obtain ⟨hm0, hm1⟩ := hm
  have hp : 0 ≤ gen % 2 * areaM n ∧ gen % 2 * areaM n ≤ 600 := by
    rcases (show gen % 2 = 0 ∨ gen % 2 = 1 by omega) with h | h <;> rw [h] <;> omega
  unfold larea
  go_enter Tryz.func76, Tryz.ntmps76
  have hu := Tryz.underlying93
  go_wp2_with (go_at_call 58; refine (area_calls _ (by omega) (by omega) _).mono ?_; rintro e w' ⟨rfl, rfl⟩)
  go_ret
  exact ⟨rfl, (Below.refl _ w).alloc (Nat.le_refl _) _⟩

abbrev cmC (n : Nat) (A : Option Addr) (c : Nat) (keep next gen : Int) (b L tc : Nat) : Array Value := #[.int .i64 n, .slice A n c, .int .i64 keep, .slice none 0 0, .slice none 0 0, .int .i64 next, .int .i64 gen, .slice (some ⟨b, 0, none⟩) L tc]

set_option maxHeartbeats 1000000 in
theorem blocks_in (m n : Nat) (A : Option Addr) (c : Nat) (keep next gen : Int) (b L tc : Nat) (w : World) :
    CallsIn Fence.wide m Tryz.prog 44 #[.agg (cmC n A c keep next gen b L tc)] w fun e w' => e = .returned (.func (.func 72) #[] #[.pointer (some ⟨w.heap.size, 0, none⟩)]) ∧ w' = w.alloc (.cells (cmC n A c keep next gen b L tc) 95) := by
  refine callsIn_of_wp Tryz.func44 rfl trivial ?_ rfl
  simp only [Tryz.ntmps44, List.size_toArray, List.length_cons, List.length_nil, Nat.reduceAdd, Nat.reduceSub, Array.replicate_succ, Array.replicate_zero, List.push_toArray, List.append_toArray, List.nil_append, List.cons_append]
  have hu := Tryz.underlying95
  gi_wp2
  go_ret
  exact ⟨rfl, rfl⟩

/-- What a round keeps: all cells but a box and blocks of writes. -/
def KpR (o : Nat) (A B : World) : Prop := A.heap.size ≤ B.heap.size ∧ ∀ (k : Nat) (cs : Array Value) (t : TypeId) (f : Nat × Nat), A.heap[k]? = some (.cells cs t f) → t ≠ 58 → k ≠ o → B.heap[k]? = some (.cells cs t f)
theorem KpR.refl (o : Nat) (A : World) : KpR o A A := ⟨Nat.le_refl _, fun _ _ _ _ h _ _ => h⟩
theorem KpR.trans {o : Nat} {A B C : World} (h : KpR o A B) (k : KpR o B C) : KpR o A C :=
  ⟨Nat.le_trans h.1 k.1, fun i cs t f hi ht ho => k.2 i cs t f (h.2 i cs t f hi ht ho) ht ho⟩
theorem KpR.cell {o : Nat} {A B : World} (h : KpR o A B) {p : Addr} {v : Value} (hc : A.cell? p = some v) {cs : Array Value} {t : TypeId} {f : Nat × Nat} (hb : A.heap[p.block]? = some (.cells cs t f)) (ht : t ≠ 58) (hn : p.block ≠ o) : B.cell? p = some v := by
  rw [← hc]
  exact World.cell?_of_block ((h.2 _ cs t f hb ht hn).trans hb.symm)
theorem KpR.put {o : Nat} (W : World) (l : Nat) (ob ob' : Obj) (h : W.heap[l]? = some ob) (hc : ob.isCells = false) : KpR o W (W.putObj l ob') := by
  refine ⟨by simp [World.putObj], fun k cs t f hk _ _ => ?_⟩
  rw [World.putObj_heap_other (fun e => by subst e; rw [hk] at h; cases h; cases hc)]
  exact hk
theorem KpR.grown {o : Nat} {W W' : World} (h : Below W.heap.size W W') : KpR o W W' :=
  ⟨h.size, fun k cs t f hk _ _ => (h.block k (blk_lt hk)).trans hk⟩
theorem addb (p : Addr) (k : Nat) : (p.add k).block = p.block := by unfold Addr.add; split <;> rfl
theorem r_typed {α : Type} {d : Kd α} {e base : Nat} {ok : Nat → Prop} {w : World} {ad : Addr} {n c : Nat} {xs : List α} (h : d.R e w base ok (.slice (some ad) n c) xs) : ∃ cs, w.heap[ad.block]? = some (.cells cs e (0, 0)) := by
  obtain ⟨inner, ho⟩ := Kd.R_own h
  rcases ho.2 with ⟨h0, _⟩ | ⟨g, cap, cur, h0, hb, hh, _⟩
  · cases h0
  · cases h0
    exact ⟨_, hh⟩
theorem r_base {α : Type} {d : Kd α} {e base : Nat} {ok : Nat → Prop} {w : World} {ad : Addr} {n c : Nat} {xs : List α} (h : d.R e w base ok (.slice (some ad) n c) xs) : base ≤ ad.block := by
  obtain ⟨inner, ho⟩ := Kd.R_own h
  rcases ho.2 with ⟨h0, _⟩ | ⟨g, cap, cur, h0, hb, _, _⟩
  · cases h0
  · cases h0
    exact hb

set_option maxRecDepth 100000 in
set_option maxHeartbeats 4000000 in
theorem blocks1_in (m : Nat) (hm : 1 ≤ m) (l Bc o n : Nat) (A : Option Addr) (c : Nat) (keep next gen : Int) (b tc : Nat) (xs : List Int) (hn : n ≤ 2000) (hg0 : 0 ≤ gen) (hg1 : gen ≤ 4294967295) (hL : xs.length ≤ 10000) (htc : xs.length ≤ tc) (hne : Bc ≠ o) (J Jx : List Nat → World → Prop)
    (hJn : ∀ ys W W', J ys W → W.grownBy W' none → J ys W')
    (hY : ∀ pre x W, J pre W → pre.length < chunksN xs.length → YieldAt Fence.wide (m - 1) Tryz.prog l #[.int .i64 (larea n (gen + 1) + (min x (chunksN xs.length - 1) : Nat)), .string (chunkS xs (min x (chunksN xs.length - 1)))] W fun e W' =>
      (e = .returned (.bool true) ∧ J (pre ++ [x]) W' ∧ KpR o W W') ∨ (e = .returned (.bool false) ∧ Jx (pre ++ [x]) W'))
    (W : World) (hBc : W.heap[Bc]? = some (.cells (cmC n A c keep next gen b xs.length tc) 95)) (ho : Boxed W o 24 (.slice none 0 0)) (hA : Kd.C k75 W A n (blank n)) (hx : Kd.C (Kd.int .u8) W (some ⟨b, 0, none⟩) xs.length xs) (h0 : J [] W) :
    CallsIn Fence.wide m Tryz.prog 72 #[.func (.yield l) #[] #[], .pointer (some ⟨Bc, 0, none⟩)] W fun e W' => (∃ v, e = .returned v) ∧
      ((∃ ys, ys = List.range (chunksN xs.length) ∧ J ys W') ∨ (∃ pre, (∃ k, k ≤ chunksN xs.length ∧ pre = List.range k) ∧ Jx pre W')) := by
  have hu := Tryz.underlying95
  have hu75 := Tryz.underlying75
  have hu93 := Tryz.underlying93
  have hu33 := Tryz.underlying33
  have hu29 := Tryz.underlying29
  have hn' : (n : Int) ≤ 2000 := by omega
  have d1 : W.cell? ⟨Bc, 1, none⟩ = some (.slice A n c) := (blk_cell hBc 1).trans rfl
  have hBl := blk_lt hBc
  have HBC := Aside0.mk hBc
  have HO := Aside0.mk ho
  have HA := Aside0.mk hA
  have HX := Aside0.mk hx
  clear hBc ho hA hx
  refine callsIn_of_wp Tryz.func72 rfl trivial ?_ rfl
  simp only [Tryz.ntmps72, List.size_toArray, List.length_cons, List.length_nil, Nat.reduceAdd, Nat.reduceSub, Array.replicate_succ, Array.replicate_zero, List.push_toArray, List.append_toArray, List.nil_append, List.cons_append]
  gi_wp2
  gi_loopw [14] (fun i wr => ∃ k : Nat, k ≤ n ∧ i = .int .i64 k ∧ Aside0 (Below W.heap.size W wr))
    (fun i _ => n - (intOf i).toNat)
  case atStart => exact ⟨0, Nat.zero_le _, rfl, ⟨Below.refl _ _⟩⟩
  case round =>
    obtain ⟨k, hk, rfl, HB⟩ := hrel
    by_cases hlt : k < n
    · obtain ⟨ad, A3, c3, e, hx0, hx1, hx2, hx3, _, _⟩ := at_T75 (Kd.C_below HA.out HB.out) k (by omega) (by omega)
      cases e
      rw [rd_blank (by omega) (by omega)] at hx0 hx1 hx2 hx3
      simp only [z75, z73, List.length_nil, Int.toNat_natCast] at hx0 hx1 hx2 hx3
      have hsz := HB.out.size
      gi_wp2
      go_roundw
      case rel => exact ⟨k + 1, by omega, by simp, ⟨below_alloc HB.out _⟩⟩
      case measure => simp [intOf]; omega
    · obtain rfl : n = k := by omega
      have c7 : wr.cell? ⟨Bc, 7, none⟩ = some (.slice (some ⟨b, 0, none⟩) xs.length tc) := (HB.out.cell (p := ⟨Bc, 7, none⟩) hBl).trans ((blk_cell HBC.out 7).trans rfl)
      gi_wp2_with fail
      refine ⟨trivial, (callsIn_wide.2 (chunks_calls b tc xs hL htc wr (Kd.C_below HX.out HB.out))).mono ?_⟩
      rintro e w2 ⟨v, rfl, hv, hb2⟩
      obtain ⟨A2, c2, rfl⟩ := Kd.R_slice hv
      have hB2 : Below W.heap.size W w2 := below_step HB.out hb2
      have hJ2 : J [] w2 := hJn _ _ _ h0 ⟨hB2.os, hB2.tape, hB2.output, hB2.size, fun k hk _ => hB2.block k hk⟩
      have ho2 := boxed_below HO.out hB2
      have hBc2 := (hB2.block _ hBl).trans HBC.out
      have HR := Aside0.mk (R_C hv)
      have obr : o < wr.heap.size := (boxed_below HO.out HB.out).lt
      have HG : Aside0 (∀ ad, A2 = some ad → ad.block ≠ o ∧ ∃ cs, w2.heap[ad.block]? = some (.cells cs 9 (0, 0))) := ⟨fun ad e => by subst e; have := r_base hv; exact ⟨by omega, r_typed hv⟩⟩
      have ob : o < w2.heap.size := ho2.lt
      clear obr
      have hlen : (chunksL xs).length = chunksN xs.length := by simp [chunksL]
      have hN : chunksN xs.length ≤ 251 := by show (xs.length + 39) / 40 ≤ 251; omega
      have hN' : (chunksN xs.length : Int) ≤ 251 := by omega
      rw [hlen] at HR ⊢
      clear c7
      gi_wp2
      have HO2 := Aside0.mk ho2
      have HBC2 := Aside0.mk hBc2
      have HB2 := Aside0.mk hB2
      clear ho2 hBc2 hB2 hb2 hv
      gi_loopw [41] (fun i wq => ∃ k : Nat, k ≤ chunksN xs.length ∧ i = .int .i64 k ∧ J (List.range k) wq ∧ Aside0 (KpR o w2 wq))
        (fun i _ => chunksN xs.length - (intOf i).toNat)
      case atStart => exact ⟨0, Nat.zero_le _, rfl, hJ2, ⟨KpR.refl _ _⟩⟩
      case round =>
        obtain ⟨j, hj, rfl, hJs, HK⟩ := hrel
        have c0 : wr.cell? ⟨Bc, 0, none⟩ = some (.int .i64 n) := HK.out.cell ((blk_cell HBC2.out 0).trans rfl) HBC2.out (by decide) hne
        have c6 : wr.cell? ⟨Bc, 6, none⟩ = some (.int .i64 gen) := HK.out.cell ((blk_cell HBC2.out 6).trans rfl) HBC2.out (by decide) hne
        by_cases hjl : j < chunksN xs.length
        · obtain ⟨ad2, e2, hxs⟩ := Kd.at_string HR.out j (by omega) (by omega)
          obtain ⟨hg1', csg, hg2'⟩ := HG.out ad2 e2
          have hxs' := HK.out.cell hxs (by rw [addb]; exact hg2') (by decide) (by rw [addb]; exact hg1')
          clear hg1' hg2'
          subst e2
          rw [Int.toNat_natCast] at hxs hxs'
          have hrd : rdOf ByteArray.empty (chunksL xs) j = chunkS xs j := by simp [rdOf, chunksL, List.getElem?_map, List.getElem?_range hjl]
          rw [hrd] at hxs'
          clear hxs hrd
          gi_wp2_with fail
          refine ⟨trivial, (callsIn_wide.2 (larea_calls n (gen + 1) (by omega) (by omega) (by omega) wr)).mono ?_⟩
          rintro e w4 ⟨rfl, hb4⟩
          have hJ4 : J (List.range j) w4 := hJn _ _ _ hJs ⟨hb4.os, hb4.tape, hb4.output, hb4.size, fun k hk _ => hb4.block k hk⟩
          have hor : o < wr.heap.size := Nat.lt_of_lt_of_le ob HK.out.1
          have hKg : KpR o w2 w4 := HK.out.trans (KpR.grown hb4)
          obtain ⟨fn, tmps, assign, body, hy, hR⟩ := hY _ j w4 hJ4 (by rw [List.length_range]; exact hjl)
          rw [show min j (chunksN xs.length - 1) = j by omega] at hy
          have hla : 0 ≤ larea n (gen + 1) ∧ larea n (gen + 1) ≤ 100000 := by
            have hb : 0 ≤ areaM n ∧ areaM n ≤ 600 := by unfold areaM; omega
            unfold larea
            rcases (show (gen + 1) % 2 = 0 ∨ (gen + 1) % 2 = 1 by omega) with h | h <;> rw [h] <;> omega
          obtain ⟨hl0, hl1⟩ := hla
          generalize larea n (gen + 1) = la at hl0 hl1 hy
          have HKg := Aside0.mk hKg
          clear hKg c0 c6 hxs'
          gi_wp2
          refine hR.mono ?_
          rintro e W3 (⟨rfl, hJ3, hk3⟩ | ⟨rfl, hJx3⟩)
          · gi_wp2
            go_roundw
            case rel => exact ⟨j + 1, by omega, by simp, by rw [List.range_succ]; exact hJ3, ⟨HKg.out.trans hk3⟩⟩
            case measure => simp [intOf]; omega
          · gi_wp2
            refine bodyPost_ret (results_none rfl _ _ _) rfl ?_
            exact ⟨⟨_, rfl⟩, .inr ⟨_, ⟨j + 1, by omega, List.range_succ.symm⟩, hJx3⟩⟩
        · obtain rfl : j = chunksN xs.length := by omega
          gi_wp2
          go_end0
          exact ⟨⟨_, rfl⟩, .inl ⟨_, rfl, hJs⟩⟩

theorem blocks_stops (m : Nat) (hm : 1 ≤ m) (Bc o n : Nat) (A : Option Addr) (c : Nat) (keep next gen : Int) (b tc : Nat) (xs : List Int) (hn : n ≤ 2000) (hg0 : 0 ≤ gen) (hg1 : gen ≤ 4294967295) (hL : xs.length ≤ 10000) (htc : xs.length ≤ tc) (hne : Bc ≠ o)
    (w : World) (hBc : w.heap[Bc]? = some (.cells (cmC n A c keep next gen b xs.length tc) 95)) (ho : Boxed w o 24 (.slice none 0 0)) (hA : Kd.C k75 w A n (blank n)) (hx : Kd.C (Kd.int .u8) w (some ⟨b, 0, none⟩) xs.length xs) :
    SeqStopsK Fence.wide m Tryz.prog 72 #[.pointer (some ⟨Bc, 0, none⟩)] (fun x : Nat => #[.int .i64 (larea n (gen + 1) + (min x (chunksN xs.length - 1) : Nat)), .string (chunkS xs (min x (chunksN xs.length - 1)))]) (KpR o) (fun ys => ys = List.range (chunksN xs.length)) (fun pre => ∃ k, k ≤ chunksN xs.length ∧ pre = List.range k) (chunksN xs.length) w := fun l J Jx W hW hA2 _ hY h0 =>
  blocks1_in m hm l Bc o n A c keep next gen b tc xs hn hg0 hg1 hL htc hne J Jx (fun ys W W' h hg => hA2 ys W W' none h hg (fun r e => by cases e)) hY W ((hW.block Bc (blk_lt hBc)).trans hBc) (boxed_below ho hW) (Kd.C_below hA hW) (Kd.C_below hx hW) h0

end Go.Proofs.YtfolgjigfdbnoaaGreat.M
