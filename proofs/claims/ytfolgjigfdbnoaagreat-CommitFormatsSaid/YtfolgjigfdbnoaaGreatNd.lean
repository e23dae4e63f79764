/-
  Contract of assartref02.Do, where it isn't stopped.
-/
import Derived.Test.YtfolgjigfdbnoaaGreatNc
import Derived.Test.YtfolgjigfdbnoaaGreatMu
namespace Go.Proofs.YtfolgjigfdbnoaaGreat.M
open Go.RowKit Go.Shelf Go.Proofs.YtfolgjigfdbnoaaGreatW.PrintWords Go.Proofs.YtfolgjigfdbnoaaGreatW.PrintLast Go.Proofs.YtfolgjigfdbnoaaGreatW.PrintMore
open PCommitFormats
set_option linter.unusedVariables false
set_option linter.unusedSimpArgs false

theorem refPut (B : List ByteArray) (ws : List S58) (at_ : Int) (s : ByteArray) (h0 : 0 ≤ at_) (h1 : at_ < B.length) (hs : s.size = 40) (hl : ws.length ≤ 1000000) : assartref02_Put.f B ws at_ s = some (B, ws ++ [(⟨at_, s⟩ : S58)], 0) := by
  unfold assartref02_Put.f assartref02_may.f
  rw [if_pos h0, if_pos h1, Option.bind_some, if_pos (by simp [hs]), Option.bind_some, if_pos (by simp; omega), Option.bind_some, Option.bind_some, if_pos (by simp; omega), List.nil_append]

/-- The blocks that assartref02.Do may write: the old row's own, and new ones, but for its two boxes. -/
def doP (AB : Option Addr) (b0 : Nat) (k : Nat) : Prop := (∃ ad, AB = some ad ∧ k = ad.block) ∨ (b0 ≤ k ∧ k ≠ b0 ∧ k ≠ b0 + 1)

set_option maxRecDepth 100000 in
set_option maxHeartbeats 4000000 in
theorem refDo_calls (w0 w : World) (hB0 : Below w0.heap.size w0 w) (AB : Option Addr) (cB : Nat) (B : List ByteArray) (A : Option Addr) (c : Nat) (l : List S58) (stop : Int) (hs : stop < 0) (bl : Nat) (okl : Nat → Prop)
    (hR0 : Kd.R Kd.string 9 w w0.heap.size (fun _ => True) (.slice AB B.length cB) B) (hBl : B.length ≤ 4000) (hl : Kd.R k58 58 w bl okl (.slice A l.length c) l) (hll : l.length ≤ 10000) (hok : ∀ s ∈ l, okW B.length s) :
    Calls Tryz.prog 39 #[.agg #[.slice AB B.length cB, .slice none 0 0], .slice A l.length c, .int .i64 stop] w fun e w' => ∃ v0 v1, e = .returned (.tuple #[.agg #[v0, v1], .int .i64 (doS stop l B [] 0).2.2]) ∧ Kd.R Kd.string 9 w' w0.heap.size (fun _ => True) v0 (doS stop l B [] 0).1 ∧ Kd.R k58 58 w' w0.heap.size (fun _ => True) v1 (doS stop l B [] 0).2.1 ∧ Below w0.heap.size w0 w' ∧ Kept w w' (fun k => ∃ ad, AB = some ad ∧ k = ad.block) := by
  have hl' : (l.length : Int) ≤ 10000 := by omega
  have hu26 := Tryz.underlying26
  have hu58 := Tryz.underlying58
  have hr : ∃ R, R = doS stop l B [] 0 := ⟨_, rfl⟩
  obtain ⟨R, hRd⟩ := hr
  rw [← hRd]
  have HRD := Aside0.mk hRd
  clear hRd
  have hPB : Kd.R Kd.string 9 w w0.heap.size (doP AB w.heap.size) (.slice AB B.length cB) B := Kd.R_reok rfl hR0 (fun k hk => by
    obtain ⟨ad, e⟩ : ∃ ad, AB = some ad := by
      cases AB with
      | none => simp [Value.ownBlock] at hk
      | some ad => exact ⟨ad, rfl⟩
    subst e
    exact .inl ⟨ad, rfl, by simpa [Value.ownBlock] using hk.symm⟩)
  have hlt : Kd.R k58 58 w bl (fun k => ¬ doP AB w.heap.size k) (.slice A l.length c) l := Kd.R_reok rfl hl (fun k hk => by
    obtain ⟨ad, e⟩ : ∃ ad, A = some ad := by
      cases A with
      | none => simp [Value.ownBlock] at hk
      | some ad => exact ⟨ad, rfl⟩
    subst e
    have hk' : k = ad.block := by simpa [Value.ownBlock] using hk.symm
    subst hk'
    obtain ⟨cs, hcs⟩ := r_typed hl
    have hlt := blk_lt hcs
    rintro (⟨ad2, e2, h2⟩ | h2)
    · subst e2
      obtain ⟨cs2, hcs2⟩ := r_typed hR0
      rw [← h2, hcs] at hcs2
      cases hcs2
    · omega)
  have HNE : Aside0 (∀ k, doP AB w.heap.size k → k ≠ w.heap.size ∧ k ≠ w.heap.size + 1) := ⟨fun k hk => by
    rcases hk with ⟨ad, e, hk⟩ | hk
    · subst e
      obtain ⟨cs, hcs⟩ := r_typed hR0
      have := blk_lt hcs
      omega
    · omega⟩
  have HPB := Aside0.mk hPB
  have HL := Aside0.mk hlt
  have HOK := Aside0.mk hok
  have HB0 := Aside0.mk hB0
  clear hPB hlt hok hR0 hl hB0
  go_enter Tryz.func39, Tryz.ntmps39
  obtain ⟨w1, hw1⟩ : ∃ w1, w1 = (w.alloc (.cells #[.slice AB B.length cB, .slice none 0 0] 26)).alloc (.cells #[.slice none 0 0, .slice none 0 0] 26) := ⟨_, rfl⟩
  have HB1 : Aside0 (Below w.heap.size w w1) := ⟨by rw [hw1]; exact ((Below.refl _ w).alloc (Nat.le_refl _) _).alloc (by simp) _⟩
  have hs1 : w1.heap.size = w.heap.size + 2 := by rw [hw1]; simp
  have b0 : w1.heap[w.heap.size]? = some (.cells #[.slice AB B.length cB, .slice none 0 0] 26) := by rw [hw1, Below.heap_alloc _ _ _ (by simp)]; exact World.alloc_heap_new _ _
  have b1 : w1.heap[w.heap.size + 1]? = some (.cells #[.slice none 0 0, .slice none 0 0] 26) := by
    rw [hw1]
    have := World.alloc_heap_new (w.alloc (.cells #[.slice AB B.length cB, .slice none 0 0] 26)) (.cells #[.slice none 0 0, .slice none 0 0] 26)
    rwa [World.size_alloc] at this
  have B0 := Aside0.mk b0
  have B1 := Aside0.mk b1
  have HBW : Aside0 (Below w0.heap.size w0 w1) := ⟨HB0.out.trans (HB1.out.mono HB0.out.size)⟩
  clear b0 b1
  go_wp2_with fail
  rw [← hw1]
  clear hw1
  go_loopg [8, 9, 10] (l.length + 1) (fun kq v8 v9 v10 w' => ∃ (k : Nat) (B' : List ByteArray) (ws' : List S58) (v0 v1 : Value), v8 = .int .i64 (k : Int) ∧ k ≤ l.length ∧ Aside0 (l.length - k < kq) ∧ Aside0 (doS stop (l.drop k) B' ws' k = R) ∧ Aside0 (B'.length = B.length) ∧ Aside0 (w'.heap[w.heap.size]? = some (.cells #[v0, v1] 26)) ∧ Aside0 (w'.heap[w.heap.size + 1]? = some (.cells #[.slice none 0 0, .slice none 0 0] 26)) ∧ Aside0 (Kd.R Kd.string 9 w' w0.heap.size (doP AB w.heap.size) v0 B') ∧ Aside0 (Kd.R k58 58 w' w0.heap.size (doP AB w.heap.size) v1 ws') ∧ Aside0 (ws'.length ≤ k ∧ ∀ s ∈ ws', 0 ≤ s.f0 ∧ s.f0 < B.length) ∧ Aside0 (Below w0.heap.size w0 w') ∧ Aside0 (Kept w w' (fun k => ∃ ad, AB = some ad ∧ k = ad.block)))
  case atStart => exact ⟨0, B, [], _, _, rfl, Nat.zero_le _, ⟨by omega⟩, ⟨by rw [List.drop_zero]; exact HRD.out.symm⟩, ⟨rfl⟩, B0, B1, ⟨Kd.R_below HPB.out HB1.out⟩, ⟨Kd.R_nil _ _ _ _ _⟩, ⟨by simp, by simp⟩, HBW, ⟨Kept.of_below HB1.out _⟩⟩
  case round =>
    clear B0 B1 HBW
    obtain ⟨k, B', ws', v0, v1, rfl, hk, HK, HD, HLN, H0, H1, HR0, HR1, HWS, HBW, HKP⟩ := hrel
    obtain ⟨A0, c0, rfl⟩ := Kd.R_slice HR0.out
    obtain ⟨A1, c1, rfl⟩ := Kd.R_slice HR1.out
    cases gk with
    | zero => exact absurd HK.out (by omega)
    | succ k3 =>
      by_cases hlt : k < l.length
      · have HLr := Aside0.mk (Kd.R_kept HL.out HKP.out (fun k hk h => hk (.inl h)))
        obtain ⟨ad, e, hx0, hx1⟩ := at_T58 (R_C HLr.out) k (by omega) (by omega)
        cases e
        rw [Int.toNat_natCast] at hx0 hx1
        have hdrop : l.drop k = rd_T58 l k :: l.drop (k + 1) := by
          rw [List.drop_eq_getElem_cons hlt]
          simp [rd_T58, List.getElem?_eq_getElem hlt]
        have hmem : rd_T58 l k ∈ l := by simp [rd_T58, List.getElem?_eq_getElem hlt]
        obtain ⟨x, hx⟩ : ∃ x, x = rd_T58 l k := ⟨_, rfl⟩
        rw [← hx] at hx0 hx1 hdrop hmem
        have hox := HOK.out x hmem
        rw [hdrop] at HD
        clear hdrop hmem hx
        obtain ⟨x0, hx0'⟩ : ∃ x0, x0 = x.f0 := ⟨_, rfl⟩
        obtain ⟨x1, hx1'⟩ : ∃ x1, x1 = x.f1 := ⟨_, rfl⟩
        rw [← hx0'] at hx0
        rw [← hx1'] at hx1
        have HX0 := Aside0.mk hx0'
        have HX1 := Aside0.mk hx1'
        have HOX := Aside0.mk hox
        clear hx0' hx1' hox
        have p0 : wr.cell? ⟨w.heap.size, 0, none⟩ = some (.slice A0 B'.length c0) := (blk_cell H0.out 0).trans rfl
        have p1 : wr.cell? ⟨w.heap.size, 1, none⟩ = some (.slice A1 ws'.length c1) := (blk_cell H0.out 1).trans rfl
        have hsn : decide (0 ≤ stop) = false := decide_eq_false (by omega)
        have hb0 := blk_lt H0.out
        have hb1 := blk_lt H1.out
        have hdb : ∀ k, wr.heap.size ≤ k → doP AB w.heap.size k := fun k hk => .inr (by omega)
        have HDB := Aside0.mk hdb
        clear hdb
        by_cases hfl : isFl x = true
        · have hfx : (x0 == -1) = true ∧ x1.toList.isEmpty = true := by rw [HX0.out, HX1.out]; simpa [isFl] using hfl
          obtain ⟨hfx0, hfx1⟩ := hfx
          have hd := HD.out
          rw [doS, if_neg (by omega), if_pos hfl] at hd
          have hf := assartref02_Flush.calls _ A0 c0 B' A1 c1 ws' (applyL B' ws') [] wr (R_C HR0.out) (Kd.R_reads' HR0.out).2.1 (R_C HR1.out) (Kd.R_reads' HR1.out).2.1 (refFlush B' ws' (by rw [HLN.out]; exact hBl) (by have := HWS.out.1; omega) (by rw [HLN.out]; exact HWS.out.2))
          have HF := Aside0.mk hf
          have HFL := Aside0.mk hfl
          clear hf hfl
          go_wp2_with fail
          refine HF.out.mono ?_
          rintro e w5 ⟨v5, v6, rfl, ho5, ho6, hb5⟩
          obtain ⟨A5, c5, rfl⟩ := Kd.R_slice ho5
          obtain ⟨A6, c6, rfl⟩ := Kd.R_slice ho6
          clear p0 p1 HF hfx0 hfx1
          have q0 := (hb5.block _ hb0).trans H0.out
          have q1 := (hb5.block _ hb1).trans H1.out
          have s0 : w5.cell? ⟨w.heap.size, 0, none⟩ = some (.slice A0 B'.length c0) := (blk_cell q0 0).trans rfl
          have s1 : w5.cell? ⟨w.heap.size, 1, none⟩ = some (.slice A1 ws'.length c1) := (blk_cell q0 1).trans rfl
          have s2 : w5.frozen? ⟨w.heap.size, 0, none⟩ = false := blk_frozen q0 0
          have s3 : w5.frozen? ⟨w.heap.size, 1, none⟩ = false := blk_frozen q0 1
          have Q0 := Aside0.mk q0
          have Q1 := Aside0.mk q1
          have HO5 := Aside0.mk ho5
          have HO6 := Aside0.mk ho6
          have HB5 := Aside0.mk hb5
          have HD5 := Aside0.mk hd
          clear q0 q1 ho5 ho6 hb5 hd HD
          go_wp2
          go_roundg k3
          case rel =>
            have hal : (applyL B' ws').length = B.length := by rw [applyL_length, HLN.out]
            have hw5 := HB5.out.size
            have hwr := HBW.out.size
            have hok' : ∀ k, doP AB w.heap.size k → k ≠ w.heap.size := fun k hk => (HNE.out k hk).1
            have h5 := Kd.R_far (p := ⟨w.heap.size, 1, none⟩) (Kd.R_far (p := ⟨w.heap.size, 0, none⟩) (Kd.R_mono (Kd.R_bound HO5.out) (ok' := doP AB w.heap.size) (fun k hk => HDB.out k hk.2.1)) hok' (.slice A5 (applyL B' ws').length c5)) hok' (.slice A6 0 c6)
            have h6 := Kd.R_far (p := ⟨w.heap.size, 1, none⟩) (Kd.R_far (p := ⟨w.heap.size, 0, none⟩) (Kd.R_mono (Kd.R_bound HO6.out) (ok' := doP AB w.heap.size) (fun k hk => HDB.out k hk.2.1)) hok' (.slice A5 (applyL B' ws').length c5)) hok' (.slice A6 0 c6)
            exact ⟨k + 1, applyL B' ws', [], _, _, by simp, by omega, ⟨by have := HK.out; omega⟩, ⟨by rw [Int.natCast_add]; exact HD5.out⟩, ⟨hal⟩, ⟨set_blk (set_blk Q0.out 0 _) 1 _⟩, ⟨by rw [Below.heap_setCell _ _ _ _ (by simp), Below.heap_setCell _ _ _ _ (by simp)]; exact Q1.out⟩, ⟨Kd.R_lower h5 (by omega)⟩, ⟨Kd.R_lower h6 (by omega)⟩, ⟨by simp, by simp⟩, ⟨((HBW.out.trans (HB5.out.mono hwr)).setCell (p := ⟨w.heap.size, 0, none⟩) HB0.out.size _).setCell (p := ⟨w.heap.size, 1, none⟩) HB0.out.size _⟩, ⟨((HKP.out.below HB5.out).setCell (p := ⟨w.heap.size, 0, none⟩) (.inr (Nat.le_refl _)) _).setCell (p := ⟨w.heap.size, 1, none⟩) (.inr (Nat.le_refl _)) _⟩⟩
          case measure => omega
        · have hd := HD.out
          rw [doS, if_neg (by omega), if_neg hfl] at hd
          have hw := HOX.out
          rcases hw with hw | ⟨_, hw0, hw1, hw2⟩
          · exact absurd hw hfl
          rw [← HX0.out] at hw0 hw1
          rw [← HX1.out] at hw2
          have hput := refPut B' ws' x0 x1 hw0 (by rw [HLN.out]; exact hw1) hw2 (by have := HWS.out.1; omega)
          have HPUT : Aside0 (∀ W : World, Below wr.heap.size wr W → Calls Tryz.prog 66 #[.agg #[.slice A0 B'.length c0, .slice A1 ws'.length c1], .int .i64 x0, .string x1] W fun e w' => ∃ v0_ v1_ : Value, e = .returned (.tuple #[.agg #[v0_, v1_], .int .i64 0]) ∧ Kd.R Kd.string 9 w' w0.heap.size (fun k_ => (((doP AB w.heap.size k_ ∧ k_ < wr.heap.size) ∨ (doP AB w.heap.size k_ ∧ k_ < wr.heap.size)) ∨ W.heap.size ≤ k_)) v0_ B' ∧ Kd.R k58 58 w' w0.heap.size (fun k_ => (((doP AB w.heap.size k_ ∧ k_ < wr.heap.size) ∨ (doP AB w.heap.size k_ ∧ k_ < wr.heap.size)) ∨ W.heap.size ≤ k_)) v1_ (ws' ++ [(⟨x0, x1⟩ : S58)]) ∧ Below w0.heap.size w0 w' ∧ Kept W w' (fun k_ => (doP AB w.heap.size k_ ∧ k_ < wr.heap.size) ∨ (doP AB w.heap.size k_ ∧ k_ < wr.heap.size))) := ⟨fun W hW => assartref02_Put.calls (fun k_ => (doP AB w.heap.size k_ ∧ k_ < wr.heap.size)) _ B' (fun k_ => (doP AB w.heap.size k_ ∧ k_ < wr.heap.size)) _ ws' x0 x1 B' (ws' ++ [(⟨x0, x1⟩ : S58)]) 0 w0 W (HBW.out.trans (hW.mono HBW.out.size)) (Kd.R_below (Kd.R_mono (Kd.R_bound HR0.out) (fun k hk => ⟨hk.1, hk.2.2.1⟩)) hW) (Kd.R_below (Kd.R_mono (Kd.R_bound HR1.out) (fun k hk => ⟨hk.1, hk.2.2.1⟩)) hW) hput⟩
          have HDD := Aside0.mk hd
          have HFL := Aside0.mk hfl
          have hxm : (x0 == -1) = false := by simp; omega
          have hlw : (ws' ++ [(⟨x0, x1⟩ : S58)]).length = ws'.length + 1 := by simp
          clear hput hd HD hfl
          go_upto_region 8 with (fail)
          have hp0 := p0
          have hcalls : ∀ W', Below wr.heap.size wr W' → W'.cell? ⟨w.heap.size, 0, none⟩ = some (.slice A0 B'.length c0) ∧ W'.cell? ⟨w.heap.size, 1, none⟩ = some (.slice A1 ws'.length c1) ∧ W'.cell? (ad.add (k * 2)) = some (.int .i64 x0) ∧ W'.cell? ⟨(ad.add (k * 2)).block, (ad.add (k * 2)).off + 1, none⟩ = some (.string x1) := fun W' hb => ⟨(hb.cell (p := ⟨w.heap.size, 0, none⟩) hb0).trans p0, (hb.cell (p := ⟨w.heap.size, 1, none⟩) hb0).trans p1, (hb.cell (cell_lt hx0)).trans hx0, (hb.cell (cell_lt hx1)).trans hx1⟩
          have HKK := Aside0.mk hcalls
          clear hcalls hp0
          have hnl : ¬ doP AB w.heap.size ad.block := HLr.out.1 ad.block (by simp [Value.ownBlock])
          have hn0 : ¬ doP AB w.heap.size w.heap.size := fun h => (HNE.out _ h).1 rfl
          have hn1 : ¬ doP AB w.heap.size (w.heap.size + 1) := fun h => (HNE.out _ h).2 rfl
          have HK6 : Aside0 (∀ W W6 : World, Below wr.heap.size wr W → Kept W W6 (fun k_ => (doP AB w.heap.size k_ ∧ k_ < wr.heap.size) ∨ (doP AB w.heap.size k_ ∧ k_ < wr.heap.size)) → ∀ W7 : World, (∀ i, i < wr.heap.size → W7.heap[i]? = W6.heap[i]?) → W7.cell? ⟨w.heap.size, 0, none⟩ = some (.slice A0 B'.length c0) ∧ W7.cell? ⟨w.heap.size, 1, none⟩ = some (.slice A1 ws'.length c1) ∧ W7.cell? (ad.add (k * 2)) = some (.int .i64 x0) ∧ W7.cell? ⟨(ad.add (k * 2)).block, (ad.add (k * 2)).off + 1, none⟩ = some (.string x1)) := ⟨fun W W6 hW hK W7 h7 => by
            obtain ⟨c1, c2, c3, c4⟩ := HKK.out W hW
            have hl0 := cell_lt hx0
            have hl1 := cell_lt hx1
            have hbk : (ad.add (k * 2)).block = ad.block := addb _ _
            have hf : ∀ i, i < wr.heap.size → ¬ doP AB w.heap.size i → W7.heap[i]? = W.heap[i]? := fun i hi hn => (h7 i hi).trans (hK.2 i (Nat.lt_of_lt_of_le hi hW.size) (fun h => h.elim (fun h => hn h.1) (fun h => hn h.1)))
            exact ⟨(World.cell?_of_block (hf _ hb0 hn0)).trans c1, (World.cell?_of_block (hf _ hb0 hn0)).trans c2, (World.cell?_of_block (hf _ hl0 (by rw [hbk]; exact hnl))).trans c3, (World.cell?_of_block (a := ⟨(ad.add (k * 2)).block, (ad.add (k * 2)).off + 1, none⟩) (hf _ hl1 (by show ¬ doP AB w.heap.size (ad.add (k * 2)).block; rw [hbk]; exact hnl))).trans c4⟩⟩
          have HN01 := Aside0.mk (And.intro hn0 hn1)
          clear hnl hn0 hn1
          go_cut [9, 10] (fun v9 v10 wc => ∃ (q : Nat) (A2 : Option Addr) (c2 : Nat) (A3 : Option Addr) (c3 : Nat), v9 = .pointer (some ⟨q, 0, none⟩) ∧ v10 = .int .i64 0 ∧ Aside0 (wc.heap[q]? = some (.cells #[.slice A2 B'.length c2, .slice A3 (ws'.length + 1) c3] 26)) ∧ Aside0 (wc.heap[w.heap.size]? = some (.cells #[.slice A0 B'.length c0, .slice A1 ws'.length c1] 26)) ∧ Aside0 (wc.heap[w.heap.size + 1]? = some (.cells #[.slice none 0 0, .slice none 0 0] 26)) ∧ Aside0 (Kd.R Kd.string 9 wc w0.heap.size (doP AB w.heap.size) (.slice A2 B'.length c2) B') ∧ Aside0 (Kd.R k58 58 wc w0.heap.size (doP AB w.heap.size) (.slice A3 (ws'.length + 1) c3) (ws' ++ [(⟨x0, x1⟩ : S58)])) ∧ Aside0 (Below w0.heap.size w0 wc) ∧ Aside0 (Kept w wc (fun k => ∃ ad, AB = some ad ∧ k = ad.block)))
          case first =>
            go_region_held3 (fun w' => w'.cell? ⟨w.heap.size, 0, none⟩ = some (.slice A0 B'.length c0) ∧ w'.cell? ⟨w.heap.size, 1, none⟩ = some (.slice A1 ws'.length c1) ∧ w'.cell? (ad.add (k * 2)) = some (.int .i64 x0) ∧ w'.cell? ⟨(ad.add (k * 2)).block, (ad.add (k * 2)).off + 1, none⟩ = some (.string x1))
              (first | with_reducible exact ⟨p0, p1, hx0, hx1⟩ | with_reducible exact HX.out _ (fun k hk => rfl) | with_reducible exact HX.out _ (fun k hk => Below.heap_alloc _ _ _ (Nat.lt_of_lt_of_le hk hz6)) | with_reducible exact HX.out _ (fun k hk => Below.heap_setCell _ _ _ _ (Nat.ne_of_lt hk)) | with_reducible exact HX.out _ (fun k hk => (Below.heap_setCell _ _ _ _ (Nat.ne_of_lt hk)).trans (Below.heap_setCell _ _ _ _ (Nat.ne_of_lt hk))) | exact HKK.out _ (below_alloc (Below.refl _ _) _) | go_keep)
              (first | (go_at_call 66; refine (HPUT.out _ (below_drew (Below.refl wr.heap.size wr))).mono ?_; rintro e w6 ⟨v6, v7, rfl, ho6, ho7, hb6, hk6⟩; obtain ⟨A6, c6, rfl⟩ := Kd.R_slice ho6; obtain ⟨A7, c7, rfl⟩ := Kd.R_slice ho7; have HX := Aside0.mk (HK6.out _ _ (below_drew (Below.refl wr.heap.size wr)) hk6); have HO6 := Aside0.mk ho6; have HO7 := Aside0.mk ho7; have HB6 := Aside0.mk hb6; have HKP6 := Aside0.mk hk6; have hz6 : wr.heap.size ≤ w6.heap.size := hk6.1; clear ho6 ho7 hb6 hk6; have tokA : True := trivial) | (go_at_call 66; refine (HPUT.out _ (below_drew (below_alloc (Below.refl wr.heap.size wr) (.cells #[.slice none 0 0, .slice none 0 0] 26)))).mono ?_; rintro e w6 ⟨v6, v7, rfl, ho6, ho7, hb6, hk6⟩; obtain ⟨A6, c6, rfl⟩ := Kd.R_slice ho6; obtain ⟨A7, c7, rfl⟩ := Kd.R_slice ho7; have HX := Aside0.mk (HK6.out _ _ (below_drew (below_alloc (Below.refl wr.heap.size wr) (.cells #[.slice none 0 0, .slice none 0 0] 26))) hk6); have HO6 := Aside0.mk ho6; have HO7 := Aside0.mk ho7; have HB6 := Aside0.mk hb6; have HKP6 := Aside0.mk hk6; have hz6 : wr.heap.size ≤ w6.heap.size := Nat.le_trans (by simp) hk6.1; have hq := (hk6.2 wr.heap.size (by simp) (fun h => h.elim (fun h => Nat.lt_irrefl _ h.2) (fun h => Nat.lt_irrefl _ h.2))).trans (World.alloc_heap_new wr (.cells #[.slice none 0 0, .slice none 0 0] 26)); have q0 : w6.cell? ⟨wr.heap.size, 0, none⟩ = some (.slice none 0 0) := (blk_cell hq 0).trans rfl; have q1 : w6.cell? ⟨wr.heap.size, 1, none⟩ = some (.slice none 0 0) := (blk_cell hq 1).trans rfl; have q2 : w6.frozen? ⟨wr.heap.size, 0, none⟩ = false := blk_frozen hq 0; have q3 : w6.frozen? ⟨wr.heap.size, 1, none⟩ = false := blk_frozen hq 1; have HQ := Aside0.mk hq; clear ho6 ho7 hb6 hk6 hq; have tokB : True := trivial))
            all_goals go_wp2
            all_goals go_meet
            case rel =>
              have tk := tokA
              have hz := HB6.out.size
              have h0' : w6.heap[w.heap.size]? = some (.cells #[.slice A0 B'.length c0, .slice A1 ws'.length c1] 26) := (HKP6.out.2 _ hb0 (fun h => h.elim (fun h => HN01.out.1 h.1) (fun h => HN01.out.1 h.1))).trans H0.out
              have h1' : w6.heap[w.heap.size + 1]? = some (.cells #[.slice none 0 0, .slice none 0 0] 26) := (HKP6.out.2 _ hb1 (fun h => h.elim (fun h => HN01.out.2 h.1) (fun h => HN01.out.2 h.1))).trans H1.out
              have hk' : Kept w w6 (fun k => ∃ ad, AB = some ad ∧ k = ad.block) := HKP.out.then_ (W := wr) HKP6.out (fun k hk => by
                rcases hk with ⟨hk, _⟩ | ⟨hk, _⟩ <;> exact hk.elim .inl (fun h => .inr h.1))
              refine ⟨w6.heap.size, A6, c6, A7, c7, rfl, rfl, ⟨?_⟩, ⟨(Below.heap_alloc _ _ _ (blk_lt h0')).trans h0'⟩, ⟨(Below.heap_alloc _ _ _ (blk_lt h1')).trans h1'⟩, ⟨?_⟩, ⟨?_⟩, ⟨HB6.out.alloc HB6.out.size _⟩, ⟨hk'.alloc _⟩⟩
              · rw [← hlw]
                exact World.alloc_heap_new w6 _
              · exact Kd.R_alloc (Kd.R_mono HO6.out (fun k hk => hk.elim (fun h => h.elim (·.1) (·.1)) (HDB.out k))) _
              · rw [← hlw]
                exact Kd.R_alloc (Kd.R_mono HO7.out (fun k hk => hk.elim (fun h => h.elim (·.1) (·.1)) (HDB.out k))) _
            case rel =>
              have tk := tokB
              have hzq : (wr.alloc (.cells #[.slice none 0 0, .slice none 0 0] 26)).heap.size = wr.heap.size + 1 := World.size_alloc _ _
              have h0' : w6.heap[w.heap.size]? = some (.cells #[.slice A0 B'.length c0, .slice A1 ws'.length c1] 26) := (HKP6.out.2 _ (by show _ < (wr.alloc _).heap.size; rw [hzq]; omega) (fun h => h.elim (fun h => HN01.out.1 h.1) (fun h => HN01.out.1 h.1))).trans ((Below.heap_alloc wr _ _ hb0).trans H0.out)
              have h1' : w6.heap[w.heap.size + 1]? = some (.cells #[.slice none 0 0, .slice none 0 0] 26) := (HKP6.out.2 _ (by show _ < (wr.alloc _).heap.size; rw [hzq]; omega) (fun h => h.elim (fun h => HN01.out.2 h.1) (fun h => HN01.out.2 h.1))).trans ((Below.heap_alloc wr _ _ hb1).trans H1.out)
              have hk' : Kept w w6 (fun k => ∃ ad, AB = some ad ∧ k = ad.block) := (HKP.out.alloc (.cells #[.slice none 0 0, .slice none 0 0] 26)).then_ HKP6.out (fun k hk => by
                rcases hk with ⟨hk, _⟩ | ⟨hk, _⟩ <;> exact hk.elim .inl (fun h => .inr h.1))
              have hws : w.heap.size ≤ wr.heap.size := HKP.out.1
              have hw0 : w0.heap.size ≤ wr.heap.size := HBW.out.size
              have hfar : ∀ k, ((doP AB w.heap.size k ∧ k < wr.heap.size ∨ doP AB w.heap.size k ∧ k < wr.heap.size) ∨ (wr.alloc (.cells #[.slice none 0 0, .slice none 0 0] 26)).drew.heap.size ≤ k) → k ≠ wr.heap.size := fun k hk => by
                rcases hk with (hk | hk) | hk
                · omega
                · omega
                · have : wr.heap.size + 1 ≤ k := by rw [← hzq]; exact hk
                  omega
              have hdo : ∀ k, ((doP AB w.heap.size k ∧ k < wr.heap.size ∨ doP AB w.heap.size k ∧ k < wr.heap.size) ∨ (wr.alloc (.cells #[.slice none 0 0, .slice none 0 0] 26)).drew.heap.size ≤ k) → doP AB w.heap.size k := fun k hk => by
                rcases hk with (hk | hk) | hk
                · exact hk.1
                · exact hk.1
                · have : wr.heap.size + 1 ≤ k := by rw [← hzq]; exact hk
                  exact HDB.out k (by omega)
              refine ⟨wr.heap.size, A6, c6, A7, c7, rfl, rfl, ⟨?_⟩, ⟨?_⟩, ⟨?_⟩, ⟨?_⟩, ⟨?_⟩, ⟨(HB6.out.setCell (p := ⟨wr.heap.size, 0, none⟩) hw0 _).setCell (p := ⟨wr.heap.size, 1, none⟩) hw0 _⟩, ⟨(hk'.setCell (p := ⟨wr.heap.size, 0, none⟩) (.inr hws) _).setCell (p := ⟨wr.heap.size, 1, none⟩) (.inr hws) _⟩⟩
              · rw [← hlw]
                exact set_blk (set_blk HQ.out 0 _) 1 _
              · rw [Below.heap_setCell _ _ _ _ (Nat.ne_of_lt hb0), Below.heap_setCell _ _ _ _ (Nat.ne_of_lt hb0)]
                exact h0'
              · rw [Below.heap_setCell _ _ _ _ (Nat.ne_of_lt hb1), Below.heap_setCell _ _ _ _ (Nat.ne_of_lt hb1)]
                exact h1'
              · exact Kd.R_mono (Kd.R_far (p := ⟨wr.heap.size, 1, none⟩) (Kd.R_far (p := ⟨wr.heap.size, 0, none⟩) HO6.out hfar _) hfar _) hdo
              · rw [← hlw]
                exact Kd.R_mono (Kd.R_far (p := ⟨wr.heap.size, 1, none⟩) (Kd.R_far (p := ⟨wr.heap.size, 0, none⟩) HO7.out hfar _) hfar _) hdo
          case rest =>
            clear p0 p1 hx0 hx1 HPUT HKK HK6 H0 H1 HR0 HR1 HBW HKP HLr hb0 hb1 HDB
            obtain ⟨q, A2, c2, A3, c3, rfl, rfl, HQ, H0, H1, HR2, HR3, HB2, HK2⟩ := hcut
            have q0 : wc.cell? ⟨q, 0, none⟩ = some (.slice A2 B'.length c2) := (blk_cell HQ.out 0).trans rfl
            have q1 : wc.cell? ⟨q, 1, none⟩ = some (.slice A3 (ws'.length + 1) c3) := (blk_cell HQ.out 1).trans rfl
            have p0 : wc.cell? ⟨w.heap.size, 0, none⟩ = some (.slice A0 B'.length c0) := (blk_cell H0.out 0).trans rfl
            have p1 : wc.cell? ⟨w.heap.size, 1, none⟩ = some (.slice A1 ws'.length c1) := (blk_cell H0.out 1).trans rfl
            have p2 : wc.frozen? ⟨w.heap.size, 0, none⟩ = false := blk_frozen H0.out 0
            have p3 : wc.frozen? ⟨w.heap.size, 1, none⟩ = false := blk_frozen H0.out 1
            go_wp2
            go_roundg k3
            case rel =>
              have hok' : ∀ k, doP AB w.heap.size k → k ≠ w.heap.size := fun k hk => (HNE.out k hk).1
              have hxe : (⟨x0, x1⟩ : S58) = x := by rw [HX0.out, HX1.out]
              have hlw : (ws' ++ [x]).length = ws'.length + 1 := by simp
              have h3 := HR3.out
              rw [hxe] at h3
              have hws0 := HB0.out.size
              exact ⟨k + 1, B', ws' ++ [x], _, _, by simp, by omega, ⟨by have := HK.out; omega⟩, ⟨by rw [Int.natCast_add]; exact HDD.out⟩, HLN, ⟨set_blk (set_blk H0.out 0 _) 1 _⟩, ⟨by rw [Below.heap_setCell _ _ _ _ (by simp), Below.heap_setCell _ _ _ _ (by simp)]; exact H1.out⟩, ⟨Kd.R_far (p := ⟨w.heap.size, 1, none⟩) (Kd.R_far (p := ⟨w.heap.size, 0, none⟩) HR2.out hok' _) hok' _⟩, ⟨Kd.R_far (p := ⟨w.heap.size, 1, none⟩) (Kd.R_far (p := ⟨w.heap.size, 0, none⟩) h3 hok' _) hok' _⟩, ⟨by have := HWS.out.1; omega, fun s hs => by
                rcases List.mem_append.1 hs with hs | hs
                · exact HWS.out.2 s hs
                · rw [List.mem_singleton.1 hs, ← HX0.out]
                  exact ⟨hw0, hw1⟩⟩, ⟨(HB2.out.setCell (p := ⟨w.heap.size, 0, none⟩) hws0 _).setCell (p := ⟨w.heap.size, 1, none⟩) hws0 _⟩, ⟨(HK2.out.setCell (p := ⟨w.heap.size, 0, none⟩) (.inr (Nat.le_refl _)) _).setCell (p := ⟨w.heap.size, 1, none⟩) (.inr (Nat.le_refl _)) _⟩⟩
            case measure => omega
      · obtain rfl : k = l.length := by omega
        have hd := HD.out
        rw [List.drop_length, doS] at hd
        have p0 : wr.cell? ⟨w.heap.size, 0, none⟩ = some (.slice A0 B'.length c0) := (blk_cell H0.out 0).trans rfl
        have p1 : wr.cell? ⟨w.heap.size, 1, none⟩ = some (.slice A1 ws'.length c1) := (blk_cell H0.out 1).trans rfl
        have s0 : wr.cell? ⟨w.heap.size + 1, 0, none⟩ = some (.slice none 0 0) := (blk_cell H1.out 0).trans rfl
        have s1 : wr.cell? ⟨w.heap.size + 1, 1, none⟩ = some (.slice none 0 0) := (blk_cell H1.out 1).trans rfl
        have s2 : wr.frozen? ⟨w.heap.size + 1, 0, none⟩ = false := blk_frozen H1.out 0
        have s3 : wr.frozen? ⟨w.heap.size + 1, 1, none⟩ = false := blk_frozen H1.out 1
        have HDD := Aside0.mk hd
        clear hd HD
        go_wp2
        refine bodyPost_ret (results_ct rfl _ _ (w.heap.size + 1) 26 #[.slice A0 B'.length c0, .slice A1 ws'.length c1] (0, 0) _ rfl (set_blk (set_blk H1.out 0 _) 1 _) Tryz.underlying26 rfl (by kernel_rfl)) rfl ?_
        rw [← HDD.out]
        have hok' : ∀ k, doP AB w.heap.size k → k ≠ w.heap.size + 1 := fun k hk => (HNE.out k hk).2
        exact ⟨_, _, rfl, Kd.R_mono (Kd.R_far (p := ⟨w.heap.size + 1, 1, none⟩) (Kd.R_far (p := ⟨w.heap.size + 1, 0, none⟩) HR0.out hok' _) hok' _) (fun _ _ => trivial), Kd.R_mono (Kd.R_far (p := ⟨w.heap.size + 1, 1, none⟩) (Kd.R_far (p := ⟨w.heap.size + 1, 0, none⟩) HR1.out hok' _) hok' _) (fun _ _ => trivial), (HBW.out.setCell (p := ⟨w.heap.size + 1, 0, none⟩) (Nat.le_trans HB0.out.size (Nat.le_succ _)) _).setCell (p := ⟨w.heap.size + 1, 1, none⟩) (Nat.le_trans HB0.out.size (Nat.le_succ _)) _, (HKP.out.setCell (p := ⟨w.heap.size + 1, 0, none⟩) (.inr (Nat.le_succ _)) _).setCell (p := ⟨w.heap.size + 1, 1, none⟩) (.inr (Nat.le_succ _)) _⟩
end Go.Proofs.YtfolgjigfdbnoaaGreat.M
