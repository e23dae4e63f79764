/-
  Contracts of todo.Print of no tasks and of book.Print of a blank state.
-/
import Derived.Test.YtfolgjigfdbnoaaGreatMe
namespace Go.Proofs.YtfolgjigfdbnoaaGreat.M
open Go.RowKit Go.Proofs.YtfolgjigfdbnoaaGreatW.PrintWords Go.Proofs.YtfolgjigfdbnoaaGreatW.PrintLast Go.Proofs.YtfolgjigfdbnoaaGreatW.PrintMore
open PCommitFormats
set_option linter.unusedVariables false
set_option linter.unusedSimpArgs false

theorem r_new (W : World) (base : Nat) (hb : base ≤ W.heap.size) (xs : List Int) (k : IntKind) (e : Nat) (hl : xs.length ≤ 1000000) :
    Kd.R (Kd.int k) e (W.alloc (.cells (encs (Value.int k) xs).toArray e)) base (fun _ => True) (.slice (some ⟨W.heap.size, 0, none⟩) xs.length xs.length) xs := by
  refine Kd.R_of_own (enc := Value.int k) (h1 := fun _ => rfl) ?_ (fun _ _ => trivial)
  have h2 := World.ownsRow_lit (base := base) (e := e) (size := 1) W (encs (Value.int k) xs).toArray xs.length hb (by simp only [maxLen]; omega) (by simp [encs])
  simpa using h2
theorem c_rows (W : World) (ls : List (List Int)) (vs : List Value) (hl : vs.length = ls.length) (hn : ls.length ≤ 1000)
    (h : ∀ (j : Nat) (l : List Int) (v : Value), ls[j]? = some l → vs[j]? = some v → ∃ A c, v = .slice A l.length c ∧ l.length ≤ c ∧ Kd.C (Kd.int .u8) W A l.length l) :
    Kd.C (Kd.slice 5 (Kd.int .u8)) (W.alloc (.cells vs.toArray 83)) (some ⟨W.heap.size, 0, none⟩) ls.length ls := by
  refine ⟨rfl, by omega, fun _ => ⟨_, rfl, fun j p hj => ?_⟩⟩
  have hjl : j < ls.length := (List.getElem?_eq_some_iff.1 hj).1
  have hv : vs[j]? = some vs[j] := List.getElem?_eq_getElem (by omega)
  obtain ⟨A, c, he, hc, hC⟩ := h j p _ hj hv
  refine ⟨[vs[j]], rfl, ⟨A, c, by rw [he], hc, Kd.C_alloc hC _⟩, fun i u hi => ?_⟩
  have hi0 : i = 0 := by
    have := (List.getElem?_eq_some_iff.1 hi).1
    simp at this
    omega
  subst hi0
  have hu : vs[j] = u := by simpa using hi
  rw [add_plain, blk_cell (blk_new W (.cells vs.toArray 83)), show j * (Kd.slice 5 (Kd.int .u8)).sz + 0 = j from by show j * 1 + 0 = j; omega]
  simp [hv, hu]

theorem c_rows4 (W : World) (l0 l1 l2 l3 : List Int) (A0 A1 A2 A3 : Option Addr) (c0 c1 c2 c3 : Nat) (h0 : l0.length ≤ c0 ∧ Kd.C (Kd.int .u8) W A0 l0.length l0) (h1 : l1.length ≤ c1 ∧ Kd.C (Kd.int .u8) W A1 l1.length l1) (h2 : l2.length ≤ c2 ∧ Kd.C (Kd.int .u8) W A2 l2.length l2) (h3 : l3.length ≤ c3 ∧ Kd.C (Kd.int .u8) W A3 l3.length l3) :
    Kd.C (Kd.slice 5 (Kd.int .u8)) (W.alloc (.cells #[.slice A0 l0.length c0, .slice A1 l1.length c1, .slice A2 l2.length c2, .slice A3 l3.length c3] 83)) (some ⟨W.heap.size, 0, none⟩) 4 [l0, l1, l2, l3] := by
  refine c_rows W [l0, l1, l2, l3] [.slice A0 l0.length c0, .slice A1 l1.length c1, .slice A2 l2.length c2, .slice A3 l3.length c3] rfl (by simp) ?_
  intro j l v hj hv
  rcases j with _ | _ | _ | _ | j
  · simp at hj hv
    subst hj hv
    exact ⟨_, _, rfl, h0⟩
  · simp at hj hv
    subst hj hv
    exact ⟨_, _, rfl, h1⟩
  · simp at hj hv
    subst hj hv
    exact ⟨_, _, rfl, h2⟩
  · simp at hj hv
    subst hj hv
    exact ⟨_, _, rfl, h3⟩
  · simp at hj

theorem todo_calls (w : World) :
    Calls Tryz.prog 71 #[.slice none 0 0] w fun e w' => ∃ v, e = .returned v ∧ Kd.R (Kd.int .u8) 5 w' w.heap.size (fun _ => True) v (putL 2 0) ∧ Below w.heap.size w w' := by
  go_enter Tryz.func71, Tryz.ntmps71
  go_wp2_with fail
  refine (put2_calls 0 (by omega) (by omega) _).mono ?_
  rintro e w1 ⟨v1, rfl, ho1, hb1⟩
  have HB1 := Aside0.mk hb1
  have HO1 := Aside0.mk ho1
  clear ho1 hb1
  go_wp2
  refine wp_loop_rounds 1 ?_
  rw [rounds_succ]
  go_wp2
  go_ret
  exact ⟨_, rfl, HO1.out, HB1.out⟩

/-- A state without anything in it. -/
abbrev stV (A : Option Addr) (n c : Nat) (keep next gen : Int) : Value := .agg #[.slice A n c, .int .i64 keep, .slice none 0 0, .slice none 0 0, .int .i64 next, .int .i64 gen]
def blank (n : Nat) : List S75 := List.replicate n z75
theorem rd_blank {n : Nat} {i : Int} (h0 : 0 ≤ i) (h1 : i < n) : rd_T75 (blank n) i = z75 := by
  have h : i.toNat < n := by omega
  simp [rd_T75, blank, List.getElem?_replicate, h]
def bookHead (n : Nat) (keep next : Int) : List Int := [putL 4 next ++ [0], putL 2 0, putL 2 keep, putL 2 n].flatten
theorem bookHead_length (n : Nat) (keep next : Int) : (bookHead n keep next).length = 11 := by simp [bookHead, putL_length]
theorem zeros_step (l : List Int) {i : Int} (h0 : 0 ≤ i) : (l ++ List.replicate (2 * i.toNat) 0) ++ putL 2 0 = l ++ List.replicate (2 * (i + 1).toNat) 0 := by
  rw [List.append_assoc, show putL 2 0 = List.replicate 2 0 from rfl, List.replicate_append_replicate, show 2 * (i + 1).toNat = 2 * i.toNat + 2 from by omega]
def bookL (n : Nat) (keep next : Int) : List Int := bookHead n keep next ++ List.replicate (2 * n) 0

set_option maxHeartbeats 4000000 in
set_option maxRecDepth 100000 in
theorem bookPrint_calls (A : Option Addr) (n c : Nat) (keep next gen : Int) (w : World) (hr : Kd.C k75 w A n (blank n)) (hn : n ≤ 2000) (hk0 : 0 ≤ keep) (hk1 : keep ≤ 65535) (hx0 : 0 ≤ next) (hx1 : next ≤ 4294967295) :
    Calls Tryz.prog 43 #[stV A n c keep next gen] w fun e w' => ∃ v, e = .returned (.tuple #[v, .int .i64 0]) ∧ Kd.R (Kd.int .u8) 5 w' w.heap.size (fun _ => True) v (bookL n keep next) ∧ Below w.heap.size w w' := by
  have HR := Aside0.mk hr
  clear hr
  go_enter Tryz.func43, Tryz.ntmps43
  have BK := blk_new w (.cells #[.slice A n c, .int .i64 keep, .slice none 0 0, .slice none 0 0, .int .i64 next, .int .i64 gen] 33)
  have HB0 := Aside0.mk (below_alloc (Below.refl w.heap.size w) (.cells #[.slice A n c, .int .i64 keep, .slice none 0 0, .slice none 0 0, .int .i64 next, .int .i64 gen] 33))
  have hc2 : (w.alloc (.cells #[.slice A n c, .int .i64 keep, .slice none 0 0, .slice none 0 0, .int .i64 next, .int .i64 gen] 33)).cell? ⟨w.heap.size, 2, none⟩ = some (.slice none 0 0) := (blk_cell BK 2).trans rfl
  have hc4 : (w.alloc (.cells #[.slice A n c, .int .i64 keep, .slice none 0 0, .slice none 0 0, .int .i64 next, .int .i64 gen] 33)).cell? ⟨w.heap.size, 4, none⟩ = some (.int .i64 next) := (blk_cell BK 4).trans rfl
  have HBK := Aside0.mk BK
  clear BK
  go_upto_region 1 with (fail)
  go_cut [4] (fun v4 wc => Aside0 (Kd.R (Kd.int .u8) 5 wc w.heap.size (fun _ => True) v4 (putL 4 next ++ [0])) ∧ Aside0 (Below w.heap.size w wc) ∧ Aside0 (wc.heap[w.heap.size]? = some (.cells #[.slice A n c, .int .i64 keep, .slice none 0 0, .slice none 0 0, .int .i64 next, .int .i64 gen] 33)))
  case first =>
    generalize (w.alloc (.cells #[.slice A n c, .int .i64 keep, .slice none 0 0, .slice none 0 0, .int .i64 next, .int .i64 gen] 33)) = W0 at *
    have hlt : w.heap.size < W0.heap.size := blk_lt HBK.out
    have hK : ∀ W', Below W0.heap.size W0 W' → W'.cell? ⟨w.heap.size, 2, none⟩ = some (.slice none 0 0) ∧ W'.cell? ⟨w.heap.size, 4, none⟩ = some (.int .i64 next) := fun W' hb => ⟨(hb.cell (p := ⟨w.heap.size, 2, none⟩) hlt).trans hc2, (hb.cell (p := ⟨w.heap.size, 4, none⟩) hlt).trans hc4⟩
    have HKK := Aside0.mk hK
    clear hK
    have hN : Kd.C (Kd.int .u8) (W0.alloc (.cells #[.int .u8 (IntKind.u8.wrap 0)] 5)) (some ⟨W0.heap.size, 0, none⟩) 1 [0] := R_C (r_new W0 W0.heap.size (Nat.le_refl _) [0] .u8 5 (by decide))
    have HN := Aside0.mk hN
    clear hN
    go_region_held3 (fun w' => w'.cell? ⟨w.heap.size, 2, none⟩ = some (.slice none 0 0) ∧ w'.cell? ⟨w.heap.size, 4, none⟩ = some (.int .i64 next))
      (first | exact ⟨hc2, hc4⟩ | exact HKK.out _ HX.out | exact HKK.out _ HY.out | exact HKK.out _ HZ.out | go_keep)
      (first | (go_at_call 69; refine (put4_calls next hx0 hx1 _).mono ?_; rintro e w1 ⟨v1, rfl, ho1, hb1⟩; have HX := Aside0.mk (below_step (below_drew (Below.refl W0.heap.size W0)) hb1); have HO1 := Aside0.mk ho1; clear ho1 hb1; have tokA : True := trivial) | (go_at_call 69; refine (put4_calls next hx0 hx1 _).mono ?_; rintro e w1 ⟨v1, rfl, ho1, hb1⟩; (have HZ := Aside0.mk (below_step (below_drew (below_alloc (Below.refl W0.heap.size W0) _)) hb1)); (have HM := Aside0.mk (Kd.C_below (Kd.C_drew HN.out) hb1)); (have HO1 := Aside0.mk (Kd.R_lower ho1 (below_size (below_drew (below_alloc (Below.refl W0.heap.size W0) _))))); clear ho1 hb1; have tokB : True := trivial) | (clear tokA; refine Kd.R_append_step (Kd.int .u8) (w0 := W0) W0.heap.size (by rfl) (.tmp 11) (.tmp 16) 83 5 (.int .u8 0) 1 (by rfl) Tryz.underlying83 info5 rfl (by decide) (by omega) v1 (putL 4 next) 0 [.int .u8 0] (fun _ => True) (fun _ => False) (by rfl) (by rfl) rfl (fun _ hk => hk.elim) (fun _ _ => trivial) HO1.out HX.out HX.out.size (by rw [putL_length]; omega) ?_; intro v2 w2 ho2 hb2 hg2 hat2; have HY := Aside0.mk hb2; have HO2 := Aside0.mk ho2; clear ho2 hb2 hg2 hat2) | (clear tokB; refine Kd.R_append_rows_step (Kd.int .u8) (Rr := (Kd.int .u8).K w1) (w0 := W0) W0.heap.size (by rfl) (.tmp 11) (.tmp 16) 83 5 (.int .u8 0) 1 (by rfl) Tryz.underlying83 info5 rfl (by decide) (by omega) v1 (putL 4 next) [0] _ 1 1 (fun _ => True) (fun _ => False) (by rfl) (by rfl) HO1.out HM.out (fun _ _ h => h) (fun _ hk => hk.elim) (fun _ _ => trivial) HZ.out HZ.out.size (by rw [putL_length]; omega) ?_; intro v2 w2 ho2 hb2 hg2 hat2; have HY := Aside0.mk hb2; have HO2 := Aside0.mk ho2; clear ho2 hb2 hg2 hat2))
    all_goals
      go_wp2
      go_meet
      case rel => exact ⟨⟨Kd.R_lower HO2.out HB0.out.size⟩, ⟨below_then HB0.out HB0.out.size HY.out⟩, ⟨(HY.out.block _ hlt).trans HBK.out⟩⟩
  case rest =>
    clear hc2 hc4 HBK HB0
    obtain ⟨HO, HB, HBK⟩ := hcut
    have hc2 : wc.cell? ⟨w.heap.size, 2, none⟩ = some (.slice none 0 0) := (blk_cell HBK.out 2).trans rfl
    go_wp2
    refine wp_loop_rounds 1 ?_
    rw [rounds_succ]
    go_wp2_with fail
    clear hc2
    have hc0 : wc.cell? ⟨w.heap.size, 0, none⟩ = some (.slice A n c) := (blk_cell HBK.out 0).trans rfl
    have hc1 : wc.cell? ⟨w.heap.size, 1, none⟩ = some (.int .i64 keep) := (blk_cell HBK.out 1).trans rfl
    have hc3 : wc.cell? ⟨w.heap.size, 3, none⟩ = some (.slice none 0 0) := (blk_cell HBK.out 3).trans rfl
    have hlt := blk_lt HBK.out
    have hK : ∀ W', Below wc.heap.size wc W' → W'.cell? ⟨w.heap.size, 0, none⟩ = some (.slice A n c) ∧ W'.cell? ⟨w.heap.size, 1, none⟩ = some (.int .i64 keep) ∧ W'.cell? ⟨w.heap.size, 3, none⟩ = some (.slice none 0 0) := fun W' hb => ⟨(hb.cell (p := ⟨w.heap.size, 0, none⟩) hlt).trans hc0, (hb.cell (p := ⟨w.heap.size, 1, none⟩) hlt).trans hc1, (hb.cell (p := ⟨w.heap.size, 3, none⟩) hlt).trans hc3⟩
    have HKK := Aside0.mk hK
    clear hK
    obtain ⟨A4, c4, rfl⟩ := Kd.R_slice HO.out
    have HO0 := Aside0.mk (Kd.R_reads' HO.out).2
    go_upto_region 7 with (fail)
    go_cut [4] (fun v4 wd => Aside0 (Kd.R (Kd.int .u8) 5 wd w.heap.size (fun _ => True) v4 (bookHead n keep next)) ∧ Aside0 (Below w.heap.size w wd) ∧ Aside0 (wd.heap[w.heap.size]? = some (.cells #[.slice A n c, .int .i64 keep, .slice none 0 0, .slice none 0 0, .int .i64 next, .int .i64 gen] 33)))
    case first =>
      go_region_held3 (fun w' => w'.cell? ⟨w.heap.size, 0, none⟩ = some (.slice A n c) ∧ w'.cell? ⟨w.heap.size, 1, none⟩ = some (.int .i64 keep) ∧ w'.cell? ⟨w.heap.size, 3, none⟩ = some (.slice none 0 0))
        (first | exact ⟨hc0, hc1, hc3⟩ | exact HKK.out _ HX4.out | exact HKK.out _ (below_alloc HX3.out _) | exact HKK.out _ HX3.out | exact HKK.out _ HX2.out | exact HKK.out _ HX1.out | go_keep)
        (first | (go_at_call 71; refine (todo_calls _).mono ?_; rintro e w1 ⟨v1, rfl, ho1, hb1⟩; obtain ⟨A1, c1, rfl⟩ := Kd.R_slice ho1; have HX1 := Aside0.mk (below_step (below_drew (Below.refl wc.heap.size wc)) hb1); have HO1 := Aside0.mk ho1; clear ho1 hb1; have tok1 : True := trivial) | (clear tok1; go_at_call 69; refine (put2_calls keep hk0 hk1 _).mono ?_; rintro e w2 ⟨v2, rfl, ho2, hb2⟩; obtain ⟨A2, c2, rfl⟩ := Kd.R_slice ho2; have HX2 := Aside0.mk (below_step HX1.out hb2); have HO1b := Aside0.mk (Kd.R_below HO1.out hb2); have HO2 := Aside0.mk ho2; clear ho2 hb2; have tok2 : True := trivial) | (clear tok2; go_at_call 69; refine (put2_calls n (by omega) (by omega) _).mono ?_; rintro e w3 ⟨v3, rfl, ho3, hb3⟩; obtain ⟨A3, c3, rfl⟩ := Kd.R_slice ho3; have HX3 := Aside0.mk (below_step HX2.out hb3); have HO1c := Aside0.mk (Kd.R_below HO1b.out hb3); have HO2b := Aside0.mk (Kd.R_below HO2.out hb3); have HC4 := Aside0.mk (c_rows4 w3 (putL 4 next ++ [0]) (putL 2 0) (putL 2 keep) (putL 2 n) A4 A1 A2 A3 c4 c1 c2 c3 ⟨HO0.out.1, Kd.C_below HO0.out.2 HX3.out⟩ (Kd.R_reads' HO1c.out).2 (Kd.R_reads' HO2b.out).2 (Kd.R_reads' ho3).2); clear ho3 hb3; have tok3 : True := trivial) | (clear tok3; go_at_call 70; refine (concat_calls _ _ [putL 4 next ++ [0], putL 2 0, putL 2 keep, putL 2 n] _ HC4.out (by simp) (by simp [putL_length])).mono ?_; rintro e w4 ⟨v4, rfl, ho4, hb4⟩; have HX4 := Aside0.mk (below_step (below_alloc HX3.out _) hb4); have HO4 := Aside0.mk ho4; clear ho4 hb4))
      go_wp2
      go_meet
      case rel => exact ⟨⟨Kd.R_lower HO4.out (Nat.le_trans HB.out.size (Nat.le_trans HX3.out.size (by simp)))⟩, ⟨below_then HB.out HB.out.size HX4.out⟩, ⟨(HX4.out.block _ hlt).trans HBK.out⟩⟩
    case rest =>
      clear hc0 hc1 hc3 HKK HO HO0 HB HBK hlt
      obtain ⟨HO, HB, HBK⟩ := hcut
      have hc0 : wc.cell? ⟨w.heap.size, 0, none⟩ = some (.slice A n c) := (blk_cell HBK.out 0).trans rfl
      go_wp2
      clear hc0
      go_loopg [4, 55] (n + 1) (fun kq v4 v55 w' => ∃ (i : Int), v55 = .int .i64 i ∧ 0 ≤ i ∧ i ≤ n ∧ Aside0 (n - i < kq) ∧ Aside0 (Kd.R (Kd.int .u8) 5 w' w.heap.size (fun _ => True) v4 (bookHead n keep next ++ List.replicate (2 * i.toNat) 0)) ∧ Aside0 (Below w.heap.size w w'))
      case atStart => exact ⟨0, rfl, by omega, by omega, ⟨by omega⟩, ⟨by simpa using HO.out⟩, HB⟩
      case round =>
        clear HO HB HBK
        obtain ⟨i, rfl, h0i, hi, HK, HO, HB⟩ := hrel
        cases gk with
        | zero => exact absurd HK.out (by omega)
        | succ k3 =>
          by_cases c2 : i < n
          · obtain ⟨ad, A3, c3, e, hx0, hx1, hx2, hx3, _, _⟩ := at_T75 (Kd.C_below HR.out HB.out) i h0i c2
            cases e
            rw [rd_blank h0i c2] at hx0 hx1 hx2 hx3
            simp only [z75, z73, List.length_nil] at hx0 hx1 hx2 hx3
            have hlt := HB.out.size
            go_wp2_with fail
            refine (put2_calls 0 (by omega) (by omega) _).mono ?_
            rintro e w5 ⟨v5, rfl, ho5, hb5⟩
            obtain ⟨A5, c5, rfl⟩ := Kd.R_slice ho5
            have HO5 := Aside0.mk (R_C ho5)
            have HP5 := Aside0.mk (Kd.R_below (Kd.R_alloc HO.out _) hb5)
            have HB5 := Aside0.mk (below_step (below_alloc HB.out _) hb5)
            clear ho5 hb5 HO HB hx0 hx1 hx2 hx3 hlt
            rw [putL_length] at HO5 ⊢
            go_wp2_with (first | ((with_reducible refine gate_builtin (b := .append) (xs := #[.tmp 62, .tmp 65]) rfl ?_); go_must (refine Kd.R_append_row (Value.int .u8) (0 : Int) (h1 := fun _ => rfl) (w0 := w) w.heap.size rfl (.tmp 62) (.tmp 65) 83 5 (.int .u8 0) 1 rfl Tryz.underlying83 info5 rfl (by omega) u4 (bookHead n keep next ++ List.replicate (2 * i.toNat) 0) (putL 2 0) A5 2 c5 (fun _ => True) rfl rfl (fun _ _ => trivial) HP5.out HO5.out HB5.out HB5.out.size (by rw [List.length_append, bookHead_length, List.length_replicate]; omega) ?_); intro v6 w6 ho6 hb6 hg6 hat6; rw [zeros_step _ h0i] at ho6; have HO6 := Aside0.mk ho6; have HB6 := Aside0.mk hb6; clear hb6 hg6 hat6 ho6))
            go_roundg k3
            case rel => exact ⟨i + 1, rfl, by omega, by omega, ⟨by have := HK.out; omega⟩, HO6, HB6⟩
            case measure => omega
          · have hil : i.toNat = n := by omega
            have HO' : Aside0 (Kd.R (Kd.int .u8) 5 wr w.heap.size (fun _ => True) u4 (bookL n keep next)) := ⟨by
              have h := HO.out
              rw [hil] at h
              exact h⟩
            clear HO hil
            go_wp2
            go_ret2
            exact ⟨_, rfl, HO'.out, HB.out⟩
end Go.Proofs.YtfolgjigfdbnoaaGreat.M
