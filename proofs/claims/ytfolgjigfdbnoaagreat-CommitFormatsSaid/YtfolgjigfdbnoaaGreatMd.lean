/-
  Contracts of slot.Right, slot.Print and slot.Book, where all is in range.
-/
import Derived.Test.YtfolgjigfdbnoaaGreatMc
import Derived.WalkSpells
import Derived.Lib.SlBytesConst
import Derived.LoopN
import Derived.Lib.SlBytesConst
import Derived.LoopN
namespace Go.Proofs.YtfolgjigfdbnoaaGreat.M
open Go.RowKit Go.Proofs.YtfolgjigfdbnoaaGreatW.PrintWords Go.Proofs.YtfolgjigfdbnoaaGreatW.PrintLast Go.Proofs.YtfolgjigfdbnoaaGreatW.PrintMore
open PCommitFormats
set_option linter.unusedVariables false
set_option linter.unusedSimpArgs false

def superL (g s m : Int) : List Int := ((([97, 115] ++ putL 4 g) ++ putL 4 s) ++ putL 4 m)
theorem superL_bytes (g s m : Int) : Bytes (superL g s m) := by
  refine Bytes.append (Bytes.append (Bytes.append ?_ (putL_bytes _ _)) (putL_bytes _ _)) (putL_bytes _ _)
  intro x hx
  simp at hx
  omega
def superB (g s m : Int) : ByteArray := sealB (superL g s m)

theorem below_of_grown {w w' : World} (h : w.grownBy w' none) : Below w.heap.size w w' := ⟨h.os, h.tape, h.output, h.size, fun i hi => h.block i hi (by simp)⟩

set_option maxRecDepth 100000 in
theorem right_calls (g s m : Int) (w : World) (h0 : 1 ≤ g) (h1 : g ≤ 2147483647) (h2 : 0 ≤ s) (h3 : s ≤ 2147483647) (h4 : 0 ≤ m) (h5 : m ≤ 4294967295) :
    Calls Tryz.prog 79 #[.agg #[.int .i64 g, .int .i64 s, .int .i64 m]] w fun e w' => e = .returned (.bool true) ∧ Below w.heap.size w w' := by
  have HC := fun W => put4_calls m h4 h5 W
  go_enter Tryz.func79, Tryz.ntmps79
  go_wp2_with fail
  refine (HC _).mono ?_
  rintro e w1 ⟨v1, rfl, ho, hb⟩
  obtain ⟨g1, c1, rfl, _, _, _⟩ := Kd.R_form ho (by rw [putL_length]; omega)
  have HB := Aside0.mk hb
  clear ho hb HC
  have hne := fun W => run_neq_slice_nil_any (P := Tryz.prog) W 83 5 (some ⟨g1, 0, none⟩) (putL 4 m).length c1 0 0 Tryz.underlying83
  go_wp2
  go_ret
  exact ⟨rfl, ((Below.refl w.heap.size w).alloc (Nat.le_refl _) _).trans (HB.out.mono (by simp))⟩

set_option maxRecDepth 100000 in
set_option maxHeartbeats 1000000 in
theorem print_calls (g s m : Int) (w : World) (h0 : 1 ≤ g) (h1 : g ≤ 2147483647) (h2 : 0 ≤ s) (h3 : s ≤ 2147483647) (h4 : 0 ≤ m) (h5 : m ≤ 4294967295) :
    Calls Tryz.prog 47 #[.agg #[.int .i64 g, .int .i64 s, .int .i64 m]] w fun e w' => e = .returned (.tuple #[.string (superB g s m), .int .i64 0]) ∧ Below w.heap.size w w' := by
  go_enter Tryz.func47, Tryz.ntmps47
  go_wp2_with fail
  refine (right_calls g s m _ h0 h1 h2 h3 h4 h5).mono ?_
  rintro e w1 ⟨rfl, hb⟩
  have BK := blk_below (blk_new w (.cells #[.int .i64 g, .int .i64 s, .int .i64 m] 107)) hb
  have HB := Aside0.mk (below_step (below_alloc (Below.refl _ _) _) hb)
  clear hb
  have hc0 := blk_cell BK 0
  have hc1 := blk_cell BK 1
  have hc2 := blk_cell BK 2
  simp at hc0 hc1 hc2
  clear BK
  have kc := fun (w : World) (C : Array Value) (n c : Nat) => Lib.run_convert_bytes_const (P := Tryz.prog) w 83 5 C n c Tryz.underlying83 Tryz.underlying5
  have hd0 := Lib.cell?_alloc_marked (.cells #[.int .u8 97, .int .u8 115] 5 (2, 3)) hc0
  have hd1 := Lib.cell?_alloc_marked (.cells #[.int .u8 97, .int .u8 115] 5 (2, 3)) hc1
  have hd2 := Lib.cell?_alloc_marked (.cells #[.int .u8 97, .int .u8 115] 5 (2, 3)) hc2
  have HB2 := Aside0.mk (below_alloc HB.out (.cells #[.int .u8 97, .int .u8 115] 5 (2, 3)))
  have HN := Aside0.mk (blk_new w1 (.cells #[.int .u8 97, .int .u8 115] 5 (2, 3)))
  clear hc0 hc1 hc2 HB
  go_wp2
  clear hd0 hd1 hd2 kc
  generalize (w1.alloc (.cells #[.int .u8 97, .int .u8 115] 5 (2, 3))) = w2 at *
  have i0 : ∀ w, (Instr.index 149 (.agg #[.int .i64 g, .int .i64 s, .int .i64 m]) (.int .i64 0)).run Tryz.prog w = .ok (.int .i64 g) w := fun _ => by kernel_rfl
  have i1 : ∀ w, (Instr.index 149 (.agg #[.int .i64 g, .int .i64 s, .int .i64 m]) (.int .i64 1)).run Tryz.prog w = .ok (.int .i64 s) w := fun _ => by kernel_rfl
  have i2 : ∀ w, (Instr.index 149 (.agg #[.int .i64 g, .int .i64 s, .int .i64 m]) (.int .i64 2)).run Tryz.prog w = .ok (.int .i64 m) w := fun _ => by kernel_rfl
  refine wp_loop_rounds 4 ?_
  rw [rounds_succ]
  go_wp2_with fail
  refine (put4_calls g (by omega) (by omega) _).mono ?_
  rintro e w3 ⟨v3, rfl, ho3, hb3⟩
  obtain ⟨g3, c3, rfl, _, _, _⟩ := Kd.R_form ho3 (by rw [putL_length]; omega)
  have HO3 := Aside0.mk ((Kd.own_of_R ho3).cells (g := g3) rfl)
  have HN3 := Aside0.mk (blk_below HN.out hb3)
  have HB3 := Aside0.mk (below_step HB2.out hb3)
  clear ho3 hb3 HN HB2
  rw [putL_length]
  obtain ⟨i5, hi5, hzz⟩ := Option.map_eq_some_iff.1 info5
  simp only [Prod.mk.injEq] at hzz
  obtain ⟨hz0, hz1, hz2⟩ := hzz
  have HI := Aside0.mk (And.intro hi5 (And.intro hz0 (And.intro hz1 hz2)))
  clear hi5 hz0 hz1 hz2
  go_wp2_with (first | ((with_reducible refine gate_builtin (b := .append) (xs := #[.tmp 22, .tmp 24]) rfl ?_); go_must (refine wpList_append_grows w3 rfl (.tmp 22) (.tmp 24) 83 rfl 5 i5 (.int .u8 0) 1 1 Tryz.underlying83 HI.out.1 HI.out.2.1 HI.out.2.2.1 HI.out.2.2.2 rfl (by omega) (some ⟨w1.heap.size, 0, none⟩) 2 2 [.int .u8 97, .int .u8 115] rfl (fun h => nomatch h) rfl ?aO ⟨g3, 0, none⟩ 4 c3 (encs (Value.int .u8) (putL 4 g)) rfl ?aN ?aC ?a1 (by omega) (by decide) (by omega) ?_); (case aO => go_must (rintro _ ⟨⟩ j u hj; rw [add_plain, cell_of_row _ _ _ _ _ _ HN3.out]; simpa using hj)); (case aN => go_must (simp [encs, putL_length])); (case aC => go_must (exact HO3.out)); (case a1 => go_must (intro u hu; obtain ⟨x, _, rfl⟩ := List.mem_map.1 hu; rfl)); intro v4 w4 ho4 hg4; have HO4 := Aside0.mk (Kd.R_lower (Kd.R_of_own (enc := Value.int .u8) (h1 := fun _ => rfl) (e := 5) (ok := fun _ => True) (xs := [97, 115] ++ putL 4 g) (by simpa [encs, putL_length] using ho4) (fun _ _ => trivial)) HB3.out.size); have HB4 := Aside0.mk (below_then HB3.out HB3.out.size (below_of_grown hg4)); have HZ4 := Aside0.mk HB3.out.size; clear ho4 hg4 HB3 HN3 HO3 HI))
  rw [rounds_succ]
  go_wp2_with fail
  refine (put4_calls s (by omega) (by omega) _).mono ?_
  rintro e w5 ⟨v5, rfl, ho5, hb5⟩
  obtain ⟨A5, c5, rfl⟩ := Kd.R_slice ho5
  have HO5 := Aside0.mk (R_C ho5)
  have HP5 := Aside0.mk (Kd.R_below HO4.out hb5)
  have HB5 := Aside0.mk (below_step HB4.out hb5)
  clear ho5 hb5 HO4 HB4
  rw [putL_length] at HO5 ⊢
  go_wp2_with (first | ((with_reducible refine gate_builtin (b := .append) (xs := #[.tmp 22, .tmp 24]) rfl ?_); go_must (refine Kd.R_append_row (Value.int .u8) (0 : Int) (h1 := fun _ => rfl) (w0 := w) w.heap.size rfl (.tmp 22) (.tmp 24) 83 5 (.int .u8 0) 1 rfl Tryz.underlying83 info5 rfl (by omega) v4 ([97, 115] ++ putL 4 g) (putL 4 s) A5 4 c5 (fun _ => True) rfl rfl (fun _ _ => trivial) HP5.out HO5.out HB5.out HB5.out.size (by simp [putL_length]) ?_); intro v6 w6 ho6 hb6 hg6 hat6; have HO6 := Aside0.mk ho6; have HB6 := Aside0.mk hb6; clear hb6 hg6 hat6 ho6))
  rw [rounds_succ]
  go_wp2_with fail
  refine (put4_calls m (by omega) (by omega) _).mono ?_
  rintro e w7 ⟨v7, rfl, ho7, hb7⟩
  obtain ⟨A7, c7, rfl⟩ := Kd.R_slice ho7
  have HO7 := Aside0.mk (R_C ho7)
  have HP7 := Aside0.mk (Kd.R_below HO6.out hb7)
  have HB7 := Aside0.mk (below_step HB6.out hb7)
  clear ho7 hb7 HO6 HB6
  rw [putL_length] at HO7 ⊢
  go_wp2_with (first | ((with_reducible refine gate_builtin (b := .append) (xs := #[.tmp 22, .tmp 24]) rfl ?_); go_must (refine Kd.R_append_row (Value.int .u8) (0 : Int) (h1 := fun _ => rfl) (w0 := w) w.heap.size rfl (.tmp 22) (.tmp 24) 83 5 (.int .u8 0) 1 rfl Tryz.underlying83 info5 rfl (by omega) v6 (([97, 115] ++ putL 4 g) ++ putL 4 s) (putL 4 m) A7 4 c7 (fun _ => True) rfl rfl (fun _ _ => trivial) HP7.out HO7.out HB7.out HB7.out.size (by simp [putL_length]) ?_); intro v8 w8 ho8 hb8 hg8 hat8; have HO8 := Aside0.mk ho8; have HB8 := Aside0.mk hb8; clear hb8 hg8 hat8 ho8))
  rw [rounds_succ]
  obtain ⟨A8, c8, rfl⟩ := Kd.R_slice HO8.out
  have HC8 := Aside0.mk (R_C HO8.out)
  have HV8 := Aside0.mk (superL_bytes g s m)
  go_wp2_with fail
  refine (seal_calls _ _ (superL g s m) _ HC8.out HV8.out (by simp [superL, putL_length])).mono ?_
  rintro e w9 ⟨rfl, hb9⟩
  have HB9 := Aside0.mk (below_step HB8.out hb9)
  clear hb9
  go_wp2
  go_ret2
  exact ⟨rfl, HB9.out⟩

theorem book_calls (A0 : Option Addr) (n c0 : Nat) (l0 : List Int) (w : World) (hr0 : Kd.C (Kd.int .u8) w A0 n l0) (hb : Bytes l0) (hlen : l0.length ≤ 1000000) :
    Calls Tryz.prog 46 #[.slice A0 n c0] w fun e w' => e = .returned (.tuple #[.int .i64 l0.length, .int .i64 (crc l0)]) ∧ Drawn0 w w' := by
  have HN := Aside0.mk (Kd.C_len hr0)
  have HS := fun W (h : Drawn0 w W) => sumN_calls A0 n c0 l0 W (Kd.C_below hr0 h.below) hb hlen
  clear hr0 hb
  go_enter Tryz.func46, Tryz.ntmps46
  go_wp2_with fail
  refine (HS _ (Drawn0.refl _)).mono ?_
  rintro e w1 ⟨rfl, ⟨nd, rfl⟩⟩
  clear HS
  go_wp2
  go_ret2
  exact ⟨by rw [HN.out]; rfl, ⟨nd, rfl⟩⟩
end Go.Proofs.YtfolgjigfdbnoaaGreat.M
