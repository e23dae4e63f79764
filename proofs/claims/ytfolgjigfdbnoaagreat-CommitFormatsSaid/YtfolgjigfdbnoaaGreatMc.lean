/-
  Contracts of num.Put as a plain list, num.Seal, slot.Right, slot.Print and slot.Book.
-/
import Derived.Test.YtfolgjigfdbnoaaGreatMb
namespace Go.Proofs.YtfolgjigfdbnoaaGreat.M
open Go.RowKit Go.Proofs.YtfolgjigfdbnoaaGreatW.PrintWords Go.Proofs.YtfolgjigfdbnoaaGreatW.PrintLast Go.Proofs.YtfolgjigfdbnoaaGreatW.PrintMore
open PCommitFormats
set_option linter.unusedVariables false
set_option linter.unusedSimpArgs false

/-- A number's bytes, the lowest first. -/
def putL : Nat → Int → List Int
  | 0, _ => []
  | w + 1, n => n % 256 :: putL w (n / 256)
theorem putL_length (w : Nat) : ∀ n, (putL w n).length = w := by
  induction w with
  | zero => intro n; rfl
  | succ w ih => intro n; simp [putL, ih]
theorem putL_bytes (w : Nat) : ∀ n, Bytes (putL w n) := by
  induction w with
  | zero => intro n x hx; simp [putL] at hx
  | succ w ih =>
    intro n x hx
    simp only [putL, List.mem_cons] at hx
    rcases hx with rfl | hx
    · omega
    · exact ih _ x hx
theorem Bytes.append {l m : List Int} (h : Bytes l) (k : Bytes m) : Bytes (l ++ m) := by
  intro x hx
  rcases List.mem_append.1 hx with hx | hx
  · exact h x hx
  · exact k x hx
theorem Bytes.zeros (n : Nat) : Bytes (List.replicate n 0) := by
  intro x hx
  rw [List.eq_of_mem_replicate hx]
  omega
theorem Bytes.take {l : List Int} (h : Bytes l) (n : Nat) : Bytes (l.take n) := fun x hx => h x (List.mem_of_mem_take hx)
theorem Bytes.drop {l : List Int} (h : Bytes l) (n : Nat) : Bytes (l.drop n) := fun x hx => h x (List.mem_of_mem_drop hx)

theorem shr8 (x : Int) (i : Nat) (hi : i ≤ 7) : shr .i64 x (wrap64 (8 * (i : Int))) = x / 2 ^ (8 * i) := by
  have h1 : wrap64 (8 * (i : Int)) = ((8 * i : Nat) : Int) := by unfold wrap64; omega
  rw [h1]
  unfold shr
  rw [Int.toNat_natCast, Nat.min_eq_left (by simp [IntKind.bits]; omega)]

theorem shr_lit (x : Int) : shr .i64 x 0 = x ∧ shr .i64 x 8 = x / 256 ∧ shr .i64 x 16 = x / 65536 ∧ shr .i64 x 24 = x / 16777216 ∧ shr .i64 x 32 = x / 4294967296 := by
  refine ⟨?_, ?_, ?_, ?_, ?_⟩ <;> simp [shr, IntKind.bits]

theorem put4 (n : Int) (h0 : 0 ≤ n) (h1 : n ≤ 4294967295) : num_Put.f 8 n 4 = some (putL 4 n) := by
  obtain ⟨e0, e1, e2, e3, e4⟩ := shr_lit n
  have c1 : ¬ n < 0 := by omega
  have c2 : n / 4294967296 = 0 := by omega
  have d1 : n / 65536 = n / 256 / 256 := by omega
  have d2 : n / 16777216 = n / 256 / 256 / 256 := by omega
  have w0 : wrap64 0 = 0 := wrap64_in (by omega) (by omega)
  have w1 : wrap64 8 = 8 := wrap64_in (by omega) (by omega)
  have w2 : wrap64 16 = 16 := wrap64_in (by omega) (by omega)
  have w3 : wrap64 24 = 24 := wrap64_in (by omega) (by omega)
  have w4 : wrap64 32 = 32 := wrap64_in (by omega) (by omega)
  have v1 : wrap64 1 = 1 := wrap64_in (by omega) (by omega)
  have v2 : wrap64 2 = 2 := wrap64_in (by omega) (by omega)
  have v3 : wrap64 3 = 3 := wrap64_in (by omega) (by omega)
  have v4 : wrap64 4 = 4 := wrap64_in (by omega) (by omega)
  simp [num_Put.f, num_isWide.f, num_Put.j0, num_Put.l0, putL, List.replicate, c1, w0, w1, w2, w3, w4, v1, v2, v3, v4, e0, e1, e2, e3, e4, c2, d1, d2]
theorem put2 (n : Int) (h0 : 0 ≤ n) (h1 : n ≤ 65535) : num_Put.f 8 n 2 = some (putL 2 n) := by
  obtain ⟨e0, e1, e2, e3, e4⟩ := shr_lit n
  have c1 : ¬ n < 0 := by omega
  have c2 : n / 65536 = 0 := by omega
  have w0 : wrap64 0 = 0 := wrap64_in (by omega) (by omega)
  have w1 : wrap64 8 = 8 := wrap64_in (by omega) (by omega)
  have w2 : wrap64 16 = 16 := wrap64_in (by omega) (by omega)
  have v1 : wrap64 1 = 1 := wrap64_in (by omega) (by omega)
  have v2 : wrap64 2 = 2 := wrap64_in (by omega) (by omega)
  simp [num_Put.f, num_isWide.f, num_Put.j0, num_Put.l0, putL, List.replicate, c1, w0, w1, w2, v1, v2, e0, e1, e2, c2]
theorem put1 (n : Int) (h0 : 0 ≤ n) (h1 : n ≤ 255) : num_Put.f 8 n 1 = some (putL 1 n) := by
  obtain ⟨e0, e1, e2, e3, e4⟩ := shr_lit n
  have c1 : ¬ n < 0 := by omega
  have c2 : n / 256 = 0 := by omega
  have w0 : wrap64 0 = 0 := wrap64_in (by omega) (by omega)
  have w1 : wrap64 8 = 8 := wrap64_in (by omega) (by omega)
  have v1 : wrap64 1 = 1 := wrap64_in (by omega) (by omega)
  simp [num_Put.f, num_isWide.f, num_Put.j0, num_Put.l0, putL, List.replicate, c1, w0, w1, v1, e0, e1, c2]

/-- num.Put, where the number fits. -/
theorem put4_calls (n : Int) (h0 : 0 ≤ n) (h1 : n ≤ 4294967295) (w : World) :
    Calls Tryz.prog 69 #[.int .i64 n, .int .i64 4] w fun e w' => ∃ v0_ : Value, e = .returned v0_ ∧ Kd.R (Kd.int .u8) 5 w' w.heap.size (fun _ => True) v0_ (putL 4 n) ∧ Below w.heap.size w w' := num_Put.calls 8 n 4 _ w (put4 n h0 h1)
theorem put2_calls (n : Int) (h0 : 0 ≤ n) (h1 : n ≤ 65535) (w : World) :
    Calls Tryz.prog 69 #[.int .i64 n, .int .i64 2] w fun e w' => ∃ v0_ : Value, e = .returned v0_ ∧ Kd.R (Kd.int .u8) 5 w' w.heap.size (fun _ => True) v0_ (putL 2 n) ∧ Below w.heap.size w w' := num_Put.calls 8 n 2 _ w (put2 n h0 h1)
theorem sumN_calls (A0 : Option Addr) (n c0 : Nat) (l0 : List Int) (w : World) (hr0 : Kd.C (Kd.int .u8) w A0 n l0) (hb : Bytes l0) (hlen : l0.length ≤ 1000000) :
    Calls Tryz.prog 78 #[.slice A0 n c0] w fun e w' => e = .returned (.int .i64 (crc l0)) ∧ Drawn0 w w' := by
  obtain rfl := Kd.C_len hr0
  exact sum_calls A0 c0 l0 w hr0 hb hlen

/-! ### Rows of one's own that are made with a capacity -/
theorem made_u8 (W : World) (m c : Nat) (hm : m ≤ c) (hc : c ≤ 1000000) :
    ∃ Z : Array Value, (Instr.makeSlice 83 (.int .i64 (m : Int)) (.int .i64 (c : Int))).run Tryz.prog W = .ok (.slice (some ⟨W.heap.size, 0, none⟩) m c) (W.alloc (.cells Z 5)) ∧
      Kd.R (Kd.int .u8) 5 (W.alloc (.cells Z 5)) W.heap.size (fun _ => True) (.slice (some ⟨W.heap.size, 0, none⟩) m c) (List.replicate m 0) := by
  obtain ⟨i0, hi, hzz⟩ := Option.map_eq_some_iff.1 info5
  simp only [Prod.mk.injEq] at hzz
  obtain ⟨hz0, hz1, hz2⟩ := hzz
  have hr := run_make (P := Tryz.prog) W 83 5 i0 _ Tryz.underlying83 hi hz0 .i64 .i64 (m : Int) (c : Int) (by omega) (by omega) (by rw [hz2]; omega) (by omega)
  simp only [Int.toNat_natCast] at hr
  rw [hz1, Nat.mul_one] at hr
  refine ⟨_, hr, ?_⟩
  have hcur : (madeCells (Value.int .u8 0).cells c).toList = List.replicate c (Value.int .u8 0) := by
    apply List.ext_getElem?
    intro j
    simp [madeCells, Value.cells, List.getElem?_replicate]
    by_cases hj : j < c <;> simp [hj, Nat.mod_one]
  have hown : (W.alloc (.cells (madeCells (Value.int .u8 0).cells c) 5)).ownsRow W.heap.size 5 1 (.slice (some ⟨W.heap.size, 0, none⟩) m c) (List.replicate m (0 : Int)).length (encs (Value.int .u8) (List.replicate m (0 : Int))) := by
    rw [List.length_replicate]
    refine ⟨by simp [encs], .inr ⟨W.heap.size, c, madeCells (Value.int .u8 0).cells c, rfl, Nat.le_refl _, World.alloc_heap_new W _, hm, by simp only [maxLen]; omega, by simp [size_madeCells], ?_⟩⟩
    rw [hcur, Nat.mul_one, List.take_replicate, Nat.min_eq_left hm]
    simp [encs]
  exact Kd.R_of_own hown (fun _ _ => trivial)

theorem R_C {α : Type} {d : Kd α} {e : Nat} {w : World} {base : Nat} {ok : Nat → Prop} {A : Option Addr} {n c : Nat} {xs : List α} (h : d.R e w base ok (.slice A n c) xs) : d.C w A n xs := by
  have h2 := Kd.R_reads' h
  rw [h2.1]
  exact h2.2.2

theorem size5 : (Tryz.prog.info? 5).map (·.size) = some 1 := by kernel_rfl

def pad36 (l : List Int) : List Int := l ++ List.replicate (36 - l.length) 0
theorem pad36_eq (l : List Int) (h : l.length ≤ 36) : l.take (min l.length (List.replicate 36 (0 : Int)).length) ++ (List.replicate 36 (0 : Int)).drop (min l.length (List.replicate 36 (0 : Int)).length) = pad36 l := by
  rw [List.length_replicate, Nat.min_eq_left h, List.take_length, List.drop_replicate]
  rfl
theorem pad36_bytes (l : List Int) (h : Bytes l) : Bytes (pad36 l) := h.append (Bytes.zeros _)
def sealB (l : List Int) : ByteArray := strOfNums (pad36 l ++ putL 4 (crc (pad36 l)))
theorem crc_bd (l : List Int) : 0 ≤ crc l ∧ crc l ≤ 4294967295 := xr_bd _ _

set_option maxHeartbeats 2000000 in
set_option maxRecDepth 100000 in
theorem seal_calls (A0 : Option Addr) (c0 : Nat) (l0 : List Int) (w : World) (hr0 : Kd.C (Kd.int .u8) w A0 l0.length l0) (hb : Bytes l0) (hlen : l0.length ≤ 36) :
    Calls Tryz.prog 80 #[.slice A0 l0.length c0] w fun e w' => e = .returned (.tuple #[.string (sealB l0), .int .i64 0]) ∧ Below w.heap.size w w' := by
  have HR0 := Aside0.mk hr0
  clear hr0
  have HB0 := Aside0.mk hb
  clear hb
  obtain ⟨Z, hmk, hZ⟩ : ∃ Z : Array Value, (Instr.makeSlice 83 (.int .i64 36) (.int .i64 40)).run Tryz.prog w = .ok (.slice (some ⟨w.heap.size, 0, none⟩) 36 40) (w.alloc (.cells Z 5)) ∧
      Kd.R (Kd.int .u8) 5 (w.alloc (.cells Z 5)) w.heap.size (fun _ => True) (.slice (some ⟨w.heap.size, 0, none⟩) 36 40) (List.replicate 36 0) := made_u8 w 36 40 (by omega) (by omega)
  have HZ := Aside0.mk hZ
  clear hZ
  go_enter Tryz.func80, Tryz.ntmps80
  go_wp2_with (first | ((with_reducible refine gate_builtin (b := .copy) (xs := #[.tmp 9, .tmp 10]) rfl ?_); refine Kd.R_copy (enc := Value.int .u8) (h1 := fun _ => rfl) (0 : Int) (w0 := w) w.heap.size rfl (.tmp 9) (.tmp 10) 83 83 5 rfl Tryz.underlying83 size5 (.slice (some ⟨w.heap.size, 0, none⟩) 36 40) (List.replicate 36 0) l0 A0 l0.length c0 (fun _ => True) rfl rfl HZ.out (Kd.C_alloc HR0.out _) (below_alloc (Below.refl _ _) _) (by simp) ?_; intro w1 ho hb hg))
  rw [pad36_eq l0 hlen] at ho
  have HO := Aside0.mk ho
  have HB := Aside0.mk hb
  clear ho hb hg HZ hmk
  have hl36 : (pad36 l0).length = 36 := by simp [pad36]; omega
  have HL := Aside0.mk hl36
  clear hl36
  have HP := Aside0.mk (pad36_bytes l0 HB0.out)
  refine (sumN_calls _ _ _ (pad36 l0) _ (R_C HO.out) HP.out (by rw [HL.out]; omega)).mono ?_
  rintro e w' ⟨rfl, ⟨nd, rfl⟩⟩
  go_wp2_with fail
  refine (put4_calls _ (crc_bd _).1 (crc_bd _).2 _).mono ?_
  rintro e w2 ⟨v2, rfl, ho2, hb2⟩
  obtain ⟨A2, c2, rfl⟩ := Kd.R_slice ho2
  have HO2 := Aside0.mk (R_C ho2)
  have HO3 := Aside0.mk (Kd.R_below (Kd.R_drewN HO.out nd) hb2)
  have HB3 := Aside0.mk (below_step (pw_below_drewN HB.out nd) hb2)
  have HL2 := Aside0.mk (putL_length 4 (crc (pad36 l0)))
  clear ho2 hb2 HO HB
  go_wp2_with (first | ((with_reducible refine gate_builtin (b := .append) (xs := #[.tmp 12, .tmp 15]) rfl ?_); refine Kd.R_append_row (Value.int .u8) (0 : Int) (h1 := fun _ => rfl) (w0 := w) w.heap.size rfl (.tmp 12) (.tmp 15) 83 5 (.int .u8 0) 1 rfl Tryz.underlying83 info5 rfl (by omega) (.slice (some ⟨w.heap.size, 0, none⟩) 36 40) (pad36 l0) (putL 4 (crc (pad36 l0))) A2 _ c2 (fun _ => True) rfl rfl (fun _ _ => trivial) HO3.out HO2.out HB3.out HB3.out.size (by rw [HL.out, HL2.out]; omega) ?_; intro v3 w3 ho3 hb3 hg3 hat3; have hcv := own_string (P := Tryz.prog) Tryz.underlying83 Tryz.underlying5 Tryz.underlying9 (Kd.own_of_R ho3); have HB4 := Aside0.mk hb3; clear hb3 hg3 hat3 ho3))
  go_ret2
  exact ⟨rfl, HB4.out⟩
end Go.Proofs.YtfolgjigfdbnoaaGreat.M
