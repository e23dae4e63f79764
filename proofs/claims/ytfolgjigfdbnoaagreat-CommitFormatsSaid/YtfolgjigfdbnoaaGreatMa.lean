/-
  Contracts of plan.Area, plan.Base, sort.Search and plan.Cells: each returns the number that a plain Lean function gives.
-/
import Derived.Test.YtfolgjigfdbnoaaGreatKc
import Derived.Lib.Hide
import Derived.Shelf.Abstract
import Derived.RangeFuncBox
import Derived.Outline
namespace Go.Proofs.YtfolgjigfdbnoaaGreat.M
open Go.RowKit Go.Proofs.YtfolgjigfdbnoaaGreatW.PrintWords Go.Proofs.YtfolgjigfdbnoaaGreatW.PrintLast Go.Proofs.YtfolgjigfdbnoaaGreatW.PrintMore
set_option linter.unusedVariables false
set_option linter.unusedSimpArgs false

theorem cell_of_box {W : World} {B : Nat} {v : Value} {t : TypeId} (h : W.heap[B]? = some (.cells #[v] t (0, 0))) : W.cell? ⟨B, 0, none⟩ = some v ∧ W.frozen? ⟨B, 0, none⟩ = false := by
  constructor <;> simp [World.cell?, World.frozen?, h]
theorem cell_new (W : World) (v : Value) (t : TypeId) : (W.alloc (.cells #[v] t)).cell? ⟨W.heap.size, 0, none⟩ = some v ∧ (W.alloc (.cells #[v] t)).frozen? ⟨W.heap.size, 0, none⟩ = false :=
  cell_of_box (World.alloc_heap_new W _)

def areaM (n : Int) : Int := (1670 + 2 * n) / 40
def baseM (n : Int) : Int := 2 + 2 * areaM n

theorem ret_int {k : IntKind} {a b : Int} (h : a = b) : Ending.returned (.int k a) = .returned (.int k b) := by rw [h]

theorem area_calls (n : Int) (h0 : 0 ≤ n) (h1 : n ≤ 10000) (w : World) :
    Calls Tryz.prog 58 #[.int .i64 n] w fun e w' => e = .returned (.int .i64 (areaM n)) ∧ w' = w := by
  go_enter Tryz.func58, Tryz.ntmps58
  go_wp2
  go_ret
  exact ⟨ret_int (by unfold areaM; omega), rfl⟩

theorem base_calls (n : Int) (h0 : 0 ≤ n) (h1 : n ≤ 10000) (w : World) :
    Calls Tryz.prog 36 #[.int .i64 n] w fun e w' => e = .returned (.int .i64 (baseM n)) ∧ w' = w := by
  have hb : 0 ≤ areaM n ∧ areaM n ≤ 600 := by unfold areaM; omega
  obtain ⟨hb0, hb1⟩ := hb
  go_enter Tryz.func36, Tryz.ntmps36
  go_wp2_with (go_at_call 58; refine (area_calls _ (by omega) (by omega) _).mono ?_; rintro e w' ⟨rfl, rfl⟩)
  go_ret
  exact ⟨ret_int (by unfold baseM; omega), rfl⟩


def cellsP (blocks i : Int) : Bool := decide (baseM (i + 1) + i + 1 > blocks)

theorem cells1_calls (blocks i : Int) (h0 : 0 ≤ i) (h1 : i ≤ 2000) (b : Nat) (w : World) (hc : w.cell? ⟨b, 0, none⟩ = some (.int .i64 blocks)) :
    Calls Tryz.prog 35 #[.int .i64 i, .pointer (some ⟨b, 0, none⟩)] w fun e w' => e = .returned (.bool (cellsP blocks i)) ∧ ∃ n, w' = w.drewN n := by
  have hb : 0 ≤ areaM (i + 1) ∧ areaM (i + 1) ≤ 600 := by unfold areaM; omega
  have hb2 : 0 ≤ baseM (i + 1) ∧ baseM (i + 1) ≤ 2000 := by unfold baseM; omega
  obtain ⟨hb0, hb1⟩ := hb
  obtain ⟨hb2, hb3⟩ := hb2
  unfold cellsP
  go_enter Tryz.func35, Tryz.ntmps35
  go_wp2
  go_quiet ((go_at_call 36; exact Calls.quiet_of_same (base_calls _ (by omega) (by omega) _)))
  go_wp2
  go_ret
  exact ⟨rfl, _, rfl⟩

/-- Binary search, by rounds. -/
def searchL (p : Int → Bool) : Nat → Int → Int → Int
  | 0, lo, _ => lo
  | k + 1, lo, hi => if lo < hi then (if p ((lo + hi) / 2) then searchL p k lo ((lo + hi) / 2) else searchL p k ((lo + hi) / 2 + 1) hi) else lo


set_option maxHeartbeats 1000000 in
theorem search_calls (g : Nat) (cb : Array Value) (n : Int) (h0 : 0 ≤ n) (h1 : n ≤ 2000) (p : Int → Bool) (w : World) (eg : ∀ args w, (callFunc g args).run Tryz.prog w = .ok (.enter g args) w)
    (hf : ∀ (W : World) (i : Int), Below w.heap.size w W → 0 ≤ i → i < n → Calls Tryz.prog g (#[.int .i64 i] ++ cb) W fun e w' => e = .returned (.bool (p i)) ∧ Below w.heap.size w w') :
    Calls Tryz.prog 34 #[.int .i64 n, .func (.func g) #[] cb] w fun e w' => e = .returned (.int .i64 (searchL p (n.toNat + 1) 0 n)) ∧ Below w.heap.size w w' := by
  have HF := Aside0.mk hf
  clear hf
  generalize hr : searchL p (n.toNat + 1) 0 n = r
  have HR := Aside0.mk hr
  clear hr
  have HB := Aside0.mk (Below.refl w.heap.size w)
  go_enter Tryz.func34, Tryz.ntmps34
  go_wp2
  go_loopg [5, 6] (n.toNat + 1) (fun kq v5 v6 w' => ∃ (lo hi : Int), v5 = .int .i64 lo ∧ v6 = .int .i64 hi ∧ 0 ≤ lo ∧ lo ≤ hi ∧ hi ≤ n ∧ Aside0 (searchL p kq lo hi = r) ∧ Aside0 (hi - lo < kq) ∧ Aside0 (Below w.heap.size w w'))
  case atStart => exact ⟨0, n, rfl, rfl, by omega, by omega, by omega, HR, ⟨by omega⟩, HB⟩
  case round =>
    clear HR HB
    obtain ⟨lo, hi, rfl, rfl, hlo, hlh, hhn, HA, HK, HB⟩ := hrel
    cases gk with
    | zero => exact absurd HK.out (by simp; omega)
    | succ k2 =>
      have H := HA.out
      clear HA
      simp only [searchL] at H
      by_cases c : lo < hi
      · rw [if_pos c] at H
        go_wp2_with fail
        refine (HF.out wr _ HB.out (by omega) (by omega)).mono ?_
        rintro e w' ⟨rfl, hb⟩
        clear HB
        have HB := Aside0.mk hb
        clear hb
        cases hp : p ((lo + hi) / 2) with
        | true =>
          rw [hp] at H
          have H' := Aside0.mk H
          clear H hp
          go_wp2
          go_roundg k2
          case rel => exact ⟨_, _, rfl, rfl, by omega, by omega, by omega, H', ⟨by have := HK.out; omega⟩, HB⟩
          case measure => omega
        | false =>
          rw [hp] at H
          have H' := Aside0.mk H
          clear H hp
          go_wp2
          go_roundg k2
          case rel => exact ⟨_, _, rfl, rfl, by omega, by omega, by omega, H', ⟨by have := HK.out; omega⟩, HB⟩
          case measure => omega
      · rw [if_neg c] at H
        have H' := Aside0.mk H
        clear H
        go_wp2
        go_ret
        exact ⟨ret_int H'.out, HB.out⟩

def cellsM (blocks : Int) : Int := searchL (cellsP blocks) 2001 0 2000

set_option maxHeartbeats 1000000 in
theorem cells_calls (blocks : Int) (w : World) :
    Calls Tryz.prog 16 #[.int .i64 blocks] w fun e w' => e = .returned (.int .i64 (cellsM blocks)) ∧ Below w.heap.size w w' := by
  have HS := fun (W : World) (h : Below w.heap.size w W) (hc : W.cell? ⟨w.heap.size, 0, none⟩ = some (.int .i64 blocks)) (hs : w.heap.size < W.heap.size) => search_calls 35 #[.pointer (some ⟨w.heap.size, 0, none⟩)] 2000 (by omega) (by omega) (cellsP blocks) W (enters_of Tryz.func35 (by kernel_rfl) rfl)
    (fun W' i hb h0 h1 => (cells1_calls blocks i h0 (by omega) w.heap.size W' ((hb.cell (p := ⟨w.heap.size, 0, none⟩) hs).trans hc)).mono fun e w' ⟨he, n, hn⟩ => ⟨he, by rw [hn]; exact pw_below_drewN hb n⟩)
  go_enter Tryz.func16, Tryz.ntmps16
  go_wp2_with fail
  refine (HS _ ((Below.refl _ _).alloc (Nat.le_refl _) _) (cell_new w _ 3).1 (by simp)).mono ?_
  rintro e w' ⟨rfl, hb⟩
  have HB := Aside0.mk hb
  clear hb HS
  go_wp2
  go_ret
  exact ⟨rfl, ((Below.refl w.heap.size w).alloc (Nat.le_refl _) _).trans (HB.out.mono (by simp))⟩

end Go.Proofs.YtfolgjigfdbnoaaGreat.M
