/-
  Contracts of slices.Backward at the nil slice and of disk.Read where nothing waits.
-/
import Derived.Test.YtfolgjigfdbnoaaGreatMf
import Derived.RangeFuncBox
import Derived.RangeFuncNested
import Derived.RangeFuncCalls
import Derived.RangeFuncLeaves
import Derived.Shelf.Abstract
import Derived.WalkKit
import Derived.OwnWalkIn
import Derived.TacticsInMore
import Derived.LoopNIn
import Derived.LoopIn
namespace Go.Proofs.YtfolgjigfdbnoaaGreat.M
open Go.RowKit Go.Shelf Go.Proofs.YtfolgjigfdbnoaaGreatW.PrintWords Go.Proofs.YtfolgjigfdbnoaaGreatW.PrintLast Go.Proofs.YtfolgjigfdbnoaaGreatW.PrintMore
open PCommitFormats
set_option linter.unusedVariables false
set_option linter.unusedSimpArgs false
attribute [local go_sem] Oper.semAt_some

theorem cell_lt {W : World} {p : Addr} {v : Value} (h : W.cell? p = some v) : p.block < W.heap.size := by
  by_cases c : p.block < W.heap.size
  · exact c
  · have : W.heap[p.block]? = none := Array.getElem?_eq_none (by omega)
    simp [World.cell?, this] at h

set_option maxRecDepth 100000 in
set_option maxHeartbeats 1000000 in
theorem back1_nil_in (F : Fence) (n : Nat) (h7 : F.fn 105) (hro : F.round = none) (l Bs : Nat) (J : List Empty → World → Prop) (W : World) (hBs : W.cell? ⟨Bs, 0, none⟩ = some (.slice none 0 0)) (h0 : J [] W) :
    CallsIn F n Tryz.prog 105 #[.func (.yield l) #[] #[], .pointer (some ⟨Bs, 0, none⟩)] W fun e W' => (∃ v, e = .returned v) ∧ J [] W' := by
  refine callsIn_of_wp Tryz.func105 rfl h7 ?_ hro
  simp only [Tryz.ntmps105, List.size_toArray, List.length_cons, List.length_nil, Nat.reduceAdd, Nat.reduceSub, Array.replicate_succ, Array.replicate_zero, List.push_toArray, List.append_toArray, List.nil_append, List.cons_append]
  gi_wp2
  gi_loopw [3] (fun i wr => i = .int .i64 (-1) ∧ J [] wr) (fun _ _ => 0)
  case atStart => exact ⟨rfl, h0⟩
  case round =>
    obtain ⟨rfl, hJs⟩ := hrel
    gi_wp2
    go_end0
    exact ⟨⟨_, rfl⟩, hJs⟩

set_option maxHeartbeats 1000000 in
theorem back_in (F : Fence) (n : Nat) (h5 : F.fn 77) (hro : F.round = none) (a : Option Addr) (len cap : Nat) (w : World) :
    CallsIn F n Tryz.prog 77 #[.slice a len cap] w fun e w' => e = .returned (.func (.func 105) #[] #[.pointer (some ⟨w.heap.size, 0, none⟩)]) ∧ w' = w.alloc (.cells #[.slice a len cap] 24) := by
  refine callsIn_of_wp Tryz.func77 rfl h5 ?_ hro
  simp only [Tryz.ntmps77, List.size_toArray, List.length_cons, List.length_nil, Nat.reduceAdd, Nat.reduceSub, Array.replicate_succ, Array.replicate_zero, List.push_toArray, List.append_toArray, List.nil_append, List.cons_append]
  gi_wp2
  go_ret
  exact ⟨rfl, rfl⟩

theorem back_stops (F : Fence) (n : Nat) (h7 : F.fn 105) (hro : F.round = none) (Bs n₀ : Nat) (enc : Empty → Array Value) (w : World) (hBs : Bs < w.heap.size)
    (hc : w.cell? ⟨Bs, 0, none⟩ = some (.slice none 0 0)) :
    SeqStopsK F n Tryz.prog 105 #[.pointer (some ⟨Bs, 0, none⟩)] enc (Below n₀) (fun ys => ys = []) (fun _ => False) 0 w := fun l J Jx W hW _ _ hY h0 =>
  (back1_nil_in F n h7 hro l Bs J W ((hW.cell (p := ⟨Bs, 0, none⟩) hBs).trans hc) h0).mono fun e W' ⟨he, hj⟩ => ⟨he, .inl ⟨_, rfl, hj⟩⟩

set_option maxRecDepth 100000 in
set_option maxHeartbeats 2000000 in
theorem read_in (F : Fence) (n : Nat) (h45 : F.fn 45) (h77 : F.fn 77) (h105 : F.fn 105) (hro : F.round = none) (hn : 3 ≤ n) (A : Option Addr) (c : Nat) (l : List ByteArray) (at_ : Int) (h0 : 0 ≤ at_) (h1 : at_ < l.length) (hl : l.length ≤ 4000) (w : World) (hr : Kd.C Kd.string w A l.length l) (hc : l.length ≤ c) :
    CallsIn F n Tryz.prog 45 #[.agg #[.slice A l.length c, .slice none 0 0], .int .i64 at_] w fun e w' => e = .returned (.tuple #[.string (rdOf ByteArray.empty l at_), .int .i64 0]) ∧ Below w.heap.size w w' := by
  have h1n : 1 ≤ n := by omega
  have hu26 := Tryz.underlying26
  obtain ⟨ad, rfl, hx⟩ := Kd.at_string hr at_ h0 h1
  have hcc : (l.length : Int) ≤ 4000 := by omega
  refine callsIn_of_wp_marks Tryz.func45 rfl h45 ?_ hro
  simp only [Tryz.ntmps45, List.size_toArray, List.length_cons, List.length_nil, Nat.reduceAdd, Nat.reduceSub, Array.replicate_succ, Array.replicate_zero, List.push_toArray, List.append_toArray, List.nil_append, List.cons_append]
  gi_wp2_with (gi_at_call 77; refine (back_in F (n - 1) h77 hro _ _ _ _).mono ?_; rintro e w' ⟨rfl, rfl⟩)
  obtain ⟨wr, hwr⟩ : ∃ wr, wr = (((((w.alloc (Obj.cells #[Value.slice (some ad) l.length c, Value.slice none 0 0] 26)).alloc (Obj.cells #[Value.int IntKind.i64 at_] 3)).alloc (Obj.cells #[Value.string { data := #[] }] 9)).alloc (Obj.cells #[Value.int IntKind.i64 0] 34)).alloc (Obj.cells #[Value.slice none 0 0] 24)) := ⟨_, rfl⟩
  have hs5 : wr.heap.size = w.heap.size + 5 := by rw [hwr]; simp
  have c0 : wr.cell? ⟨w.heap.size, 0, none⟩ = some (.slice (some ad) l.length c) := by rw [hwr]; go_simp
  have c1 : wr.cell? ⟨w.heap.size + 1, 0, none⟩ = some (.int .i64 at_) := by rw [hwr]; go_simp
  have c2 : wr.cell? ⟨w.heap.size + 1 + 1, 0, none⟩ = some (.string { data := #[] }) := by rw [hwr]; go_simp
  have f2 : wr.frozen? ⟨w.heap.size + 1 + 1, 0, none⟩ = false := by rw [hwr]; go_simp
  have c3 : wr.cell? ⟨w.heap.size + 1 + 1 + 1, 0, none⟩ = some (.int .i64 0) := by rw [hwr]; go_simp
  have f3 : wr.frozen? ⟨w.heap.size + 1 + 1 + 1, 0, none⟩ = false := by rw [hwr]; go_simp
  have c4 : wr.cell? ⟨w.heap.size + 1 + 1 + 1 + 1, 0, none⟩ = some (.slice none 0 0) := by rw [hwr]; go_simp
  have hB : Below w.heap.size w wr := by rw [hwr]; repeat (first | exact Below.refl _ _ | refine Below.alloc ?_ (by simp <;> omega) _)
  have hx5 : wr.cell? (ad.add at_.toNat) = some (Value.string (rdOf ByteArray.empty l at_)) := by
    exact (hB.cell (p := ad.add at_.toNat) (cell_lt hx)).trans hx
  rw [← hwr]
  refine wpIn_rangeFunc_ownG hro h1n (gf := 105) (lb := #[.pointer (some ⟨w.heap.size + 1 + 1 + 1 + 1, 0, none⟩)]) rfl h105 (enters_of Tryz.func105 (by kernel_rfl) rfl)
    (back_stops F (n - 1) h105 hro (w.heap.size + 1 + 1 + 1 + 1) wr.heap.size (fun x => x.elim) wr (by omega) c4) belowK_t (belowK_b (Nat.le_refl _)) (Below.refl _ _) (fun x => x.elim)
    (fun _ W => Below wr.heap.size wr W) (fun _ _ _ => False) (ownFrom_below (Nat.le_refl _) (Nat.le_refl _)) (fun _ _ _ _ _ hs _ _ => hs) (Below.refl _ _)
    (fun x => x.elim) ?assign ?body ?done ?stop
  case assign => intro l x; exact x.elim
  case body => intro l pre x; exact x.elim
  case stop =>
    rintro D c pre W _ h
    exact h.elim
  case done =>
    rintro D ys W hD _ hW hK
    have c1' := (hW.cell (p := ⟨w.heap.size + 1, 0, none⟩) (by simp only; omega)).trans c1
    have c2' := (hW.cell (p := ⟨w.heap.size + 1 + 1, 0, none⟩) (by simp only; omega)).trans c2
    have c3' := (hW.cell (p := ⟨w.heap.size + 1 + 1 + 1, 0, none⟩) (by simp only; omega)).trans c3
    have c0' := (hW.cell (p := ⟨w.heap.size, 0, none⟩) (by simp only; omega)).trans c0
    have f2' := (hW.frozen (p := ⟨w.heap.size + 1 + 1, 0, none⟩) (by simp only; omega)).trans f2
    have f3' := (hW.frozen (p := ⟨w.heap.size + 1 + 1 + 1, 0, none⟩) (by simp only; omega)).trans f3
    have hx' := (hW.cell (p := ad.add at_.toNat) (cell_lt hx5)).trans hx5
    gi_wp2
    have hK' := ((KeepsOthers.setCell W ⟨w.heap.size + 1 + 1, 0, none⟩ (.string (rdOf ByteArray.empty l at_))).trans (KeepsOthers.setCell _ ⟨w.heap.size + 1 + 1 + 1, 0, none⟩ (.int .i64 0))).same D _ hK rfl
    refine ⟨by simp, .inl ⟨_, _, rfl, run_takeDeferred hK', ?_⟩⟩
    have g2 : ((W.setCell ⟨w.heap.size + 1 + 1, 0, none⟩ (.string (rdOf ByteArray.empty l at_))).setCell ⟨w.heap.size + 1 + 1 + 1, 0, none⟩ (.int .i64 0)).cell? ⟨w.heap.size + 1 + 1, 0, none⟩ = some (.string (rdOf ByteArray.empty l at_)) := by
      rw [World.cell?_setCell_other _ _ _ _ (by simp)]
      exact World.cell?_setCell_same' _ _ _ (by rw [c2']; rfl)
    have g3 : ((W.setCell ⟨w.heap.size + 1 + 1, 0, none⟩ (.string (rdOf ByteArray.empty l at_))).setCell ⟨w.heap.size + 1 + 1 + 1, 0, none⟩ (.int .i64 0)).cell? ⟨w.heap.size + 1 + 1 + 1, 0, none⟩ = some (.int .i64 0) :=
      World.cell?_setCell_same' _ _ _ (by rw [World.cell?_setCell_other _ _ _ _ (by simp), c3']; rfl)
    have k2 := cell_kept g2 (grownBy_putObj' _ D (.deferred none)) (fun r e => by cases e; exact ⟨_, hK', rfl⟩)
    have k3 := cell_kept g3 (grownBy_putObj' _ D (.deferred none)) (fun r e => by cases e; exact ⟨_, hK', rfl⟩)
    refine ⟨.tuple #[.string (rdOf ByteArray.empty l at_), .int .i64 0], by simp [results, Tryz.f45, go_sem, k2, k3], rfl, ?_⟩
    have hB' := ((hB.trans (hW.mono (by omega))).setCell (p := ⟨w.heap.size + 1 + 1, 0, none⟩) (by simp only; omega) (.string (rdOf ByteArray.empty l at_))).setCell (p := ⟨w.heap.size + 1 + 1 + 1, 0, none⟩) (by simp only; omega) (.int .i64 0)
    exact hB'.trans (belowK_b (w := w) (Nat.le_refl _) _ D _ _ (by omega) hK' rfl rfl)

theorem read_calls (A : Option Addr) (c : Nat) (l : List ByteArray) (at_ : Int) (h0 : 0 ≤ at_) (h1 : at_ < l.length) (hl : l.length ≤ 4000) (w : World) (hr : Kd.C Kd.string w A l.length l) (hc : l.length ≤ c) :
    Calls Tryz.prog 45 #[.agg #[.slice A l.length c, .slice none 0 0], .int .i64 at_] w fun e w' => e = .returned (.tuple #[.string (rdOf ByteArray.empty l at_), .int .i64 0]) ∧ Below w.heap.size w w' :=
  (callsIn_wide (n := 3)).1 (read_in Fence.wide 3 trivial trivial trivial rfl (by omega) A c l at_ h0 h1 hl w hr hc)

end Go.Proofs.YtfolgjigfdbnoaaGreat.M
