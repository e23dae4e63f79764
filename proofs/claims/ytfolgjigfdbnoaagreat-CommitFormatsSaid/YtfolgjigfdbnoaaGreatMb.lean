/-
  Contracts of num.Sum, num.Seal, slot.Right, slot.Print and slot.Book.
-/
import Derived.Test.YtfolgjigfdbnoaaGreatMa
import Derived.Test.YtfolgjigfdbnoaaGreatKc
import Derived.ScopeJumps
import Derived.WalkMore
import Derived.Outline
namespace Go.Proofs.YtfolgjigfdbnoaaGreat.M
open Go.RowKit Go.Proofs.YtfolgjigfdbnoaaGreatW.PrintWords Go.Proofs.YtfolgjigfdbnoaaGreatW.PrintLast Go.Proofs.YtfolgjigfdbnoaaGreatW.PrintMore
set_option linter.unusedVariables false
set_option linter.unusedSimpArgs false

/-- Bytes. -/
def Bytes (l : List Int) : Prop := ∀ x ∈ l, 0 ≤ x ∧ x ≤ 255
theorem Bytes.rd {l : List Int} (h : Bytes l) (i : Int) : 0 ≤ rd l i ∧ rd l i ≤ 255 := by
  unfold YtfolgjigfdbnoaaGreatW.PrintWords.rd
  rw [List.getD_eq_getElem?_getD]
  cases hq : l[i.toNat]? with
  | none => simp
  | some x => simpa using h x (List.mem_of_getElem? hq)

def xr (a b : Int) : Int := Go.bits .xor .u32 a b
theorem xr_bd (a b : Int) : 0 ≤ xr a b ∧ xr a b ≤ 4294967295 := by
  unfold xr Go.bits
  rw [IntKind.wrap_u32]
  omega
def odd (n : Int) : Bool := Go.bits .and .u32 n 1 == 1
def crcBit (n : Int) : Int := if odd n = true then xr (n / 2) 3988292384 else n / 2
theorem crcBit_bd (n : Int) (h0 : 0 ≤ n) (h1 : n ≤ 4294967295) : 0 ≤ crcBit n ∧ crcBit n ≤ 4294967295 := by
  unfold crcBit
  split
  · exact xr_bd _ _
  · omega
def crcBits : Nat → Int → Int
  | 0, n => n
  | k + 1, n => crcBits k (crcBit n)
def crcByte (n c : Int) : Int := crcBits 8 (xr n c)
def crcL (l : List Int) (n : Int) : Int := l.foldl crcByte n

theorem wrap64_in {x : Int} (h0 : -9223372036854775808 ≤ x) (h1 : x ≤ 9223372036854775807) : wrap64 x = x := by
  unfold wrap64
  omega
theorem crcL_at {l : List Int} {i s : Int} (h0 : 0 ≤ i) (h1 : i < l.length) : crcL (l.drop i.toNat) s = crcL (l.drop (i + 1).toNat) (crcByte s (rd l i)) := by
  have hlt : i.toNat < l.length := by omega
  have e1 : (i + 1).toNat = i.toNat + 1 := by omega
  rw [e1, List.drop_eq_getElem_cons hlt, show rd l i = l[i.toNat] from by simp [rd, hlt]]
  rfl

set_option maxHeartbeats 4000000 in
theorem sum_calls0 (A0 : Option Addr) (c0 : Nat) (l0 : List Int) (w : World) (hr0 : Kd.C (Kd.int .u8) w A0 l0.length l0) (hb : Bytes l0) (hlen : l0.length ≤ 1000000) (T : Int) (hT : xr 4294967295 (crcL l0 4294967295) = T) :
    Calls Tryz.prog 78 #[.slice A0 l0.length c0] w fun e w' => e = .returned (.int .i64 T) ∧ Drawn0 w w' := by
  have HR0 := Aside0.mk hr0
  have HT := Aside0.mk hT
  clear hr0 hT
  have HB0 := Aside0.mk hb
  clear hb
  go_enter Tryz.func78, Tryz.ntmps78
  go_wp2
  go_loopg [3, 9] (l0.length + 1) (fun kq v3 v9 w' => ∃ (s : Int) (i : Int), v3 = .int .u32 s ∧ v9 = .int .i64 i ∧ 0 ≤ i ∧ i ≤ l0.length ∧ 0 ≤ s ∧ s ≤ 4294967295 ∧ Aside0 (xr 4294967295 (crcL (l0.drop i.toNat) s) = T) ∧ Aside0 (l0.length - i < kq) ∧ Drawn0 w w')
  case atStart => exact ⟨_, 0, rfl, rfl, by omega, by omega, by omega, by omega, HT, ⟨by omega⟩, Drawn0.refl _⟩
  case round =>
    obtain ⟨s, i, rfl, rfl, h0i, hi, hs0, hs1, HS, HK, ⟨m, rfl⟩⟩ := hrel
    cases gk with
    | zero => exact absurd HK.out (by omega)
    | succ k2 =>
      by_cases c : i < l0.length
      · obtain ⟨ad, e, hx⟩ := Kd.at_int HR0.out i (by omega) (by omega)
        cases e
        obtain ⟨hq0, hq1⟩ := HB0.out.rd i
        go_wp2
        refine wp_scope_jumps 0 (fun a' w' => w' = w.drewN m ∧ ∃ (s' : Int) (n : Nat) (u13 u14 u15 u16 u17 u18 u19 u20 u21 u22 u23 u24 u25 u26 u27 u28 : Value), a' = { tmps := #[.slice (some ad) l0.length c0, undef, .int .i64 0, .int .u32 s', undef, .int .u8 (rd l0 i), .int .i64 ((n + 1 : Nat) : Int), .slice (some ad) l0.length c0, .int .i64 l0.length, .int .i64 i, .bool true, .pointer (some (ad.add i.toNat)), .int .u8 (rd l0 i), u13, u14, u15, u16, u17, u18, u19, u20, u21, u22, u23, u24, u25, u26, u27, u28, u29, undef, undef, undef], defers := [] } ∧ crcBits (n + 1) s' = crcByte s (rd l0 i) ∧ n ≤ 7 ∧ 0 ≤ s' ∧ s' ≤ 4294967295) (fun a' _ => (intOf (a'.tmps.getD 6 undef)).toNat) rfl ?_ ?_
        · have hx := xr_bd s (rd l0 i)
          have hcb := crcBit_bd _ hx.1 hx.2
          have hfin : crcBits (6 + 1) (crcBit (xr s (rd l0 i))) = crcByte s (rd l0 i) := rfl
          cases ho : odd (xr s (rd l0 i)) with
          | true =>
            unfold crcBit at hcb hfin
            rw [if_pos ho] at hcb hfin
            have HF := Aside0.mk hfin
            have HC := Aside0.mk hcb
            clear hcb hfin hx
            unfold odd xr at ho
            go_wp2
            go_step3
            go_wp2
            go_step3
            exact ⟨rfl, rfl, _, 6, _, _, _, _, _, _, _, _, _, _, _, _, _, _, _, _, rfl, HF.out, by omega, HC.out⟩
          | false =>
            unfold crcBit at hcb hfin
            rw [if_neg (by rw [ho]; decide)] at hcb hfin
            have HF := Aside0.mk hfin
            have HC := Aside0.mk hcb
            clear hcb hfin hx
            unfold odd xr at ho
            go_wp2
            go_step3
            go_wp2
            go_step3
            exact ⟨rfl, rfl, _, 6, _, _, _, _, _, _, _, _, _, _, _, _, _, _, _, _, rfl, HF.out, by omega, HC.out⟩
        · rintro a' w' ⟨rfl, s', n, u13, u14, u15, u16, u17, u18, u19, u20, u21, u22, u23, u24, u25, u26, u27, u28, rfl, hfin, hn7, hs0', hs1'⟩
          have hcb := crcBit_bd _ hs0' hs1'
          have hfin : crcBits n (crcBit s') = crcByte s (rd l0 i) := hfin
          cases ho : odd s' with
          | true =>
            unfold crcBit at hcb hfin
            rw [if_pos ho] at hcb hfin
            have HC := Aside0.mk hcb
            clear hcb
            unfold odd at ho
            by_cases hn : n = 0
            · subst hn
              have HF := Aside0.mk hfin
              clear hfin
              go_wp2
              simp only [Exit.jump]
              go_wp2
              have e1 := HF.out
              go_roundg k2
              case rel => exact ⟨_, _, rfl, rfl, by omega, by omega, HC.out.1, HC.out.2, ⟨by
                have e2 := HS.out
                rw [crcL_at (by omega) (by omega), ← e1] at e2
                exact e2⟩, ⟨by have := HK.out; omega⟩, ⟨⟨m, rfl⟩⟩⟩
              case measure => omega
            · obtain ⟨j, rfl⟩ : ∃ j, n = j + 1 := ⟨n - 1, by omega⟩
              have HF := Aside0.mk hfin
              clear hfin hn
              go_wp2
              go_step3
              refine ⟨rfl, ⟨rfl, _, j, _, _, _, _, _, _, _, _, _, _, _, _, _, _, _, _, rfl, HF.out, by omega, HC.out⟩, ?_⟩
              · simp [intOf]; omega
          | false =>
            unfold crcBit at hcb hfin
            rw [if_neg (by rw [ho]; decide)] at hcb hfin
            have HC := Aside0.mk hcb
            clear hcb
            unfold odd at ho
            by_cases hn : n = 0
            · subst hn
              have HF := Aside0.mk hfin
              clear hfin
              go_wp2
              simp only [Exit.jump]
              go_wp2
              have e1 := HF.out
              go_roundg k2
              case rel => exact ⟨_, _, rfl, rfl, by omega, by omega, HC.out.1, HC.out.2, ⟨by
                have e2 := HS.out
                rw [crcL_at (by omega) (by omega), ← e1] at e2
                exact e2⟩, ⟨by have := HK.out; omega⟩, ⟨⟨m, rfl⟩⟩⟩
              case measure => omega
            · obtain ⟨j, rfl⟩ : ∃ j, n = j + 1 := ⟨n - 1, by omega⟩
              have HF := Aside0.mk hfin
              clear hfin hn
              go_wp2
              go_step3
              refine ⟨rfl, ⟨rfl, _, j, _, _, _, _, _, _, _, _, _, _, _, _, _, _, _, _, rfl, HF.out, by omega, HC.out⟩, ?_⟩
              · simp [intOf]; omega
      · have hil : i = l0.length := by omega
        have HT' : Aside0 (xr 4294967295 s = T) := ⟨by have := HS.out; rw [hil] at this; simpa [crcL] using this⟩
        clear hil
        go_wp2
        go_ret
        refine ⟨ret_int ?_, ⟨m, rfl⟩⟩
        have e1 := xr_bd 4294967295 s
        rw [← HT'.out]
        show wrap64 (xr 4294967295 s) = xr 4294967295 s
        exact wrap64_in (by omega) (by omega)

def crc (l : List Int) : Int := xr 4294967295 (crcL l 4294967295)
theorem sum_calls (A0 : Option Addr) (c0 : Nat) (l0 : List Int) (w : World) (hr0 : Kd.C (Kd.int .u8) w A0 l0.length l0) (hb : Bytes l0) (hlen : l0.length ≤ 1000000) :
    Calls Tryz.prog 78 #[.slice A0 l0.length c0] w fun e w' => e = .returned (.int .i64 (crc l0)) ∧ Drawn0 w w' := sum_calls0 A0 c0 l0 w hr0 hb hlen _ rfl

end Go.Proofs.YtfolgjigfdbnoaaGreat.M
