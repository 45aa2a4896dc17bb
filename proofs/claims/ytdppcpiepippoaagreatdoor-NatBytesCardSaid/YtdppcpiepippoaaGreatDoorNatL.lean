/- Package slices: Reverse of bytes. -/
import Derived.Test.YtdppcpiepippoaaGreatDoorNatK
namespace Go.Proofs.YtdppcpiepippoaaGreatDoor
open Go.RowKit Go.Shelf
attribute [local go_sem] Oper.semAt_some

theorem info_u8 : (Tryz.prog.info? 5).map (fun i => (i.zero, i.size, i.bytes)) = some (some (.int .u8 0), 1, 1) := by kernel_rfl

/-- how far a reversing has come: the pairs outside i are changed. -/
def Turned (xs zs : List Nat) (i : Nat) : Prop := zs.length = xs.length ∧ ∀ t, t < xs.length → zs[t]?.getD 0 = if i ≤ t ∧ t + i < xs.length then xs[t]?.getD 0 else xs[xs.length - 1 - t]?.getD 0

theorem Turned.start (xs : List Nat) : Turned xs xs 0 := ⟨rfl, fun t ht => by rw [if_pos ⟨Nat.zero_le _, by omega⟩]⟩
theorem Turned.step {xs zs : List Nat} {i j : Nat} (h : Turned xs zs i) (hij : i < j) (hj : i + j + 1 = xs.length) : Turned xs ((zs.set i (zs[j]?.getD 0)).set j (zs[i]?.getD 0)) (i + 1) := by
  refine ⟨by simp [h.1], fun t ht => ?_⟩
  have e1 := h.2 i (by omega)
  have e2 := h.2 j (by omega)
  rw [if_pos (by omega)] at e1 e2
  have hl := h.1
  by_cases htj : t = j
  · subst htj
    rw [List.getElem?_set_self (by simp; omega), if_neg (by omega), Option.getD_some, e1, show xs.length - 1 - t = i by omega]
  · rw [List.getElem?_set_ne (by omega)]
    by_cases hti : t = i
    · subst hti
      rw [List.getElem?_set_self (by omega), if_neg (by omega), Option.getD_some, e2, show xs.length - 1 - t = j by omega]
    · rw [List.getElem?_set_ne (by omega), h.2 t ht]
      by_cases hc : i ≤ t ∧ t + i < xs.length
      · rw [if_pos hc, if_pos (by omega)]
      · rw [if_neg hc, if_neg (by omega)]
theorem Turned.done {xs zs : List Nat} {i : Nat} (h : Turned xs zs i) (hi : xs.length ≤ i + i + 1) : zs = xs.reverse := by
  have hl := h.1
  apply List.ext_getElem?
  intro t
  by_cases ht : t < xs.length
  · have := h.2 t ht
    rw [List.getElem?_reverse ht, List.getElem?_eq_getElem (by omega), List.getElem?_eq_getElem (by omega)] at *
    simp only [Option.getD_some] at this
    rw [this]
    by_cases hc : i ≤ t ∧ t + i < xs.length
    · rw [if_pos hc]
      congr 1
      have e : xs.length - 1 - t = t := by omega
      simp only [e]
    · rw [if_neg hc, List.getElem?_eq_getElem (by omega), Option.getD_some]
  · rw [List.getElem?_eq_none (by omega), List.getElem?_eq_none (by simp; omega)]

def enc8 (x : Nat) : Value := .int .u8 (x : Nat)

theorem take_set_map {l : List Value} {n j : Nat} {zs : List Nat} (h : l.take n = zs.map enc8) (x : Nat) (hj : j < n) : (l.set j (.int .u8 (x : Nat))).take n = (zs.set j x).map enc8 := by
  rw [List.take_set, h, List.map_set]
  rfl
theorem take_map_get {l : List Value} {n j : Nat} {zs : List Nat} (h : l.take n = zs.map enc8) (hj : j < n) (hz : j < zs.length) : l[j]? = some (.int .u8 (zs[j]?.getD 0 : Nat)) := by
  have : (zs.map enc8)[j]? = some (enc8 (zs[j]?.getD 0)) := by rw [List.getElem?_map, List.getElem?_eq_getElem hz]; rfl
  exact take_get h this

set_option maxRecDepth 100000 in
set_option maxHeartbeats 4000000 in
theorem reverse_at (g cap : Nat) (xs : List Nat) (l : List Value) (hl : l.take xs.length = xs.map enc8) (hmax : xs.length ≤ 1000000) (w : World) (hC : Cls w g 5 l) :
    Calls Tryz.prog 27 #[.slice (some ⟨g, 0, none⟩) xs.length cap] w fun e w' => e = .returned (.tuple #[]) ∧ (∃ l', Cls w' g 5 l' ∧ l'.take xs.length = xs.reverse.map enc8 ∧ l'.length = l.length) ∧ Below g w w' := by
  have hprog : Tryz.prog.follows .mixedOrders = true := by kernel_rfl
  go_enter Tryz.func27, Tryz.ntmps27
  go_wp2
  go_loopw [2, 3] (fun a b wr => ∃ (i : Nat) (z : Int) (zs : List Nat) (l' : List Value), a = .int .i64 i ∧ b = .int .i64 z ∧ z + (i : Int) + 1 = (xs.length : Int) ∧ i ≤ xs.length ∧ Cls wr g 5 l' ∧ l'.take xs.length = zs.map enc8 ∧ l'.length = l.length ∧ Turned xs zs i ∧ Below g w wr) (fun a _ _ => xs.length - (intOf a).toNat)
  case atStart => exact ⟨0, _, xs, l, rfl, rfl, by omega, Nat.zero_le _, hC, hl, rfl, Turned.start xs, Below.refl _ _⟩
  case round =>
    obtain ⟨i, z, zs, l', rfl, rfl, hz, hin, hC', hl', hll, ht, hB⟩ := hrel
    by_cases hlt : (i : Int) < z
    · obtain ⟨j, rfl⟩ : ∃ j : Nat, z = (j : Int) := ⟨z.toNat, by omega⟩
      have hzl := ht.1
      have e1 := hC'.cell i (take_map_get hl' (show i < xs.length by omega) (by omega))
      have e2 := hC'.cell j (take_map_get hl' (show j < xs.length by omega) (by omega))
      have f1 := hC'.frozen i
      have f2 := hC'.frozen j
      obtain ⟨x, hx⟩ : ∃ x, zs[i]?.getD 0 = x := ⟨_, rfl⟩
      obtain ⟨y, hy⟩ : ∃ y, zs[j]?.getD 0 = y := ⟨_, rfl⟩
      rw [hx] at e1
      rw [hy] at e2
      have hst := ht.step (show i < j by omega) (by omega)
      rw [hx, hy] at hst
      have hC2 := (hC'.set i (.int .u8 (y : Nat))).set j (.int .u8 (x : Nat))
      have ht2 := take_set_map (take_set_map hl' y (show i < xs.length by omega)) x (show j < xs.length by omega)
      have HS := hid (And.intro hst ht2)
      clear hst ht2 hx hy ht hl' hl
      have hil : (i : Int) < (xs.length : Int) := by omega
      have hjl : (j : Int) < (xs.length : Int) := by omega
      have hij : (i : Int) + 1 ≤ 1000001 := by omega
      go_wp2
      go_region
      all_goals (
        go_wp2
        rw [show ((i : Int) + 1) = ((i + 1 : Nat) : Int) from by omega]
        refine ⟨⟨i + 1, (j : Int) - 1, _, _, rfl, rfl, by omega, by omega, hC2, HS.out.2, by simpa using hll, HS.out.1, ((hB.setCell (Nat.le_refl _) _).setCell (Nat.le_refl _) _).drew⟩, by simp [intOf]; omega⟩)
    · go_wp2
      go_end0
      obtain rfl := ht.done (by omega)
      exact ⟨rfl, ⟨l', hC', by rw [← List.map_reverse]; exact hl', hll⟩, hB⟩

/-- slices.Reverse of a row of bytes that the call's own caller owns. -/
theorem reverse_owns (base : Nat) (v : Value) (xs : List Nat) (hmax : xs.length ≤ 1000000) (w : World) (h : w.ownsRow base 5 1 v xs.length (xs.map enc8)) :
    Calls Tryz.prog 27 #[v] w fun e w' => e = .returned (.tuple #[]) ∧ w'.ownsRow base 5 1 v xs.length (xs.reverse.map enc8) ∧ Below base w w' := by
  obtain ⟨h0, ⟨rfl, h2⟩ | ⟨g, cap, cur, rfl, h1, h2, h3, h4, h5, h6⟩⟩ := id h
  · have hx : xs = [] := by cases xs with | nil => rfl | cons a r => simp at h2
    subst hx
    go_enter Tryz.func27, Tryz.ntmps27
    go_wp2
    refine wp_loop_rounds 1 ?_
    rw [rounds_succ]
    go_wp2
    go_end0
    exact ⟨rfl, h, Below.refl _ _⟩
  · refine (reverse_at g cap xs cur.toList (by simpa using h6) hmax w h2).mono ?_
    rintro e w' ⟨rfl, ⟨l', e1, e2, e3⟩, hb⟩
    refine ⟨rfl, ⟨by simp, .inr ⟨g, cap, l'.toArray, rfl, h1, e1, h3, h4, by simpa using e3.trans (by simpa using h5), by simpa using e2⟩⟩, hb.mono h1⟩
end Go.Proofs.YtdppcpiepippoaaGreatDoor
