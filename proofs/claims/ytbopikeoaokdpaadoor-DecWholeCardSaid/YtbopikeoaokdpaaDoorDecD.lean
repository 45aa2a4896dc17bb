/- Package dec: the reader: whole, part, power: walked. -/
import Derived.Test.YtbopikeoaokdpaaDoorDecC
import Derived.Lib.SmallJoins
namespace Go.Proofs.YtbopikeoaokdpaaDoor
open Go.RowKit
attribute [local go_sem] Oper.semAt_some

/-- is the first letter c? what stands behind it. -/
def hdB (c : UInt8) (l : List UInt8) : Bool := l.head? == some c
theorem nxB_one (c : UInt8) (l : List UInt8) : nxB [c] l = hdB c l := by
  cases l with
  | nil => rfl
  | cons x r =>
    rw [nxB_cons]
    unfold hdB
    rw [List.head?_cons, Bool.eq_iff_iff, List.contains_iff_mem, List.mem_singleton, beq_iff_eq]
    exact ⟨fun h => by rw [h], fun h => Option.some.inj h⟩
theorem nxB_two (c d : UInt8) (l : List UInt8) : nxB [c, d] l = (hdB c l || hdB d l) := by
  cases l with
  | nil => rfl
  | cons x r =>
    rw [nxB_cons]
    unfold hdB
    rw [List.head?_cons, Bool.eq_iff_iff, List.contains_iff_mem, Bool.or_eq_true, beq_iff_eq, beq_iff_eq]
    simp
theorem nxR_yes {cs l : List UInt8} (h : nxB cs l = true) : nxR cs l = l.tail := by unfold nxR; rw [h]; rfl
theorem nxR_no {cs l : List UInt8} (h : nxB cs l = false) : nxR cs l = l := by unfold nxR; rw [h]; rfl

/-- isNext, of one letter. -/
theorem isNext_one (b : Nat) (t : ByteArray) (hts : t.size ≤ 140737488355328) (c : UInt8) (z : Int) (hz : z = (c.toNat : Nat)) (w : World) (hB : Boxed w b 49 (.string t)) :
    Calls Tryd.prog 20 #[.pointer (some ⟨b, 0, none⟩), .slice (some ⟨w.heap.size, 0, none⟩) 1 1] (w.alloc (.cells #[.int .u8 z] 5)) fun e w' => e = .returned (.bool (hdB c (tx t))) ∧ Boxed w' b 49 (.string (B (if hdB c (tx t) then (tx t).tail else tx t))) ∧ Below b w w' := by
  subst hz
  have hC := Cls.new w 5 [.int .u8 (c.toNat : Nat)]
  have hlt := hB.lt
  refine (isNext_calls b w.heap.size 1 t hts [c] (by simp) _ (hB.alloc _) (fun j hj => ?_)).mono ?_
  · obtain rfl : j = 0 := by simpa using hj
    exact hC.cell 0 rfl
  · rintro e w' ⟨he, h1, h2⟩
    rw [nxB_one] at he
    refine ⟨he, ?_, ((below_alloc w _).mono (by omega)).trans h2⟩
    unfold nxR at h1
    rw [nxB_one] at h1
    exact h1

theorem isNext_two (b : Nat) (t : ByteArray) (hts : t.size ≤ 140737488355328) (c d : UInt8) (z y : Int) (hz : z = (c.toNat : Nat)) (hy : y = (d.toNat : Nat)) (w : World) (hB : Boxed w b 49 (.string t)) :
    Calls Tryd.prog 20 #[.pointer (some ⟨b, 0, none⟩), .slice (some ⟨w.heap.size, 0, none⟩) 2 2] (w.alloc (.cells #[.int .u8 z, .int .u8 y] 5)) fun e w' => e = .returned (.bool (hdB c (tx t) || hdB d (tx t))) ∧ Boxed w' b 49 (.string (B (if (hdB c (tx t) || hdB d (tx t)) then (tx t).tail else tx t))) ∧ Below b w w' := by
  subst hz hy
  have hC := Cls.new w 5 [.int .u8 (c.toNat : Nat), .int .u8 (d.toNat : Nat)]
  have hlt := hB.lt
  refine (isNext_calls b w.heap.size 2 t hts [c, d] (by simp) _ (hB.alloc _) (fun j hj => ?_)).mono ?_
  · match j, hj with
    | 0, _ => exact hC.cell 0 rfl
    | 1, _ => exact hC.cell 1 rfl
    | j + 2, h => exact absurd h (by simp)
  · rintro e w' ⟨he, h1, h2⟩
    rw [nxB_two] at he
    refine ⟨he, ?_, ((below_alloc w _).mono (by omega)).trans h2⟩
    unfold nxR at h1
    rw [nxB_two] at h1
    exact h1

def wholeS (l : List UInt8) : List UInt8 := if hdB 48 l then [48] else dgp l
def wholeR (l : List UInt8) : List UInt8 := if hdB 48 l then l.tail else l.drop (dgp l).length
theorem tail_len (l : List UInt8) : l.tail.length ≤ l.length := by rw [List.length_tail]; omega
theorem size_tail (t : ByteArray) : (B (tx t).tail).size ≤ t.size := by rw [size_B, ← txs_len]; exact tail_len _

set_option maxRecDepth 100000 in
set_option maxHeartbeats 4000000 in
theorem whole_calls (b : Nat) (t : ByteArray) (hts : t.size ≤ 140737488355328) (w : World) (hB : Boxed w b 49 (.string t)) :
    Calls Tryd.prog 21 #[.pointer (some ⟨b, 0, none⟩)] w fun e w' => e = .returned (.string (B (wholeS (tx t)))) ∧ Boxed w' b 49 (.string (B (wholeR (tx t)))) ∧ Below b w w' := by
  have hn := isNext_one b t hts 48 48 rfl w hB
  cases h : hdB 48 (tx t) with
  | true =>
    have HR := hid (show wholeS (tx t) = [48] ∧ wholeR (tx t) = (tx t).tail by unfold wholeS wholeR; rw [h]; exact ⟨rfl, rfl⟩)
    rw [h] at hn
    clear h
    go_enter Tryd.func21, Tryd.ntmps21
    go_wp2_with (go_at_call 20; refine hn.mono ?_; rintro e w1 ⟨rfl, hB1, hb1⟩)
    go_ret
    exact ⟨by rw [HR.out.1]; rfl, by rw [HR.out.2]; exact hB1, hb1⟩
  | false =>
    have HR := hid (show wholeS (tx t) = dgp (tx t) ∧ wholeR (tx t) = (tx t).drop (dgp (tx t)).length by unfold wholeS wholeR; rw [h]; exact ⟨rfl, rfl⟩)
    rw [h] at hn
    simp only [Bool.false_eq_true, if_false, B_tx] at hn
    have hd := fun W h => digits_calls b t hts W h
    clear h
    go_enter Tryd.func21, Tryd.ntmps21
    go_wp2_with (first
      | (go_at_call 20; refine hn.mono ?_; rintro e w1 ⟨rfl, hB1, hb1⟩)
      | (go_at_call 42; refine (hd _ hB1).mono ?_; rintro e w2 ⟨rfl, hB2, hb2⟩))
    go_ret
    exact ⟨by rw [HR.out.1]; rfl, by rw [HR.out.2]; exact hB2, hb1.trans hb2⟩

def partB (l : List UInt8) : Bool := hdB 46 l && decide (dgp l.tail ≠ [])
def partS (l : List UInt8) : List UInt8 := if partB l then dgp l.tail else []
def partR (l : List UInt8) : List UInt8 := if partB l then l.tail.drop (dgp l.tail).length else l

set_option maxRecDepth 100000 in
set_option maxHeartbeats 4000000 in
theorem part_calls (b : Nat) (t : ByteArray) (hts : t.size ≤ 140737488355328) (w : World) (hB : Boxed w b 49 (.string t)) :
    Calls Tryd.prog 22 #[.pointer (some ⟨b, 0, none⟩)] w fun e w' => e = .returned (.string (B (partS (tx t)))) ∧ Boxed w' b 49 (.string (B (partR (tx t)))) ∧ Below b w w' := by
  have hn := isNext_one b t hts 46 46 rfl w hB
  have c0 := hB.cell
  cases h : hdB 46 (tx t) with
  | false =>
    have HR := hid (show partS (tx t) = [] ∧ partR (tx t) = tx t by unfold partS partR partB; rw [h]; exact ⟨rfl, rfl⟩)
    rw [h] at hn
    simp only [Bool.false_eq_true, if_false, B_tx] at hn
    clear h
    go_enter Tryd.func22, Tryd.ntmps22
    go_wp2_with (go_at_call 20; refine hn.mono ?_; rintro e w1 ⟨rfl, hB1, hb1⟩; have z1 := hB1.frozen; have c1 := hB1.cell; have HG := hid (And.intro (hB1.set (.string t)) ((hb1.setCell (p := ⟨b, 0, none⟩) (Nat.le_refl b) (.string t)))))
    go_ret
    exact ⟨by rw [HR.out.1]; rfl, by rw [HR.out.2, B_tx]; exact HG.out.1, HG.out.2⟩
  | true =>
    rw [h] at hn
    obtain ⟨u, hu⟩ : ∃ u, B (tx t).tail = u := ⟨_, rfl⟩
    have hux : tx u = (tx t).tail := by rw [← hu, tx_B]
    have hus : u.size ≤ t.size := by rw [← hu]; exact size_tail t
    simp only [if_true, hu] at hn
    have hd := fun W h => digits_calls b u (by omega) W h
    have hdl : (dgp (tx u)).length ≤ u.size := by rw [← txs_len]; exact dgp_le _
    by_cases h0 : dgp (tx u) = []
    · have HR := hid (show partS (tx t) = [] ∧ partR (tx t) = tx t by
        unfold partS partR partB; rw [h, ← hux, decide_eq_false (p := dgp (tx u) ≠ []) (fun e => e h0)]; exact ⟨rfl, rfl⟩)
      rw [h0] at hd
      have e1 : (B []).toList = [] := by rw [Lib.toList_data]; rfl
      have e2 : (B []).toList.isEmpty = true := by rw [e1]; rfl
      obtain ⟨em, hem⟩ : ∃ em, B [] = em := ⟨_, rfl⟩
      change ∀ W, _ → Calls _ _ _ _ fun e w' => e = .returned (.string (B [])) ∧ _ ∧ _ at hd
      rw [hem] at hd e1 e2
      clear h hu hux h0 hdl hem
      go_enter Tryd.func22, Tryd.ntmps22
      go_wp2_with (first
        | (go_at_call 20; refine hn.mono ?_; rintro e w1 ⟨rfl, hB1, hb1⟩)
        | (go_at_call 42; refine (hd _ hB1).mono ?_; rintro e w2 ⟨rfl, hB2, hb2⟩; have z1 := hB2.frozen; have c1 := hB2.cell; have HG := hid (And.intro (hB2.set (.string t)) (((hb1.trans hb2).setCell (p := ⟨b, 0, none⟩) (Nat.le_refl b) (.string t))))))
      go_ret
      exact ⟨by rw [HR.out.1]; rfl, by rw [HR.out.2, B_tx]; exact HG.out.1, HG.out.2⟩
    · have HR := hid (show partS (tx t) = dgp (tx u) ∧ partR (tx t) = (tx u).drop (dgp (tx u)).length by
        unfold partS partR partB; rw [h, ← hux, decide_eq_true (p := dgp (tx u) ≠ []) h0]; exact ⟨rfl, rfl⟩)
      obtain ⟨dd, hdd⟩ : ∃ dd, B (dgp (tx u)) = dd := ⟨_, rfl⟩
      have hds : ¬ dd.size = 0 := by rw [← hdd, size_B]; intro e; exact h0 (List.eq_nil_of_length_eq_zero e)
      obtain ⟨e1, e2⟩ := ne_of dd hds
      change ∀ W, _ → Calls _ _ _ _ fun e w' => e = .returned (.string (B (dgp (tx u)))) ∧ _ ∧ _ at hd
      rw [hdd] at hd
      have HD := hid hdd
      clear h hu hux h0 hdd hds
      go_enter Tryd.func22, Tryd.ntmps22
      go_wp2_with (first
        | (go_at_call 20; refine hn.mono ?_; rintro e w1 ⟨rfl, hB1, hb1⟩)
        | (go_at_call 42; refine (hd _ hB1).mono ?_; rintro e w2 ⟨rfl, hB2, hb2⟩))
      go_ret
      exact ⟨by rw [HR.out.1, HD.out]; rfl, by rw [HR.out.2]; exact hB2, hb1.trans hb2⟩
end Go.Proofs.YtbopikeoaokdpaaDoor
