/- MV: RTa RTb RTc. -/
import Derived.Test.YtpjlepkdiaohiaaGreatDoorNMF
import Derived.Test.YtpjlepkdiaohiaaGreatDoorNMU
import Derived.Test.YtpjlepkdiaohiaaGreatDoorNMK
import Derived.Test.YtpjlepkdiaohiaaGreatDoorNME
import Derived.Test.YtpjlepkdiaohiaaGreatDoorNMJ
/- The reference's Key, of trees: walked. -/
namespace Go.Proofs.YtpjlepkdiaohiaaGreatDoor
open Go.RowKit
attribute [local go_sem] Oper.semAt_some

set_option maxRecDepth 100000 in
set_option maxHeartbeats 4000000 in
theorem rkey_calls (f : Int) (p : Pay) (l : List Tr) (hfin : (Tr.nd p l).fine) (sl : Value) (w : World) (hin : InT w (ndV p sl) (.nd p l)) :
    Calls Tryz.prog 74 #[ndV p sl, .int .i64 f] w fun e w' => e = .returned (.bool (keyOk p f)) ∧ Below w.heap.size w w' := by
  obtain ⟨l', a, na, c, fa, e1, rfl, rfl, hla⟩ := InT.inv hin
  obtain rfl : l = l' := (Tr.nd.inj e1).2
  clear e1
  have hbb := below_alloc w (.cells (ndL p (.slice a l.length c)).toArray 27)
  have hbx := Cls.new w 27 (ndL p (.slice a l.length c))
  have hti := fun W => rtoInt_calls p.n p.dg p.ex (by have := hfin.pay.2.1; omega) W
  have hkd : p.d = ⟨p.n, tx p.dg, p.ex⟩ := rfl
  obtain ⟨tb, htb⟩ : ∃ tb, tiB ⟨p.n, tx p.dg, p.ex⟩ = tb := ⟨_, rfl⟩
  rw [htb] at hti
  have hk : keyOk p f = if ((p.k == 3) && (f != 1)) = true then tb else ((p.k == 5) || ((f != 1) && ((p.k == 6) || ((p.k == 2) || (p.k == 1))))) := by
    unfold keyOk
    rw [hkd, htb]
    have d : ∀ j : Int, decide (p.k = j) = (p.k == j) := fun j => by
      by_cases h : p.k = j
      · rw [decide_eq_true h, h, beq_self_eq_true]
      · rw [decide_eq_false h, (beq_eq_false_iff_ne).2 h]
    have g : decide (f ≠ 1) = (f != 1) := by
      by_cases h : f = 1
      · rw [decide_eq_false (fun h2 => h2 h), h]; rfl
      · rw [decide_eq_true h, (bne_iff_ne).2 h]
    rw [d, d, d, d, g]
    by_cases h : p.k = 3 ∧ f ≠ 1
    · rw [if_pos h, if_pos (by rw [Bool.and_eq_true, beq_iff_eq, bne_iff_ne]; exact h)]
    · rw [if_neg h, if_neg (by rw [Bool.and_eq_true, beq_iff_eq, bne_iff_ne]; exact h)]
  rw [hk]
  obtain ⟨y0, y1, y2, y3, y4, y5, y6, y7, y8⟩ := hbx.nine
  clear hbx hla hin hfin hk hkd htb
  simp only [ndV, ndL] at y0 y1 y2 y3 y4 y5 y6 y7 y8 hbb ⊢
  cases z1 : (f != 1) with
  | false =>
    clear hti
    cases z3 : (p.k == 3) with
    | false =>
      cases z5 : (p.k == 5) with
      | false =>
        go_enter Tryz.func74, Tryz.ntmps74
        go_wp2
        go_ret
        exact ⟨rfl, hbb⟩
      | true =>
        go_enter Tryz.func74, Tryz.ntmps74
        go_wp2
        go_ret
        exact ⟨rfl, hbb⟩
    | true =>
      cases z5 : (p.k == 5) with
      | false =>
        go_enter Tryz.func74, Tryz.ntmps74
        go_wp2
        go_ret
        exact ⟨rfl, hbb⟩
      | true =>
        go_enter Tryz.func74, Tryz.ntmps74
        go_wp2
        go_ret
        exact ⟨rfl, hbb⟩
  | true =>
    cases z3 : (p.k == 3) with
    | true =>
      go_enter Tryz.func74, Tryz.ntmps74
      go_wp2_with fail
      refine (hti _).mono ?_
      rintro e w1 ⟨rfl, hb1⟩
      have hbe := hbb.trans (hb1.mono hbb.size)
      clear hti hb1
      go_wp2
      go_ret
      exact ⟨rfl, hbe⟩
    | false =>
      clear hti
      cases z5 : (p.k == 5) with
      | true =>
        go_enter Tryz.func74, Tryz.ntmps74
        go_wp2
        go_ret
        exact ⟨rfl, hbb⟩
      | false =>
        cases z6 : (p.k == 6) with
        | true =>
          go_enter Tryz.func74, Tryz.ntmps74
          go_wp2
          go_ret
          exact ⟨rfl, hbb⟩
        | false =>
          cases z2 : (p.k == 2) with
          | true =>
            go_enter Tryz.func74, Tryz.ntmps74
            go_wp2
            go_ret
            exact ⟨rfl, hbb⟩
          | false =>
            cases z8 : (p.k == 1) with
            | true =>
              go_enter Tryz.func74, Tryz.ntmps74
              go_wp2
              go_ret
              exact ⟨rfl, hbb⟩
            | false =>
              go_enter Tryz.func74, Tryz.ntmps74
              go_wp2
              go_ret
              exact ⟨rfl, hbb⟩
end Go.Proofs.YtpjlepkdiaohiaaGreatDoor

/- The reference's own, of trees: walked (all kinds but maps). -/
namespace Go.Proofs.YtpjlepkdiaohiaaGreatDoor
open Go.RowKit
attribute [local go_sem] Oper.semAt_some

/-- what own's contract says at a kind. -/
def ROwnC (p : Pay) : Prop := ∀ (l : List Tr), (Tr.nd p l).fine → ∀ (sl : Value) (w : World), InT w (ndV p sl) (.nd p l) →
  Calls Tryz.prog 119 #[ndV p sl] w fun e w' => e = .returned (.bool (ownP p l)) ∧ Below w.heap.size w w'

set_option maxRecDepth 100000 in
set_option maxHeartbeats 4000000 in
theorem rown1 (b n : Bool) (dg : ByteArray) (ex : Int) (u : Nat) (wd : Int) (s : ByteArray) : ROwnC ⟨1, b, n, dg, ex, u, wd, s⟩ := by
  intro l hfin sl w hin
  obtain ⟨l', a, na, c, fa, e1, rfl, rfl, hla⟩ := InT.inv hin
  obtain rfl : l = l' := (Tr.nd.inj e1).2
  clear e1
  have hbb := below_alloc w (.cells (ndL ⟨1, b, n, dg, ex, u, wd, s⟩ (.slice a l.length c)).toArray 27)
  have hbx := Cls.new w 27 (ndL ⟨1, b, n, dg, ex, u, wd, s⟩ (.slice a l.length c))
  have hon := fun W (h : Below w.heap.size w W) => only_calls ⟨1, b, n, dg, ex, u, wd, s⟩ (Pay.z) l hfin _ W (hin.up h)
  have hpay := hfin.pay
  have hpdg := hpay.2.1
  have hpu := hpay.2.2.2.1
  have hps := hpay.2.2.2.2.2
  have how : ownP ⟨1, b, n, dg, ex, u, wd, s⟩ l = (l.isEmpty && onlyP ⟨1, b, n, dg, ex, u, wd, s⟩ (Pay.z)) := rfl
  rw [how]
  obtain ⟨O, hO⟩ : ∃ O, onlyP ⟨1, b, n, dg, ex, u, wd, s⟩ (Pay.z) = O := ⟨_, rfl⟩
  rw [hO] at hon ⊢

  have HX := hid (And.intro hbb hbx)
  obtain ⟨y0, y1, y2, y3, y4, y5, y6, y7, y8⟩ := hbx.nine
  clear hbb hbx hla hin hfin hpay how hO
  simp only [ndV, ndL, Pay.z] at hon y0 y1 y2 y3 y4 y5 y6 y7 y8 ⊢ hpdg hpu hps
  by_cases hl : l = []
  · subst hl
    have z0 : (([] : List Tr).length : Int) = 0 := rfl
    simp only [List.isEmpty_nil, Bool.true_and]
    go_enter Tryz.func119, Tryz.ntmps119
    go_wp2_with fail
    refine (hon _ HX.out.1).mono ?_
    rintro e w1 ⟨rfl, hb⟩
    have hbe := HX.out.1.trans (hb.mono HX.out.1.size)
    clear hon hb
    cases O with
    | false =>
      go_wp2
      go_ret
      exact ⟨rfl, hbe⟩
    | true =>
      go_wp2
      go_ret
      exact ⟨by first | rfl | simp, hbe⟩
  · have hz : ((l.length : Int) == 0) = false := by
      rw [beq_eq_false_iff_ne]
      have := List.length_pos_iff.2 hl
      omega
    have hz2 : l.isEmpty = false := by cases l with | nil => exact absurd rfl hl | cons t r => rfl
    have hz3 : ¬ l.length = 0 := fun h => hl (List.length_eq_zero_iff.1 h)
    rw [hz2, Bool.false_and]
    clear hl hon
    go_enter Tryz.func119, Tryz.ntmps119
    go_wp2
    go_ret
    exact ⟨rfl, HX.out.1⟩

set_option maxRecDepth 100000 in
set_option maxHeartbeats 4000000 in
theorem rown2 (b n : Bool) (dg : ByteArray) (ex : Int) (u : Nat) (wd : Int) (s : ByteArray) : ROwnC ⟨2, b, n, dg, ex, u, wd, s⟩ := by
  intro l hfin sl w hin
  obtain ⟨l', a, na, c, fa, e1, rfl, rfl, hla⟩ := InT.inv hin
  obtain rfl : l = l' := (Tr.nd.inj e1).2
  clear e1
  have hbb := below_alloc w (.cells (ndL ⟨2, b, n, dg, ex, u, wd, s⟩ (.slice a l.length c)).toArray 27)
  have hbx := Cls.new w 27 (ndL ⟨2, b, n, dg, ex, u, wd, s⟩ (.slice a l.length c))
  have hon := fun W (h : Below w.heap.size w W) => only_calls ⟨2, b, n, dg, ex, u, wd, s⟩ ({ Pay.z with b := b }) l hfin _ W (hin.up h)
  have hpay := hfin.pay
  have hpdg := hpay.2.1
  have hpu := hpay.2.2.2.1
  have hps := hpay.2.2.2.2.2
  have how : ownP ⟨2, b, n, dg, ex, u, wd, s⟩ l = (l.isEmpty && onlyP ⟨2, b, n, dg, ex, u, wd, s⟩ ({ Pay.z with b := b })) := rfl
  rw [how]
  obtain ⟨O, hO⟩ : ∃ O, onlyP ⟨2, b, n, dg, ex, u, wd, s⟩ ({ Pay.z with b := b }) = O := ⟨_, rfl⟩
  rw [hO] at hon ⊢

  have HX := hid (And.intro hbb hbx)
  obtain ⟨y0, y1, y2, y3, y4, y5, y6, y7, y8⟩ := hbx.nine
  clear hbb hbx hla hin hfin hpay how hO
  simp only [ndV, ndL, Pay.z] at hon y0 y1 y2 y3 y4 y5 y6 y7 y8 ⊢ hpdg hpu hps
  by_cases hl : l = []
  · subst hl
    have z0 : (([] : List Tr).length : Int) = 0 := rfl
    simp only [List.isEmpty_nil, Bool.true_and]
    go_enter Tryz.func119, Tryz.ntmps119
    go_wp2_with fail
    refine (hon _ HX.out.1).mono ?_
    rintro e w1 ⟨rfl, hb⟩
    have hbe := HX.out.1.trans (hb.mono HX.out.1.size)
    clear hon hb
    cases O with
    | false =>
      go_wp2
      go_ret
      exact ⟨rfl, hbe⟩
    | true =>
      go_wp2
      go_ret
      exact ⟨by first | rfl | simp, hbe⟩
  · have hz : ((l.length : Int) == 0) = false := by
      rw [beq_eq_false_iff_ne]
      have := List.length_pos_iff.2 hl
      omega
    have hz2 : l.isEmpty = false := by cases l with | nil => exact absurd rfl hl | cons t r => rfl
    have hz3 : ¬ l.length = 0 := fun h => hl (List.length_eq_zero_iff.1 h)
    rw [hz2, Bool.false_and]
    clear hl hon
    go_enter Tryz.func119, Tryz.ntmps119
    go_wp2
    go_ret
    exact ⟨rfl, HX.out.1⟩

set_option maxRecDepth 100000 in
set_option maxHeartbeats 4000000 in
theorem rown3 (b n : Bool) (dg : ByteArray) (ex : Int) (u : Nat) (wd : Int) (s : ByteArray) : ROwnC ⟨3, b, n, dg, ex, u, wd, s⟩ := by
  intro l hfin sl w hin
  obtain ⟨l', a, na, c, fa, e1, rfl, rfl, hla⟩ := InT.inv hin
  obtain rfl : l = l' := (Tr.nd.inj e1).2
  clear e1
  have hbb := below_alloc w (.cells (ndL ⟨3, b, n, dg, ex, u, wd, s⟩ (.slice a l.length c)).toArray 27)
  have hbx := Cls.new w 27 (ndL ⟨3, b, n, dg, ex, u, wd, s⟩ (.slice a l.length c))
  have hon := fun W (h : Below w.heap.size w W) => only_calls ⟨3, b, n, dg, ex, u, wd, s⟩ ({ Pay.z with n := n, dg := dg, ex := ex }) l hfin _ W (hin.up h)
  have hpay := hfin.pay
  have hpdg := hpay.2.1
  have hpu := hpay.2.2.2.1
  have hps := hpay.2.2.2.2.2
  have how : ownP ⟨3, b, n, dg, ex, u, wd, s⟩ l = (l.isEmpty && (onlyP ⟨3, b, n, dg, ex, u, wd, s⟩ ({ Pay.z with n := n, dg := dg, ex := ex }) && decR ⟨n, tx dg, ex⟩)) := rfl
  rw [how]
  obtain ⟨O, hO⟩ : ∃ O, onlyP ⟨3, b, n, dg, ex, u, wd, s⟩ ({ Pay.z with n := n, dg := dg, ex := ex }) = O := ⟨_, rfl⟩
  rw [hO] at hon ⊢
  have hdr := fun W => rdecRight_calls n dg ex (Nat.le_trans hpdg (by decide)) W
  obtain ⟨R, hR⟩ : ∃ R, decR ⟨n, tx dg, ex⟩ = R := ⟨_, rfl⟩
  rw [hR] at hdr ⊢
  clear hR
  have HX := hid (And.intro hbb hbx)
  obtain ⟨y0, y1, y2, y3, y4, y5, y6, y7, y8⟩ := hbx.nine
  clear hbb hbx hla hin hfin hpay how hO
  simp only [ndV, ndL, Pay.z] at hon y0 y1 y2 y3 y4 y5 y6 y7 y8 ⊢ hpdg hpu hps
  by_cases hl : l = []
  · subst hl
    have z0 : (([] : List Tr).length : Int) = 0 := rfl
    simp only [List.isEmpty_nil, Bool.true_and]
    go_enter Tryz.func119, Tryz.ntmps119
    go_wp2_with fail
    refine (hon _ HX.out.1).mono ?_
    rintro e w1 ⟨rfl, hb⟩
    have hbe := HX.out.1.trans (hb.mono HX.out.1.size)
    clear hon y0 y1 y2 y3 y4 y5 y6 y7 y8
    obtain ⟨y0, y1, y2, y3, y4, y5, y6, y7, y8⟩ := (HX.out.2.below hb).nine
    clear hb
    cases O with
    | false =>
      go_wp2
      go_ret
      exact ⟨rfl, hbe⟩
    | true =>
      go_wp2_with fail
      refine (hdr _).mono ?_
      rintro e w2 ⟨rfl, hb2⟩
      have hbf := hbe.trans (hb2.mono hbe.size)
      clear hdr hb2 hbe
      go_wp2
      go_ret
      exact ⟨by first | rfl | simp, hbf⟩
  · have hz : ((l.length : Int) == 0) = false := by
      rw [beq_eq_false_iff_ne]
      have := List.length_pos_iff.2 hl
      omega
    have hz2 : l.isEmpty = false := by cases l with | nil => exact absurd rfl hl | cons t r => rfl
    have hz3 : ¬ l.length = 0 := fun h => hl (List.length_eq_zero_iff.1 h)
    rw [hz2, Bool.false_and]
    clear hl hon
    go_enter Tryz.func119, Tryz.ntmps119
    go_wp2
    go_ret
    exact ⟨rfl, HX.out.1⟩

set_option maxRecDepth 100000 in
set_option maxHeartbeats 4000000 in
theorem rown4 (b n : Bool) (dg : ByteArray) (ex : Int) (u : Nat) (wd : Int) (s : ByteArray) : ROwnC ⟨4, b, n, dg, ex, u, wd, s⟩ := by
  intro l hfin sl w hin
  obtain ⟨l', a, na, c, fa, e1, rfl, rfl, hla⟩ := InT.inv hin
  obtain rfl : l = l' := (Tr.nd.inj e1).2
  clear e1
  have hbb := below_alloc w (.cells (ndL ⟨4, b, n, dg, ex, u, wd, s⟩ (.slice a l.length c)).toArray 27)
  have hbx := Cls.new w 27 (ndL ⟨4, b, n, dg, ex, u, wd, s⟩ (.slice a l.length c))
  have hon := fun W (h : Below w.heap.size w W) => only_calls ⟨4, b, n, dg, ex, u, wd, s⟩ ({ Pay.z with u := u, w := wd }) l hfin _ W (hin.up h)
  have hpay := hfin.pay
  have hpdg := hpay.2.1
  have hpu := hpay.2.2.2.1
  have hps := hpay.2.2.2.2.2
  have how : ownP ⟨4, b, n, dg, ex, u, wd, s⟩ l = (l.isEmpty && (onlyP ⟨4, b, n, dg, ex, u, wd, s⟩ ({ Pay.z with u := u, w := wd }) && decide (widE u wd = 0))) := rfl
  rw [how]
  obtain ⟨O, hO⟩ : ∃ O, onlyP ⟨4, b, n, dg, ex, u, wd, s⟩ ({ Pay.z with u := u, w := wd }) = O := ⟨_, rfl⟩
  rw [hO] at hon ⊢
  have hwd := fun W => rWiden_calls u hpu wd W
  obtain ⟨E, hE⟩ : ∃ E, widE u wd = E := ⟨_, rfl⟩
  rw [hE] at hwd ⊢
  clear hE
  obtain ⟨G, hG⟩ : ∃ G, decide (E = 0) = G := ⟨_, rfl⟩
  rw [hG]
  have HG := hid hG
  clear hG
  have HX := hid (And.intro hbb hbx)
  obtain ⟨y0, y1, y2, y3, y4, y5, y6, y7, y8⟩ := hbx.nine
  clear hbb hbx hla hin hfin hpay how hO
  simp only [ndV, ndL, Pay.z] at hon y0 y1 y2 y3 y4 y5 y6 y7 y8 ⊢ hpdg hpu hps
  by_cases hl : l = []
  · subst hl
    have z0 : (([] : List Tr).length : Int) = 0 := rfl
    simp only [List.isEmpty_nil, Bool.true_and]
    go_enter Tryz.func119, Tryz.ntmps119
    go_wp2_with fail
    refine (hwd _).mono ?_
    rintro e w0 ⟨rfl, hb0⟩
    have hB := HX.out.1.trans (hb0.mono HX.out.1.size)
    clear y0 y1 y2 y3 y4 y5 y6 y7 y8
    obtain ⟨y0, y1, y2, y3, y4, y5, y6, y7, y8⟩ := (HX.out.2.below hb0).nine
    have HB := hid hB
    clear hB hb0 hwd
    go_wp2_with fail
    refine (hon _ HB.out).mono ?_
    rintro e w1 ⟨rfl, hb⟩
    have hbe := HB.out.trans (hb.mono HB.out.size)
    clear hon hb
    cases O with
    | false =>
      go_wp2
      go_ret
      exact ⟨rfl, hbe⟩
    | true =>
      by_cases hE0 : E = 0
      · have hz : (E == 0) = true := by rw [beq_iff_eq]; exact hE0
        obtain rfl : G = true := HG.out.symm.trans (decide_eq_true hE0)
        clear hE0
        go_wp2
        go_ret
        exact ⟨rfl, hbe⟩
      · have hz : (E == 0) = false := by rw [beq_eq_false_iff_ne]; exact hE0
        obtain rfl : G = false := HG.out.symm.trans (decide_eq_false hE0)
        clear hE0
        go_wp2
        go_ret
        exact ⟨rfl, hbe⟩
  · have hz : ((l.length : Int) == 0) = false := by
      rw [beq_eq_false_iff_ne]
      have := List.length_pos_iff.2 hl
      omega
    have hz2 : l.isEmpty = false := by cases l with | nil => exact absurd rfl hl | cons t r => rfl
    have hz3 : ¬ l.length = 0 := fun h => hl (List.length_eq_zero_iff.1 h)
    rw [hz2, Bool.false_and]
    clear hl hon
    go_enter Tryz.func119, Tryz.ntmps119
    go_wp2_with fail
    refine (hwd _).mono ?_
    rintro e w0 ⟨rfl, hb0⟩
    have hbe := HX.out.1.trans (hb0.mono HX.out.1.size)
    clear hwd hb0
    go_wp2
    go_ret
    exact ⟨rfl, hbe⟩

set_option maxRecDepth 100000 in
set_option maxHeartbeats 4000000 in
theorem rown5 (b n : Bool) (dg : ByteArray) (ex : Int) (u : Nat) (wd : Int) (s : ByteArray) : ROwnC ⟨5, b, n, dg, ex, u, wd, s⟩ := by
  intro l hfin sl w hin
  obtain ⟨l', a, na, c, fa, e1, rfl, rfl, hla⟩ := InT.inv hin
  obtain rfl : l = l' := (Tr.nd.inj e1).2
  clear e1
  have hbb := below_alloc w (.cells (ndL ⟨5, b, n, dg, ex, u, wd, s⟩ (.slice a l.length c)).toArray 27)
  have hbx := Cls.new w 27 (ndL ⟨5, b, n, dg, ex, u, wd, s⟩ (.slice a l.length c))
  have hon := fun W (h : Below w.heap.size w W) => only_calls ⟨5, b, n, dg, ex, u, wd, s⟩ ({ Pay.z with s := s }) l hfin _ W (hin.up h)
  have hpay := hfin.pay
  have hpdg := hpay.2.1
  have hpu := hpay.2.2.2.1
  have hps := hpay.2.2.2.2.2
  have how : ownP ⟨5, b, n, dg, ex, u, wd, s⟩ l = (l.isEmpty && (onlyP ⟨5, b, n, dg, ex, u, wd, s⟩ ({ Pay.z with s := s }) && (decide (s.size ≤ 400) && utfOk s))) := rfl
  rw [how]
  obtain ⟨O, hO⟩ : ∃ O, onlyP ⟨5, b, n, dg, ex, u, wd, s⟩ ({ Pay.z with s := s }) = O := ⟨_, rfl⟩
  rw [hO] at hon ⊢
  have hut := fun W => rutf_calls s (Nat.le_trans hps (by decide)) W
  obtain ⟨R, hR⟩ : ∃ R, utfOk s = R := ⟨_, rfl⟩
  rw [hR] at hut ⊢
  clear hR
  obtain ⟨G, hG⟩ : ∃ G, decide (s.size ≤ 400) = G := ⟨_, rfl⟩
  rw [hG]
  have HG := hid hG
  clear hG
  have HX := hid (And.intro hbb hbx)
  obtain ⟨y0, y1, y2, y3, y4, y5, y6, y7, y8⟩ := hbx.nine
  clear hbb hbx hla hin hfin hpay how hO
  simp only [ndV, ndL, Pay.z] at hon y0 y1 y2 y3 y4 y5 y6 y7 y8 ⊢ hpdg hpu hps
  by_cases hl : l = []
  · subst hl
    have z0 : (([] : List Tr).length : Int) = 0 := rfl
    simp only [List.isEmpty_nil, Bool.true_and]
    go_enter Tryz.func119, Tryz.ntmps119
    go_wp2_with fail
    refine (hon _ HX.out.1).mono ?_
    rintro e w1 ⟨rfl, hb⟩
    have hbe := HX.out.1.trans (hb.mono HX.out.1.size)
    clear hon y0 y1 y2 y3 y4 y5 y6 y7 y8
    obtain ⟨y0, y1, y2, y3, y4, y5, y6, y7, y8⟩ := (HX.out.2.below hb).nine
    clear hb
    cases O with
    | false =>
      go_wp2
      go_ret
      exact ⟨rfl, hbe⟩
    | true =>
      by_cases h4 : s.size ≤ 400
      · have h4i : (s.size : Int) ≤ 400 := by omega
        obtain rfl : G = true := HG.out.symm.trans (decide_eq_true h4)
        clear h4
        go_wp2_with fail
        refine (hut _).mono ?_
        rintro e w2 ⟨rfl, rfl⟩
        clear hut
        go_wp2
        go_ret
        exact ⟨rfl, hbe⟩
      · have h4i : decide ((s.size : Int) ≤ 400) = false := decide_eq_false (by omega)
        obtain rfl : G = false := HG.out.symm.trans (decide_eq_false h4)
        clear h4
        go_wp2
        go_ret
        exact ⟨rfl, hbe⟩
  · have hz : ((l.length : Int) == 0) = false := by
      rw [beq_eq_false_iff_ne]
      have := List.length_pos_iff.2 hl
      omega
    have hz2 : l.isEmpty = false := by cases l with | nil => exact absurd rfl hl | cons t r => rfl
    have hz3 : ¬ l.length = 0 := fun h => hl (List.length_eq_zero_iff.1 h)
    rw [hz2, Bool.false_and]
    clear hl hon
    go_enter Tryz.func119, Tryz.ntmps119
    go_wp2
    go_ret
    exact ⟨rfl, HX.out.1⟩

set_option maxRecDepth 100000 in
set_option maxHeartbeats 4000000 in
theorem rown6 (b n : Bool) (dg : ByteArray) (ex : Int) (u : Nat) (wd : Int) (s : ByteArray) : ROwnC ⟨6, b, n, dg, ex, u, wd, s⟩ := by
  intro l hfin sl w hin
  obtain ⟨l', a, na, c, fa, e1, rfl, rfl, hla⟩ := InT.inv hin
  obtain rfl : l = l' := (Tr.nd.inj e1).2
  clear e1
  have hbb := below_alloc w (.cells (ndL ⟨6, b, n, dg, ex, u, wd, s⟩ (.slice a l.length c)).toArray 27)
  have hbx := Cls.new w 27 (ndL ⟨6, b, n, dg, ex, u, wd, s⟩ (.slice a l.length c))
  have hon := fun W (h : Below w.heap.size w W) => only_calls ⟨6, b, n, dg, ex, u, wd, s⟩ ({ Pay.z with s := s }) l hfin _ W (hin.up h)
  have hpay := hfin.pay
  have hpdg := hpay.2.1
  have hpu := hpay.2.2.2.1
  have hps := hpay.2.2.2.2.2
  have how : ownP ⟨6, b, n, dg, ex, u, wd, s⟩ l = (l.isEmpty && (onlyP ⟨6, b, n, dg, ex, u, wd, s⟩ ({ Pay.z with s := s }) && decide (s.size ≤ 400))) := rfl
  rw [how]
  obtain ⟨O, hO⟩ : ∃ O, onlyP ⟨6, b, n, dg, ex, u, wd, s⟩ ({ Pay.z with s := s }) = O := ⟨_, rfl⟩
  rw [hO] at hon ⊢
  obtain ⟨G, hG⟩ : ∃ G, decide (s.size ≤ 400) = G := ⟨_, rfl⟩
  rw [hG]
  have HG := hid hG
  clear hG
  have HX := hid (And.intro hbb hbx)
  obtain ⟨y0, y1, y2, y3, y4, y5, y6, y7, y8⟩ := hbx.nine
  clear hbb hbx hla hin hfin hpay how hO
  simp only [ndV, ndL, Pay.z] at hon y0 y1 y2 y3 y4 y5 y6 y7 y8 ⊢ hpdg hpu hps
  by_cases hl : l = []
  · subst hl
    have z0 : (([] : List Tr).length : Int) = 0 := rfl
    simp only [List.isEmpty_nil, Bool.true_and]
    go_enter Tryz.func119, Tryz.ntmps119
    go_wp2_with fail
    refine (hon _ HX.out.1).mono ?_
    rintro e w1 ⟨rfl, hb⟩
    have hbe := HX.out.1.trans (hb.mono HX.out.1.size)
    clear hon y0 y1 y2 y3 y4 y5 y6 y7 y8
    obtain ⟨y0, y1, y2, y3, y4, y5, y6, y7, y8⟩ := (HX.out.2.below hb).nine
    clear hb
    cases O with
    | false =>
      go_wp2
      go_ret
      exact ⟨rfl, hbe⟩
    | true =>
      by_cases h4 : s.size ≤ 400
      · have h4i : (s.size : Int) ≤ 400 := by omega
        obtain rfl : G = true := HG.out.symm.trans (decide_eq_true h4)
        clear h4
        go_wp2
        go_ret
        exact ⟨rfl, hbe⟩
      · have h4i : decide ((s.size : Int) ≤ 400) = false := decide_eq_false (by omega)
        obtain rfl : G = false := HG.out.symm.trans (decide_eq_false h4)
        clear h4
        go_wp2
        go_ret
        exact ⟨rfl, hbe⟩
  · have hz : ((l.length : Int) == 0) = false := by
      rw [beq_eq_false_iff_ne]
      have := List.length_pos_iff.2 hl
      omega
    have hz2 : l.isEmpty = false := by cases l with | nil => exact absurd rfl hl | cons t r => rfl
    have hz3 : ¬ l.length = 0 := fun h => hl (List.length_eq_zero_iff.1 h)
    rw [hz2, Bool.false_and]
    clear hl hon
    go_enter Tryz.func119, Tryz.ntmps119
    go_wp2
    go_ret
    exact ⟨rfl, HX.out.1⟩

set_option maxRecDepth 100000 in
set_option maxHeartbeats 4000000 in
theorem rown10 (b n : Bool) (dg : ByteArray) (ex : Int) (u : Nat) (wd : Int) (s : ByteArray) : ROwnC ⟨10, b, n, dg, ex, u, wd, s⟩ := by
  intro l hfin sl w hin
  obtain ⟨l', a, na, c, fa, e1, rfl, rfl, hla⟩ := InT.inv hin
  obtain rfl : l = l' := (Tr.nd.inj e1).2
  clear e1
  have hbb := below_alloc w (.cells (ndL ⟨10, b, n, dg, ex, u, wd, s⟩ (.slice a l.length c)).toArray 27)
  have hbx := Cls.new w 27 (ndL ⟨10, b, n, dg, ex, u, wd, s⟩ (.slice a l.length c))
  have hon := fun W (h : Below w.heap.size w W) => only_calls ⟨10, b, n, dg, ex, u, wd, s⟩ ({ Pay.z with u := u }) l hfin _ W (hin.up h)
  have hpay := hfin.pay
  have hpdg := hpay.2.1
  have hpu := hpay.2.2.2.1
  have hps := hpay.2.2.2.2.2
  have how : ownP ⟨10, b, n, dg, ex, u, wd, s⟩ l = (l.isEmpty && (onlyP ⟨10, b, n, dg, ex, u, wd, s⟩ ({ Pay.z with u := u }) && (decide (u ≤ 19) || (decide (u = 23) || (decide (32 ≤ u) && decide (u ≤ 255)))))) := rfl
  rw [how]
  obtain ⟨O, hO⟩ : ∃ O, onlyP ⟨10, b, n, dg, ex, u, wd, s⟩ ({ Pay.z with u := u }) = O := ⟨_, rfl⟩
  rw [hO] at hon ⊢
  obtain ⟨G, hG⟩ : ∃ G, (decide (u ≤ 19) || (decide (u = 23) || (decide (32 ≤ u) && decide (u ≤ 255)))) = G := ⟨_, rfl⟩
  rw [hG]
  have HG := hid hG
  clear hG
  have HX := hid (And.intro hbb hbx)
  obtain ⟨y0, y1, y2, y3, y4, y5, y6, y7, y8⟩ := hbx.nine
  clear hbb hbx hla hin hfin hpay how hO
  simp only [ndV, ndL, Pay.z] at hon y0 y1 y2 y3 y4 y5 y6 y7 y8 ⊢ hpdg hpu hps
  by_cases hl : l = []
  · subst hl
    have z0 : (([] : List Tr).length : Int) = 0 := rfl
    simp only [List.isEmpty_nil, Bool.true_and]
    go_enter Tryz.func119, Tryz.ntmps119
    go_wp2_with fail
    refine (hon _ HX.out.1).mono ?_
    rintro e w1 ⟨rfl, hb⟩
    have hbe := HX.out.1.trans (hb.mono HX.out.1.size)
    clear hon y0 y1 y2 y3 y4 y5 y6 y7 y8
    obtain ⟨y0, y1, y2, y3, y4, y5, y6, y7, y8⟩ := (HX.out.2.below hb).nine
    clear hb
    cases O with
    | false =>
      go_wp2
      go_ret
      exact ⟨rfl, hbe⟩
    | true =>
      rcases (show u ≤ 19 ∨ u = 23 ∨ (20 ≤ u ∧ u ≤ 31 ∧ u ≠ 23) ∨ (32 ≤ u ∧ u ≤ 255) ∨ 255 < u by omega) with hc | hc | hc | hc | hc
      · obtain rfl : G = true := HG.out.symm.trans (by
            rw [decide_eq_true hc]; rfl)
        have f1 : (u : Int) ≤ 19 := by omega
        clear hc
        go_wp2
        go_ret
        exact ⟨rfl, hbe⟩
      · subst hc
        obtain rfl : G = true := HG.out.symm.trans (by decide)
        go_wp2
        go_ret
        exact ⟨rfl, hbe⟩
      · obtain rfl : G = false := HG.out.symm.trans (by
            rw [decide_eq_false (by omega), decide_eq_false (by omega), decide_eq_false (by omega)]; rfl)
        have f1 : decide ((u : Int) ≤ 19) = false := decide_eq_false (by omega)
        have f2 : ((u : Int) == 23) = false := by rw [beq_eq_false_iff_ne]; omega
        have f3 : decide ((32 : Int) ≤ (u : Nat)) = false := decide_eq_false (by omega)
        clear hc
        go_wp2
        go_ret
        exact ⟨rfl, hbe⟩
      · obtain rfl : G = true := HG.out.symm.trans (by
            rw [decide_eq_true hc.1, decide_eq_true hc.2, Bool.and_true, Bool.or_true, Bool.or_true])
        have f1 : decide ((u : Int) ≤ 19) = false := decide_eq_false (by omega)
        have f2 : ((u : Int) == 23) = false := by rw [beq_eq_false_iff_ne]; omega
        have f3 : (32 : Int) ≤ (u : Nat) := by omega
        have f4 : (u : Int) ≤ 255 := by omega
        clear hc
        go_wp2
        go_ret
        exact ⟨rfl, hbe⟩
      · obtain rfl : G = false := HG.out.symm.trans (by
            rw [decide_eq_false (by omega), decide_eq_false (by omega), decide_eq_false (by omega : ¬ u ≤ 255), Bool.and_false]; rfl)
        have f1 : decide ((u : Int) ≤ 19) = false := decide_eq_false (by omega)
        have f2 : ((u : Int) == 23) = false := by rw [beq_eq_false_iff_ne]; omega
        have f3 : (32 : Int) ≤ (u : Nat) := by omega
        have f4 : decide ((u : Int) ≤ 255) = false := decide_eq_false (by omega)
        clear hc
        go_wp2
        go_ret
        exact ⟨rfl, hbe⟩
  · have hz : ((l.length : Int) == 0) = false := by
      rw [beq_eq_false_iff_ne]
      have := List.length_pos_iff.2 hl
      omega
    have hz2 : l.isEmpty = false := by cases l with | nil => exact absurd rfl hl | cons t r => rfl
    have hz3 : ¬ l.length = 0 := fun h => hl (List.length_eq_zero_iff.1 h)
    rw [hz2, Bool.false_and]
    clear hl hon
    go_enter Tryz.func119, Tryz.ntmps119
    go_wp2
    go_ret
    exact ⟨rfl, HX.out.1⟩

set_option maxRecDepth 100000 in
set_option maxHeartbeats 4000000 in
theorem rown11 (b n : Bool) (dg : ByteArray) (ex : Int) (u : Nat) (wd : Int) (s : ByteArray) : ROwnC ⟨11, b, n, dg, ex, u, wd, s⟩ := by
  intro l hfin sl w hin
  obtain ⟨l', a, na, c, fa, e1, rfl, rfl, hla⟩ := InT.inv hin
  obtain rfl : l = l' := (Tr.nd.inj e1).2
  clear e1
  have hbb := below_alloc w (.cells (ndL ⟨11, b, n, dg, ex, u, wd, s⟩ (.slice a l.length c)).toArray 27)
  have hbx := Cls.new w 27 (ndL ⟨11, b, n, dg, ex, u, wd, s⟩ (.slice a l.length c))
  have hon := fun W (h : Below w.heap.size w W) => only_calls ⟨11, b, n, dg, ex, u, wd, s⟩ ({ Pay.z with u := u, s := s }) l hfin _ W (hin.up h)
  have hpay := hfin.pay
  have hpdg := hpay.2.1
  have hpu := hpay.2.2.2.1
  have hps := hpay.2.2.2.2.2
  have how : ownP ⟨11, b, n, dg, ex, u, wd, s⟩ l = (l.isEmpty && (onlyP ⟨11, b, n, dg, ex, u, wd, s⟩ ({ Pay.z with u := u, s := s }) && (decide (u ≤ 255) && decide (s.size ≤ 400)))) := rfl
  rw [how]
  obtain ⟨O, hO⟩ : ∃ O, onlyP ⟨11, b, n, dg, ex, u, wd, s⟩ ({ Pay.z with u := u, s := s }) = O := ⟨_, rfl⟩
  rw [hO] at hon ⊢
  obtain ⟨G2, hG2⟩ : ∃ G, decide (u ≤ 255) = G := ⟨_, rfl⟩
  rw [hG2]
  have HG2 := hid hG2
  clear hG2
  obtain ⟨G, hG⟩ : ∃ G, decide (s.size ≤ 400) = G := ⟨_, rfl⟩
  rw [hG]
  have HG := hid hG
  clear hG
  have HX := hid (And.intro hbb hbx)
  obtain ⟨y0, y1, y2, y3, y4, y5, y6, y7, y8⟩ := hbx.nine
  clear hbb hbx hla hin hfin hpay how hO
  simp only [ndV, ndL, Pay.z] at hon y0 y1 y2 y3 y4 y5 y6 y7 y8 ⊢ hpdg hpu hps
  by_cases hl : l = []
  · subst hl
    have z0 : (([] : List Tr).length : Int) = 0 := rfl
    simp only [List.isEmpty_nil, Bool.true_and]
    go_enter Tryz.func119, Tryz.ntmps119
    go_wp2_with fail
    refine (hon _ HX.out.1).mono ?_
    rintro e w1 ⟨rfl, hb⟩
    have hbe := HX.out.1.trans (hb.mono HX.out.1.size)
    clear hon y0 y1 y2 y3 y4 y5 y6 y7 y8
    obtain ⟨y0, y1, y2, y3, y4, y5, y6, y7, y8⟩ := (HX.out.2.below hb).nine
    clear hb
    cases O with
    | false =>
      go_wp2
      go_ret
      exact ⟨rfl, hbe⟩
    | true =>
      by_cases h2 : u ≤ 255
      · have h2i : (u : Int) ≤ 255 := by omega
        obtain rfl : G2 = true := HG2.out.symm.trans (decide_eq_true h2)
        clear h2
        by_cases h4 : s.size ≤ 400
        · have h4i : (s.size : Int) ≤ 400 := by omega
          obtain rfl : G = true := HG.out.symm.trans (decide_eq_true h4)
          clear h4
          go_wp2
          go_ret
          exact ⟨rfl, hbe⟩
        · have h4i : decide ((s.size : Int) ≤ 400) = false := decide_eq_false (by omega)
          obtain rfl : G = false := HG.out.symm.trans (decide_eq_false h4)
          clear h4
          go_wp2
          go_ret
          exact ⟨rfl, hbe⟩
      · have h2i : decide ((u : Int) ≤ 255) = false := decide_eq_false (by omega)
        obtain rfl : G2 = false := HG2.out.symm.trans (decide_eq_false h2)
        clear h2
        go_wp2
        go_ret
        exact ⟨rfl, hbe⟩
  · have hz : ((l.length : Int) == 0) = false := by
      rw [beq_eq_false_iff_ne]
      have := List.length_pos_iff.2 hl
      omega
    have hz2 : l.isEmpty = false := by cases l with | nil => exact absurd rfl hl | cons t r => rfl
    have hz3 : ¬ l.length = 0 := fun h => hl (List.length_eq_zero_iff.1 h)
    rw [hz2, Bool.false_and]
    clear hl hon
    go_enter Tryz.func119, Tryz.ntmps119
    go_wp2
    go_ret
    exact ⟨rfl, HX.out.1⟩

set_option maxRecDepth 100000 in
set_option maxHeartbeats 4000000 in
theorem rown7 (b n : Bool) (dg : ByteArray) (ex : Int) (u : Nat) (wd : Int) (s : ByteArray) : ROwnC ⟨7, b, n, dg, ex, u, wd, s⟩ := by
  intro l hfin sl w hin
  obtain ⟨l', a, na, c, fa, e1, rfl, rfl, hla⟩ := InT.inv hin
  obtain rfl : l = l' := (Tr.nd.inj e1).2
  clear e1
  have hbb := below_alloc w (.cells (ndL ⟨7, b, n, dg, ex, u, wd, s⟩ (.slice a l.length c)).toArray 27)
  have hbx := Cls.new w 27 (ndL ⟨7, b, n, dg, ex, u, wd, s⟩ (.slice a l.length c))
  have hon := fun W (h : Below w.heap.size w W) => only_calls ⟨7, b, n, dg, ex, u, wd, s⟩ (Pay.z) l hfin _ W (hin.up h)
  have hpay := hfin.pay
  have hpdg := hpay.2.1
  have hpu := hpay.2.2.2.1
  have hps := hpay.2.2.2.2.2
  have how : ownP ⟨7, b, n, dg, ex, u, wd, s⟩ l = (onlyP ⟨7, b, n, dg, ex, u, wd, s⟩ (Pay.z)) := rfl
  rw [how]
  obtain ⟨O, hO⟩ : ∃ O, onlyP ⟨7, b, n, dg, ex, u, wd, s⟩ (Pay.z) = O := ⟨_, rfl⟩
  rw [hO] at hon ⊢

  have HX := hid (And.intro hbb hbx)
  obtain ⟨y0, y1, y2, y3, y4, y5, y6, y7, y8⟩ := hbx.nine
  clear hbb hbx hla hin hfin hpay how hO
  simp only [ndV, ndL, Pay.z] at hon y0 y1 y2 y3 y4 y5 y6 y7 y8 ⊢ hpdg hpu hps
  go_enter Tryz.func119, Tryz.ntmps119
  go_wp2_with fail
  refine (hon _ HX.out.1).mono ?_
  rintro e w1 ⟨rfl, hb⟩
  have hbe := HX.out.1.trans (hb.mono HX.out.1.size)
  clear hon hb
  go_wp2
  go_ret
  exact ⟨rfl, hbe⟩

set_option maxRecDepth 100000 in
set_option maxHeartbeats 4000000 in
theorem rown9 (b n : Bool) (dg : ByteArray) (ex : Int) (u : Nat) (wd : Int) (s : ByteArray) : ROwnC ⟨9, b, n, dg, ex, u, wd, s⟩ := by
  intro l hfin sl w hin
  obtain ⟨l', a, na, c, fa, e1, rfl, rfl, hla⟩ := InT.inv hin
  obtain rfl : l = l' := (Tr.nd.inj e1).2
  clear e1
  have hbb := below_alloc w (.cells (ndL ⟨9, b, n, dg, ex, u, wd, s⟩ (.slice a l.length c)).toArray 27)
  have hbx := Cls.new w 27 (ndL ⟨9, b, n, dg, ex, u, wd, s⟩ (.slice a l.length c))
  have hon := fun W (h : Below w.heap.size w W) => only_calls ⟨9, b, n, dg, ex, u, wd, s⟩ ({ Pay.z with u := u }) l hfin _ W (hin.up h)
  have hpay := hfin.pay
  have hpdg := hpay.2.1
  have hpu := hpay.2.2.2.1
  have hps := hpay.2.2.2.2.2
  have how : ownP ⟨9, b, n, dg, ex, u, wd, s⟩ l = ((decide (l.length = 1) && onlyP ⟨9, b, n, dg, ex, u, wd, s⟩ ({ Pay.z with u := u }))) := rfl
  rw [how]
  obtain ⟨O, hO⟩ : ∃ O, onlyP ⟨9, b, n, dg, ex, u, wd, s⟩ ({ Pay.z with u := u }) = O := ⟨_, rfl⟩
  rw [hO] at hon ⊢
  obtain ⟨G, hG⟩ : ∃ G, decide (l.length = 1) = G := ⟨_, rfl⟩
  rw [hG]
  have HG := hid hG
  clear hG
  have HX := hid (And.intro hbb hbx)
  obtain ⟨y0, y1, y2, y3, y4, y5, y6, y7, y8⟩ := hbx.nine
  clear hbb hbx hla hin hfin hpay how hO
  simp only [ndV, ndL, Pay.z] at hon y0 y1 y2 y3 y4 y5 y6 y7 y8 ⊢ hpdg hpu hps
  by_cases h1 : l.length = 1
  · have hz : ((l.length : Int) == 1) = true := by rw [beq_iff_eq]; omega
    obtain rfl : G = true := HG.out.symm.trans (decide_eq_true h1)
    clear h1
    go_enter Tryz.func119, Tryz.ntmps119
    go_wp2_with fail
    refine (hon _ HX.out.1).mono ?_
    rintro e w1 ⟨rfl, hb⟩
    have hbe := HX.out.1.trans (hb.mono HX.out.1.size)
    clear hon hb
    go_wp2
    go_ret
    exact ⟨rfl, hbe⟩
  · have hz : ((l.length : Int) == 1) = false := by rw [beq_eq_false_iff_ne]; omega
    obtain rfl : G = false := HG.out.symm.trans (decide_eq_false h1)
    clear h1 hon
    go_enter Tryz.func119, Tryz.ntmps119
    go_wp2
    go_ret
    exact ⟨rfl, HX.out.1⟩
end Go.Proofs.YtpjlepkdiaohiaaGreatDoor

/- The reference's own at maps, all, Right, of trees: walked. -/
namespace Go.Proofs.YtpjlepkdiaohiaaGreatDoor
open Go.RowKit
attribute [local go_sem] Oper.semAt_some

theorem keys_not_nodup {l : List Tr} {i k : Nat} {t : Tr} (h1 : (keysT l)[i]? = some t) (h2 : (keysT l)[k]? = some t) (h : k < i) : twice (keysT l) = true := by
  rw [twice_iff]
  intro hn
  have h3 : ((keysT l).take (i + 1)).Nodup := List.Sublist.nodup (List.take_sublist _ _) hn
  refine ((nodup_snoc h1).1 h3).2 (List.mem_of_getElem? (i := k) ?_)
  rw [List.getElem?_take, if_pos h]
  exact h2

set_option maxRecDepth 100000 in
set_option maxHeartbeats 8000000 in
theorem rown8 (b n : Bool) (dg : ByteArray) (ex : Int) (u : Nat) (wd : Int) (s : ByteArray) : ROwnC ⟨8, b, n, dg, ex, u, wd, s⟩ := by
  intro l hfin sl w hin
  obtain ⟨l', a, na, c, f, e1, rfl, rfl, hla⟩ := InT.inv hin
  obtain rfl : l = l' := (Tr.nd.inj e1).2
  clear e1
  have h40 := hfin.len
  have hbb := below_alloc w (.cells (ndL ⟨8, b, n, dg, ex, u, wd, s⟩ (.slice a l.length c)).toArray 27)
  have hbx := Cls.new w 27 (ndL ⟨8, b, n, dg, ex, u, wd, s⟩ (.slice a l.length c))
  have hon := fun W (h : Below w.heap.size w W) => only_calls ⟨8, b, n, dg, ex, u, wd, s⟩ Pay.z l hfin _ W (hin.up h)
  have how : ownP ⟨8, b, n, dg, ex, u, wd, s⟩ l = (onlyP ⟨8, b, n, dg, ex, u, wd, s⟩ Pay.z && (decide (l.length % 2 = 0) && !twice (keysT l))) := rfl
  rw [how]
  obtain ⟨O, hO⟩ : ∃ O, onlyP ⟨8, b, n, dg, ex, u, wd, s⟩ Pay.z = O := ⟨_, rfl⟩
  rw [hO] at hon ⊢
  have HX := hid (And.intro hbb (And.intro hbx (And.intro hla hfin)))
  obtain ⟨y0, y1, y2, y3, y4, y5, y6, y7, y8⟩ := hbx.nine
  clear hbb hbx hla hin hfin how hO
  simp only [ndV, ndL, Pay.z] at hon y0 y1 y2 y3 y4 y5 y6 y7 y8 ⊢
  obtain ⟨T, hT⟩ : ∃ T, twice (keysT l) = T := ⟨_, rfl⟩
  rw [hT]
  have HT := hid hT
  clear hT
  cases O with
  | false =>
    go_enter Tryz.func119, Tryz.ntmps119
    go_wp2_with fail
    refine (hon _ HX.out.1).mono ?_
    rintro e w1 ⟨rfl, hb⟩
    have hbe := HX.out.1.trans (hb.mono HX.out.1.size)
    clear hon hb
    go_wp2
    go_ret
    exact ⟨rfl, hbe⟩
  | true =>
    rw [Bool.true_and]
    by_cases hev : l.length % 2 = 0
    · have hz : ((l.length : Int) % 2 == 1) = false := by rw [beq_eq_false_iff_ne]; omega
      rw [decide_eq_true hev, Bool.true_and]
      go_enter Tryz.func119, Tryz.ntmps119
      go_wp2_with fail
      refine (hon _ HX.out.1).mono ?_
      rintro e w1 ⟨rfl, hb⟩
      have hbe := HX.out.1.trans (hb.mono HX.out.1.size)
      have hx1 := HX.out.2.1.below hb
      have hL1 := HX.out.2.2.1.up hbe
      clear y0 y1 y2 y3 y4 y5 y6 y7 y8
      obtain ⟨y0, y1, y2, y3, y4, y5, y6, y7, y8⟩ := hx1.nine
      have HY := hid (And.intro hbe (And.intro hx1 hL1))
      have HE := hid hev
      clear hon hb hbe hx1 hL1 hev
      go_wp2
      go_loopw [6] (fun v6 wr => ∃ (i j : Nat), v6 = .int .i64 i ∧ i = 2 * j ∧ j ≤ (l.length + 1) / 2 ∧ ((keysT l).take j).Nodup ∧ Below w1.heap.size w1 wr) (fun v6 _ => l.length + 2 - (intOf v6).toNat)
      case atStart => exact ⟨0, 0, rfl, rfl, Nat.zero_le _, by simp, Below.refl _ _⟩
      case round =>
        obtain ⟨i, j, rfl, hij, hj, hnd, hbw⟩ := hrel
        have hwr := HY.out.1.trans (hbw.mono HY.out.1.size)
        have c8 := (HY.out.2.1.below hbw).cell 8 rfl
        by_cases hil : i < l.length
        · obtain ⟨t, ht⟩ : ∃ t, l[i]? = some t := ⟨_, List.getElem?_eq_getElem hil⟩
          have htk : (keysT l)[j]? = some t := by rw [keysT_get, ← hij]; exact ht
          have HI := hid (And.intro hij (And.intro hj (And.intro hnd (And.intro hbw (And.intro hwr (And.intro ht htk))))))
          have hi40 : i < 10000 := by omega
          clear hij hj hnd hbw hwr ht htk y0 y1 y2 y3 y4 y5 y6 y7 y8
          go_wp2
          go_loopw [7] (fun v7 wr => ∃ (k m : Nat), v7 = .int .i64 k ∧ k = 2 * m ∧ k ≤ i ∧ t ∉ (keysT l).take m ∧ Below w1.heap.size w1 wr) (fun v7 _ => i + 2 - (intOf v7).toNat)
          case atStart => exact ⟨0, 0, rfl, rfl, Nat.zero_le _, by simp, HI.out.2.2.2.1⟩
          case round =>
            obtain ⟨k, m, rfl, hkm, hki, hnm, hbw⟩ := hrel
            have hwr := HY.out.1.trans (hbw.mono HY.out.1.size)
            have c8 := (HY.out.2.1.below hbw).cell 8 rfl
            by_cases hk : k < i
            · obtain ⟨x, hx⟩ : ∃ x, l[k]? = some x := ⟨_, List.getElem?_eq_getElem (by omega)⟩
              have hxk : (keysT l)[m]? = some x := by rw [keysT_get, ← hkm]; exact hx
              have ht := HI.out.2.2.2.2.2.1
              obtain ⟨⟨g, o, rfl, ca1⟩, ta⟩ := (HX.out.2.2.1.up hwr) i t ht
              obtain ⟨⟨g', o', ea, cb1⟩, tb⟩ := (HX.out.2.2.1.up hwr) k x hx
              obtain ⟨rfl, rfl⟩ : g = g' ∧ o = o' := by
                have e := Option.some.inj ea
                exact ⟨congrArg (·.block) e, congrArg (·.off) e⟩
              obtain ⟨l1, q1, n1, c1, f1, -, g1, rfl, -⟩ := InT.inv ta
              obtain ⟨l2, q2, n2, c2, f2, -, g2, rfl, -⟩ := InT.inv tb
              rw [g1] at ca1 ta
              rw [g2] at cb1 tb
              obtain ⟨a0, a1, a2, a3, a4, a5, a6, a7, a8⟩ := ca1.cells
              obtain ⟨b0, b1, b2, b3, b4, b5, b6, b7, b8⟩ := cb1.cells
              have hkil : (i : Int) < l.length := by omega
              have hkkl : (k : Int) < l.length := by omega
              have hkki : (k : Int) < i := by omega
              have HW := hid (show wrap64 ((k : Int) + 2) = ((k + 2 : Nat) : Int) by unfold wrap64; omega)
              have hcall := fun W (h : Below wr.heap.size wr W) => rsame_calls t (HX.out.2.2.2.sub (List.mem_of_getElem? ht)) x (.slice q1 l1.length c1) (.slice q2 l2.length c2) W (ta.up h) (tb.up h)
              obtain ⟨sm, hsm⟩ : ∃ sm, Tr.same t x = sm := ⟨_, rfl⟩
              rw [hsm] at hcall
              have hbz := Below.refl wr.heap.size wr
              have HV := hid (And.intro hkm (And.intro hki (And.intro hnm (And.intro hbw (And.intro hwr (And.intro hx (And.intro hxk hsm)))))))
              clear hkm hki hnm hbw hwr hx hxk ht ca1 cb1 ta tb g1 g2 ea hsm
              simp only [ndV, ndL] at hcall
              go_wp2_with fail
              go_region_held3 (fun w' => w'.cell? ⟨w.heap.size, 8, none⟩ = some (.slice (some ⟨g, o, none⟩) l.length c) ∧ w'.cell? ⟨g, o + i * 9, none⟩ = some (.int .i64 t.p.k) ∧ w'.cell? ⟨g, o + i * 9 + 1, none⟩ = some (.bool t.p.b) ∧ w'.cell? ⟨g, o + i * 9 + 2, none⟩ = some (.bool t.p.n) ∧ w'.cell? ⟨g, o + i * 9 + 3, none⟩ = some (.string t.p.dg) ∧ w'.cell? ⟨g, o + i * 9 + 4, none⟩ = some (.int .i64 t.p.ex) ∧ w'.cell? ⟨g, o + i * 9 + 5, none⟩ = some (.int .u64 t.p.u) ∧ w'.cell? ⟨g, o + i * 9 + 6, none⟩ = some (.int .i64 t.p.w) ∧ w'.cell? ⟨g, o + i * 9 + 7, none⟩ = some (.string t.p.s) ∧ w'.cell? ⟨g, o + i * 9 + 8, none⟩ = some (.slice q1 l1.length c1) ∧ w'.cell? ⟨g, o + k * 9, none⟩ = some (.int .i64 x.p.k) ∧ w'.cell? ⟨g, o + k * 9 + 1, none⟩ = some (.bool x.p.b) ∧ w'.cell? ⟨g, o + k * 9 + 2, none⟩ = some (.bool x.p.n) ∧ w'.cell? ⟨g, o + k * 9 + 3, none⟩ = some (.string x.p.dg) ∧ w'.cell? ⟨g, o + k * 9 + 4, none⟩ = some (.int .i64 x.p.ex) ∧ w'.cell? ⟨g, o + k * 9 + 5, none⟩ = some (.int .u64 x.p.u) ∧ w'.cell? ⟨g, o + k * 9 + 6, none⟩ = some (.int .i64 x.p.w) ∧ w'.cell? ⟨g, o + k * 9 + 7, none⟩ = some (.string x.p.s) ∧ w'.cell? ⟨g, o + k * 9 + 8, none⟩ = some (.slice q2 l2.length c2) ∧ Below wr.heap.size wr w')
                (first
              | (refine ⟨?_, ?_, ?_, ?_, ?_, ?_, ?_, ?_, ?_, ?_, ?_, ?_, ?_, ?_, ?_, ?_, ?_, ?_, ?_, ?_⟩ <;> first | assumption | exact cell_below (by assumption) hbX | exact below_nx (by assumption) hbX | exact Below.drew (by assumption) | exact below_nx (Below.drew (by assumption)) hbX)
              | go_keep
              | (go_split_ands
                 refine ⟨?_, ?_, ?_, ?_, ?_, ?_, ?_, ?_, ?_, ?_, ?_, ?_, ?_, ?_, ?_, ?_, ?_, ?_, ?_, ?_⟩ <;> first | assumption | exact cell_below (by assumption) hbX | exact below_nx (by assumption) hbX | exact Below.drew (by assumption) | exact below_nx (Below.drew (by assumption)) hbX))
                (first
                  | (go_at_call 18; refine (hcall _ (by first | assumption | exact Below.drew (by assumption))).mono ?_; rintro e wn ⟨rfl, hbX⟩))
              all_goals (
                go_split_ands
                have hBn : Below wr.heap.size wr wn := by first | assumption | exact Below.drew (by assumption)
                obtain ⟨hkm, hki, hnm, hbw, hwr, hx, hxk, hsm⟩ := HV.out
                have hb2 := hbw.trans (hBn.mono hbw.size)
                have hb3 := hwr.trans (hBn.mono hwr.size)
                cases sm with
                | true =>
                  obtain rfl : t = x := (same_iff t x).1 hsm
                  have htw := keys_not_nodup HI.out.2.2.2.2.2.2 hxk (by have := HI.out.1; omega)
                  obtain rfl : T = true := HT.out.symm.trans htw
                  clear hcall hkm hki hnm hbw hwr hx hxk hsm htw hb2
                  go_wp2
                  go_ret
                  exact ⟨rfl, hb3⟩
                | false =>
                  have hne : t ∉ (keysT l).take (m + 1) := by
                    rw [List.take_add_one, hxk, Option.toList_some]
                    intro h
                    rcases List.mem_append.1 h with h | h
                    · exact hnm h
                    · rw [List.mem_singleton] at h
                      rw [← h, same_self] at hsm
                      cases hsm
                  have HQ := hid (And.intro hne (And.intro hb2 hkm))
                  have hpar : k + 2 ≤ i := by have := HI.out.1; omega
                  clear hcall hkm hki hnm hbw hwr hx hxk hsm hne hb2 hb3
                  go_wp2
                  go_roundw
                  case rel => exact ⟨k + 2, m + 1, by simp, by have := HQ.out.2.2; omega, hpar, HQ.out.1, HQ.out.2.1⟩
                  case measure => simp [intOf]; omega)
            · have hnext : ((keysT l).take (j + 1)).Nodup := (nodup_snoc HI.out.2.2.2.2.2.2).2 ⟨HI.out.2.2.1, by
                have h1 := HI.out.1
                obtain rfl : m = j := by omega
                exact hnm⟩
              have hik : ¬ (k : Int) < i := by omega
              have hikd : decide (k < i) = false := decide_eq_false hk
              have HW := hid (show wrap64 ((i : Int) + 2) = ((i + 2 : Nat) : Int) by unfold wrap64; omega)
              have HQ := hid (And.intro hnext (And.intro hbw (And.intro hkm (And.intro hki hk))))
              clear hkm hki hnm hbw hwr hk hnext
              go_wp2
              go_roundw
              case rel => exact ⟨i + 2, j + 1, by simp, by have := HI.out.1; omega, by have := HI.out.1; have := HE.out; omega, HQ.out.1, HQ.out.2.1⟩
              case measure => simp [intOf]; omega
        · have hall : (keysT l).take j = keysT l := List.take_of_length_le (by rw [keysT_len]; omega)
          have htw : twice (keysT l) = false := by
            rw [← Bool.not_eq_true, twice_iff]
            intro h
            rw [hall] at hnd
            exact h hnd
          obtain rfl : T = false := HT.out.symm.trans htw
          have hik : decide (i < l.length) = false := decide_eq_false hil
          clear hij hj hnd hbw hall htw hil
          go_wp2
          go_ret
          exact ⟨rfl, hwr⟩
    · have hz : ((l.length : Int) % 2 == 1) = true := by rw [beq_iff_eq]; omega
      rw [decide_eq_false hev, Bool.false_and]
      go_enter Tryz.func119, Tryz.ntmps119
      go_wp2_with fail
      refine (hon _ HX.out.1).mono ?_
      rintro e w1 ⟨rfl, hb⟩
      have hbe := HX.out.1.trans (hb.mono HX.out.1.size)
      clear y0 y1 y2 y3 y4 y5 y6 y7 y8
      obtain ⟨y0, y1, y2, y3, y4, y5, y6, y7, y8⟩ := (HX.out.2.1.below hb).nine
      clear hon hb hev
      go_wp2
      go_ret
      exact ⟨rfl, hbe⟩

set_option maxRecDepth 100000 in
set_option maxHeartbeats 4000000 in
theorem rownN (p : Pay) (hk : ¬ (1 ≤ p.k ∧ p.k ≤ 11)) : ROwnC p := by
  intro l hfin sl w hin
  obtain ⟨l', a, na, c, f, e1, rfl, rfl, hla⟩ := InT.inv hin
  obtain rfl : l = l' := (Tr.nd.inj e1).2
  clear e1
  have hbb := below_alloc w (.cells (ndL p (.slice a l.length c)).toArray 27)
  have hbx := Cls.new w 27 (ndL p (.slice a l.length c))
  rw [ownP_none hk]
  have z1 : (p.k == 1) = false := by rw [beq_eq_false_iff_ne]; omega
  have z2 : (p.k == 2) = false := by rw [beq_eq_false_iff_ne]; omega
  have z3 : (p.k == 3) = false := by rw [beq_eq_false_iff_ne]; omega
  have z4 : (p.k == 4) = false := by rw [beq_eq_false_iff_ne]; omega
  have z5 : (p.k == 5) = false := by rw [beq_eq_false_iff_ne]; omega
  have z6 : (p.k == 6) = false := by rw [beq_eq_false_iff_ne]; omega
  have z7 : (p.k == 7) = false := by rw [beq_eq_false_iff_ne]; omega
  have z8 : (p.k == 8) = false := by rw [beq_eq_false_iff_ne]; omega
  have z9 : (p.k == 9) = false := by rw [beq_eq_false_iff_ne]; omega
  have z10 : (p.k == 10) = false := by rw [beq_eq_false_iff_ne]; omega
  have z11 : (p.k == 11) = false := by rw [beq_eq_false_iff_ne]; omega
  have HX := hid hbb
  obtain ⟨y0, y1, y2, y3, y4, y5, y6, y7, y8⟩ := hbx.nine
  clear hbb hbx hla hin hfin hk
  simp only [ndV, ndL] at y0 y1 y2 y3 y4 y5 y6 y7 y8 ⊢
  go_enter Tryz.func119, Tryz.ntmps119
  go_wp2
  go_ret
  exact ⟨rfl, HX.out⟩

theorem rown_calls (p : Pay) : ROwnC p := by
  by_cases hk : 1 ≤ p.k ∧ p.k ≤ 11
  · obtain ⟨k, b, n, dg, ex, u, wd, s⟩ := p
    simp only at hk
    rcases (show k = 1 ∨ k = 2 ∨ k = 3 ∨ k = 4 ∨ k = 5 ∨ k = 6 ∨ k = 7 ∨ k = 8 ∨ k = 9 ∨ k = 10 ∨ k = 11 by omega) with rfl | rfl | rfl | rfl | rfl | rfl | rfl | rfl | rfl | rfl | rfl
    · exact rown1 b n dg ex u wd s
    · exact rown2 b n dg ex u wd s
    · exact rown3 b n dg ex u wd s
    · exact rown4 b n dg ex u wd s
    · exact rown5 b n dg ex u wd s
    · exact rown6 b n dg ex u wd s
    · exact rown7 b n dg ex u wd s
    · exact rown8 b n dg ex u wd s
    · exact rown9 b n dg ex u wd s
    · exact rown10 b n dg ex u wd s
    · exact rown11 b n dg ex u wd s
  · exact rownN p hk
end Go.Proofs.YtpjlepkdiaohiaaGreatDoor

