/- MW: RTe4. -/
import Derived.Test.YtpjlepkdiaohiaaGreatDoorNMV
import Derived.Deep.DeepCutAuto
/- The reference's fits of trees: walked. -/
namespace Go.Proofs.YtpjlepkdiaohiaaGreatDoor
open Go.RowKit
attribute [local go_sem] Oper.semAt_some

/-- fits' answer. -/
def RFitC4 (f : Int) (t : Tr) : Prop := t.fine → ∀ (sl : Value) (w : World), InT w (ndV t.p sl) t →
  Calls Tryz.prog 42 #[ndV t.p sl, .int .i64 f] w fun e w' => e = .returned (.bool (t.fit f)) ∧ Below w.heap.size w w'
theorem fitL_take4 {l : List Tr} {k : Nat} {t : Tr} (h : l[k]? = some t) (f : Int) : fitL (l.take (k + 1)) f = (fitL (l.take k) f && t.fit f) := by
  rw [Bool.eq_iff_iff, Bool.and_eq_true, fitL_iff, fitL_iff, List.take_add_one, h, Option.toList_some]
  constructor
  · intro g
    exact ⟨fun u hu => g u (List.mem_append_left _ hu), g t (List.mem_append_right _ (List.mem_singleton_self t))⟩
  · rintro ⟨g1, g2⟩ u hu
    rcases List.mem_append.1 hu with hu | hu
    · exact g1 u hu
    · rw [List.mem_singleton] at hu; subst hu; exact g2

theorem fitN_E4 {p : Pay} {l : List Tr} {f : Int} (h : p.k ≠ 4 ∧ p.k ≠ 3 ∧ p.k ≠ 6 ∧ p.k ≠ 9 ∧ p.k ≠ 10 ∧ p.k ≠ 11 ∧ p.k ≠ 8) : fitN p l f = formB f := by
  unfold fitN; rw [if_neg (by omega), if_neg (by omega), if_neg (by omega), if_neg (by omega), if_neg (by omega), if_neg (by omega), Bool.and_true]
theorem fitN_64 {p : Pay} {l : List Tr} {f : Int} (h : p.k = 6) : fitN p l f = (formB f && decide (f ≠ 1)) := by
  unfold fitN; rw [if_neg (by omega), if_neg (by omega), if_pos h]
theorem fitN_94 {p : Pay} {l : List Tr} {f : Int} (h : p.k = 9) : fitN p l f = (formB f && (decide (f = 2) || decide (f = 3))) := by
  unfold fitN; rw [if_neg (by omega), if_neg (by omega), if_neg (by omega), if_pos (.inl h)]
theorem fitN_104 {p : Pay} {l : List Tr} {f : Int} (h : p.k = 10) : fitN p l f = (formB f && (decide (f = 2) || decide (f = 3))) := by
  unfold fitN; rw [if_neg (by omega), if_neg (by omega), if_neg (by omega), if_pos (.inr h)]
theorem fitN_114 {p : Pay} {l : List Tr} {f : Int} (h : p.k = 11) : fitN p l f = (formB f && decide (f = 4)) := by
  unfold fitN; rw [if_neg (by omega), if_neg (by omega), if_neg (by omega), if_neg (by omega), if_pos h]
theorem fitN_34 {p : Pay} {l : List Tr} {f : Int} (h : p.k = 3) : fitN p l f = (formB f && (decide (f = 1) || (tiB p.d && (decide (f ≠ 4) || (!(tiB p.d && p.n) || decide (tiN p.d ≤ 9223372036854775808)))))) := by
  unfold fitN; rw [if_neg (by omega), if_pos h]
theorem formB_in4 {f : Int} (h1 : 1 ≤ f) (h2 : f ≤ 4) : formB f = true := by unfold formB; rw [decide_eq_true h1, decide_eq_true h2]; rfl
theorem fitN_84 {p : Pay} {l : List Tr} {f : Int} (h : p.k = 8) : fitN p l f = (formB f && (keysT l).all fun t => keyOk t.p f) := by
  unfold fitN; rw [if_neg (by omega), if_neg (by omega), if_neg (by omega), if_neg (by omega), if_neg (by omega), if_pos h]; rfl
theorem fitN_44 {p : Pay} {l : List Tr} {f : Int} (h : p.k = 4) : fitN p l f = (formB f && (decide (f ≠ 1) && ((decide (f ≠ 4) || decide (p.w ≠ 16)) && (decide (f ≠ 3) || decide (leastS (widS p.u p.w) = p.w))))) := by
  unfold fitN; rw [if_pos h]

/-- fits' answer at a node, its list's nodes being known. -/
def RFitN4 (p : Pay) (lst : List Tr) (f : Int) : Prop := (∀ t, t ∈ lst → RFitC4 f t) → (Tr.nd p lst).fine → ∀ (sl : Value) (w : World), InT w (ndV (Tr.nd p lst).p sl) (Tr.nd p lst) →
  Calls Tryz.prog 42 #[ndV (Tr.nd p lst).p sl, .int .i64 f] w fun e w' => e = .returned (.bool ((Tr.nd p lst).fit f)) ∧ Below w.heap.size w w'
set_option maxRecDepth 100000 in
set_option maxHeartbeats 8000000 in
theorem rfit4_k4 (p : Pay) (lst : List Tr) (f : Int) (hf4 : Hid (f = 4)) (hk0 : Hid (p.k = 4)) : RFitN4 p lst f := by
  have hf1 : 1 ≤ f := by have := hf4.out; omega
  have hf2 : f ≤ 4 := by have := hf4.out; omega
  intro ih hfin sl w hin
  obtain ⟨lst', a, n, c, fa, he, rfl, rfl, hL⟩ := InT.inv hin
  obtain rfl : lst = lst' := (Tr.nd.inj he).2
  clear he
  have h40 := hfin.len
  have hbx := Cls.new w 27 (ndL p (.slice a lst.length c))
  have hbb := below_alloc w (.cells (ndL p (.slice a lst.length c)).toArray 27)
  rw [show (Tr.nd p lst).fit f = (fitN p lst f && fitL lst f) by rw [Tr.fit]]
  obtain ⟨B0, hB0⟩ : ∃ B0, fitN p lst f = B0 := ⟨_, rfl⟩
  rw [hB0]
  have HB := hid hB0
  clear hB0
  obtain ⟨y0, y1, y2, y3, y4, y5, y6, y7, y8⟩ := hbx.nine
  have HX := hid (And.intro hbb (And.intro hbx (And.intro hL (And.intro hfin ih))))
  clear hbb hbx hL hfin hin ih
  simp only [ndV, ndL, Tr.p] at y0 y1 y2 y3 y4 y5 y6 y7 y8 ⊢
  go_enter Tryz.func42, Tryz.ntmps42
  go_upto_block 0 with fail
  go_cut [5] (fun v5 wx => v5 = .bool B0 ∧ Below w.heap.size w wx ∧ Cls wx w.heap.size 27 (ndL p (.slice a lst.length c)))
  case first =>
    have hk := hk0.out
    have z4 : (p.k == 4) = true := by rw [beq_iff_eq]; exact hk
    have h4 := fitN_44 (l := lst) (f := f) hk
    obtain rfl : f = 4 := hf4.out
    · have H0 := hid (show B0 = (p.w != 16) from HB.out.symm.trans (h4.trans (by simp [formB]; rw [Bool.eq_iff_iff]; simp)))
      have hwi := fun W => rWiden_calls p.u HX.out.2.2.2.1.pay.2.2.2.1 p.w W
      have hwl := widS_lt HX.out.2.2.2.1.pay.2.2.2.1 p.w
      obtain ⟨wd, hwd⟩ : ∃ wd, widS p.u p.w = wd := ⟨_, rfl⟩
      obtain ⟨we, hwe⟩ : ∃ we, widE p.u p.w = we := ⟨_, rfl⟩
      rw [hwd, hwe] at hwi
      rw [hwd] at hwl
      clear hk hwd hwe hwl h4
      go_wp2_with fail
      refine (hwi _).mono ?_
      rintro e w1 ⟨rfl, hb1⟩
      have HY := hid (And.intro (HX.out.1.trans (hb1.mono HX.out.1.size)) (HX.out.2.1.below hb1))
      clear hwi hb1 y0 y1 y2 y3 y4 y5 y6 y7 y8
      cases hw16 : (p.w != 16)
      · have d6 := HY.out.2.cell 6 rfl
        have hWW := Below.refl w1.heap.size w1
        go_wp2_with fail
        refine wp_region_held_drew (S := fun w' => w'.cell? ⟨w.heap.size, 6, none⟩ = some (.int .i64 p.w) ∧ Below w1.heap.size w1 w') (by kernel_rfl) (by refine ⟨?_, ?_⟩ <;> first | assumption | exact cell_below (by assumption) hbX | exact below_nx (by assumption) hbX | exact Below.drew (by assumption) | exact below_nx (Below.drew (by assumption)) hbX) (fun hHeld => ?_)
        refine wpAnyH_take (i := 0) (oi := _) (v := ?qv600) rfl (by kernel_rfl) (by kernel_rfl) (by kernel_rfl) (fun _ _ _ h => h) (Or.inl ⟨?qw600, ?qy600⟩) (by assumption) ?_
        case qw600 => rfl
        case qy600 =>
          intro wz hSw
          (try dsimp only at hSw)
          go_simp
          try with_reducible rfl
        try simp only [Act.put, List.getElem_toArray, List.getElem_cons_zero, List.setIfInBounds_toArray, List.set_cons_zero, List.set_cons_succ]
        refine wpAnyH_take (i := 1) (oi := _) (v := ?qv601) rfl (by kernel_rfl) (by kernel_rfl) (by kernel_rfl) (fun _ _ _ h => h) (Or.inl ⟨?qw601, ?qy601⟩) (by assumption) ?_
        case qw601 => rfl
        case qy601 =>
          intro wz hSw
          (try dsimp only at hSw)
          go_simp
          try with_reducible rfl
        try simp only [Act.put, List.getElem_toArray, List.getElem_cons_zero, List.getElem_cons_succ, List.setIfInBounds_toArray, List.set_cons_zero, List.set_cons_succ]
        refine wpAnyH_take (i := 2) (oi := _) (v := ?qv602) rfl (by kernel_rfl) (by kernel_rfl) (by kernel_rfl) (fun _ _ _ h => h) (Or.inl ⟨?qw602, ?qy602⟩) (by assumption) ?_
        case qw602 => rfl
        case qy602 =>
          intro wz hSw
          (try dsimp only at hSw)
          go_simp
          try with_reducible rfl
        try simp only [Act.put, List.getElem_toArray, List.getElem_cons_zero, List.getElem_cons_succ, List.setIfInBounds_toArray, List.set_cons_zero, List.set_cons_succ]
        refine wpAnyH_take (i := 3) (oi := _) (v := ?qv603) rfl (by kernel_rfl) (by kernel_rfl) (by kernel_rfl) (fun _ _ _ h => h) (Or.inl ⟨?qw603, ?qy603⟩) (by assumption) ?_
        case qw603 => rfl
        case qy603 =>
          intro wz hSw
          (try dsimp only at hSw)
          go_simp
          try with_reducible rfl
        try simp only [Act.put, List.getElem_toArray, List.getElem_cons_zero, List.getElem_cons_succ, List.setIfInBounds_toArray, List.set_cons_zero, List.set_cons_succ]
        refine wpAnyH_take (i := 4) (oi := _) (v := ?qv604) rfl (by kernel_rfl) (by kernel_rfl) (by kernel_rfl) (fun _ _ _ h => h) (Or.inl ⟨?qw604, ?qy604⟩) (by assumption) ?_
        case qw604 => rfl
        case qy604 =>
          intro wz hSw
          (try dsimp only at hSw)
          go_simp
          try with_reducible rfl
        try simp only [Act.put, List.getElem_toArray, List.getElem_cons_zero, List.getElem_cons_succ, List.setIfInBounds_toArray, List.set_cons_zero, List.set_cons_succ]
        refine wpAnyH_take (i := 5) (oi := _) (v := ?qv605) rfl (by kernel_rfl) (by kernel_rfl) (by kernel_rfl) (fun _ _ _ h => h) (Or.inl ⟨?qw605, ?qy605⟩) (by assumption) ?_
        case qw605 => rfl
        case qy605 =>
          intro wz hSw
          (try dsimp only at hSw)
          go_simp
          try with_reducible rfl
        try simp only [Act.put, List.getElem_toArray, List.getElem_cons_zero, List.getElem_cons_succ, List.setIfInBounds_toArray, List.set_cons_zero, List.set_cons_succ]
        refine wpAnyH_take (i := 6) (oi := _) (v := ?qv606) rfl (by kernel_rfl) (by kernel_rfl) (by kernel_rfl) (fun _ _ _ h => h) (Or.inl ⟨?qw606, ?qy606⟩) (by assumption) ?_
        case qw606 => rfl
        case qy606 =>
          intro wz hSw
          (try dsimp only at hSw)
          go_simp
          try with_reducible rfl
        try simp only [Act.put, List.getElem_toArray, List.getElem_cons_zero, List.getElem_cons_succ, List.setIfInBounds_toArray, List.set_cons_zero, List.set_cons_succ]
        refine wpAnyH_take (i := 7) (oi := _) (v := ?qv607) rfl (by kernel_rfl) (by kernel_rfl) (by kernel_rfl) (fun _ _ _ h => h) (Or.inl ⟨?qw607, ?qy607⟩) (by assumption) ?_
        case qw607 => rfl
        case qy607 =>
          intro wz hSw
          (try dsimp only at hSw)
          go_simp
          try with_reducible rfl
        try simp only [Act.put, List.getElem_toArray, List.getElem_cons_zero, List.getElem_cons_succ, List.setIfInBounds_toArray, List.set_cons_zero, List.set_cons_succ]
        refine wpAnyH_take (i := 8) (oi := _) (v := ?qv608) rfl (by kernel_rfl) (by kernel_rfl) (by kernel_rfl) (fun _ _ _ h => h) (Or.inl ⟨?qw608, ?qy608⟩) (by assumption) ?_
        case qw608 => rfl
        case qy608 =>
          intro wz hSw
          (try dsimp only at hSw)
          go_simp
          try with_reducible rfl
        try simp only [Act.put, List.getElem_toArray, List.getElem_cons_zero, List.getElem_cons_succ, List.setIfInBounds_toArray, List.set_cons_zero, List.set_cons_succ]
        refine wpAnyH_take (i := 9) (oi := _) (v := ?qv609) rfl (by kernel_rfl) (by kernel_rfl) (by kernel_rfl) (fun _ _ _ h => h) (Or.inl ⟨?qw609, ?qy609⟩) (by assumption) ?_
        case qw609 => rfl
        case qy609 =>
          intro wz hSw
          (try dsimp only at hSw)
          go_simp
          try with_reducible rfl
        try simp only [Act.put, List.getElem_toArray, List.getElem_cons_zero, List.getElem_cons_succ, List.setIfInBounds_toArray, List.set_cons_zero, List.set_cons_succ]
        refine wpAnyH_take (i := 10) (oi := _) (v := ?qv610) rfl (by kernel_rfl) (by kernel_rfl) (by kernel_rfl) (fun _ _ _ h => h) (Or.inl ⟨?qw610, ?qy610⟩) (by assumption) ?_
        case qw610 => rfl
        case qy610 =>
          intro wz hSw
          (try dsimp only at hSw)
          go_simp
          try with_reducible rfl
        try simp only [Act.put, List.getElem_toArray, List.getElem_cons_zero, List.getElem_cons_succ, List.setIfInBounds_toArray, List.set_cons_zero, List.set_cons_succ]
        refine wpAnyH_take (i := 11) (oi := _) (v := ?qv611) rfl (by kernel_rfl) (by kernel_rfl) (by kernel_rfl) (fun _ _ _ h => h) (Or.inl ⟨?qw611, ?qy611⟩) (by assumption) ?_
        case qw611 => rfl
        case qy611 =>
          intro wz hSw
          (try dsimp only at hSw)
          go_simp
          try with_reducible rfl
        try simp only [Act.put, List.getElem_toArray, List.getElem_cons_zero, List.getElem_cons_succ, List.setIfInBounds_toArray, List.set_cons_zero, List.set_cons_succ]
        refine wpAnyH_take (i := 12) (oi := _) (v := ?qv612) rfl (by kernel_rfl) (by kernel_rfl) (by kernel_rfl) (fun _ _ _ h => h) (Or.inl ⟨?qw612, ?qy612⟩) (by assumption) ?_
        case qw612 => rfl
        case qy612 =>
          intro wz hSw
          (try dsimp only at hSw)
          go_simp
          try with_reducible rfl
        try simp only [Act.put, List.getElem_toArray, List.getElem_cons_zero, List.getElem_cons_succ, List.setIfInBounds_toArray, List.set_cons_zero, List.set_cons_succ]
        refine wpAnyH_take (i := 13) (oi := _) (v := ?qv613) rfl (by kernel_rfl) (by kernel_rfl) (by kernel_rfl) (fun _ _ _ h => h) (Or.inl ⟨?qw613, ?qy613⟩) (by assumption) ?_
        case qw613 => rfl
        case qy613 =>
          intro wz hSw
          (try dsimp only at hSw)
          go_simp
          try with_reducible rfl
        try simp only [Act.put, List.getElem_toArray, List.getElem_cons_zero, List.getElem_cons_succ, List.setIfInBounds_toArray, List.set_cons_zero, List.set_cons_succ]
        refine wpAnyH_take (i := 14) (oi := _) (v := ?qv614) rfl (by kernel_rfl) (by kernel_rfl) (by kernel_rfl) (fun _ _ _ h => h) (Or.inl ⟨?qw614, ?qy614⟩) (by assumption) ?_
        case qw614 => rfl
        case qy614 =>
          intro wz hSw
          (try dsimp only at hSw)
          go_simp
          try with_reducible rfl
        try simp only [Act.put, List.getElem_toArray, List.getElem_cons_zero, List.getElem_cons_succ, List.setIfInBounds_toArray, List.set_cons_zero, List.set_cons_succ]
        refine wpAnyH_take (i := 15) (oi := _) (v := undef) rfl (by kernel_rfl) (by kernel_rfl) (by kernel_rfl) (fun _ _ _ h => h) (Or.inr ⟨?qw615, rfl⟩) (by assumption) ?_
        case qw615 => rfl
        try simp only [Act.put, List.getElem_toArray, List.getElem_cons_zero, List.getElem_cons_succ, List.setIfInBounds_toArray, List.set_cons_zero, List.set_cons_succ]
        refine wpAnyH_take (i := 16) (oi := _) (v := undef) rfl (by kernel_rfl) (by kernel_rfl) (by kernel_rfl) (fun _ _ _ h => h) (Or.inr ⟨?qw616, rfl⟩) (by assumption) ?_
        case qw616 => rfl
        try simp only [Act.put, List.getElem_toArray, List.getElem_cons_zero, List.getElem_cons_succ, List.setIfInBounds_toArray, List.set_cons_zero, List.set_cons_succ]
        refine wpAnyH_take (i := 17) (oi := _) (v := undef) rfl (by kernel_rfl) (by kernel_rfl) (by kernel_rfl) (fun _ _ _ h => h) (Or.inr ⟨?qw617, rfl⟩) (by assumption) ?_
        case qw617 => rfl
        try simp only [Act.put, List.getElem_toArray, List.getElem_cons_zero, List.getElem_cons_succ, List.setIfInBounds_toArray, List.set_cons_zero, List.set_cons_succ]
        refine wpAnyH_take (i := 18) (oi := _) (v := undef) rfl (by kernel_rfl) (by kernel_rfl) (by kernel_rfl) (fun _ _ _ h => h) (Or.inr ⟨?qw618, rfl⟩) (by assumption) ?_
        case qw618 => rfl
        try simp only [Act.put, List.getElem_toArray, List.getElem_cons_zero, List.getElem_cons_succ, List.setIfInBounds_toArray, List.set_cons_zero, List.set_cons_succ]
        refine wpAnyH_take (i := 19) (oi := _) (v := undef) rfl (by kernel_rfl) (by kernel_rfl) (by kernel_rfl) (fun _ _ _ h => h) (Or.inr ⟨?qw619, rfl⟩) (by assumption) ?_
        case qw619 => rfl
        try simp only [Act.put, List.getElem_toArray, List.getElem_cons_zero, List.getElem_cons_succ, List.setIfInBounds_toArray, List.set_cons_zero, List.set_cons_succ]
        refine wpAnyH_take (i := 20) (oi := _) (v := undef) rfl (by kernel_rfl) (by kernel_rfl) (by kernel_rfl) (fun _ _ _ h => h) (Or.inr ⟨?qw620, rfl⟩) (by assumption) ?_
        case qw620 => rfl
        try simp only [Act.put, List.getElem_toArray, List.getElem_cons_zero, List.getElem_cons_succ, List.setIfInBounds_toArray, List.set_cons_zero, List.set_cons_succ]
        refine wpAnyH_take (i := 21) (oi := _) (v := undef) rfl (by kernel_rfl) (by kernel_rfl) (by kernel_rfl) (fun _ _ _ h => h) (Or.inr ⟨?qw621, rfl⟩) (by assumption) ?_
        case qw621 => rfl
        try simp only [Act.put, List.getElem_toArray, List.getElem_cons_zero, List.getElem_cons_succ, List.setIfInBounds_toArray, List.set_cons_zero, List.set_cons_succ]
        refine wpAnyH_take (i := 22) (oi := _) (v := undef) rfl (by kernel_rfl) (by kernel_rfl) (by kernel_rfl) (fun _ _ _ h => h) (Or.inr ⟨?qw622, rfl⟩) (by assumption) ?_
        case qw622 => rfl
        try simp only [Act.put, List.getElem_toArray, List.getElem_cons_zero, List.getElem_cons_succ, List.setIfInBounds_toArray, List.set_cons_zero, List.set_cons_succ]
        refine wpAnyH_take (i := 23) (oi := _) (v := undef) rfl (by kernel_rfl) (by kernel_rfl) (by kernel_rfl) (fun _ _ _ h => h) (Or.inr ⟨?qw623, rfl⟩) (by assumption) ?_
        case qw623 => rfl
        try simp only [Act.put, List.getElem_toArray, List.getElem_cons_zero, List.getElem_cons_succ, List.setIfInBounds_toArray, List.set_cons_zero, List.set_cons_succ]
        refine wpAnyH_take (i := 24) (oi := _) (v := ?qv624) rfl (by kernel_rfl) (by kernel_rfl) (by kernel_rfl) (fun _ _ _ h => h) (Or.inl ⟨?qw624, ?qy624⟩) (by assumption) ?_
        case qw624 => rfl
        case qy624 =>
          intro wz hSw
          (try dsimp only at hSw)
          go_simp
          try with_reducible rfl
        try simp only [Act.put, List.getElem_toArray, List.getElem_cons_zero, List.getElem_cons_succ, List.setIfInBounds_toArray, List.set_cons_zero, List.set_cons_succ]
        refine wpAnyH_take (i := 25) (oi := _) (v := ?qv625) rfl (by kernel_rfl) (by kernel_rfl) (by kernel_rfl) (fun _ _ _ h => h) (Or.inl ⟨?qw625, ?qy625⟩) (by assumption) ?_
        case qw625 => rfl
        case qy625 =>
          intro wz hSw
          (try dsimp only at hSw)
          go_simp
          try with_reducible rfl
        try simp only [Act.put, List.getElem_toArray, List.getElem_cons_zero, List.getElem_cons_succ, List.setIfInBounds_toArray, List.set_cons_zero, List.set_cons_succ]
        refine wpAnyH_done (by kernel_rfl) ?_ _
        go_wp2_with fail
        go_meet
        (try dsimp only at hHeld)
        go_split_ands
        exact ⟨by rw [H0.out, hw16], HY.out.1.trans (Below.mono (by assumption) HY.out.1.size), HY.out.2.below (by assumption)⟩
      · have d6 := HY.out.2.cell 6 rfl
        have hWW := Below.refl w1.heap.size w1
        go_wp2_with fail
        refine wp_region_held_drew (S := fun w' => w'.cell? ⟨w.heap.size, 6, none⟩ = some (.int .i64 p.w) ∧ Below w1.heap.size w1 w') (by kernel_rfl) (by refine ⟨?_, ?_⟩ <;> first | assumption | exact cell_below (by assumption) hbX | exact below_nx (by assumption) hbX | exact Below.drew (by assumption) | exact below_nx (Below.drew (by assumption)) hbX) (fun hHeld => ?_)
        refine wpAnyH_take (i := 0) (oi := _) (v := ?qv800) rfl (by kernel_rfl) (by kernel_rfl) (by kernel_rfl) (fun _ _ _ h => h) (Or.inl ⟨?qw800, ?qy800⟩) (by assumption) ?_
        case qw800 => rfl
        case qy800 =>
          intro wz hSw
          (try dsimp only at hSw)
          go_simp
          try with_reducible rfl
        try simp only [Act.put, List.getElem_toArray, List.getElem_cons_zero, List.setIfInBounds_toArray, List.set_cons_zero, List.set_cons_succ]
        refine wpAnyH_take (i := 1) (oi := _) (v := ?qv801) rfl (by kernel_rfl) (by kernel_rfl) (by kernel_rfl) (fun _ _ _ h => h) (Or.inl ⟨?qw801, ?qy801⟩) (by assumption) ?_
        case qw801 => rfl
        case qy801 =>
          intro wz hSw
          (try dsimp only at hSw)
          go_simp
          try with_reducible rfl
        try simp only [Act.put, List.getElem_toArray, List.getElem_cons_zero, List.getElem_cons_succ, List.setIfInBounds_toArray, List.set_cons_zero, List.set_cons_succ]
        refine wpAnyH_take (i := 2) (oi := _) (v := ?qv802) rfl (by kernel_rfl) (by kernel_rfl) (by kernel_rfl) (fun _ _ _ h => h) (Or.inl ⟨?qw802, ?qy802⟩) (by assumption) ?_
        case qw802 => rfl
        case qy802 =>
          intro wz hSw
          (try dsimp only at hSw)
          go_simp
          try with_reducible rfl
        try simp only [Act.put, List.getElem_toArray, List.getElem_cons_zero, List.getElem_cons_succ, List.setIfInBounds_toArray, List.set_cons_zero, List.set_cons_succ]
        refine wpAnyH_take (i := 3) (oi := _) (v := ?qv803) rfl (by kernel_rfl) (by kernel_rfl) (by kernel_rfl) (fun _ _ _ h => h) (Or.inl ⟨?qw803, ?qy803⟩) (by assumption) ?_
        case qw803 => rfl
        case qy803 =>
          intro wz hSw
          (try dsimp only at hSw)
          go_simp
          try with_reducible rfl
        try simp only [Act.put, List.getElem_toArray, List.getElem_cons_zero, List.getElem_cons_succ, List.setIfInBounds_toArray, List.set_cons_zero, List.set_cons_succ]
        refine wpAnyH_take (i := 4) (oi := _) (v := ?qv804) rfl (by kernel_rfl) (by kernel_rfl) (by kernel_rfl) (fun _ _ _ h => h) (Or.inl ⟨?qw804, ?qy804⟩) (by assumption) ?_
        case qw804 => rfl
        case qy804 =>
          intro wz hSw
          (try dsimp only at hSw)
          go_simp
          try with_reducible rfl
        try simp only [Act.put, List.getElem_toArray, List.getElem_cons_zero, List.getElem_cons_succ, List.setIfInBounds_toArray, List.set_cons_zero, List.set_cons_succ]
        refine wpAnyH_take (i := 5) (oi := _) (v := ?qv805) rfl (by kernel_rfl) (by kernel_rfl) (by kernel_rfl) (fun _ _ _ h => h) (Or.inl ⟨?qw805, ?qy805⟩) (by assumption) ?_
        case qw805 => rfl
        case qy805 =>
          intro wz hSw
          (try dsimp only at hSw)
          go_simp
          try with_reducible rfl
        try simp only [Act.put, List.getElem_toArray, List.getElem_cons_zero, List.getElem_cons_succ, List.setIfInBounds_toArray, List.set_cons_zero, List.set_cons_succ]
        refine wpAnyH_take (i := 6) (oi := _) (v := ?qv806) rfl (by kernel_rfl) (by kernel_rfl) (by kernel_rfl) (fun _ _ _ h => h) (Or.inl ⟨?qw806, ?qy806⟩) (by assumption) ?_
        case qw806 => rfl
        case qy806 =>
          intro wz hSw
          (try dsimp only at hSw)
          go_simp
          try with_reducible rfl
        try simp only [Act.put, List.getElem_toArray, List.getElem_cons_zero, List.getElem_cons_succ, List.setIfInBounds_toArray, List.set_cons_zero, List.set_cons_succ]
        refine wpAnyH_take (i := 7) (oi := _) (v := ?qv807) rfl (by kernel_rfl) (by kernel_rfl) (by kernel_rfl) (fun _ _ _ h => h) (Or.inl ⟨?qw807, ?qy807⟩) (by assumption) ?_
        case qw807 => rfl
        case qy807 =>
          intro wz hSw
          (try dsimp only at hSw)
          go_simp
          try with_reducible rfl
        try simp only [Act.put, List.getElem_toArray, List.getElem_cons_zero, List.getElem_cons_succ, List.setIfInBounds_toArray, List.set_cons_zero, List.set_cons_succ]
        refine wpAnyH_take (i := 8) (oi := _) (v := ?qv808) rfl (by kernel_rfl) (by kernel_rfl) (by kernel_rfl) (fun _ _ _ h => h) (Or.inl ⟨?qw808, ?qy808⟩) (by assumption) ?_
        case qw808 => rfl
        case qy808 =>
          intro wz hSw
          (try dsimp only at hSw)
          go_simp
          try with_reducible rfl
        try simp only [Act.put, List.getElem_toArray, List.getElem_cons_zero, List.getElem_cons_succ, List.setIfInBounds_toArray, List.set_cons_zero, List.set_cons_succ]
        refine wpAnyH_take (i := 9) (oi := _) (v := ?qv809) rfl (by kernel_rfl) (by kernel_rfl) (by kernel_rfl) (fun _ _ _ h => h) (Or.inl ⟨?qw809, ?qy809⟩) (by assumption) ?_
        case qw809 => rfl
        case qy809 =>
          intro wz hSw
          (try dsimp only at hSw)
          go_simp
          try with_reducible rfl
        try simp only [Act.put, List.getElem_toArray, List.getElem_cons_zero, List.getElem_cons_succ, List.setIfInBounds_toArray, List.set_cons_zero, List.set_cons_succ]
        refine wpAnyH_take (i := 10) (oi := _) (v := ?qv810) rfl (by kernel_rfl) (by kernel_rfl) (by kernel_rfl) (fun _ _ _ h => h) (Or.inl ⟨?qw810, ?qy810⟩) (by assumption) ?_
        case qw810 => rfl
        case qy810 =>
          intro wz hSw
          (try dsimp only at hSw)
          go_simp
          try with_reducible rfl
        try simp only [Act.put, List.getElem_toArray, List.getElem_cons_zero, List.getElem_cons_succ, List.setIfInBounds_toArray, List.set_cons_zero, List.set_cons_succ]
        refine wpAnyH_take (i := 11) (oi := _) (v := ?qv811) rfl (by kernel_rfl) (by kernel_rfl) (by kernel_rfl) (fun _ _ _ h => h) (Or.inl ⟨?qw811, ?qy811⟩) (by assumption) ?_
        case qw811 => rfl
        case qy811 =>
          intro wz hSw
          (try dsimp only at hSw)
          go_simp
          try with_reducible rfl
        try simp only [Act.put, List.getElem_toArray, List.getElem_cons_zero, List.getElem_cons_succ, List.setIfInBounds_toArray, List.set_cons_zero, List.set_cons_succ]
        refine wpAnyH_take (i := 12) (oi := _) (v := ?qv812) rfl (by kernel_rfl) (by kernel_rfl) (by kernel_rfl) (fun _ _ _ h => h) (Or.inl ⟨?qw812, ?qy812⟩) (by assumption) ?_
        case qw812 => rfl
        case qy812 =>
          intro wz hSw
          (try dsimp only at hSw)
          go_simp
          try with_reducible rfl
        try simp only [Act.put, List.getElem_toArray, List.getElem_cons_zero, List.getElem_cons_succ, List.setIfInBounds_toArray, List.set_cons_zero, List.set_cons_succ]
        refine wpAnyH_take (i := 13) (oi := _) (v := ?qv813) rfl (by kernel_rfl) (by kernel_rfl) (by kernel_rfl) (fun _ _ _ h => h) (Or.inl ⟨?qw813, ?qy813⟩) (by assumption) ?_
        case qw813 => rfl
        case qy813 =>
          intro wz hSw
          (try dsimp only at hSw)
          go_simp
          try with_reducible rfl
        try simp only [Act.put, List.getElem_toArray, List.getElem_cons_zero, List.getElem_cons_succ, List.setIfInBounds_toArray, List.set_cons_zero, List.set_cons_succ]
        refine wpAnyH_take (i := 14) (oi := _) (v := ?qv814) rfl (by kernel_rfl) (by kernel_rfl) (by kernel_rfl) (fun _ _ _ h => h) (Or.inl ⟨?qw814, ?qy814⟩) (by assumption) ?_
        case qw814 => rfl
        case qy814 =>
          intro wz hSw
          (try dsimp only at hSw)
          go_simp
          try with_reducible rfl
        try simp only [Act.put, List.getElem_toArray, List.getElem_cons_zero, List.getElem_cons_succ, List.setIfInBounds_toArray, List.set_cons_zero, List.set_cons_succ]
        refine wpAnyH_take (i := 15) (oi := _) (v := ?qv815) rfl (by kernel_rfl) (by kernel_rfl) (by kernel_rfl) (fun _ _ _ h => h) (Or.inl ⟨?qw815, ?qy815⟩) (by assumption) ?_
        case qw815 => rfl
        case qy815 =>
          intro wz hSw
          (try dsimp only at hSw)
          go_simp
          try with_reducible rfl
        try simp only [Act.put, List.getElem_toArray, List.getElem_cons_zero, List.getElem_cons_succ, List.setIfInBounds_toArray, List.set_cons_zero, List.set_cons_succ]
        refine wpAnyH_take (i := 16) (oi := _) (v := ?qv816) rfl (by kernel_rfl) (by kernel_rfl) (by kernel_rfl) (fun _ _ _ h => h) (Or.inl ⟨?qw816, ?qy816⟩) (by assumption) ?_
        case qw816 => rfl
        case qy816 =>
          intro wz hSw
          (try dsimp only at hSw)
          go_simp
          try with_reducible rfl
        try simp only [Act.put, List.getElem_toArray, List.getElem_cons_zero, List.getElem_cons_succ, List.setIfInBounds_toArray, List.set_cons_zero, List.set_cons_succ]
        refine wpAnyH_take (i := 17) (oi := _) (v := ?qv817) rfl (by kernel_rfl) (by kernel_rfl) (by kernel_rfl) (fun _ _ _ h => h) (Or.inl ⟨?qw817, ?qy817⟩) (by assumption) ?_
        case qw817 => rfl
        case qy817 =>
          intro wz hSw
          (try dsimp only at hSw)
          go_simp
          try with_reducible rfl
        try simp only [Act.put, List.getElem_toArray, List.getElem_cons_zero, List.getElem_cons_succ, List.setIfInBounds_toArray, List.set_cons_zero, List.set_cons_succ]
        refine wpAnyH_take (i := 18) (oi := _) (v := undef) rfl (by kernel_rfl) (by kernel_rfl) (by kernel_rfl) (fun _ _ _ h => h) (Or.inr ⟨?qw818, rfl⟩) (by assumption) ?_
        case qw818 => rfl
        try simp only [Act.put, List.getElem_toArray, List.getElem_cons_zero, List.getElem_cons_succ, List.setIfInBounds_toArray, List.set_cons_zero, List.set_cons_succ]
        refine wpAnyH_take (i := 19) (oi := _) (v := undef) rfl (by kernel_rfl) (by kernel_rfl) (by kernel_rfl) (fun _ _ _ h => h) (Or.inr ⟨?qw819, rfl⟩) (by assumption) ?_
        case qw819 => rfl
        try simp only [Act.put, List.getElem_toArray, List.getElem_cons_zero, List.getElem_cons_succ, List.setIfInBounds_toArray, List.set_cons_zero, List.set_cons_succ]
        refine wpAnyH_take (i := 20) (oi := _) (v := undef) rfl (by kernel_rfl) (by kernel_rfl) (by kernel_rfl) (fun _ _ _ h => h) (Or.inr ⟨?qw820, rfl⟩) (by assumption) ?_
        case qw820 => rfl
        try simp only [Act.put, List.getElem_toArray, List.getElem_cons_zero, List.getElem_cons_succ, List.setIfInBounds_toArray, List.set_cons_zero, List.set_cons_succ]
        refine wpAnyH_take (i := 21) (oi := _) (v := undef) rfl (by kernel_rfl) (by kernel_rfl) (by kernel_rfl) (fun _ _ _ h => h) (Or.inr ⟨?qw821, rfl⟩) (by assumption) ?_
        case qw821 => rfl
        try simp only [Act.put, List.getElem_toArray, List.getElem_cons_zero, List.getElem_cons_succ, List.setIfInBounds_toArray, List.set_cons_zero, List.set_cons_succ]
        refine wpAnyH_take (i := 22) (oi := _) (v := undef) rfl (by kernel_rfl) (by kernel_rfl) (by kernel_rfl) (fun _ _ _ h => h) (Or.inr ⟨?qw822, rfl⟩) (by assumption) ?_
        case qw822 => rfl
        try simp only [Act.put, List.getElem_toArray, List.getElem_cons_zero, List.getElem_cons_succ, List.setIfInBounds_toArray, List.set_cons_zero, List.set_cons_succ]
        refine wpAnyH_take (i := 23) (oi := _) (v := ?qv823) rfl (by kernel_rfl) (by kernel_rfl) (by kernel_rfl) (fun _ _ _ h => h) (Or.inl ⟨?qw823, ?qy823⟩) (by assumption) ?_
        case qw823 => rfl
        case qy823 =>
          intro wz hSw
          (try dsimp only at hSw)
          go_simp
          try with_reducible rfl
        try simp only [Act.put, List.getElem_toArray, List.getElem_cons_zero, List.getElem_cons_succ, List.setIfInBounds_toArray, List.set_cons_zero, List.set_cons_succ]
        refine wpAnyH_take (i := 24) (oi := _) (v := ?qv824) rfl (by kernel_rfl) (by kernel_rfl) (by kernel_rfl) (fun _ _ _ h => h) (Or.inl ⟨?qw824, ?qy824⟩) (by assumption) ?_
        case qw824 => rfl
        case qy824 =>
          intro wz hSw
          (try dsimp only at hSw)
          go_simp
          try with_reducible rfl
        try simp only [Act.put, List.getElem_toArray, List.getElem_cons_zero, List.getElem_cons_succ, List.setIfInBounds_toArray, List.set_cons_zero, List.set_cons_succ]
        refine wpAnyH_take (i := 25) (oi := _) (v := ?qv825) rfl (by kernel_rfl) (by kernel_rfl) (by kernel_rfl) (fun _ _ _ h => h) (Or.inl ⟨?qw825, ?qy825⟩) (by assumption) ?_
        case qw825 => rfl
        case qy825 =>
          intro wz hSw
          (try dsimp only at hSw)
          go_simp
          try with_reducible rfl
        try simp only [Act.put, List.getElem_toArray, List.getElem_cons_zero, List.getElem_cons_succ, List.setIfInBounds_toArray, List.set_cons_zero, List.set_cons_succ]
        refine wpAnyH_done (by kernel_rfl) ?_ _
        go_wp2_with fail
        go_meet
        (try dsimp only at hHeld)
        go_split_ands
        exact ⟨by rw [H0.out, hw16], HY.out.1.trans (Below.mono (by assumption) HY.out.1.size), HY.out.2.below (by assumption)⟩
  case rest =>
    obtain ⟨rfl, hbw0, hcx⟩ := hcut
    have HY := hid (And.intro hbw0 hcx)
    clear hbw0 hcx y0 y1 y2 y3 y4 y5 y6 y7 y8
    go_wp2_with fail
    go_loopw [5, 12] (fun v5 v12 wr => ∃ k : Nat, v12 = .int .i64 k ∧ k ≤ lst.length ∧ v5 = .bool (B0 && fitL (lst.take k) f) ∧ Below wc.heap.size wc wr) (fun _ v12 _ => lst.length - (intOf v12).toNat)
    case atStart => exact ⟨0, rfl, Nat.zero_le _, by simp [fitL], Below.refl _ _⟩
    case round =>
      obtain ⟨k, rfl, hk, rfl, hbw⟩ := hrel
      have hwr := HY.out.1.trans (hbw.mono HY.out.1.size)
      have c8 := (HY.out.2.below hbw).cell 8 rfl
      obtain ⟨B, hB⟩ : ∃ B, (B0 && fitL (lst.take k) f) = B := ⟨_, rfl⟩
      rw [hB]
      by_cases hkl : k < lst.length
      · obtain ⟨t, ht⟩ : ∃ t, lst[k]? = some t := ⟨_, List.getElem?_eq_getElem hkl⟩
        obtain ⟨⟨g, o, rfl, ca1⟩, ta⟩ := (HX.out.2.2.1.up hwr) k t ht
        obtain ⟨l1, q1, n1, c1, f1, -, g1, rfl, -⟩ := InT.inv ta
        rw [g1] at ca1 ta
        have hkz : (k : Int) < lst.length := by omega
        have HW := hid (show wrap64 ((k : Int) + 1) = (k : Int) + 1 by unfold wrap64; omega)
        obtain ⟨a0, a1, a2, a3, a4, a5, a6, a7, a8⟩ := ca1.cells
        have hcall := HX.out.2.2.2.2 t (List.mem_of_getElem? ht) (HX.out.2.2.2.1.sub (List.mem_of_getElem? ht)) (.slice q1 l1.length c1) wr ta
        have hst : (B0 && fitL (lst.take (k + 1)) f) = (B && t.fit f) := by rw [fitL_take4 ht, ← Bool.and_assoc, hB]
        obtain ⟨sm, hsm⟩ : ∃ sm, t.fit f = sm := ⟨_, rfl⟩
        rw [hsm] at hcall hst
        have HZ := hid (And.intro hbw (And.intro hwr hst))
        clear ta ca1 g1 hbw ht hwr hB hsm hst
        simp only [ndV, ndL] at hcall
        cases B with
        | true =>
          go_wp2_with fail
          refine hcall.mono ?_
          rintro e w2 ⟨rfl, hb1⟩
          have hb2 := HZ.out.1.trans (hb1.mono HZ.out.1.size)
          clear hcall hb1
          go_wp2
          go_roundw
          case rel => exact ⟨k + 1, by simp, by omega, by rw [HZ.out.2.2, Bool.true_and], hb2⟩
          case measure => simp [intOf]; omega
        | false =>
          clear hcall
          go_wp2
          go_roundw
          case rel => exact ⟨k + 1, by simp, by omega, by rw [HZ.out.2.2, Bool.false_and], HZ.out.1⟩
          case measure => simp [intOf]; omega
      · have hkz : decide (k < lst.length) = false := decide_eq_false (by omega)
        obtain rfl : k = lst.length := by omega
        rw [List.take_of_length_le (Nat.le_refl _)] at hB
        have HS := hid hB
        clear hk hkl hbw hB
        go_wp2
        go_ret
        exact ⟨by rw [HS.out]; rfl, hwr⟩
set_option maxRecDepth 100000 in
set_option maxHeartbeats 8000000 in
theorem rfit4_kr (p : Pay) (lst : List Tr) (f : Int) (hf4 : Hid (f = 4)) (hk0 : Hid (p.k ≠ 4)) : RFitN4 p lst f := by
  have hf1 : 1 ≤ f := by have := hf4.out; omega
  have hf2 : f ≤ 4 := by have := hf4.out; omega
  intro ih hfin sl w hin
  obtain ⟨lst', a, n, c, fa, he, rfl, rfl, hL⟩ := InT.inv hin
  obtain rfl : lst = lst' := (Tr.nd.inj he).2
  clear he
  have h40 := hfin.len
  have hbx := Cls.new w 27 (ndL p (.slice a lst.length c))
  have hbb := below_alloc w (.cells (ndL p (.slice a lst.length c)).toArray 27)
  rw [show (Tr.nd p lst).fit f = (fitN p lst f && fitL lst f) by rw [Tr.fit]]
  obtain ⟨B0, hB0⟩ : ∃ B0, fitN p lst f = B0 := ⟨_, rfl⟩
  rw [hB0]
  have HB := hid hB0
  clear hB0
  obtain ⟨y0, y1, y2, y3, y4, y5, y6, y7, y8⟩ := hbx.nine
  have HX := hid (And.intro hbb (And.intro hbx (And.intro hL (And.intro hfin ih))))
  clear hbb hbx hL hfin hin ih
  simp only [ndV, ndL, Tr.p] at y0 y1 y2 y3 y4 y5 y6 y7 y8 ⊢
  go_enter Tryz.func42, Tryz.ntmps42
  go_upto_block 0 with fail
  go_cut [5] (fun v5 wx => v5 = .bool B0 ∧ Below w.heap.size w wx ∧ Cls wx w.heap.size 27 (ndL p (.slice a lst.length c)))
  case first =>
    rcases (show p.k = 3 ∨ p.k = 6 ∨ p.k = 9 ∨ p.k = 10 ∨ p.k = 11 ∨ p.k = 8 ∨ (p.k ≠ 4 ∧ p.k ≠ 3 ∧ p.k ≠ 6 ∧ p.k ≠ 9 ∧ p.k ≠ 10 ∧ p.k ≠ 11 ∧ p.k ≠ 8) by have := hk0.out; omega) with hk | hk | hk | hk | hk | hk | hk
    · have z4 : (p.k == 4) = false := by rw [beq_eq_false_iff_ne]; omega
      have z3 : (p.k == 3) = true := by rw [beq_iff_eq]; exact hk
      have h4 := fitN_34 (l := lst) (f := f) hk
      have hti := fun W => rtoInt_calls p.n p.dg p.ex (by have := HX.out.2.2.2.1.pay.2.1; omega) W
      obtain ⟨tb, htb⟩ : ∃ tb, tiB ⟨p.n, tx p.dg, p.ex⟩ = tb := ⟨_, rfl⟩
      obtain ⟨tn, htn⟩ : ∃ tn, tiN ⟨p.n, tx p.dg, p.ex⟩ = tn := ⟨_, rfl⟩
      rw [htb, htn] at hti
      rw [show tiB p.d = tb from htb, show tiN p.d = tn from htn] at h4
      obtain rfl : f = 4 := hf4.out
      · obtain ⟨G, hG⟩ : ∃ G, decide (tn ≤ 9223372036854775808) = G := ⟨_, rfl⟩
        rw [hG] at h4
        obtain ⟨sg, hsg⟩ : ∃ sg, (tb && p.n) = sg := ⟨_, rfl⟩
        rw [hsg] at h4 hti
        have H0 := hid (show B0 = (tb && (!sg || G)) from HB.out.symm.trans (h4.trans (by cases tb <;> rfl)))
        have HG := hid hG
        clear hk htb htn h4 hG hsg
        cases tb with
        | false =>
          have H1 := hid (show B0 = false by rw [H0.out]; rfl)
          go_wp2_with fail
          refine (hti _).mono ?_
          rintro e w1 ⟨rfl, hb1⟩
          have HY := hid (And.intro (HX.out.1.trans (hb1.mono HX.out.1.size)) (HX.out.2.1.below hb1))
          clear hti hb1 y0 y1 y2 y3 y4 y5 y6 y7 y8
          go_wp2_with fail
          go_meet
          exact ⟨by rw [H1.out], HY.out.1, HY.out.2⟩
        | true =>
          cases sg
          · have H1 := hid (show B0 = true by rw [H0.out]; rfl)
            go_wp2_with fail
            refine (hti _).mono ?_
            rintro e w1 ⟨rfl, hb1⟩
            have HY := hid (And.intro (HX.out.1.trans (hb1.mono HX.out.1.size)) (HX.out.2.1.below hb1))
            clear hti hb1 y0 y1 y2 y3 y4 y5 y6 y7 y8
            go_wp2_with fail
            go_meet
            exact ⟨by rw [H1.out], HY.out.1, HY.out.2⟩
          · by_cases hle : tn ≤ 9223372036854775808
            · have hg : decide ((tn : Int) ≤ 9223372036854775808) = true := decide_eq_true (by omega)
              have H1 := hid (show B0 = true by rw [H0.out, ← HG.out, decide_eq_true hle]; rfl)
              have hz : (tn : Int) ≤ 9223372036854775808 := by omega
              clear hle
              go_wp2_with fail
              refine (hti _).mono ?_
              rintro e w1 ⟨rfl, hb1⟩
              have HY := hid (And.intro (HX.out.1.trans (hb1.mono HX.out.1.size)) (HX.out.2.1.below hb1))
              clear hti hb1 y0 y1 y2 y3 y4 y5 y6 y7 y8
              go_wp2_with fail
              go_meet
              exact ⟨by rw [H1.out], HY.out.1, HY.out.2⟩
            · have hg : decide ((tn : Int) ≤ 9223372036854775808) = false := decide_eq_false (by omega)
              have H1 := hid (show B0 = false by rw [H0.out, ← HG.out, decide_eq_false hle]; rfl)
              have hz : ¬ (tn : Int) ≤ 9223372036854775808 := by omega
              clear hle
              go_wp2_with fail
              refine (hti _).mono ?_
              rintro e w1 ⟨rfl, hb1⟩
              have HY := hid (And.intro (HX.out.1.trans (hb1.mono HX.out.1.size)) (HX.out.2.1.below hb1))
              clear hti hb1 y0 y1 y2 y3 y4 y5 y6 y7 y8
              go_wp2_with fail
              go_meet
              exact ⟨by rw [H1.out], HY.out.1, HY.out.2⟩
    · have z4 : (p.k == 4) = false := by rw [beq_eq_false_iff_ne]; omega
      have z3 : (p.k == 3) = false := by rw [beq_eq_false_iff_ne]; omega
      have z6 : (p.k == 6) = true := by rw [beq_iff_eq]; exact hk
      obtain rfl : f = 4 := hf4.out
      · have H0 := hid (show B0 = true from HB.out.symm.trans ((fitN_64 hk).trans rfl))
        clear hk
        go_wp2_with fail
        go_meet
        exact ⟨by rw [H0.out], HX.out.1, HX.out.2.1⟩
    · have z4 : (p.k == 4) = false := by rw [beq_eq_false_iff_ne]; omega
      have z3 : (p.k == 3) = false := by rw [beq_eq_false_iff_ne]; omega
      have z6 : (p.k == 6) = false := by rw [beq_eq_false_iff_ne]; omega
      have z9 : (p.k == 9) = true := by rw [beq_iff_eq]; exact hk
      obtain rfl : f = 4 := hf4.out
      · have H0 := hid (show B0 = false from HB.out.symm.trans ((fitN_94 hk).trans rfl))
        clear hk
        go_wp2_with fail
        go_meet
        exact ⟨by rw [H0.out], HX.out.1, HX.out.2.1⟩
    · have z4 : (p.k == 4) = false := by rw [beq_eq_false_iff_ne]; omega
      have z3 : (p.k == 3) = false := by rw [beq_eq_false_iff_ne]; omega
      have z6 : (p.k == 6) = false := by rw [beq_eq_false_iff_ne]; omega
      have z9 : (p.k == 9) = false := by rw [beq_eq_false_iff_ne]; omega
      have z10 : (p.k == 10) = true := by rw [beq_iff_eq]; exact hk
      obtain rfl : f = 4 := hf4.out
      · have H0 := hid (show B0 = false from HB.out.symm.trans ((fitN_104 hk).trans rfl))
        clear hk
        go_wp2_with fail
        go_meet
        exact ⟨by rw [H0.out], HX.out.1, HX.out.2.1⟩
    · have z4 : (p.k == 4) = false := by rw [beq_eq_false_iff_ne]; omega
      have z3 : (p.k == 3) = false := by rw [beq_eq_false_iff_ne]; omega
      have z6 : (p.k == 6) = false := by rw [beq_eq_false_iff_ne]; omega
      have z9 : (p.k == 9) = false := by rw [beq_eq_false_iff_ne]; omega
      have z10 : (p.k == 10) = false := by rw [beq_eq_false_iff_ne]; omega
      have z11 : (p.k == 11) = true := by rw [beq_iff_eq]; exact hk
      obtain rfl : f = 4 := hf4.out
      · have H0 := hid (show B0 = true from HB.out.symm.trans ((fitN_114 hk).trans rfl))
        clear hk
        go_wp2_with fail
        go_meet
        exact ⟨by rw [H0.out], HX.out.1, HX.out.2.1⟩
    · have z4 : (p.k == 4) = false := by rw [beq_eq_false_iff_ne]; omega
      have z3 : (p.k == 3) = false := by rw [beq_eq_false_iff_ne]; omega
      have z6 : (p.k == 6) = false := by rw [beq_eq_false_iff_ne]; omega
      have z9 : (p.k == 9) = false := by rw [beq_eq_false_iff_ne]; omega
      have z10 : (p.k == 10) = false := by rw [beq_eq_false_iff_ne]; omega
      have z11 : (p.k == 11) = false := by rw [beq_eq_false_iff_ne]; omega
      have z8 : (p.k == 8) = true := by rw [beq_iff_eq]; exact hk
      have H0 := hid (show B0 = (true && (keysT lst).all fun t => keyOk t.p f) from HB.out.symm.trans ((fitN_84 hk).trans (by rw [formB_in4 hf1 hf2])))
      clear hk
      go_wp2_with fail
      obtain ⟨w1, hw1⟩ : ∃ w1, w.alloc (.cells #[.int .i64 p.k, .bool p.b, .bool p.n, .string p.dg, .int .i64 p.ex, .int .u64 p.u, .int .i64 p.w, .string p.s, .slice a lst.length c] 27) = w1 := ⟨_, rfl⟩
      have HY : Hid (Below w.heap.size w w1 ∧ Cls w1 w.heap.size 27 (ndL p (.slice a lst.length c))) := by rw [← hw1]; exact hid ⟨HX.out.1, HX.out.2.1⟩
      rw [hw1]
      clear hw1 y0 y1 y2 y3 y4 y5 y6 y7 y8
      go_loopw [5, 11] (fun v5 v11 wr => ∃ k : Nat, v11 = .int .i64 (2 * k : Nat) ∧ 2 * k ≤ lst.length + 1 ∧ v5 = .bool (true && ((keysT lst).take k).all fun t => keyOk t.p f) ∧ Below w1.heap.size w1 wr) (fun _ v11 _ => lst.length + 1 - (intOf v11).toNat)
      case atStart => exact ⟨0, rfl, Nat.zero_le _, by simp, Below.refl _ _⟩
      case round =>
        obtain ⟨k, rfl, hk, rfl, hbw⟩ := hrel
        have hwr := HY.out.1.trans (hbw.mono HY.out.1.size)
        have c8 := (HY.out.2.below hbw).cell 8 rfl
        obtain ⟨B, hB⟩ : ∃ B, (true && ((keysT lst).take k).all fun t => keyOk t.p f) = B := ⟨_, rfl⟩
        rw [hB]
        obtain ⟨i, hi⟩ : ∃ i, 2 * k = i := ⟨_, rfl⟩
        rw [hi] at hk ⊢
        by_cases hkl : i < lst.length
        · obtain ⟨t, ht⟩ : ∃ t, lst[i]? = some t := ⟨_, List.getElem?_eq_getElem hkl⟩
          have htk : (keysT lst)[k]? = some t := by rw [keysT_get, hi]; exact ht
          obtain ⟨⟨g, o, rfl, ca1⟩, ta⟩ := (HX.out.2.2.1.up hwr) i t ht
          obtain ⟨l1, q1, n1, c1, f1, -, g1, rfl, -⟩ := InT.inv ta
          rw [g1] at ca1 ta
          have hkz : (i : Int) < lst.length := by omega
          have HW := hid (show wrap64 ((i : Int) + 2) = (i : Int) + 2 by unfold wrap64; omega)
          obtain ⟨a0, a1, a2, a3, a4, a5, a6, a7, a8⟩ := ca1.cells
          have hcall := rkey_calls f t.p t.l (by rw [← Tr.eta]; exact HX.out.2.2.2.1.sub (List.mem_of_getElem? ht)) (.slice q1 l1.length c1) wr (by rw [← Tr.eta]; exact ta)
          have hst : (true && ((keysT lst).take (k + 1)).all fun t => keyOk t.p f) = (B && keyOk t.p f) := by
            rw [List.take_add_one, htk, Option.toList_some, List.all_append, ← Bool.and_assoc, hB]; simp
          obtain ⟨sm, hsm⟩ : ∃ sm, keyOk t.p f = sm := ⟨_, rfl⟩
          rw [hsm] at hcall hst
          have HZ := hid (And.intro hbw (And.intro hwr (And.intro hst hi)))
          clear ta ca1 g1 hbw ht htk hwr hB hsm hst hi
          simp only [ndV, ndL] at hcall
          cases B with
          | true =>
            go_wp2_with fail
            refine hcall.mono ?_
            rintro e w2 ⟨rfl, hb1⟩
            have hb2 := HZ.out.1.trans (hb1.mono HZ.out.1.size)
            clear hcall hb1
            go_wp2
            go_roundw
            case rel => exact ⟨k + 1, by have := HZ.out.2.2.2; simp; omega, by have := HZ.out.2.2.2; omega, by rw [HZ.out.2.2.1, Bool.true_and], hb2⟩
            case measure => simp [intOf]; omega
          | false =>
            clear hcall
            go_wp2
            go_roundw
            case rel => exact ⟨k + 1, by have := HZ.out.2.2.2; simp; omega, by have := HZ.out.2.2.2; omega, by rw [HZ.out.2.2.1, Bool.false_and], HZ.out.1⟩
            case measure => simp [intOf]; omega
        · have hkz : decide (i < lst.length) = false := decide_eq_false (by omega)
          have hall : (keysT lst).take k = keysT lst := List.take_of_length_le (by rw [keysT_len]; omega)
          rw [hall] at hB
          have HS := hid (And.intro hB (And.intro hwr hbw))
          clear hk hkl hbw hB hwr hall hi
          go_wp2_with fail
          go_meet
          exact ⟨by rw [H0.out, HS.out.1], HS.out.2.1, HY.out.2.below HS.out.2.2⟩
    · have z4 : (p.k == 4) = false := by rw [beq_eq_false_iff_ne]; omega
      have z3 : (p.k == 3) = false := by rw [beq_eq_false_iff_ne]; omega
      have z6 : (p.k == 6) = false := by rw [beq_eq_false_iff_ne]; omega
      have z9 : (p.k == 9) = false := by rw [beq_eq_false_iff_ne]; omega
      have z10 : (p.k == 10) = false := by rw [beq_eq_false_iff_ne]; omega
      have z11 : (p.k == 11) = false := by rw [beq_eq_false_iff_ne]; omega
      have z8 : (p.k == 8) = false := by rw [beq_eq_false_iff_ne]; omega
      obtain rfl : f = 4 := hf4.out
      · have H0 := hid (show B0 = true from HB.out.symm.trans ((fitN_E4 hk).trans rfl))
        clear hk
        go_wp2_with fail
        go_meet
        exact ⟨by rw [H0.out], HX.out.1, HX.out.2.1⟩
  case rest =>
    obtain ⟨rfl, hbw0, hcx⟩ := hcut
    have HY := hid (And.intro hbw0 hcx)
    clear hbw0 hcx y0 y1 y2 y3 y4 y5 y6 y7 y8
    go_wp2_with fail
    go_loopw [5, 12] (fun v5 v12 wr => ∃ k : Nat, v12 = .int .i64 k ∧ k ≤ lst.length ∧ v5 = .bool (B0 && fitL (lst.take k) f) ∧ Below wc.heap.size wc wr) (fun _ v12 _ => lst.length - (intOf v12).toNat)
    case atStart => exact ⟨0, rfl, Nat.zero_le _, by simp [fitL], Below.refl _ _⟩
    case round =>
      obtain ⟨k, rfl, hk, rfl, hbw⟩ := hrel
      have hwr := HY.out.1.trans (hbw.mono HY.out.1.size)
      have c8 := (HY.out.2.below hbw).cell 8 rfl
      obtain ⟨B, hB⟩ : ∃ B, (B0 && fitL (lst.take k) f) = B := ⟨_, rfl⟩
      rw [hB]
      by_cases hkl : k < lst.length
      · obtain ⟨t, ht⟩ : ∃ t, lst[k]? = some t := ⟨_, List.getElem?_eq_getElem hkl⟩
        obtain ⟨⟨g, o, rfl, ca1⟩, ta⟩ := (HX.out.2.2.1.up hwr) k t ht
        obtain ⟨l1, q1, n1, c1, f1, -, g1, rfl, -⟩ := InT.inv ta
        rw [g1] at ca1 ta
        have hkz : (k : Int) < lst.length := by omega
        have HW := hid (show wrap64 ((k : Int) + 1) = (k : Int) + 1 by unfold wrap64; omega)
        obtain ⟨a0, a1, a2, a3, a4, a5, a6, a7, a8⟩ := ca1.cells
        have hcall := HX.out.2.2.2.2 t (List.mem_of_getElem? ht) (HX.out.2.2.2.1.sub (List.mem_of_getElem? ht)) (.slice q1 l1.length c1) wr ta
        have hst : (B0 && fitL (lst.take (k + 1)) f) = (B && t.fit f) := by rw [fitL_take4 ht, ← Bool.and_assoc, hB]
        obtain ⟨sm, hsm⟩ : ∃ sm, t.fit f = sm := ⟨_, rfl⟩
        rw [hsm] at hcall hst
        have HZ := hid (And.intro hbw (And.intro hwr hst))
        clear ta ca1 g1 hbw ht hwr hB hsm hst
        simp only [ndV, ndL] at hcall
        cases B with
        | true =>
          go_wp2_with fail
          refine hcall.mono ?_
          rintro e w2 ⟨rfl, hb1⟩
          have hb2 := HZ.out.1.trans (hb1.mono HZ.out.1.size)
          clear hcall hb1
          go_wp2
          go_roundw
          case rel => exact ⟨k + 1, by simp, by omega, by rw [HZ.out.2.2, Bool.true_and], hb2⟩
          case measure => simp [intOf]; omega
        | false =>
          clear hcall
          go_wp2
          go_roundw
          case rel => exact ⟨k + 1, by simp, by omega, by rw [HZ.out.2.2, Bool.false_and], HZ.out.1⟩
          case measure => simp [intOf]; omega
      · have hkz : decide (k < lst.length) = false := decide_eq_false (by omega)
        obtain rfl : k = lst.length := by omega
        rw [List.take_of_length_le (Nat.le_refl _)] at hB
        have HS := hid hB
        clear hk hkl hbw hB
        go_wp2
        go_ret
        exact ⟨by rw [HS.out]; rfl, hwr⟩
theorem rfit4_calls (t : Tr) : RFitC4 4 t := by
  induction t using Tr.ind with
  | h p lst ih =>
    intro hfin sl w hin
    by_cases hk : p.k = 4
    · exact rfit4_k4 p lst 4 (hid rfl) (hid hk) ih hfin sl w hin
    · exact rfit4_kr p lst 4 (hid rfl) (hid hk) ih hfin sl w hin
end Go.Proofs.YtpjlepkdiaohiaaGreatDoor

