/- MX: RTd RTf4. -/
import Derived.Test.YtpjlepkdiaohiaaGreatDoorNMV
import Derived.Test.YtpjlepkdiaohiaaGreatDoorNMS
import Derived.Test.YtpjlepkdiaohiaaGreatDoorNMW
/- The reference's all, Right, of trees: walked. -/
namespace Go.Proofs.YtpjlepkdiaohiaaGreatDoor
open Go.RowKit
attribute [local go_sem] Oper.semAt_some

def RAllC (t : Tr) : Prop := t.fine → ∀ (sl : Value) (w : World), InT w (ndV t.p sl) t →
  Calls Tryz.prog 71 #[ndV t.p sl] w fun e w' => e = .returned (.bool t.all) ∧ Below w.heap.size w w'
set_option maxRecDepth 100000 in
set_option maxHeartbeats 4000000 in
theorem rall_calls (t : Tr) : RAllC t := by
  induction t using Tr.ind with
  | h p lst ih =>
    intro hfin sl w hin
    obtain ⟨lst', a, n, c, f, he, rfl, rfl, hL⟩ := InT.inv hin
    obtain rfl : lst = lst' := (Tr.nd.inj he).2
    have h40 := hfin.len
    have hbx := Cls.new w 27 (ndL p (.slice a lst.length c))
    have hbb := below_alloc w (.cells (ndL p (.slice a lst.length c)).toArray 27)
    have how := fun W h => rown_calls p lst hfin (.slice a lst.length c) W h
    rw [show (Tr.nd p lst).all = (ownP p lst && allL lst) by rw [Tr.all]]
    obtain ⟨O, hO⟩ : ∃ O, ownP p lst = O := ⟨_, rfl⟩
    simp only [hO] at how ⊢
    have HX := hid (And.intro hL (And.intro hbb (And.intro hbx (And.intro hfin (And.intro ih hin)))))
    obtain ⟨y0, y1, y2, y3, y4, y5, y6, y7, y8⟩ := hbx.nine
    clear hL hbb hbx hfin ih he hin hO
    simp only [ndV, ndL, Tr.p] at y0 y1 y2 y3 y4 y5 y6 y7 y8 how ⊢
    go_enter Tryz.func71, Tryz.ntmps71
    go_wp2_with fail
    refine (how _ (HX.out.2.2.2.2.2.up HX.out.2.1)).mono ?_
    rintro e w1 ⟨rfl, hb1⟩
    have hw1 := HX.out.2.1.trans (hb1.mono HX.out.2.1.size)
    have hx1 := HX.out.2.2.1.below hb1
    clear y0 y1 y2 y3 y4 y5 y6 y7 y8 how
    cases O with
    | false =>
      clear hb1 hx1
      go_wp2
      go_ret
      exact ⟨rfl, hw1⟩
    | true =>
      have HY := hid (And.intro hw1 hx1)
      clear hw1 hx1 hb1
      go_wp2
      go_loopw [3] (fun v3 wr => ∃ k : Nat, v3 = .int .i64 k ∧ k ≤ lst.length ∧ allL (lst.take k) = true ∧ Below w1.heap.size w1 wr) (fun v3 _ => lst.length - (intOf v3).toNat)
      case atStart => exact ⟨0, rfl, Nat.zero_le _, rfl, Below.refl _ _⟩
      case round =>
        obtain ⟨k, rfl, hk, hsm, hbw⟩ := hrel
        have hwr := HY.out.1.trans (hbw.mono HY.out.1.size)
        have c8 := (HY.out.2.below hbw).cell 8 rfl
        by_cases hkl : k < lst.length
        · obtain ⟨hL, hbb, hbx, hfin, ih, hin⟩ := HX.out
          obtain ⟨t, ht⟩ : ∃ t, lst[k]? = some t := ⟨_, List.getElem?_eq_getElem hkl⟩
          obtain ⟨⟨g, o, rfl, ca1⟩, ta⟩ := (hL.up hwr) k t ht
          obtain ⟨l1, q1, n1, c1, f1, -, g1, rfl, -⟩ := InT.inv ta
          rw [g1] at ca1 ta
          have hkz : (k : Int) < lst.length := by omega
          have HW := hid (show wrap64 ((k : Int) + 1) = (k : Int) + 1 by unfold wrap64; omega)
          obtain ⟨a0, a1, a2, a3, a4, a5, a6, a7, a8⟩ := ca1.cells
          have hcall := ih t (List.mem_of_getElem? ht) (hfin.sub (List.mem_of_getElem? ht)) (.slice q1 l1.length c1) wr ta
          obtain ⟨sm, hsmt⟩ : ∃ sm, t.all = sm := ⟨_, rfl⟩
          rw [hsmt] at hcall
          have hstep : sm = true → allL (lst.take (k + 1)) = true := fun h => by
            subst h
            rw [allL_iff] at hsm ⊢
            intro u hu
            rw [List.take_add_one, ht] at hu
            rcases List.mem_append.1 hu with hu | hu
            · exact hsm u hu
            · rw [Option.toList_some, List.mem_singleton] at hu; subst hu; exact hsmt
          have hstop : sm = false → allL lst = false := fun h => by
            subst h
            rw [← Bool.not_eq_true]
            intro hall
            rw [(allL_iff lst).1 hall t (List.mem_of_getElem? ht)] at hsmt
            cases hsmt
          have HZ := hid (And.intro hbw (And.intro hwr (And.intro hstep hstop)))
          clear hL hbb hbx hfin ih hin ta ca1 g1 hbw ht hwr hsm hsmt hstep hstop
          simp only [ndV, ndL] at hcall
          go_wp2_with fail
          refine hcall.mono ?_
          rintro e w2 ⟨rfl, hb1⟩
          obtain ⟨hbw, hwr, hstep, hstop⟩ := HZ.out
          have hb2 := hbw.trans (hb1.mono hbw.size)
          have hb3 := hwr.trans (hb1.mono hwr.size)
          cases sm with
          | true =>
            have HS := hid (hstep rfl)
            clear hcall hb1 hbw hwr hstep hstop
            go_wp2
            go_roundw
            case rel => exact ⟨k + 1, by simp, by omega, HS.out, hb2⟩
            case measure => simp [intOf]; omega
          | false =>
            have HS := hid (hstop rfl)
            clear hcall hb1 hbw hwr hstep hstop
            go_wp2
            go_ret
            exact ⟨by rw [HS.out]; rfl, hb3⟩
        · have hkz : decide (k < lst.length) = false := decide_eq_false (by omega)
          obtain rfl : k = lst.length := by omega
          rw [List.take_of_length_le (Nat.le_refl _)] at hsm
          have HS := hid hsm
          clear hk hkl hbw hsm
          go_wp2
          go_ret
          exact ⟨by rw [HS.out]; rfl, hwr⟩

set_option maxRecDepth 100000 in
set_option maxHeartbeats 4000000 in
theorem rright_calls (t : Tr) (hfin : t.fine) (hdep : t.dep ≤ 1000) (sl : Value) (w : World) (hin : InT w (ndV t.p sl) t) :
    Calls Tryz.prog 41 #[ndV t.p sl] w fun e w' => e = .returned (.bool t.right) ∧ Below w.heap.size w w' := by
  have hbb := below_alloc w (.cells (ndL t.p sl).toArray 27)
  have hS : St w w.heap.size t sl (w.alloc (.cells (ndL t.p sl).toArray 27)) := ⟨Cls.new w _ _, hin.up hbb, hbb⟩
  have hk1 := fun W h => rcount_calls t hfin sl W h
  have hk2 := fun W h => rdepth_calls t hfin hdep sl W h
  have hk3 := fun W h => rall_calls t hfin sl W h
  have hr : t.right = (decide (wrapI t.cnt ≤ 300) && (decide (t.dep ≤ 16) && t.all)) := rfl
  rw [hr]
  obtain ⟨K, hK⟩ : ∃ K, wrapI t.cnt = K := ⟨_, rfl⟩
  obtain ⟨D, hD⟩ : ∃ D, t.dep = D := ⟨_, rfl⟩
  obtain ⟨A, hA⟩ : ∃ A, t.all = A := ⟨_, rfl⟩
  rw [hK] at hk1 ⊢
  rw [hD] at hk2 ⊢
  rw [hA] at hk3 ⊢
  obtain ⟨G1, hG1⟩ : ∃ G, decide (K ≤ 300) = G := ⟨_, rfl⟩
  obtain ⟨G2, hG2⟩ : ∃ G, decide (D ≤ 16) = G := ⟨_, rfl⟩
  rw [hG1, hG2]
  have HG := hid (And.intro hG1 hG2)
  clear hG1 hG2
  obtain ⟨l1, q1, n1, c1, f1, -, g1, rfl, -⟩ := InT.inv hin
  subst g1
  have HS := hid hS
  obtain ⟨y0, y1, y2, y3, y4, y5, y6, y7, y8⟩ := hS.box.nine
  clear hbb hin hfin hr hK hD hA hS hdep
  simp only [ndV, ndL] at y0 y1 y2 y3 y4 y5 y6 y7 y8 hk1 hk2 hk3 ⊢
  go_enter Tryz.func41, Tryz.ntmps41
  go_wp2_with fail
  refine (hk1 _ HS.out.inn).mono ?_
  rintro e w1 ⟨rfl, hb⟩
  have HS := hid (HS.out.up hb)
  clear hb y0 y1 y2 y3 y4 y5 y6 y7 y8 hk1
  obtain ⟨y0, y1, y2, y3, y4, y5, y6, y7, y8⟩ := HS.out.box.nine
  have hbe := HS.out.below
  by_cases h1 : K ≤ 300
  · obtain rfl : G1 = true := HG.out.1.symm.trans (decide_eq_true h1)
    clear hbe
    go_wp2_with fail
    refine (hk2 _ HS.out.inn).mono ?_
    rintro e w2 ⟨rfl, hb⟩
    have HS := hid (HS.out.up hb)
    clear hb y0 y1 y2 y3 y4 y5 y6 y7 y8 hk2
    obtain ⟨y0, y1, y2, y3, y4, y5, y6, y7, y8⟩ := HS.out.box.nine
    have hbe := HS.out.below
    by_cases h2 : D ≤ 16
    · have h2i : (D : Int) ≤ 16 := by omega
      obtain rfl : G2 = true := HG.out.2.symm.trans (decide_eq_true h2)
      clear hbe h2
      go_wp2_with fail
      refine (hk3 _ HS.out.inn).mono ?_
      rintro e w3 ⟨rfl, hb⟩
      have hbe := (HS.out.up hb).below
      clear hb hk3
      go_wp2
      go_ret
      exact ⟨rfl, hbe⟩
    · have h2i : (16 : Int) < D := by omega
      obtain rfl : G2 = false := HG.out.2.symm.trans (decide_eq_false h2)
      clear h2 hk3
      go_wp2
      go_ret
      exact ⟨rfl, hbe⟩
  · have h1i : 300 < K := by omega
    obtain rfl : G1 = false := HG.out.1.symm.trans (decide_eq_false h1)
    clear h1 hk2 hk3
    go_wp2
    go_ret
    exact ⟨rfl, hbe⟩
end Go.Proofs.YtpjlepkdiaohiaaGreatDoor

/- The reference's Check of trees: walked. -/
namespace Go.Proofs.YtpjlepkdiaohiaaGreatDoor
open Go.RowKit
attribute [local go_sem] Oper.semAt_some

set_option maxRecDepth 100000 in
set_option maxHeartbeats 4000000 in
theorem rcheck4_calls (t : Tr) (hfin : t.fine) (hdep : t.dep ≤ 1000) (sl : Value) (w : World) (hin : InT w (ndV t.p sl) t) :
    Calls Tryz.prog 32 #[ndV t.p sl, .int .i64 4] w fun e w' => e = .returned (.int .i64 (chk t 4)) ∧ Below w.heap.size w w' := by
  have hbb := below_alloc w (.cells (ndL t.p sl).toArray 27)
  have hS : St w w.heap.size t sl (w.alloc (.cells (ndL t.p sl).toArray 27)) := ⟨Cls.new w _ _, hin.up hbb, hbb⟩
  have hk1 := fun W h => rright_calls t hfin hdep sl W h
  have hk2 := fun W h => rfit4_calls t hfin sl W h
  unfold chk
  obtain ⟨R, hR⟩ : ∃ R, t.right = R := ⟨_, rfl⟩
  obtain ⟨F, hF⟩ : ∃ F, t.fit 4 = F := ⟨_, rfl⟩
  rw [hR] at hk1 ⊢
  rw [hF] at hk2 ⊢
  obtain ⟨l1, q1, n1, c1, f1, -, g1, rfl, -⟩ := InT.inv hin
  subst g1
  have HS := hid hS
  obtain ⟨y0, y1, y2, y3, y4, y5, y6, y7, y8⟩ := hS.box.nine
  clear hbb hin hfin hR hF hS hdep
  simp only [ndV, ndL] at y0 y1 y2 y3 y4 y5 y6 y7 y8 hk1 hk2 ⊢
  cases R with
  | false =>
    rw [if_neg (by decide)]
    go_enter Tryz.func32, Tryz.ntmps32
    go_wp2_with fail
    refine (hk1 _ HS.out.inn).mono ?_
    rintro e w1 ⟨rfl, hb⟩
    have hbe := (HS.out.up hb).below
    clear hb y0 y1 y2 y3 y4 y5 y6 y7 y8 hk1 hk2
    go_wp2
    go_ret
    exact ⟨rfl, hbe⟩
  | true =>
    rw [if_pos rfl]
    cases F with
    | false =>
      rw [if_neg (by decide)]
      go_enter Tryz.func32, Tryz.ntmps32
      go_wp2_with fail
      refine (hk1 _ HS.out.inn).mono ?_
      rintro e w1 ⟨rfl, hb⟩
      have HS := hid (HS.out.up hb)
      clear hb y0 y1 y2 y3 y4 y5 y6 y7 y8 hk1
      obtain ⟨y0, y1, y2, y3, y4, y5, y6, y7, y8⟩ := HS.out.box.nine
      go_wp2_with fail
      refine (hk2 _ HS.out.inn).mono ?_
      rintro e w2 ⟨rfl, hb⟩
      have hbe := (HS.out.up hb).below
      clear hb y0 y1 y2 y3 y4 y5 y6 y7 y8 hk2
      go_wp2
      go_ret
      exact ⟨rfl, hbe⟩
    | true =>
      rw [if_pos rfl]
      go_enter Tryz.func32, Tryz.ntmps32
      go_wp2_with fail
      refine (hk1 _ HS.out.inn).mono ?_
      rintro e w1 ⟨rfl, hb⟩
      have HS := hid (HS.out.up hb)
      clear hb y0 y1 y2 y3 y4 y5 y6 y7 y8 hk1
      obtain ⟨y0, y1, y2, y3, y4, y5, y6, y7, y8⟩ := HS.out.box.nine
      go_wp2_with fail
      refine (hk2 _ HS.out.inn).mono ?_
      rintro e w2 ⟨rfl, hb⟩
      have hbe := (HS.out.up hb).below
      clear hb y0 y1 y2 y3 y4 y5 y6 y7 y8 hk2
      go_wp2
      go_ret
      exact ⟨rfl, hbe⟩
end Go.Proofs.YtpjlepkdiaohiaaGreatDoor

