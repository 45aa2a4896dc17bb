/- The reference's all, Right, of trees: walked. -/
import Derived.Test.YtdfoajclakjelaaGreatDoorTQ
import Derived.Test.YtdfoajclakjelaaGreatDoorTK
import Derived.Test.YtdfoajclakjelaaGreatDoorTR
namespace Go.Proofs.YtdfoajclakjelaaGreatDoor
open Go.RowKit
attribute [local go_sem] Oper.semAt_some

def RAllC (t : Tr) : Prop := t.fine → ∀ (sl : Value) (w : World), InT w (ndV t.p sl) t →
  Calls Tryz.prog 26 #[ndV t.p sl] w fun e w' => e = .returned (.bool t.all) ∧ Below w.heap.size w w'
set_option maxRecDepth 100000 in
set_option maxHeartbeats 4000000 in
theorem rall_calls (t : Tr) : RAllC t := by
  induction t using Tr.ind with
  | h p lst ih =>
    intro hfin sl w hin
    obtain ⟨lst', a, n, c, f, he, rfl, rfl, hL⟩ := InT.inv hin
    obtain rfl : lst = lst' := (Tr.nd.inj he).2
    have h40 := hfin.len
    have hbx := Cls.new w 27 (ndL p (.slice a lst.length c))
    have hbb := below_alloc w (.cells (ndL p (.slice a lst.length c)).toArray 27)
    have how := fun W h => rown_calls p lst hfin (.slice a lst.length c) W h
    rw [show (Tr.nd p lst).all = (ownP p lst && allL lst) by rw [Tr.all]]
    obtain ⟨O, hO⟩ : ∃ O, ownP p lst = O := ⟨_, rfl⟩
    simp only [hO] at how ⊢
    have HX := hid (And.intro hL (And.intro hbb (And.intro hbx (And.intro hfin (And.intro ih hin)))))
    obtain ⟨y0, y1, y2, y3, y4, y5, y6, y7, y8⟩ := hbx.nine
    clear hL hbb hbx hfin ih he hin hO
    simp only [ndV, ndL, Tr.p] at y0 y1 y2 y3 y4 y5 y6 y7 y8 how ⊢
    go_enter Tryz.func26, Tryz.ntmps26
    go_wp2_with fail
    refine (how _ (HX.out.2.2.2.2.2.up HX.out.2.1)).mono ?_
    rintro e w1 ⟨rfl, hb1⟩
    have hw1 := HX.out.2.1.trans (hb1.mono HX.out.2.1.size)
    have hx1 := HX.out.2.2.1.below hb1
    clear y0 y1 y2 y3 y4 y5 y6 y7 y8 how
    cases O with
    | false =>
      clear hb1 hx1
      go_wp2
      go_ret
      exact ⟨rfl, hw1⟩
    | true =>
      have HY := hid (And.intro hw1 hx1)
      clear hw1 hx1 hb1
      go_wp2
      go_loopw [3] (fun v3 wr => ∃ k : Nat, v3 = .int .i64 k ∧ k ≤ lst.length ∧ allL (lst.take k) = true ∧ Below w1.heap.size w1 wr) (fun v3 _ => lst.length - (intOf v3).toNat)
      case atStart => exact ⟨0, rfl, Nat.zero_le _, rfl, Below.refl _ _⟩
      case round =>
        obtain ⟨k, rfl, hk, hsm, hbw⟩ := hrel
        have hwr := HY.out.1.trans (hbw.mono HY.out.1.size)
        have c8 := (HY.out.2.below hbw).cell 8 rfl
        by_cases hkl : k < lst.length
        · obtain ⟨hL, hbb, hbx, hfin, ih, hin⟩ := HX.out
          obtain ⟨t, ht⟩ : ∃ t, lst[k]? = some t := ⟨_, List.getElem?_eq_getElem hkl⟩
          obtain ⟨⟨g, o, rfl, ca1⟩, ta⟩ := (hL.up hwr) k t ht
          obtain ⟨l1, q1, n1, c1, f1, -, g1, rfl, -⟩ := InT.inv ta
          rw [g1] at ca1 ta
          have hkz : (k : Int) < lst.length := by omega
          have HW := hid (show wrap64 ((k : Int) + 1) = (k : Int) + 1 by unfold wrap64; omega)
          obtain ⟨a0, a1, a2, a3, a4, a5, a6, a7, a8⟩ := ca1.cells
          have hcall := ih t (List.mem_of_getElem? ht) (hfin.sub (List.mem_of_getElem? ht)) (.slice q1 l1.length c1) wr ta
          obtain ⟨sm, hsmt⟩ : ∃ sm, t.all = sm := ⟨_, rfl⟩
          rw [hsmt] at hcall
          have hstep : sm = true → allL (lst.take (k + 1)) = true := fun h => by
            subst h
            rw [allL_iff] at hsm ⊢
            intro u hu
            rw [List.take_add_one, ht] at hu
            rcases List.mem_append.1 hu with hu | hu
            · exact hsm u hu
            · rw [Option.toList_some, List.mem_singleton] at hu; subst hu; exact hsmt
          have hstop : sm = false → allL lst = false := fun h => by
            subst h
            rw [← Bool.not_eq_true]
            intro hall
            rw [(allL_iff lst).1 hall t (List.mem_of_getElem? ht)] at hsmt
            cases hsmt
          have HZ := hid (And.intro hbw (And.intro hwr (And.intro hstep hstop)))
          clear hL hbb hbx hfin ih hin ta ca1 g1 hbw ht hwr hsm hsmt hstep hstop
          simp only [ndV, ndL] at hcall
          go_wp2_with fail
          refine hcall.mono ?_
          rintro e w2 ⟨rfl, hb1⟩
          obtain ⟨hbw, hwr, hstep, hstop⟩ := HZ.out
          have hb2 := hbw.trans (hb1.mono hbw.size)
          have hb3 := hwr.trans (hb1.mono hwr.size)
          cases sm with
          | true =>
            have HS := hid (hstep rfl)
            clear hcall hb1 hbw hwr hstep hstop
            go_wp2
            go_roundw
            case rel => exact ⟨k + 1, by simp, by omega, HS.out, hb2⟩
            case measure => simp [intOf]; omega
          | false =>
            have HS := hid (hstop rfl)
            clear hcall hb1 hbw hwr hstep hstop
            go_wp2
            go_ret
            exact ⟨by rw [HS.out]; rfl, hb3⟩
        · have hkz : decide (k < lst.length) = false := decide_eq_false (by omega)
          obtain rfl : k = lst.length := by omega
          rw [List.take_of_length_le (Nat.le_refl _)] at hsm
          have HS := hid hsm
          clear hk hkl hbw hsm
          go_wp2
          go_ret
          exact ⟨by rw [HS.out]; rfl, hwr⟩

set_option maxRecDepth 100000 in
set_option maxHeartbeats 4000000 in
theorem rright_calls (t : Tr) (hfin : t.fine) (hdep : t.dep ≤ 1000) (sl : Value) (w : World) (hin : InT w (ndV t.p sl) t) :
    Calls Tryz.prog 13 #[ndV t.p sl] w fun e w' => e = .returned (.bool t.right) ∧ Below w.heap.size w w' := by
  have hbb := below_alloc w (.cells (ndL t.p sl).toArray 27)
  have hS : St w w.heap.size t sl (w.alloc (.cells (ndL t.p sl).toArray 27)) := ⟨Cls.new w _ _, hin.up hbb, hbb⟩
  have hk1 := fun W h => rcount_calls t hfin sl W h
  have hk2 := fun W h => rdepth_calls t hfin hdep sl W h
  have hk3 := fun W h => rall_calls t hfin sl W h
  have hr : t.right = (decide (wrapI t.cnt ≤ 300) && (decide (t.dep ≤ 16) && t.all)) := rfl
  rw [hr]
  obtain ⟨K, hK⟩ : ∃ K, wrapI t.cnt = K := ⟨_, rfl⟩
  obtain ⟨D, hD⟩ : ∃ D, t.dep = D := ⟨_, rfl⟩
  obtain ⟨A, hA⟩ : ∃ A, t.all = A := ⟨_, rfl⟩
  rw [hK] at hk1 ⊢
  rw [hD] at hk2 ⊢
  rw [hA] at hk3 ⊢
  obtain ⟨G1, hG1⟩ : ∃ G, decide (K ≤ 300) = G := ⟨_, rfl⟩
  obtain ⟨G2, hG2⟩ : ∃ G, decide (D ≤ 16) = G := ⟨_, rfl⟩
  rw [hG1, hG2]
  have HG := hid (And.intro hG1 hG2)
  clear hG1 hG2
  obtain ⟨l1, q1, n1, c1, f1, -, g1, rfl, -⟩ := InT.inv hin
  subst g1
  have HS := hid hS
  obtain ⟨y0, y1, y2, y3, y4, y5, y6, y7, y8⟩ := hS.box.nine
  clear hbb hin hfin hr hK hD hA hS hdep
  simp only [ndV, ndL] at y0 y1 y2 y3 y4 y5 y6 y7 y8 hk1 hk2 hk3 ⊢
  go_enter Tryz.func13, Tryz.ntmps13
  go_wp2_with fail
  refine (hk1 _ HS.out.inn).mono ?_
  rintro e w1 ⟨rfl, hb⟩
  have HS := hid (HS.out.up hb)
  clear hb y0 y1 y2 y3 y4 y5 y6 y7 y8 hk1
  obtain ⟨y0, y1, y2, y3, y4, y5, y6, y7, y8⟩ := HS.out.box.nine
  have hbe := HS.out.below
  by_cases h1 : K ≤ 300
  · obtain rfl : G1 = true := HG.out.1.symm.trans (decide_eq_true h1)
    clear hbe
    go_wp2_with fail
    refine (hk2 _ HS.out.inn).mono ?_
    rintro e w2 ⟨rfl, hb⟩
    have HS := hid (HS.out.up hb)
    clear hb y0 y1 y2 y3 y4 y5 y6 y7 y8 hk2
    obtain ⟨y0, y1, y2, y3, y4, y5, y6, y7, y8⟩ := HS.out.box.nine
    have hbe := HS.out.below
    by_cases h2 : D ≤ 16
    · have h2i : (D : Int) ≤ 16 := by omega
      obtain rfl : G2 = true := HG.out.2.symm.trans (decide_eq_true h2)
      clear hbe h2
      go_wp2_with fail
      refine (hk3 _ HS.out.inn).mono ?_
      rintro e w3 ⟨rfl, hb⟩
      have hbe := (HS.out.up hb).below
      clear hb hk3
      go_wp2
      go_ret
      exact ⟨rfl, hbe⟩
    · have h2i : (16 : Int) < D := by omega
      obtain rfl : G2 = false := HG.out.2.symm.trans (decide_eq_false h2)
      clear h2 hk3
      go_wp2
      go_ret
      exact ⟨rfl, hbe⟩
  · have h1i : 300 < K := by omega
    obtain rfl : G1 = false := HG.out.1.symm.trans (decide_eq_false h1)
    clear h1 hk2 hk3
    go_wp2
    go_ret
    exact ⟨rfl, hbe⟩
end Go.Proofs.YtdfoajclakjelaaGreatDoor

/- The reference's Check of trees: walked. -/
namespace Go.Proofs.YtdfoajclakjelaaGreatDoor
open Go.RowKit
attribute [local go_sem] Oper.semAt_some

set_option maxRecDepth 100000 in
set_option maxHeartbeats 4000000 in
theorem rcheck_calls (t : Tr) (hfin : t.fine) (hdep : t.dep ≤ 1000) (f : Int) (sl : Value) (w : World) (hin : InT w (ndV t.p sl) t) :
    Calls Tryz.prog 15 #[ndV t.p sl, .int .i64 f] w fun e w' => e = .returned (.int .i64 (chk t f)) ∧ Below w.heap.size w w' := by
  have hbb := below_alloc w (.cells (ndL t.p sl).toArray 27)
  have hS : St w w.heap.size t sl (w.alloc (.cells (ndL t.p sl).toArray 27)) := ⟨Cls.new w _ _, hin.up hbb, hbb⟩
  have hk1 := fun W h => rright_calls t hfin hdep sl W h
  have hk2 := fun W h => rfit_calls t hfin f sl W h
  unfold chk
  obtain ⟨R, hR⟩ : ∃ R, t.right = R := ⟨_, rfl⟩
  obtain ⟨F, hF⟩ : ∃ F, t.fit f = F := ⟨_, rfl⟩
  rw [hR] at hk1 ⊢
  rw [hF] at hk2 ⊢
  obtain ⟨l1, q1, n1, c1, f1, -, g1, rfl, -⟩ := InT.inv hin
  subst g1
  have HS := hid hS
  obtain ⟨y0, y1, y2, y3, y4, y5, y6, y7, y8⟩ := hS.box.nine
  clear hbb hin hfin hR hF hS hdep
  simp only [ndV, ndL] at y0 y1 y2 y3 y4 y5 y6 y7 y8 hk1 hk2 ⊢
  cases R with
  | false =>
    rw [if_neg (by decide)]
    go_enter Tryz.func15, Tryz.ntmps15
    go_wp2_with fail
    refine (hk1 _ HS.out.inn).mono ?_
    rintro e w1 ⟨rfl, hb⟩
    have hbe := (HS.out.up hb).below
    clear hb y0 y1 y2 y3 y4 y5 y6 y7 y8 hk1 hk2
    go_wp2
    go_ret
    exact ⟨rfl, hbe⟩
  | true =>
    rw [if_pos rfl]
    cases F with
    | false =>
      rw [if_neg (by decide)]
      go_enter Tryz.func15, Tryz.ntmps15
      go_wp2_with fail
      refine (hk1 _ HS.out.inn).mono ?_
      rintro e w1 ⟨rfl, hb⟩
      have HS := hid (HS.out.up hb)
      clear hb y0 y1 y2 y3 y4 y5 y6 y7 y8 hk1
      obtain ⟨y0, y1, y2, y3, y4, y5, y6, y7, y8⟩ := HS.out.box.nine
      go_wp2_with fail
      refine (hk2 _ HS.out.inn).mono ?_
      rintro e w2 ⟨rfl, hb⟩
      have hbe := (HS.out.up hb).below
      clear hb y0 y1 y2 y3 y4 y5 y6 y7 y8 hk2
      go_wp2
      go_ret
      exact ⟨rfl, hbe⟩
    | true =>
      rw [if_pos rfl]
      go_enter Tryz.func15, Tryz.ntmps15
      go_wp2_with fail
      refine (hk1 _ HS.out.inn).mono ?_
      rintro e w1 ⟨rfl, hb⟩
      have HS := hid (HS.out.up hb)
      clear hb y0 y1 y2 y3 y4 y5 y6 y7 y8 hk1
      obtain ⟨y0, y1, y2, y3, y4, y5, y6, y7, y8⟩ := HS.out.box.nine
      go_wp2_with fail
      refine (hk2 _ HS.out.inn).mono ?_
      rintro e w2 ⟨rfl, hb⟩
      have hbe := (HS.out.up hb).below
      clear hb y0 y1 y2 y3 y4 y5 y6 y7 y8 hk2
      go_wp2
      go_ret
      exact ⟨rfl, hbe⟩
end Go.Proofs.YtdfoajclakjelaaGreatDoor

/- The statement TreeChecks: walked. -/
namespace Go.Proofs.YtdfoajclakjelaaGreatDoor
open Go.RowKit
attribute [local go_sem] Oper.semAt_some

set_option maxRecDepth 100000 in
set_option maxHeartbeats 4000000 in
theorem checks_law (t : Tr) (hwf : t.wf) (f : Int) (sl : Value) (w : World) {ea eb : Addr} (hT : TabT w ea eb) (hin : InT w (ndV t.p sl) t) :
    Calls Tryz.prog 3 #[ndV t.p sl, .int .i64 f] w fun e w' => e = .returned (.bool true) ∧ Below w.heap.size w w' := by
  have hbb := below_alloc w (.cells (ndL t.p sl).toArray 27)
  have hC := Cls.new w 27 (ndL t.p sl)
  have hsh := shown_calls _ (hT.below hbb)
  have hN := NF.of hwf hT
  obtain ⟨l1, q1, n1, c1, f1, -, g1, rfl, -⟩ := InT.inv hin
  subst g1
  have HX := hid (And.intro hbb (And.intro hC (And.intro hin (And.intro hwf hN))))
  clear hbb hC hin hwf hN hT
  simp only [ndV, ndL] at hsh ⊢
  go_enter Tryz.func3, Tryz.ntmps3
  go_wp2_with fail
  refine hsh.mono ?_
  rintro e w1 ⟨rfl, hb1⟩
  obtain ⟨hbb, hC, hin, hwf, hN⟩ := HX.out
  have hC1 := hC.below hb1
  have hB1 := hbb.trans (hb1.mono hbb.size)
  have hfew := few_calls t hwf _ w1 (hin.up hB1)
  obtain ⟨y0, y1, y2, y3, y4, y5, y6, y7, y8⟩ := hC1.nine
  have HY := hid (And.intro hC1 (And.intro hB1 hN))
  clear hbb hC hin hwf hN hb1 hC1 hB1 HX hsh
  obtain ⟨n, hn⟩ : ∃ n, fewT t = n := ⟨_, rfl⟩
  rw [hn] at hfew HY
  clear hn
  simp only [ndV, ndL] at hfew
  go_wp2_with fail
  refine hfew.mono ?_
  rintro e w2 ⟨sl', rfl, hB2, hb2⟩
  obtain ⟨l9, q9, n9, c9, f9, -, rfl, -, -⟩ := InT.inv (p := n.p) hB2.toT
  obtain ⟨hC1, hB1, hN⟩ := HY.out
  have hC2 := hC1.below hb2
  obtain ⟨W, hW, hS⟩ : ∃ W, putN w2 w.heap.size 0 n.p (.slice q9 n9 c9) = W ∧ St w w.heap.size n (.slice q9 n9 c9) W := ⟨_, rfl, st_few hC1 hB1 (Nat.le_refl _) hB2 hb2⟩
  unfold putN at hW
  simp only [Nat.zero_add] at hW
  clear y0 y1 y2 y3 y4 y5 y6 y7 y8
  obtain ⟨u0, u1, u2, u3, u4, u5, u6, u7, u8⟩ := hC2.nine
  obtain ⟨v0, v1, v2, v3, v4, v5, v6, v7, v8⟩ := hC2.frozens
  obtain ⟨y0, y1, y2, y3, y4, y5, y6, y7, y8⟩ := hS.box.nine
  have HN := hid hN
  have HS := hid hS
  clear hB2 hb2 hC1 hB1 hN hC2 hS hfew HY
  have hk1 := fun Wx (h : Below W.heap.size W Wx) => tright_calls n HN.out.fine HN.out.dep' (.slice q9 n9 c9) Wx (ea := ea) (eb := eb) (HN.out.tab.below (HS.out.up h).below) (HS.out.up h).inn
  have hk2 := fun Wx (h : Below W.heap.size W Wx) => rright_calls n HN.out.fine HN.out.dep' (.slice q9 n9 c9) Wx (HS.out.up h).inn
  have hk3 := fun Wx (h : Below W.heap.size W Wx) => check_calls n HN.out.fine HN.out.dep' f (.slice q9 n9 c9) Wx (ea := ea) (eb := eb) (HN.out.tab.below (HS.out.up h).below) (HS.out.up h).inn
  have hk4 := fun Wx (h : Below W.heap.size W Wx) => rcheck_calls n HN.out.fine HN.out.dep' f (.slice q9 n9 c9) Wx (HS.out.up h).inn
  have hk5 := fun Wx (h : Below W.heap.size W Wx) => count_calls n HN.out.fine (.slice q9 n9 c9) Wx (HS.out.up h).inn
  have hk6 := fun Wx (h : Below W.heap.size W Wx) => rcount_calls n HN.out.fine (.slice q9 n9 c9) Wx (HS.out.up h).inn
  have hk7 := fun Wx (h : Below W.heap.size W Wx) => depth_calls n HN.out.fine HN.out.dep' (.slice q9 n9 c9) Wx (HS.out.up h).inn
  have hk8 := fun Wx (h : Below W.heap.size W Wx) => rdepth_calls n HN.out.fine HN.out.dep' (.slice q9 n9 c9) Wx (HS.out.up h).inn
  obtain ⟨R, hR⟩ : ∃ R, n.right = R := ⟨_, rfl⟩
  obtain ⟨C, hC⟩ : ∃ C, chk n f = C := ⟨_, rfl⟩
  obtain ⟨K, hK⟩ : ∃ K, wrapI n.cnt = K := ⟨_, rfl⟩
  obtain ⟨D, hD⟩ : ∃ D : Int, ((n.dep : Nat) : Int) = D := ⟨_, rfl⟩
  rw [hR] at hk1 hk2
  rw [hC] at hk3 hk4
  rw [hK] at hk5 hk6
  rw [hD] at hk7 hk8
  have hbz := Below.refl W.heap.size W
  have hs1 : (R == R) = true := by cases R <;> rfl
  have hs2 : (C == C) = true := by simp
  have hs3 : (K == K) = true := by simp
  have hs4 : (D == D) = true := by simp
  clear hR hC hK hD
  simp only [ndV, ndL] at hk1 hk2 hk3 hk4 hk5 hk6 hk7 hk8
  go_wp2_with fail
  clear hW u0 u1 u2 u3 u4 u5 u6 u7 u8 v0 v1 v2 v3 v4 v5 v6 v7 v8
  go_region_held3 (fun w' => w'.cell? ⟨w.heap.size, 0, none⟩ = some (.int .i64 n.p.k) ∧ w'.cell? ⟨w.heap.size, 1, none⟩ = some (.bool n.p.b) ∧ w'.cell? ⟨w.heap.size, 2, none⟩ = some (.bool n.p.n) ∧ w'.cell? ⟨w.heap.size, 3, none⟩ = some (.string n.p.dg) ∧ w'.cell? ⟨w.heap.size, 4, none⟩ = some (.int .i64 n.p.ex) ∧ w'.cell? ⟨w.heap.size, 5, none⟩ = some (.int .u64 n.p.u) ∧ w'.cell? ⟨w.heap.size, 6, none⟩ = some (.int .i64 n.p.w) ∧ w'.cell? ⟨w.heap.size, 7, none⟩ = some (.string n.p.s) ∧ w'.cell? ⟨w.heap.size, 8, none⟩ = some (.slice q9 n9 c9) ∧ Below W.heap.size W w')
    (first
      | (refine ⟨?_, ?_, ?_, ?_, ?_, ?_, ?_, ?_, ?_, ?_⟩ <;> first | assumption | exact cell_below (by assumption) hbX | exact below_nx (by assumption) hbX | exact Below.drew (by assumption) | exact below_nx (Below.drew (by assumption)) hbX)
      | go_keep
      | (go_split_ands
         refine ⟨?_, ?_, ?_, ?_, ?_, ?_, ?_, ?_, ?_, ?_⟩ <;> first | assumption | exact cell_below (by assumption) hbX | exact below_nx (by assumption) hbX | exact Below.drew (by assumption) | exact below_nx (Below.drew (by assumption)) hbX))
    (first
      | (go_at_call 12; ((with_reducible refine (hk1 _ ?hB).mono ?_); (case hB => (try go_split_ands); (first | assumption | exact Below.drew (by assumption) | exact Below.drew (Below.drew (by assumption)))); rintro e wn ⟨rfl, hbX⟩))
      | (go_at_call 13; ((with_reducible refine (hk2 _ ?hB).mono ?_); (case hB => (try go_split_ands); (first | assumption | exact Below.drew (by assumption) | exact Below.drew (Below.drew (by assumption)))); rintro e wn ⟨rfl, hbX⟩))
      | (go_at_call 14; ((with_reducible refine (hk3 _ ?hB).mono ?_); (case hB => (try go_split_ands); (first | assumption | exact Below.drew (by assumption) | exact Below.drew (Below.drew (by assumption)))); rintro e wn ⟨rfl, hbX⟩))
      | (go_at_call 15; ((with_reducible refine (hk4 _ ?hB).mono ?_); (case hB => (try go_split_ands); (first | assumption | exact Below.drew (by assumption) | exact Below.drew (Below.drew (by assumption)))); rintro e wn ⟨rfl, hbX⟩))
      | (go_at_call 16; ((with_reducible refine (hk5 _ ?hB).mono ?_); (case hB => (try go_split_ands); (first | assumption | exact Below.drew (by assumption) | exact Below.drew (Below.drew (by assumption)))); rintro e wn ⟨rfl, hbX⟩))
      | (go_at_call 17; ((with_reducible refine (hk6 _ ?hB).mono ?_); (case hB => (try go_split_ands); (first | assumption | exact Below.drew (by assumption) | exact Below.drew (Below.drew (by assumption)))); rintro e wn ⟨rfl, hbX⟩))
      | (go_at_call 18; ((with_reducible refine (hk7 _ ?hB).mono ?_); (case hB => (try go_split_ands); (first | assumption | exact Below.drew (by assumption) | exact Below.drew (Below.drew (by assumption)))); rintro e wn ⟨rfl, hbX⟩))
      | (go_at_call 19; ((with_reducible refine (hk8 _ ?hB).mono ?_); (case hB => (try go_split_ands); (first | assumption | exact Below.drew (by assumption) | exact Below.drew (Below.drew (by assumption)))); rintro e wn ⟨rfl, hbX⟩)))
  all_goals (
    go_split_ands
    have hbn : Below W.heap.size W wn := by assumption
    have hbe := HS.out.below.trans (hbn.mono HS.out.below.size)
    clear hk1 hk2 hk3 hk4 hk5 hk6 hk7 hk8 hbn hbz
    go_wp2
    go_ret
    exact ⟨rfl, hbe⟩)
end Go.Proofs.YtdfoajclakjelaaGreatDoor

