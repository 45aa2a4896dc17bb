/- The statements of layer 6: walked (TreeClones, TreeSame). -/
import Derived.Test.YtdfoajclakjelaaGreatDoorTK
namespace Go.Proofs.YtdfoajclakjelaaGreatDoor
open Go.RowKit
attribute [local go_sem] Oper.semAt_some

theorem fine_wf (t : Tr) : t.fine → t.wf := by
  induction t using Tr.ind with
  | h p l ih =>
    intro h
    obtain ⟨h1, h2, h3, h4, h5, h6⟩ := h.pay
    exact .nd p l ⟨h1, by omega, h3, h4, h5, by omega⟩ (by have := h.len; omega) (fun t ht => ih t ht (h.sub ht))
theorem few_wf {t : Tr} (h : t.wf) : (fewT t).wf := fine_wf _ (few_fine h)
theorem tpre_self {k : Nat} {s : ByteArray} (h : s.size ≤ k) : tpre k s = s := by
  unfold tpre
  rw [Nat.min_eq_left h]
  simp
theorem cut_idem (p : Pay) : p.cut.cut = p.cut := by
  show Pay.mk _ _ _ _ _ _ _ _ = Pay.mk _ _ _ _ _ _ _ _
  have h1 : tpre 200 (tpre 200 p.dg) = tpre 200 p.dg := tpre_self (tpre_size _ _)
  have h2 : tpre 410 (tpre 410 p.s) = tpre 410 p.s := tpre_self (tpre_size _ _)
  simp only [Pay.cut, h1, h2]
theorem cutD_idem : ∀ (j : Nat) (t : Tr), cutD j (cutD j t) = cutD j t
  | 0, t => by show Tr.nd t.p.cut.cut [] = Tr.nd t.p.cut []; rw [cut_idem]
  | j + 1, t => by
    show Tr.nd t.p.cut.cut ((((t.l.take 40).map (cutD j)).take 40).map (cutD j)) = Tr.nd t.p.cut ((t.l.take 40).map (cutD j))
    rw [cut_idem, List.take_of_length_le (by rw [List.length_map, List.length_take]; omega), List.map_map]
    congr 1
    exact List.map_congr_left fun x _ => cutD_idem j x
theorem few_idem (t : Tr) : fewT (fewT t) = fewT t := by
  by_cases h : 400 < wrapI (cutD 17 t).cnt
  · have e : fewT t = .nd (cutD 17 t).p [] := by unfold fewT; rw [if_pos h]
    have e2 : cutD 17 (.nd (cutD 17 t).p []) = .nd (cutD 17 t).p [] := by
      show Tr.nd t.p.cut.cut _ = Tr.nd t.p.cut []
      rw [cut_idem]; rfl
    rw [e]
    unfold fewT
    rw [e2, if_neg (by rw [Tr.cnt, cntL]; decide)]
  · have e : fewT t = cutD 17 t := by unfold fewT; rw [if_neg h]
    rw [e]
    unfold fewT
    rw [cutD_idem, if_neg h]

set_option maxRecDepth 100000 in
set_option maxHeartbeats 4000000 in
theorem clones_law (t : Tr) (hwf : t.wf) (sl : Value) (w : World) {ea eb : Addr} (hT : TabT w ea eb) (hin : InT w (ndV t.p sl) t) :
    Calls Tryz.prog 9 #[ndV t.p sl] w fun e w' => e = .returned (.bool true) ∧ Below w.heap.size w w' := by
  have hbb := below_alloc w (.cells (ndL t.p sl).toArray 27)
  have hC := Cls.new w 27 (ndL t.p sl)
  have hsh := shown_calls _ (hT.below hbb)
  have hN := NF.of hwf hT
  obtain ⟨l1, q1, n1, c1, f1, -, g1, rfl, -⟩ := InT.inv hin
  subst g1
  have HX := hid (And.intro hbb (And.intro hC (And.intro hin (And.intro hwf hN))))
  clear hbb hC hin hwf hN hT
  simp only [ndV, ndL] at hsh ⊢
  go_enter Tryz.func9, Tryz.ntmps9
  go_wp2_with fail
  refine hsh.mono ?_
  rintro e w1 ⟨rfl, hb1⟩
  obtain ⟨hbb, hC, hin, hwf, hN⟩ := HX.out
  have hC1 := hC.below hb1
  have hB1 := hbb.trans (hb1.mono hbb.size)
  have hfew := few_calls t hwf _ w1 (hin.up hB1)
  obtain ⟨y0, y1, y2, y3, y4, y5, y6, y7, y8⟩ := hC1.nine
  have HY := hid (And.intro hC1 (And.intro hB1 hN))
  clear hbb hC hin hwf hN hb1 hC1 hB1 HX hsh
  have hfn := (few_idem t)
  have hnw := fine_wf _ HY.out.2.2.fine
  obtain ⟨n, hn⟩ : ∃ n, fewT t = n := ⟨_, rfl⟩
  rw [hn] at hfn hnw
  have HI := hid (And.intro hfn hnw)
  clear hfn hnw
  rw [hn] at hfew HY
  clear hn
  simp only [ndV, ndL] at hfew
  go_wp2_with fail
  refine hfew.mono ?_
  rintro e w2 ⟨sl', rfl, hB2, hb2⟩
  obtain ⟨l9, q9, n9, c9, f9, -, rfl, -, -⟩ := InT.inv (p := n.p) hB2.toT
  obtain ⟨hC1, hB1, hN⟩ := HY.out
  have hC2 := hC1.below hb2
  obtain ⟨W, hW, hS⟩ : ∃ W, putN w2 w.heap.size 0 n.p (.slice q9 n9 c9) = W ∧ St w w.heap.size n (.slice q9 n9 c9) W := ⟨_, rfl, st_few hC1 hB1 (Nat.le_refl _) hB2 hb2⟩
  unfold putN at hW
  simp only [Nat.zero_add] at hW
  clear y0 y1 y2 y3 y4 y5 y6 y7 y8
  obtain ⟨u0, u1, u2, u3, u4, u5, u6, u7, u8⟩ := hC2.nine
  obtain ⟨v0, v1, v2, v3, v4, v5, v6, v7, v8⟩ := hC2.frozens
  obtain ⟨y0, y1, y2, y3, y4, y5, y6, y7, y8⟩ := hS.box.nine
  have HN := hid hN
  have HS := hid hS
  clear hB2 hb2 hC1 hB1 hN hC2 hS hfew HY
  have hcl := fun W h => clone_calls n HN.out.fine (.slice q9 n9 c9) W h
  simp only [ndV, ndL] at hcl
  go_wp2_with fail
  clear hW u0 u1 u2 u3 u4 u5 u6 u7 u8 v0 v1 v2 v3 v4 v5 v6 v7 v8
  refine (hcl _ HS.out.inn).mono ?_
  rintro e w3 ⟨sc, rfl, hIC, hb3⟩
  obtain ⟨l8, q8, n8, c8, f8, -, rfl, rfl, -⟩ := InT.inv (p := n.p) hIC.toB.toT
  have hbA := below_alloc w3 (.cells (ndL n.p (.slice q8 l8.length c8)).toArray 27)
  have hcA := Cls.new w3 27 (ndL n.p (.slice q8 l8.length c8))
  have hIC3 := hIC.mono (K' := fun k => W.heap.size ≤ k ∧ k < w3.heap.size) (fun k hk h => ⟨h, hk⟩)
  have HC := hid (And.intro (HS.out.up hb3) (And.intro hIC3 (And.intro hbA (And.intro hcA (And.intro HS.out hb3)))))
  clear y0 y1 y2 y3 y4 y5 y6 y7 y8 hIC hIC3 hb3 hbA hcA hcl
  obtain ⟨y0, y1, y2, y3, y4, y5, y6, y7, y8⟩ := (HC.out.1.up HC.out.2.2.1).box.nine
  obtain ⟨x0, x1, x2, x3, x4, x5, x6, x7, x8⟩ := HC.out.2.2.2.1.nine
  simp only [ndL] at y0 y1 y2 y3 y4 y5 y6 y7 y8 x0 x1 x2 x3 x4 x5 x6 x7 x8
  have hsm := fun Wx h1 h2 => same_calls n HN.out.fine n (.slice q8 l8.length c8) (.slice q9 n9 c9) Wx h1 h2
  rw [same_self] at hsm
  simp only [ndV, ndL] at hsm
  go_wp2_with fail
  obtain ⟨hS3, hIC3, hbA, hcA, hSW, hb3⟩ := HC.out
  refine (hsm _ (hIC3.toB.toT.up hbA) (hS3.up hbA).inn).mono ?_
  rintro e w4 ⟨rfl, hb4⟩
  have HD := hid (And.intro ((hS3.up hbA).up hb4) (And.intro ((hIC3.up hbA).up hb4) (And.intro (hcA.below hb4) (And.intro hSW (And.intro (hbA.trans (hb4.mono hbA.size)) hb3)))))
  clear y0 y1 y2 y3 y4 y5 y6 y7 y8 x0 x1 x2 x3 x4 x5 x6 x7 x8 hS3 hIC3 hbA hcA hSW hb3 hb4 hsm HC
  obtain ⟨y0, y1, y2, y3, y4, y5, y6, y7, y8⟩ := HD.out.1.box.nine
  have hfew := few_calls n HI.out.2 (.slice q9 n9 c9) w4 HD.out.1.inn
  rw [HI.out.1] at hfew
  simp only [ndV, ndL] at hfew
  go_wp2_with fail
  refine hfew.mono ?_
  rintro e w5 ⟨sw, rfl, hBw, hb5⟩
  obtain ⟨l7, q7, n7, c7, f7, -, rfl, -, -⟩ := InT.inv (p := n.p) hBw.toT
  obtain ⟨hS4, hIC4, hcA, hSW, hb34, hb3⟩ := HD.out
  have hbB := below_alloc w5 (.cells (ndL n.p (.slice q7 n7 c7)).toArray 27)
  have hcB := Cls.new w5 27 (ndL n.p (.slice q7 n7 c7))
  have HE := hid (And.intro ((hS4.up hb5).up hbB) (And.intro ((hIC4.up hb5).up hbB) (And.intro ((hcA.below hb5).below hbB) (And.intro (hBw.up hbB) (And.intro hcB (And.intro hSW (And.intro (hb34.trans ((hb5.trans (hbB.mono hb5.size)).mono hb34.size)) (And.intro hb3 (And.intro hb5 (And.intro hbB hb34.size))))))))))
  obtain ⟨x0, x1, x2, x3, x4, x5, x6, x7, x8⟩ := ((hcA.below hb5).below hbB).nine
  simp only [ndL] at x0 x1 x2 x3 x4 x5 x6 x7 x8
  clear y0 y1 y2 y3 y4 y5 y6 y7 y8 hS4 hIC4 hcA hSW hb34 hb3 hb5 hbB hcB hBw hfew HD
  have hsp := fun Wx lo top h1 h2 h3 => spoil_calls lo top 17 n.p (.slice q8 l8.length c8) Wx h1 h2 h3
  simp only [ndV, ndL] at hsp
  go_wp2_with fail
  obtain ⟨hS5, hIC5, hcA, hBw, hcB, hSW, hb35, hb3, hb5, hbB, hs34⟩ := HE.out
  refine (hsp _ W.heap.size w3.heap.size (Nat.le_trans hb3.size hb35.size) hb35.size (hIC5.sp HN.out.fine 17 HN.out.dep)).mono ?_
  rintro e w6 ⟨⟨v, rfl⟩, hsr⟩
  have hn6 : InT w6 (ndV n.p (.slice q9 n9 c9)) n := (InB.kp hsr.kp (fun k hk => .inl hk) ((hSW.inn.lt).up (hb3.trans (hb35.mono hb3.size)))).toT
  have hw6 : InT w6 (ndV n.p (.slice q7 n7 c7)) n := (InB.kp hsr.kp (fun k (hk : w4.heap.size ≤ k) => .inr (Nat.le_trans hs34 hk)) hBw).toT
  have hx6 := hsr.kp.cls (.inl hSW.box.lt) hS5.box
  have hz6 := hsr.kp.cls (.inr (Nat.le_trans hs34 hb5.size)) hcB
  have hb6 : Below w.heap.size w w6 := hS5.below.trans (hsr.below.mono hSW.below.size)
  have hrs := rsame_calls n HN.out.fine n (.slice q9 n9 c9) (.slice q7 n7 c7) w6 hn6 hw6
  rw [same_self] at hrs
  clear x0 x1 x2 x3 x4 x5 x6 x7 x8
  obtain ⟨y0, y1, y2, y3, y4, y5, y6, y7, y8⟩ := hx6.nine
  obtain ⟨x0, x1, x2, x3, x4, x5, x6, x7, x8⟩ := hz6.nine
  have HB6 := hid hb6
  clear hS5 hIC5 hcA hBw hcB hSW hb35 hb3 hb5 hbB hs34 HE hsp hsr hn6 hw6 hx6 hz6 hb6
  simp only [ndV, ndL] at hrs
  go_wp2_with fail
  refine hrs.mono ?_
  rintro e w7 ⟨rfl, hb7⟩
  have hbe := HB6.out.trans (hb7.mono HB6.out.size)
  clear hrs hb7
  go_wp2
  go_ret
  exact ⟨rfl, hbe⟩
end Go.Proofs.YtdfoajclakjelaaGreatDoor

