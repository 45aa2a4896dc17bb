/- The statements of layer 6: walked. -/
import Derived.Test.YtdfoajclakjelaaGreatDoorTJ
import Derived.Test.YtdfoajclakjelaaGreatDoorTF
import Derived.Deep.RegionHeld3
namespace Go.Proofs.YtdfoajclakjelaaGreatDoor
open Go.RowKit
attribute [local go_sem] Oper.semAt_some

/-- a tree lies in a box of the call's own. -/
structure St (w : World) (b : Nat) (n : Tr) (sl : Value) (W : World) : Prop where
  box : Cls W b 27 (ndL n.p sl)
  inn : InT W (ndV n.p sl) n
  below : Below w.heap.size w W
theorem St.up {w : World} {b : Nat} {n : Tr} {sl : Value} {A B : World} (h : St w b n sl A) (hb : Below A.heap.size A B) : St w b n sl B := ⟨h.box.below hb, h.inn.up hb, h.below.trans (hb.mono h.below.size)⟩
/-- what Few makes is put into the box. -/
theorem st_few {w A B : World} {b : Nat} {t n : Tr} {sl sl' : Value} (hC : Cls A b 27 (ndL t.p sl)) (hw : Below w.heap.size w A) (hb : w.heap.size ≤ b) (hB : InB (fun k => A.heap.size ≤ k) B (ndV n.p sl') n) (hAB : Below A.heap.size A B) : St w b n sl' (putN B b 0 n.p sl') :=
  ⟨(hC.below hAB).putN, (hB.kept (fun k _ (hk : A.heap.size ≤ k) => putN_other _ _ _ _ _ (by have := hC.lt; omega))).toT, putN_below (hw.trans (hAB.mono hw.size)) _ _ _ _ hb⟩
/-- what is known of a tree that Few made. -/
structure NF (w : World) (n : Tr) (ea eb : Addr) : Prop where
  fine : n.fine
  dep : n.dep ≤ 18
  cnt : wrapI n.cnt ≤ 400
  tab : TabT w ea eb
theorem NF.of {w : World} {t : Tr} {ea eb : Addr} (hwf : t.wf) (hT : TabT w ea eb) : NF w (fewT t) ea eb := ⟨few_fine hwf, few_dep t, few_cnt t, hT⟩
theorem arr1_in {W : World} {g : Nat} {n : Tr} {sl : Value} (hC : Cls W g 27 (ndL n.p sl)) (hi : InT W (ndV n.p sl) n) : InT W (ndV (arr1 n).p (.slice (some ⟨g, 0, none⟩) 1 1)) (arr1 n) := by
  refine .nd _ _ _ 1 1 (fun _ => sl) rfl (fun i t hi => ?_) (fun i t hi => ?_)
  · obtain rfl : i = 0 := by have := (List.getElem?_eq_some_iff.1 hi).1; simpa using this
    obtain rfl := Option.some.inj hi
    exact ⟨_, 0, rfl, fun j x hj => by simp only [Nat.zero_mul, Nat.zero_add]; exact hC.cell j hj⟩
  · obtain rfl : i = 0 := by have := (List.getElem?_eq_some_iff.1 hi).1; simpa using this
    obtain rfl := Option.some.inj hi
    assumption
theorem NF.dep' {w : World} {n : Tr} {ea eb : Addr} (h : NF w n ea eb) : n.dep ≤ 1000 := Nat.le_trans h.dep (by decide)

set_option maxRecDepth 100000 in
set_option maxHeartbeats 4000000 in
theorem forms_law (t : Tr) (hwf : t.wf) (sl : Value) (w : World) {ea eb : Addr} (hT : TabT w ea eb) (hin : InT w (ndV t.p sl) t) :
    Calls Tryz.prog 6 #[ndV t.p sl] w fun e w' => e = .returned (.bool true) ∧ Below w.heap.size w w' := by
  have hbb := below_alloc w (.cells (ndL t.p sl).toArray 27)
  have hC := Cls.new w 27 (ndL t.p sl)
  have hsh := shown_calls _ (hT.below hbb)
  have hN := NF.of hwf hT
  obtain ⟨l1, q1, n1, c1, f1, -, g1, rfl, -⟩ := InT.inv hin
  subst g1
  have HX := hid (And.intro hbb (And.intro hC (And.intro hin (And.intro hwf hN))))
  clear hbb hC hin hwf hN hT
  simp only [ndV, ndL] at hsh ⊢
  go_enter Tryz.func6, Tryz.ntmps6
  go_wp2_with fail
  refine hsh.mono ?_
  rintro e w1 ⟨rfl, hb1⟩
  obtain ⟨hbb, hC, hin, hwf, hN⟩ := HX.out
  have hC1 := hC.below hb1
  have hB1 := hbb.trans (hb1.mono hbb.size)
  have hfew := few_calls t hwf _ w1 (hin.up hB1)
  obtain ⟨y0, y1, y2, y3, y4, y5, y6, y7, y8⟩ := hC1.nine
  have HY := hid (And.intro hC1 (And.intro hB1 hN))
  clear hbb hC hin hwf hN hb1 hC1 hB1 HX hsh
  obtain ⟨n, hn⟩ : ∃ n, fewT t = n := ⟨_, rfl⟩
  rw [hn] at hfew HY
  clear hn
  simp only [ndV, ndL] at hfew
  go_wp2_with fail
  refine hfew.mono ?_
  rintro e w2 ⟨sl', rfl, hB2, hb2⟩
  obtain ⟨l9, q9, n9, c9, f9, -, rfl, -, -⟩ := InT.inv (p := n.p) hB2.toT
  obtain ⟨hC1, hB1, hN⟩ := HY.out
  have hC2 := hC1.below hb2
  obtain ⟨W, hW, hS⟩ : ∃ W, putN w2 w.heap.size 0 n.p (.slice q9 n9 c9) = W ∧ St w w.heap.size n (.slice q9 n9 c9) W := ⟨_, rfl, st_few hC1 hB1 (Nat.le_refl _) hB2 hb2⟩
  unfold putN at hW
  simp only [Nat.zero_add] at hW
  clear y0 y1 y2 y3 y4 y5 y6 y7 y8
  obtain ⟨u0, u1, u2, u3, u4, u5, u6, u7, u8⟩ := hC2.nine
  obtain ⟨v0, v1, v2, v3, v4, v5, v6, v7, v8⟩ := hC2.frozens
  obtain ⟨y0, y1, y2, y3, y4, y5, y6, y7, y8⟩ := hS.box.nine
  have HN := hid hN
  have HS := hid hS
  clear hB2 hb2 hC1 hB1 hN hC2 hS hfew HY
  have hpl := forms_plain n
  obtain ⟨J, hJ⟩ : ∃ J, chk n 1 = J := ⟨_, rfl⟩
  obtain ⟨C, hC⟩ : ∃ C, chk n 2 = C := ⟨_, rfl⟩
  obtain ⟨D, hD⟩ : ∃ D, chk n 3 = D := ⟨_, rfl⟩
  obtain ⟨M, hM⟩ : ∃ M, chk n 4 = M := ⟨_, rfl⟩
  obtain ⟨O, hO⟩ : ∃ O, chk n 0 = O := ⟨_, rfl⟩
  obtain ⟨V, hV⟩ : ∃ V, chk n 5 = V := ⟨_, rfl⟩
  obtain ⟨sm, hsm⟩ : ∃ sm, n.small = sm := ⟨_, rfl⟩
  rw [hJ, hC, hD, hM, hO, hV, hsm] at hpl
  have hk1 := fun W h1 h2 => check_calls n HN.out.fine HN.out.dep' 1 (.slice q9 n9 c9) W (ea := ea) (eb := eb) h1 h2
  have hk2 := fun W h1 h2 => check_calls n HN.out.fine HN.out.dep' 2 (.slice q9 n9 c9) W (ea := ea) (eb := eb) h1 h2
  have hk3 := fun W h1 h2 => check_calls n HN.out.fine HN.out.dep' 3 (.slice q9 n9 c9) W (ea := ea) (eb := eb) h1 h2
  have hk4 := fun W h1 h2 => check_calls n HN.out.fine HN.out.dep' 4 (.slice q9 n9 c9) W (ea := ea) (eb := eb) h1 h2
  have hk0 := fun W h1 h2 => check_calls n HN.out.fine HN.out.dep' 0 (.slice q9 n9 c9) W (ea := ea) (eb := eb) h1 h2
  have hk5 := fun W h1 h2 => check_calls n HN.out.fine HN.out.dep' 5 (.slice q9 n9 c9) W (ea := ea) (eb := eb) h1 h2
  have hks := fun W h1 h2 => tsmall_calls n HN.out.fine (.slice q9 n9 c9) W h1 h2
  rw [hJ] at hk1
  rw [hC] at hk2
  rw [hD] at hk3
  rw [hM] at hk4
  rw [hO] at hk0
  rw [hV] at hk5
  rw [hsm] at hks
  have HK := hid (And.intro hk1 (And.intro hk2 (And.intro hk3 (And.intro hk4 (And.intro hk0 (And.intro hk5 hks))))))
  have HP := hid hpl
  clear hk1 hk2 hk3 hk4 hk0 hk5 hks hJ hC hD hM hO hV hsm hpl
  go_wp2_with fail
  clear hW u0 u1 u2 u3 u4 u5 u6 u7 u8 v0 v1 v2 v3 v4 v5 v6 v7 v8
  refine (HK.out.1 _ (HN.out.tab.below HS.out.below) HS.out.inn).mono ?_
  rintro e w3 ⟨rfl, hb⟩
  have HS := hid (HS.out.up hb)
  clear hb y0 y1 y2 y3 y4 y5 y6 y7 y8
  obtain ⟨y0, y1, y2, y3, y4, y5, y6, y7, y8⟩ := HS.out.box.nine
  go_wp2_with fail
  refine (HK.out.2.1 _ (HN.out.tab.below HS.out.below) HS.out.inn).mono ?_
  rintro e w4 ⟨rfl, hb⟩
  have HS := hid (HS.out.up hb)
  clear hb y0 y1 y2 y3 y4 y5 y6 y7 y8
  obtain ⟨y0, y1, y2, y3, y4, y5, y6, y7, y8⟩ := HS.out.box.nine
  go_wp2_with fail
  refine (HK.out.2.2.1 _ (HN.out.tab.below HS.out.below) HS.out.inn).mono ?_
  rintro e w5 ⟨rfl, hb⟩
  have HS := hid (HS.out.up hb)
  clear hb y0 y1 y2 y3 y4 y5 y6 y7 y8
  obtain ⟨y0, y1, y2, y3, y4, y5, y6, y7, y8⟩ := HS.out.box.nine
  go_wp2_with fail
  refine (HK.out.2.2.2.1 _ (HN.out.tab.below HS.out.below) HS.out.inn).mono ?_
  rintro e w6 ⟨rfl, hb⟩
  have HS := hid (HS.out.up hb)
  clear hb y0 y1 y2 y3 y4 y5 y6 y7 y8
  obtain ⟨y0, y1, y2, y3, y4, y5, y6, y7, y8⟩ := HS.out.box.nine
  obtain ⟨hp1, hp2, hp3, hp4⟩ := HP.out
  have o1 : (O != 0) = true := by rw [bne_iff_ne]; exact hp3
  have o2 : (V != 0) = true := by rw [bne_iff_ne]; exact hp4
  have hd : (D != 0) = true ∨ ((D != 0) = false ∧ (C == 0) = true) := by
    by_cases h : D = 0
    · rcases hp1 with h1 | h1
      · exact absurd h h1
      · exact .inr ⟨by rw [h]; rfl, by rw [beq_iff_eq]; exact h1⟩
    · exact .inl (by rw [bne_iff_ne]; exact h)
  have hj : (J != 0) = true ∨ ((J != 0) = false ∧ sm = false) ∨ ((J != 0) = false ∧ sm = true ∧ (C == 0) = true ∧ (D == 0) = true ∧ (M == 0) = true) := by
    by_cases h : J = 0
    · have hz : (J != 0) = false := by rw [h]; rfl
      cases sm with
      | false => exact .inr (.inl ⟨hz, rfl⟩)
      | true =>
        rcases hp2 with h1 | h1 | ⟨h1, h2, h3⟩
        · exact absurd h h1
        · cases h1
        · exact .inr (.inr ⟨hz, rfl, by rw [beq_iff_eq]; exact h1, by rw [beq_iff_eq]; exact h2, by rw [beq_iff_eq]; exact h3⟩)
    · exact .inl (by rw [bne_iff_ne]; exact h)
  clear hp1 hp2 hp3 hp4
  rcases hd with hd | ⟨hd, hc⟩ <;> rcases hj with hj | ⟨hj, rfl⟩ | ⟨hj, rfl, hj1, hj2, hj3⟩
  · go_wp2_with fail
    refine (HK.out.2.2.2.2.1 _ (HN.out.tab.below HS.out.below) HS.out.inn).mono ?_
    rintro e w8 ⟨rfl, hb⟩
    have HS := hid (HS.out.up hb)
    clear hb y0 y1 y2 y3 y4 y5 y6 y7 y8
    obtain ⟨y0, y1, y2, y3, y4, y5, y6, y7, y8⟩ := HS.out.box.nine
    go_wp2_with fail
    refine (HK.out.2.2.2.2.2.1 _ (HN.out.tab.below HS.out.below) HS.out.inn).mono ?_
    rintro e w9 ⟨rfl, hb⟩
    have HS := hid (HS.out.up hb)
    clear hb y0 y1 y2 y3 y4 y5 y6 y7 y8
    obtain ⟨y0, y1, y2, y3, y4, y5, y6, y7, y8⟩ := HS.out.box.nine
    go_wp2
    go_ret
    exact ⟨rfl, HS.out.below⟩
  · go_wp2_with fail
    refine (HK.out.2.2.2.2.2.2 _ (HN.out.tab.below HS.out.below).tabs HS.out.inn).mono ?_
    rintro e w7 ⟨rfl, hb⟩
    have HS := hid (HS.out.up hb)
    clear hb y0 y1 y2 y3 y4 y5 y6 y7 y8
    obtain ⟨y0, y1, y2, y3, y4, y5, y6, y7, y8⟩ := HS.out.box.nine
    go_wp2_with fail
    refine (HK.out.2.2.2.2.1 _ (HN.out.tab.below HS.out.below) HS.out.inn).mono ?_
    rintro e w8 ⟨rfl, hb⟩
    have HS := hid (HS.out.up hb)
    clear hb y0 y1 y2 y3 y4 y5 y6 y7 y8
    obtain ⟨y0, y1, y2, y3, y4, y5, y6, y7, y8⟩ := HS.out.box.nine
    go_wp2_with fail
    refine (HK.out.2.2.2.2.2.1 _ (HN.out.tab.below HS.out.below) HS.out.inn).mono ?_
    rintro e w9 ⟨rfl, hb⟩
    have HS := hid (HS.out.up hb)
    clear hb y0 y1 y2 y3 y4 y5 y6 y7 y8
    obtain ⟨y0, y1, y2, y3, y4, y5, y6, y7, y8⟩ := HS.out.box.nine
    go_wp2
    go_ret
    exact ⟨rfl, HS.out.below⟩
  · go_wp2_with fail
    refine (HK.out.2.2.2.2.2.2 _ (HN.out.tab.below HS.out.below).tabs HS.out.inn).mono ?_
    rintro e w7 ⟨rfl, hb⟩
    have HS := hid (HS.out.up hb)
    clear hb y0 y1 y2 y3 y4 y5 y6 y7 y8
    obtain ⟨y0, y1, y2, y3, y4, y5, y6, y7, y8⟩ := HS.out.box.nine
    go_wp2_with fail
    refine (HK.out.2.2.2.2.1 _ (HN.out.tab.below HS.out.below) HS.out.inn).mono ?_
    rintro e w8 ⟨rfl, hb⟩
    have HS := hid (HS.out.up hb)
    clear hb y0 y1 y2 y3 y4 y5 y6 y7 y8
    obtain ⟨y0, y1, y2, y3, y4, y5, y6, y7, y8⟩ := HS.out.box.nine
    go_wp2_with fail
    refine (HK.out.2.2.2.2.2.1 _ (HN.out.tab.below HS.out.below) HS.out.inn).mono ?_
    rintro e w9 ⟨rfl, hb⟩
    have HS := hid (HS.out.up hb)
    clear hb y0 y1 y2 y3 y4 y5 y6 y7 y8
    obtain ⟨y0, y1, y2, y3, y4, y5, y6, y7, y8⟩ := HS.out.box.nine
    go_wp2
    go_ret
    exact ⟨rfl, HS.out.below⟩
  · go_wp2_with fail
    refine (HK.out.2.2.2.2.1 _ (HN.out.tab.below HS.out.below) HS.out.inn).mono ?_
    rintro e w8 ⟨rfl, hb⟩
    have HS := hid (HS.out.up hb)
    clear hb y0 y1 y2 y3 y4 y5 y6 y7 y8
    obtain ⟨y0, y1, y2, y3, y4, y5, y6, y7, y8⟩ := HS.out.box.nine
    go_wp2_with fail
    refine (HK.out.2.2.2.2.2.1 _ (HN.out.tab.below HS.out.below) HS.out.inn).mono ?_
    rintro e w9 ⟨rfl, hb⟩
    have HS := hid (HS.out.up hb)
    clear hb y0 y1 y2 y3 y4 y5 y6 y7 y8
    obtain ⟨y0, y1, y2, y3, y4, y5, y6, y7, y8⟩ := HS.out.box.nine
    go_wp2
    go_ret
    exact ⟨rfl, HS.out.below⟩
  · go_wp2_with fail
    refine (HK.out.2.2.2.2.2.2 _ (HN.out.tab.below HS.out.below).tabs HS.out.inn).mono ?_
    rintro e w7 ⟨rfl, hb⟩
    have HS := hid (HS.out.up hb)
    clear hb y0 y1 y2 y3 y4 y5 y6 y7 y8
    obtain ⟨y0, y1, y2, y3, y4, y5, y6, y7, y8⟩ := HS.out.box.nine
    go_wp2_with fail
    refine (HK.out.2.2.2.2.1 _ (HN.out.tab.below HS.out.below) HS.out.inn).mono ?_
    rintro e w8 ⟨rfl, hb⟩
    have HS := hid (HS.out.up hb)
    clear hb y0 y1 y2 y3 y4 y5 y6 y7 y8
    obtain ⟨y0, y1, y2, y3, y4, y5, y6, y7, y8⟩ := HS.out.box.nine
    go_wp2_with fail
    refine (HK.out.2.2.2.2.2.1 _ (HN.out.tab.below HS.out.below) HS.out.inn).mono ?_
    rintro e w9 ⟨rfl, hb⟩
    have HS := hid (HS.out.up hb)
    clear hb y0 y1 y2 y3 y4 y5 y6 y7 y8
    obtain ⟨y0, y1, y2, y3, y4, y5, y6, y7, y8⟩ := HS.out.box.nine
    go_wp2
    go_ret
    exact ⟨rfl, HS.out.below⟩
  · go_wp2_with fail
    refine (HK.out.2.2.2.2.2.2 _ (HN.out.tab.below HS.out.below).tabs HS.out.inn).mono ?_
    rintro e w7 ⟨rfl, hb⟩
    have HS := hid (HS.out.up hb)
    clear hb y0 y1 y2 y3 y4 y5 y6 y7 y8
    obtain ⟨y0, y1, y2, y3, y4, y5, y6, y7, y8⟩ := HS.out.box.nine
    go_wp2_with fail
    refine (HK.out.2.2.2.2.1 _ (HN.out.tab.below HS.out.below) HS.out.inn).mono ?_
    rintro e w8 ⟨rfl, hb⟩
    have HS := hid (HS.out.up hb)
    clear hb y0 y1 y2 y3 y4 y5 y6 y7 y8
    obtain ⟨y0, y1, y2, y3, y4, y5, y6, y7, y8⟩ := HS.out.box.nine
    go_wp2_with fail
    refine (HK.out.2.2.2.2.2.1 _ (HN.out.tab.below HS.out.below) HS.out.inn).mono ?_
    rintro e w9 ⟨rfl, hb⟩
    have HS := hid (HS.out.up hb)
    clear hb y0 y1 y2 y3 y4 y5 y6 y7 y8
    obtain ⟨y0, y1, y2, y3, y4, y5, y6, y7, y8⟩ := HS.out.box.nine
    go_wp2
    go_ret
    exact ⟨rfl, HS.out.below⟩

set_option maxRecDepth 100000 in
set_option maxHeartbeats 4000000 in
theorem sums_law (t : Tr) (hwf : t.wf) (sl : Value) (w : World) {ea eb : Addr} (hT : TabT w ea eb) (hin : InT w (ndV t.p sl) t) :
    Calls Tryz.prog 7 #[ndV t.p sl] w fun e w' => e = .returned (.bool true) ∧ Below w.heap.size w w' := by
  have hbb := below_alloc w (.cells (ndL t.p sl).toArray 27)
  have hC := Cls.new w 27 (ndL t.p sl)
  have hsh := shown_calls _ (hT.below hbb)
  have hN := NF.of hwf hT
  obtain ⟨l1, q1, n1, c1, f1, -, g1, rfl, -⟩ := InT.inv hin
  subst g1
  have HX := hid (And.intro hbb (And.intro hC (And.intro hin (And.intro hwf hN))))
  clear hbb hC hin hwf hN hT
  simp only [ndV, ndL] at hsh ⊢
  go_enter Tryz.func7, Tryz.ntmps7
  go_wp2_with fail
  refine hsh.mono ?_
  rintro e w1 ⟨rfl, hb1⟩
  obtain ⟨hbb, hC, hin, hwf, hN⟩ := HX.out
  have hC1 := hC.below hb1
  have hB1 := hbb.trans (hb1.mono hbb.size)
  have hfew := few_calls t hwf _ w1 (hin.up hB1)
  obtain ⟨y0, y1, y2, y3, y4, y5, y6, y7, y8⟩ := hC1.nine
  have HY := hid (And.intro hC1 (And.intro hB1 hN))
  clear hbb hC hin hwf hN hb1 hC1 hB1 HX hsh
  obtain ⟨n, hn⟩ : ∃ n, fewT t = n := ⟨_, rfl⟩
  rw [hn] at hfew HY
  clear hn
  simp only [ndV, ndL] at hfew
  go_wp2_with fail
  refine hfew.mono ?_
  rintro e w2 ⟨sl', rfl, hB2, hb2⟩
  obtain ⟨l9, q9, n9, c9, f9, -, rfl, -, -⟩ := InT.inv (p := n.p) hB2.toT
  obtain ⟨hC1, hB1, hN⟩ := HY.out
  have hC2 := hC1.below hb2
  obtain ⟨W, hW, hS⟩ : ∃ W, putN w2 w.heap.size 0 n.p (.slice q9 n9 c9) = W ∧ St w w.heap.size n (.slice q9 n9 c9) W := ⟨_, rfl, st_few hC1 hB1 (Nat.le_refl _) hB2 hb2⟩
  unfold putN at hW
  simp only [Nat.zero_add] at hW
  clear y0 y1 y2 y3 y4 y5 y6 y7 y8
  obtain ⟨u0, u1, u2, u3, u4, u5, u6, u7, u8⟩ := hC2.nine
  obtain ⟨v0, v1, v2, v3, v4, v5, v6, v7, v8⟩ := hC2.frozens
  obtain ⟨y0, y1, y2, y3, y4, y5, y6, y7, y8⟩ := hS.box.nine
  have HN := hid hN
  have HS := hid hS
  clear hB2 hb2 hC1 hB1 hN hC2 hS hfew HY
  obtain ⟨p, lst⟩ := n
  obtain ⟨lst', a', m', c', f', he', e8, rfl, hL⟩ := InT.inv HS.out.inn
  obtain rfl : lst = lst' := (Tr.nd.inj he').2
  obtain ⟨rfl, rfl, rfl⟩ := Value.slice.inj e8
  have h40 := HN.out.fine.len
  have HL := hid hL
  clear hL he' e8
  go_wp2_with fail
  clear hW u0 u1 u2 u3 u4 u5 u6 u7 u8 v0 v1 v2 v3 v4 v5 v6 v7 v8
  go_loopw [4, 5, 6] (fun v4 v5 v6 wr => ∃ k : Nat, v6 = .int .i64 k ∧ v4 = .int .i64 (wrapI (cntL (lst.take k) + 1)) ∧ v5 = .int .i64 (depL (lst.take k) : Nat) ∧ k ≤ lst.length ∧ Below W.heap.size W wr) (fun _ _ v6 _ => lst.length - (intOf v6).toNat)
  case atStart => exact ⟨0, rfl, rfl, rfl, Nat.zero_le _, Below.refl _ _⟩
  case round =>
    obtain ⟨k, rfl, rfl, rfl, hk, hbw⟩ := hrel
    have HR := hid (HS.out.up hbw)
    have HW := hid hbw
    clear hbw y0 y1 y2 y3 y4 y5 y6 y7 y8
    obtain ⟨y0, y1, y2, y3, y4, y5, y6, y7, y8⟩ := HR.out.box.nine
    by_cases hkl : k < lst.length
    · obtain ⟨u, hu⟩ : ∃ u, lst[k]? = some u := ⟨_, List.getElem?_eq_getElem hkl⟩
      obtain ⟨⟨g, o, rfl, ca1⟩, ta⟩ := (HL.out.up HW.out) k u hu
      obtain ⟨l1', q1', n1', c1', f1', -, g1', rfl, -⟩ := InT.inv ta
      rw [g1'] at ca1 ta
      obtain ⟨a0, a1, a2, a3, a4, a5, a6, a7, a8⟩ := ca1.cells
      have hkz : (k : Int) < lst.length := by omega
      have HV := hid (show wrap64 ((k : Int) + 1) = (k : Int) + 1 by unfold wrap64; omega)
      have hfu := HN.out.fine.sub (List.mem_of_getElem? hu)
      have hdu : u.dep ≤ 1000 := (dep_sub HN.out.dep' hu).1
      have hc1 := count_calls u hfu (.slice q1' l1'.length c1') wr ta
      have hc2 := fun W h => depth_calls u hfu hdu (.slice q1' l1'.length c1') W (ta.up h)
      have HA := hid (And.intro ca1 hu)
      clear ca1 ta g1' hu hfu hdu
      simp only [ndV, ndL] at hc1 hc2
      go_wp2_with fail
      refine hc1.mono ?_
      rintro e w3 ⟨rfl, hb3⟩
      have HR3 := hid (HR.out.up hb3)
      clear y0 y1 y2 y3 y4 y5 y6 y7 y8 a0 a1 a2 a3 a4 a5 a6 a7 a8
      obtain ⟨y0, y1, y2, y3, y4, y5, y6, y7, y8⟩ := HR3.out.box.nine
      obtain ⟨a0, a1, a2, a3, a4, a5, a6, a7, a8⟩ := (HA.out.1.up hb3).cells
      have HB3 := hid hb3
      clear hb3 hc1
      go_wp2_with fail
      refine (hc2 _ HB3.out).mono ?_
      rintro e w4 ⟨rfl, hb4⟩
      have hb5 := HW.out.trans ((HB3.out.trans (hb4.mono HB3.out.size)).mono HW.out.size)
      have hm1 : wrap64 (wrapI (cntL (lst.take k) + 1) + wrapI u.cnt) = wrapI (cntL (lst.take (k + 1)) + 1) := by
        rw [cntL_take_succ HA.out.2, wrap64_two]
        congr 1
        omega
      have hm2 : max (depL (lst.take k) : Int) (u.dep : Int) = (depL (lst.take (k + 1)) : Nat) := by rw [depL_take_succ HA.out.2]; omega
      have HM := hid hb5
      clear hc2 hb4 hb5
      go_wp2
      go_roundw
      case rel => exact ⟨k + 1, by simp, by rw [← hm1], by rw [← hm2], by omega, HM.out⟩
      case measure => simp [intOf]; omega
    · have hkz : decide (k < lst.length) = false := decide_eq_false (by omega)
      obtain rfl : k = lst.length := by omega
      rw [List.take_of_length_le (Nat.le_refl _)]
      have hcc := count_calls (.nd p lst) HN.out.fine (.slice q9 lst.length c9) wr HR.out.inn
      have hdd := fun W h => depth_calls (.nd p lst) HN.out.fine HN.out.dep' (.slice q9 lst.length c9) W (HR.out.inn.up h)
      have e1 : wrapI (Tr.nd p lst).cnt = wrapI (cntL lst + 1) := by rw [Tr.cnt]
      have e2 : ((Tr.nd p lst).dep : Int) = (depL lst : Int) + 1 := by rw [Tr.dep]; omega
      have hdl : depL lst ≤ 100 := by have := HN.out.dep; rw [Tr.dep] at this; omega
      rw [e1] at hcc
      simp only [e2] at hdd
      clear e1 e2 hk hkl HW
      go_wp2_with fail
      refine hcc.mono ?_
      rintro e w3 ⟨rfl, hb3⟩
      have HR3 := hid (HR.out.up hb3)
      have HB3 := hid hb3
      clear y0 y1 y2 y3 y4 y5 y6 y7 y8 hb3 hcc
      obtain ⟨y0, y1, y2, y3, y4, y5, y6, y7, y8⟩ := HR3.out.box.nine
      go_wp2_with fail
      refine (hdd _ HB3.out).mono ?_
      rintro e w4 ⟨rfl, hb4⟩
      have hbe := (HR3.out.up hb4).below
      clear hdd hb4
      go_wp2
      go_ret
      exact ⟨rfl, hbe⟩

set_option maxRecDepth 100000 in
set_option maxHeartbeats 4000000 in
theorem wraps_law (t : Tr) (hwf : t.wf) (f : Int) (sl : Value) (w : World) {ea eb : Addr} (hT : TabT w ea eb) (hin : InT w (ndV t.p sl) t) :
    Calls Tryz.prog 8 #[ndV t.p sl, .int .i64 f] w fun e w' => e = .returned (.bool true) ∧ Below w.heap.size w w' := by
  have hbb := below_alloc w (.cells (ndL t.p sl).toArray 27)
  have hC := Cls.new w 27 (ndL t.p sl)
  have hsh := shown_calls _ (hT.below hbb)
  have hN := NF.of hwf hT
  obtain ⟨l1, q1, n1, c1, f1, -, g1, rfl, -⟩ := InT.inv hin
  subst g1
  have HX := hid (And.intro hbb (And.intro hC (And.intro hin (And.intro hwf hN))))
  clear hbb hC hin hwf hN hT
  simp only [ndV, ndL] at hsh ⊢
  go_enter Tryz.func8, Tryz.ntmps8
  go_wp2_with fail
  refine hsh.mono ?_
  rintro e w1 ⟨rfl, hb1⟩
  obtain ⟨hbb, hC, hin, hwf, hN⟩ := HX.out
  have hC1 := hC.below hb1
  have hB1 := hbb.trans (hb1.mono hbb.size)
  have hfew := few_calls t hwf _ w1 (hin.up hB1)
  obtain ⟨y0, y1, y2, y3, y4, y5, y6, y7, y8⟩ := hC1.nine
  have HY := hid (And.intro hC1 (And.intro hB1 hN))
  clear hbb hC hin hwf hN hb1 hC1 hB1 HX hsh
  obtain ⟨n, hn⟩ : ∃ n, fewT t = n := ⟨_, rfl⟩
  rw [hn] at hfew HY
  clear hn
  simp only [ndV, ndL] at hfew
  by_cases hf : f < 1 ∨ 4 < f
  · have hz : f < 1 ∨ (1 ≤ f ∧ 4 < f) := by omega
    have hbe := HY.out.2.1
    clear hfew HY hf
    rcases hz with hz | ⟨hz, hz2⟩
    · go_wp2
      go_ret
      exact ⟨rfl, hbe⟩
    · go_wp2
      go_ret
      exact ⟨rfl, hbe⟩
  have hf1 : 1 ≤ f := by omega
  have hf4 : f ≤ 4 := by omega
  clear hf
  go_wp2_with fail
  refine hfew.mono ?_
  rintro e w2 ⟨sl', rfl, hB2, hb2⟩
  obtain ⟨l9, q9, n9, c9, f9, -, rfl, -, -⟩ := InT.inv (p := n.p) hB2.toT
  obtain ⟨hC1, hB1, hN⟩ := HY.out
  have hC2 := hC1.below hb2
  obtain ⟨W, hW, hS⟩ : ∃ W, putN w2 w.heap.size 0 n.p (.slice q9 n9 c9) = W ∧ St w w.heap.size n (.slice q9 n9 c9) W := ⟨_, rfl, st_few hC1 hB1 (Nat.le_refl _) hB2 hb2⟩
  unfold putN at hW
  simp only [Nat.zero_add] at hW
  clear y0 y1 y2 y3 y4 y5 y6 y7 y8
  obtain ⟨u0, u1, u2, u3, u4, u5, u6, u7, u8⟩ := hC2.nine
  obtain ⟨v0, v1, v2, v3, v4, v5, v6, v7, v8⟩ := hC2.frozens
  obtain ⟨y0, y1, y2, y3, y4, y5, y6, y7, y8⟩ := hS.box.nine
  have HN := hid hN
  have HS := hid hS
  clear hB2 hb2 hC1 hB1 hN hC2 hS hfew HY
  have hfb : formB f = true := by unfold formB; rw [decide_eq_true hf1, decide_eq_true hf4]; rfl
  have hpl := wraps_plain n hfb HN.out.cnt
  obtain ⟨A, hA⟩ : ∃ A, chk n f = A := ⟨_, rfl⟩
  obtain ⟨B, hB⟩ : ∃ B, chk (arr1 n) f = B := ⟨_, rfl⟩
  obtain ⟨K, hK⟩ : ∃ K, wrapI n.cnt = K := ⟨_, rfl⟩
  rw [hA, hB, hK] at hpl
  have hk1 := fun W h1 h2 => check_calls n HN.out.fine HN.out.dep' f (.slice q9 n9 c9) W (ea := ea) (eb := eb) h1 h2
  have hafin : (arr1 n).fine := .nd _ _ ⟨⟨by decide, by decide⟩, by decide, ⟨by decide, by decide⟩, by decide, ⟨by decide, by decide⟩, by decide⟩ (by simp) (fun x hx => by rw [List.mem_singleton] at hx; subst hx; exact HN.out.fine)
  have hk2 := fun s W h1 h2 => check_calls (arr1 n) hafin (by rw [arr1_dep]; have := HN.out.dep; omega) f s W (ea := ea) (eb := eb) h1 h2
  have hk3 := fun W h2 => depth_calls n HN.out.fine HN.out.dep' (.slice q9 n9 c9) W h2
  have hk4 := fun W h2 => count_calls n HN.out.fine (.slice q9 n9 c9) W h2
  rw [hA] at hk1
  rw [hB] at hk2
  rw [hK] at hk4
  have HK := hid (And.intro hk1 (And.intro hk2 (And.intro hk3 hk4)))
  have HP := hid hpl
  clear hk1 hk2 hk3 hk4 hA hB hK hpl hfb hafin
  go_wp2_with fail
  clear hW u0 u1 u2 u3 u4 u5 u6 u7 u8 v0 v1 v2 v3 v4 v5 v6 v7 v8
  refine (HK.out.1 _ (HN.out.tab.below HS.out.below) HS.out.inn).mono ?_
  rintro e w3 ⟨rfl, hb⟩
  have HS := hid (HS.out.up hb)
  clear hb y0 y1 y2 y3 y4 y5 y6 y7 y8
  obtain ⟨y0, y1, y2, y3, y4, y5, y6, y7, y8⟩ := HS.out.box.nine
  go_wp2_with fail
  have hab := below_alloc w3 (.cells (ndL n.p (.slice q9 n9 c9)).toArray 27)
  have hai := arr1_in (Cls.new w3 27 (ndL n.p (.slice q9 n9 c9))) (HS.out.inn.up hab)
  have hS2 := HS.out.up hab
  refine (HK.out.2.1 _ _ (HN.out.tab.below hS2.below) hai).mono ?_
  rintro e w4 ⟨rfl, hb⟩
  have HS := hid (hS2.up hb)
  clear hb y0 y1 y2 y3 y4 y5 y6 y7 y8 hab hai hS2
  obtain ⟨y0, y1, y2, y3, y4, y5, y6, y7, y8⟩ := HS.out.box.nine
  go_wp2_with fail
  refine (HK.out.2.2.1 _ HS.out.inn).mono ?_
  rintro e w5 ⟨rfl, hb⟩
  have HS := hid (HS.out.up hb)
  clear hb y0 y1 y2 y3 y4 y5 y6 y7 y8
  obtain ⟨y0, y1, y2, y3, y4, y5, y6, y7, y8⟩ := HS.out.box.nine
  obtain ⟨hp1, hp2⟩ := HP.out
  by_cases hd : 16 ≤ n.dep
  · have hdz : (16 : Int) ≤ (n.dep : Nat) := by omega
    obtain rfl : B = 60 := hp1 (.inl hd)
    clear hp1 hp2 hd
    have hbe := HS.out.below
    go_wp2
    go_ret
    exact ⟨rfl, hbe⟩
  · have hdz : ((n.dep : Nat) : Int) < 16 := by omega
    go_wp2_with fail
    refine (HK.out.2.2.2 _ HS.out.inn).mono ?_
    rintro e w6 ⟨rfl, hb⟩
    have hbe := (HS.out.up hb).below
    clear hb
    by_cases hk : 300 ≤ K
    · obtain rfl : B = 60 := hp1 (.inr hk)
      clear hp1 hp2
      go_wp2
      go_ret
      exact ⟨rfl, hbe⟩
    · obtain rfl : A = B := (hp2 (by omega)).symm
      have hkz : K < 300 := by omega
      clear hp1 hp2 hk hd
      go_wp2
      go_ret
      exact ⟨by first | rfl | simp, hbe⟩
end Go.Proofs.YtdfoajclakjelaaGreatDoor

