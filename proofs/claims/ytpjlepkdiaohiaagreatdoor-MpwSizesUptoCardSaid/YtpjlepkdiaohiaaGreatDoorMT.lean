/- The statement MpwApart: walked. -/
import Derived.Test.YtpjlepkdiaohiaaGreatDoorMS
import Derived.Test.YtpjlepkdiaohiaaGreatDoorMO
import Derived.Test.YtpjlepkdiaohiaaGreatDoorMF
namespace Go.Proofs.YtpjlepkdiaohiaaGreatDoor
open Go.RowKit
attribute [local go_sem] Oper.semAt_some

/-- no item is the beginning of another one. -/
theorem begins_iff {n m : Tr} (hn : n.okM) (hm : m.okM) (fn : n.fine) (fm : m.fine) (r : List UInt8) (h : m.enc = n.enc ++ r) : n = m ∧ r = [] := by
  have h1 := rd_enc n hn fn (max n.dep m.dep) (Nat.le_max_left ..) r
  have h2 := rd_enc m hm fm (max n.dep m.dep) (Nat.le_max_right ..) []
  rw [List.append_nil, h, h1] at h2
  injection h2 with h3 h4
  exact ⟨h3, h4⟩
theorem apart_plain {n m : Tr} (cn : chk n 4 = 0) (cm : chk m 4 = 0) (fn : n.fine) (fm : m.fine) :
    0 < (wrtS n).size ∧ ((n = m ∧ (wrtS m).extract 0 (wrtS n).size = wrtS n ∧ wrtS n = wrtS m) ∨ (n ≠ m ∧ (wrtS m).extract 0 (wrtS n).size ≠ wrtS n ∧ wrtS n ≠ wrtS m)) := by
  obtain ⟨hn, -⟩ := chk_ok cn
  obtain ⟨hm, -⟩ := chk_ok cm
  have e1 := wrtS_ok cn
  have e2 := wrtS_ok cm
  have hl := (enc_len n hn).1
  have hx : ∀ s : ByteArray, ∀ k, tx (s.extract 0 k) = (tx s).take k := fun s k => extract_take s k
  refine ⟨by rw [e1, size_B]; omega, ?_⟩
  by_cases h : n = m
  · subst h
    refine .inl ⟨rfl, ?_, rfl⟩
    rw [← B_tx ((wrtS n).extract 0 (wrtS n).size), hx, List.take_of_length_le (by rw [← len_str]; exact Nat.le_refl _), B_tx]
  · refine .inr ⟨h, fun e => h ?_, fun e => h ?_⟩
    · have e3 := congrArg tx e
      rw [hx, e1, e2, tx_B, tx_B, size_B] at e3
      exact (begins_iff hn hm fn fm (m.enc.drop n.enc.length) (by conv => lhs; rw [← List.take_append_drop n.enc.length m.enc, e3])).1
    · have e3 := congrArg tx e
      rw [e1, e2, tx_B, tx_B] at e3
      exact (begins_iff hn hm fn fm [] (by rw [List.append_nil, e3])).1
theorem str_beq {a b : ByteArray} (h : a = b) : (a.toList == b.toList) = true := by subst h; simp
theorem str_bne {a b : ByteArray} (h : a ≠ b) : (a.toList == b.toList) = false := by
  rw [beq_eq_false_iff_ne]
  intro e
  rw [Lib.toList_data, Lib.toList_data] at e
  exact h (by cases a; cases b; simp only at e; rw [Array.toList_inj.1 e])

set_option maxRecDepth 100000 in
set_option maxHeartbeats 8000000 in
theorem apart_law (t u : Tr) (ht : t.wf) (hct : t.cnt ≤ 1048576) (hu : u.wf) (hcu : u.cnt ≤ 1048576) (sa sb : Value) (w : World) {ea eb : Addr} (hT : TabT w ea eb) (hia : InT w (ndV t.p sa) t) (hib : InT w (ndV u.p sb) u) :
    Calls Tryz.prog 3 #[ndV t.p sa, ndV u.p sb] w fun e w' => e = .returned (.bool true) ∧ Below w.heap.size w w' := by
  have hbb := (below_alloc w (.cells (ndL t.p sa).toArray 27)).alloc (by simp) (.cells (ndL u.p sb).toArray 27)
  have hCa := (Cls.new w 27 (ndL t.p sa)).alloc (.cells (ndL u.p sb).toArray 27)
  have hCb := Cls.new (w.alloc (.cells (ndL t.p sa).toArray 27)) 27 (ndL u.p sb)
  rw [World.size_alloc] at hCb
  have hsh := shown15_calls _ (hT.below hbb)
  have hNa := NF.of ht hT
  have hNb := NF.of hu hT
  obtain ⟨l1, q1, n1, c1, f1, -, g1, rfl, -⟩ := InT.inv hia
  subst g1
  obtain ⟨l2, q2, n2, c2, f2, -, g2, rfl, -⟩ := InT.inv hib
  subst g2
  have HX := hid (And.intro hbb (And.intro hCa (And.intro hCb (And.intro hia (And.intro hib (And.intro ht (And.intro hu (And.intro hNa hNb))))))))
  clear hbb hCa hCb hia hib ht hu hNa hNb hT
  simp only [ndV, ndL] at hsh ⊢
  go_enter Tryz.func3, Tryz.ntmps3
  go_wp2_with fail
  refine hsh.mono ?_
  rintro e w1 ⟨rfl, hb1⟩
  obtain ⟨hbb, hCa, hCb, hia, hib, ht, hu, hNa, hNb⟩ := HX.out
  have hCa1 := hCa.below hb1
  have hCb1 := hCb.below hb1
  have hB1 := hbb.trans (hb1.mono hbb.size)
  have hfa := few_calls t ht _ w1 (hia.up hB1)
  have hfb := fun W (h : Below w.heap.size w W) => few_calls u hu _ W (hib.up h)
  obtain ⟨y0, y1, y2, y3, y4, y5, y6, y7, y8⟩ := hCa1.nine
  have HY := hid (And.intro hCa1 (And.intro hCb1 (And.intro hB1 (And.intro hNa hNb))))
  clear hbb hCa hCb hia hib ht hu hNa hNb hb1 hCa1 hCb1 hB1 HX hsh
  have hcn := Nat.le_trans (few_cnt_le t) hct
  have hcm := Nat.le_trans (few_cnt_le u) hcu
  obtain ⟨n, hn⟩ : ∃ n, fewT t = n := ⟨_, rfl⟩
  obtain ⟨m, hm⟩ : ∃ m, fewT u = m := ⟨_, rfl⟩
  rw [hn, hm] at HY
  rw [hn] at hcn
  rw [hm] at hcm
  have HCN := hid (And.intro hcn hcm)
  clear hcn hcm hct hcu
  rw [hn] at hfa
  simp only [hm] at hfb
  clear hn hm
  simp only [ndV, ndL] at hfa hfb
  go_wp2_with fail
  refine hfa.mono ?_
  rintro e w2 ⟨s8, rfl, hB2, hb2⟩
  obtain ⟨l8, q8, n8, c8, f8, -, rfl, -, -⟩ := InT.inv (p := n.p) hB2.toT
  obtain ⟨hCa1, hCb1, hB1, hNa, hNb⟩ := HY.out
  have hCa2 := hCa1.below hb2
  obtain ⟨W2, hW, hP, hQ, hI, hbW⟩ : ∃ W2, putN w2 w.heap.size 0 n.p (.slice q8 n8 c8) = W2 ∧ Cls W2 w.heap.size 27 (ndL n.p (.slice q8 n8 c8)) ∧ Cls W2 (w.heap.size + 1) 27 (ndL u.p (.slice q2 l2.length c2)) ∧ InB (fun k => w1.heap.size ≤ k) W2 (ndV n.p (.slice q8 n8 c8)) n ∧ Below w.heap.size w W2 :=
    ⟨_, rfl, hCa2.putN, (hCb1.below hb2).putN_other (by omega), hB2.kept (fun k _ (hk : w1.heap.size ≤ k) => putN_other _ _ _ _ _ (by have := hCa1.lt; omega)), putN_below (hB1.trans (hb2.mono hB1.size)) _ _ _ _ (Nat.le_refl _)⟩
  unfold putN at hW
  simp only [Nat.zero_add] at hW
  clear y0 y1 y2 y3 y4 y5 y6 y7 y8
  obtain ⟨u0, u1, u2, u3, u4, u5, u6, u7, u8⟩ := hCa2.nine
  obtain ⟨v0, v1, v2, v3, v4, v5, v6, v7, v8⟩ := hCa2.frozens
  obtain ⟨y0, y1, y2, y3, y4, y5, y6, y7, y8⟩ := hP.nine
  obtain ⟨x0, x1, x2, x3, x4, x5, x6, x7, x8⟩ := hQ.nine
  have hw1s := hCb1.lt
  have HZ := hid (And.intro hP (And.intro hQ (And.intro hI (And.intro hbW (And.intro hNa (And.intro hNb hw1s))))))
  clear hB2 hb2 hCa1 hCb1 hB1 hNa hNb hCa2 hP hQ hI hbW hfa HY hw1s
  go_wp2_with fail
  clear hW u0 u1 u2 u3 u4 u5 u6 u7 u8 v0 v1 v2 v3 v4 v5 v6 v7 v8
  refine (hfb _ HZ.out.2.2.2.1).mono ?_
  rintro e w3 ⟨s9, rfl, hB3, hb3⟩
  obtain ⟨l9, q9, n9, c9, f9, -, rfl, -, -⟩ := InT.inv (p := m.p) hB3.toT
  obtain ⟨hP, hQ, hI, hbW, hNa, hNb, hw1s⟩ := HZ.out
  have hCb3 := hQ.below hb3
  obtain ⟨W, hW, hSa, hSb⟩ : ∃ W, putN w3 (w.heap.size + 1) 0 m.p (.slice q9 n9 c9) = W ∧ St w w.heap.size n (.slice q8 n8 c8) W ∧ St w (w.heap.size + 1) m (.slice q9 n9 c9) W :=
    ⟨_, rfl, ⟨(hP.below hb3).putN_other (by omega), ((hI.up hb3).kept (fun k _ (hk : w1.heap.size ≤ k) => putN_other _ _ _ _ _ (by omega))).toT, putN_below (hbW.trans (hb3.mono hbW.size)) _ _ _ _ (by omega)⟩, st_few hQ hbW (by omega) hB3 hb3⟩
  unfold putN at hW
  simp only [Nat.zero_add] at hW
  clear y0 y1 y2 y3 y4 y5 y6 y7 y8 x0 x1 x2 x3 x4 x5 x6 x7 x8
  obtain ⟨u0, u1, u2, u3, u4, u5, u6, u7, u8⟩ := hCb3.nine
  obtain ⟨v0, v1, v2, v3, v4, v5, v6, v7, v8⟩ := hCb3.frozens
  obtain ⟨y0, y1, y2, y3, y4, y5, y6, y7, y8⟩ := hSa.box.nine
  obtain ⟨x0, x1, x2, x3, x4, x5, x6, x7, x8⟩ := hSb.box.nine
  have hwn := fun Wx (h : Below W.heap.size W Wx) => write_calls n hNa.fine hNa.dep' (by have := HCN.out.1; omega) (.slice q8 n8 c8) Wx (ea := ea) (eb := eb) (hNa.tab.below (hSa.up h).below) (hSa.up h).inn
  have hwm := fun Wx (h : Below W.heap.size W Wx) => write_calls m hNb.fine hNb.dep' (by have := HCN.out.2; omega) (.slice q9 n9 c9) Wx (ea := ea) (eb := eb) (hNa.tab.below (hSa.up h).below) (hSb.up h).inn
  have hsm := fun Wx (h : Below W.heap.size W Wx) => rsame_calls n hNa.fine m (.slice q8 n8 c8) (.slice q9 n9 c9) Wx (hSa.up h).inn (hSb.up h).inn
  have hpl := fun c1 c2 => apart_plain (n := n) (m := m) c1 c2 hNa.fine hNb.fine
  have hle1 : (wrtS n).size ≤ 450000000 ∧ (wrtS m).size ≤ 450000000 := by
    have key : ∀ t : Tr, t.cnt ≤ 1048576 → (wrtS t).size ≤ 450000000 := fun t ht => by
      by_cases hc : chk t 4 = 0
      · rw [wrtS_ok hc, size_B]
        have := (enc_len t (chk_ok hc).1).2
        omega
      · rw [wrtS_no hc]; decide
    exact ⟨key n HCN.out.1, key m HCN.out.2⟩
  obtain ⟨P, hP⟩ : ∃ P, wrtS n = P := ⟨_, rfl⟩
  obtain ⟨Q, hQ⟩ : ∃ Q, wrtS m = Q := ⟨_, rfl⟩
  obtain ⟨C, hC⟩ : ∃ C, chk n 4 = C := ⟨_, rfl⟩
  obtain ⟨D, hD⟩ : ∃ D, chk m 4 = D := ⟨_, rfl⟩
  rw [hP, hQ, hC, hD] at hpl
  rw [hP, hQ] at hle1
  rw [hP, hC] at hwn
  rw [hQ, hD] at hwm
  have hbz := Below.refl W.heap.size W
  have HS := hid (And.intro hSa hSb)
  have HK := hid (And.intro hwn (And.intro hwm (And.intro hsm hpl)))
  clear hB3 hb3 hP hQ hC hD hI hbW hNa hNb hw1s hCb3 hSa hSb hfb HZ hwn hwm hsm hpl HCN
  go_wp2_with fail
  clear hW u0 u1 u2 u3 u4 u5 u6 u7 u8 v0 v1 v2 v3 v4 v5 v6 v7 v8
  simp only [ndV, ndL] at HK
  refine (HK.out.1 _ hbz).mono ?_
  rintro e w4 ⟨rfl, hb4⟩
  have HB := hid hb4
  clear hb4 hbz y0 y1 y2 y3 y4 y5 y6 y7 y8 x0 x1 x2 x3 x4 x5 x6 x7 x8
  obtain ⟨y0, y1, y2, y3, y4, y5, y6, y7, y8⟩ := (HS.out.1.up HB.out).box.nine
  obtain ⟨x0, x1, x2, x3, x4, x5, x6, x7, x8⟩ := (HS.out.2.up HB.out).box.nine
  go_wp2_with fail
  refine (HK.out.2.1 _ HB.out).mono ?_
  rintro e w5 ⟨rfl, hb5⟩
  have HB := hid (HB.out.trans (hb5.mono HB.out.size))
  clear hb5 y0 y1 y2 y3 y4 y5 y6 y7 y8 x0 x1 x2 x3 x4 x5 x6 x7 x8
  obtain ⟨y0, y1, y2, y3, y4, y5, y6, y7, y8⟩ := (HS.out.1.up HB.out).box.nine
  obtain ⟨x0, x1, x2, x3, x4, x5, x6, x7, x8⟩ := (HS.out.2.up HB.out).box.nine
  have HE := hid (HS.out.1.below.trans (HB.out.mono HS.out.1.below.size))
  by_cases hc : C = 0
  · by_cases hd : D = 0
    · subst hc hd
      obtain ⟨hp0, hcase⟩ := HK.out.2.2.2 rfl rfl
      have hp0i : (0 : Int) < (P.size : Int) := by omega
      rcases hcase with ⟨hnm, hx, rfl⟩ | ⟨hnm, hx, hne⟩
      · have s1 := str_beq hx
        have s2 : (P.toList == P.toList) = true := by simp
        have hsame : Tr.same n m = true := (same_iff n m).2 hnm
        have HSM := hid hsame
        clear hnm hx hsame
        go_wp2_with fail
        have hcall := HK.out.2.2.1 _ HB.out
        rw [HSM.out] at hcall
        refine hcall.mono ?_
        rintro e w6 ⟨rfl, hb6⟩
        have HF := hid (HE.out.trans (hb6.mono HE.out.size))
        clear hcall hb6
        go_wp2
        all_goals (
          go_ret
          exact ⟨by first | rfl | (simp; done), HF.out⟩)
      · have s1 := str_bne hx
        have s2 := str_bne hne
        have hsame : Tr.same n m = false := by
          cases h : Tr.same n m with
          | false => rfl
          | true => exact absurd ((same_iff n m).1 h) hnm
        have HSM := hid hsame
        clear hnm hx hsame hne
        by_cases hle : P.size ≤ Q.size
        · go_wp2_with fail
          have hcall := HK.out.2.2.1 _ HB.out
          rw [HSM.out] at hcall
          refine hcall.mono ?_
          rintro e w6 ⟨rfl, hb6⟩
          have HF := hid (HE.out.trans (hb6.mono HE.out.size))
          clear hcall hb6
          go_wp2
          all_goals (
            go_ret
            exact ⟨by first | rfl | (simp; done), HF.out⟩)
        · have hlt : Q.size < P.size := by omega
          clear hle
          go_wp2_with fail
          have hcall := HK.out.2.2.1 _ HB.out
          rw [HSM.out] at hcall
          refine hcall.mono ?_
          rintro e w6 ⟨rfl, hb6⟩
          have HF := hid (HE.out.trans (hb6.mono HE.out.size))
          clear hcall hb6
          go_wp2
          all_goals (
            go_ret
            exact ⟨by first | rfl | (simp; done), HF.out⟩)
    · have hz : (D != 0) = true := by rw [bne_iff_ne]; exact hd
      subst hc
      clear hd
      go_wp2
      go_ret
      exact ⟨rfl, HE.out⟩
  · have hz : (C != 0) = true := by rw [bne_iff_ne]; exact hc
    clear hc
    go_wp2
    go_ret
    exact ⟨rfl, HE.out⟩
end Go.Proofs.YtpjlepkdiaohiaaGreatDoor

