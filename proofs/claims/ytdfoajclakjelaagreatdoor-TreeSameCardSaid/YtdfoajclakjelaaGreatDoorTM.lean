/- The statement TreeSame: walked. -/
import Derived.Test.YtdfoajclakjelaaGreatDoorTK
namespace Go.Proofs.YtdfoajclakjelaaGreatDoor
open Go.RowKit
attribute [local go_sem] Oper.semAt_some

set_option maxRecDepth 100000 in
set_option maxHeartbeats 8000000 in
theorem same_law (t u : Tr) (ht : t.wf) (hu : u.wf) (sa sb : Value) (w : World) {ea eb : Addr} (hT : TabT w ea eb) (hia : InT w (ndV t.p sa) t) (hib : InT w (ndV u.p sb) u) :
    Calls Tryz.prog 4 #[ndV t.p sa, ndV u.p sb] w fun e w' => e = .returned (.bool true) ∧ Below w.heap.size w w' := by
  have hbb := (below_alloc w (.cells (ndL t.p sa).toArray 27)).alloc (by simp) (.cells (ndL u.p sb).toArray 27)
  have hCa := (Cls.new w 27 (ndL t.p sa)).alloc (.cells (ndL u.p sb).toArray 27)
  have hCb := Cls.new (w.alloc (.cells (ndL t.p sa).toArray 27)) 27 (ndL u.p sb)
  rw [World.size_alloc] at hCb
  have hsh := shown_calls _ (hT.below hbb)
  have hNa := NF.of ht hT
  have hNb := NF.of hu hT
  obtain ⟨l1, q1, n1, c1, f1, -, g1, rfl, -⟩ := InT.inv hia
  subst g1
  obtain ⟨l2, q2, n2, c2, f2, -, g2, rfl, -⟩ := InT.inv hib
  subst g2
  have HX := hid (And.intro hbb (And.intro hCa (And.intro hCb (And.intro hia (And.intro hib (And.intro ht (And.intro hu (And.intro hNa hNb))))))))
  clear hbb hCa hCb hia hib ht hu hNa hNb hT
  simp only [ndV, ndL] at hsh ⊢
  go_enter Tryz.func4, Tryz.ntmps4
  go_wp2_with fail
  refine hsh.mono ?_
  rintro e w1 ⟨rfl, hb1⟩
  obtain ⟨hbb, hCa, hCb, hia, hib, ht, hu, hNa, hNb⟩ := HX.out
  have hCa1 := hCa.below hb1
  have hCb1 := hCb.below hb1
  have hB1 := hbb.trans (hb1.mono hbb.size)
  have hfa := few_calls t ht _ w1 (hia.up hB1)
  have hfb := fun W (h : Below w.heap.size w W) => few_calls u hu _ W (hib.up h)
  obtain ⟨y0, y1, y2, y3, y4, y5, y6, y7, y8⟩ := hCa1.nine
  have HY := hid (And.intro hCa1 (And.intro hCb1 (And.intro hB1 (And.intro hNa hNb))))
  clear hbb hCa hCb hia hib ht hu hNa hNb hb1 hCa1 hCb1 hB1 HX hsh
  obtain ⟨n, hn⟩ : ∃ n, fewT t = n := ⟨_, rfl⟩
  obtain ⟨m, hm⟩ : ∃ m, fewT u = m := ⟨_, rfl⟩
  rw [hn, hm] at HY
  rw [hn] at hfa
  simp only [hm] at hfb
  clear hn hm
  simp only [ndV, ndL] at hfa hfb
  go_wp2_with fail
  refine hfa.mono ?_
  rintro e w2 ⟨s8, rfl, hB2, hb2⟩
  obtain ⟨l8, q8, n8, c8, f8, -, rfl, -, -⟩ := InT.inv (p := n.p) hB2.toT
  obtain ⟨hCa1, hCb1, hB1, hNa, hNb⟩ := HY.out
  have hCa2 := hCa1.below hb2
  obtain ⟨W2, hW, hP, hQ, hI, hbW⟩ : ∃ W2, putN w2 w.heap.size 0 n.p (.slice q8 n8 c8) = W2 ∧ Cls W2 w.heap.size 27 (ndL n.p (.slice q8 n8 c8)) ∧ Cls W2 (w.heap.size + 1) 27 (ndL u.p (.slice q2 l2.length c2)) ∧ InB (fun k => w1.heap.size ≤ k) W2 (ndV n.p (.slice q8 n8 c8)) n ∧ Below w.heap.size w W2 :=
    ⟨_, rfl, hCa2.putN, (hCb1.below hb2).putN_other (by omega), hB2.kept (fun k _ (hk : w1.heap.size ≤ k) => putN_other _ _ _ _ _ (by have := hCa1.lt; omega)), putN_below (hB1.trans (hb2.mono hB1.size)) _ _ _ _ (Nat.le_refl _)⟩
  unfold putN at hW
  simp only [Nat.zero_add] at hW
  clear y0 y1 y2 y3 y4 y5 y6 y7 y8
  obtain ⟨u0, u1, u2, u3, u4, u5, u6, u7, u8⟩ := hCa2.nine
  obtain ⟨v0, v1, v2, v3, v4, v5, v6, v7, v8⟩ := hCa2.frozens
  obtain ⟨y0, y1, y2, y3, y4, y5, y6, y7, y8⟩ := hP.nine
  obtain ⟨x0, x1, x2, x3, x4, x5, x6, x7, x8⟩ := hQ.nine
  have hw1s := hCb1.lt
  have HZ := hid (And.intro hP (And.intro hQ (And.intro hI (And.intro hbW (And.intro hNa (And.intro hNb hw1s))))))
  clear hB2 hb2 hCa1 hCb1 hB1 hNa hNb hCa2 hP hQ hI hbW hfa HY hw1s
  go_wp2_with fail
  clear hW u0 u1 u2 u3 u4 u5 u6 u7 u8 v0 v1 v2 v3 v4 v5 v6 v7 v8
  refine (hfb _ HZ.out.2.2.2.1).mono ?_
  rintro e w3 ⟨s9, rfl, hB3, hb3⟩
  obtain ⟨l9, q9, n9, c9, f9, -, rfl, -, -⟩ := InT.inv (p := m.p) hB3.toT
  obtain ⟨hP, hQ, hI, hbW, hNa, hNb, hw1s⟩ := HZ.out
  have hCb3 := hQ.below hb3
  obtain ⟨W, hW, hSa, hSb⟩ : ∃ W, putN w3 (w.heap.size + 1) 0 m.p (.slice q9 n9 c9) = W ∧ St w w.heap.size n (.slice q8 n8 c8) W ∧ St w (w.heap.size + 1) m (.slice q9 n9 c9) W :=
    ⟨_, rfl, ⟨(hP.below hb3).putN_other (by omega), ((hI.up hb3).kept (fun k _ (hk : w1.heap.size ≤ k) => putN_other _ _ _ _ _ (by omega))).toT, putN_below (hbW.trans (hb3.mono hbW.size)) _ _ _ _ (by omega)⟩, st_few hQ hbW (by omega) hB3 hb3⟩
  unfold putN at hW
  simp only [Nat.zero_add] at hW
  clear y0 y1 y2 y3 y4 y5 y6 y7 y8 x0 x1 x2 x3 x4 x5 x6 x7 x8
  obtain ⟨u0, u1, u2, u3, u4, u5, u6, u7, u8⟩ := hCb3.nine
  obtain ⟨v0, v1, v2, v3, v4, v5, v6, v7, v8⟩ := hCb3.frozens
  obtain ⟨y0, y1, y2, y3, y4, y5, y6, y7, y8⟩ := hSa.box.nine
  obtain ⟨x0, x1, x2, x3, x4, x5, x6, x7, x8⟩ := hSb.box.nine
  obtain ⟨s, hs⟩ : ∃ s, Tr.same n m = s := ⟨_, rfl⟩
  have hk1 := fun Wx (h : Below W.heap.size W Wx) => same_calls n hNa.fine m (.slice q8 n8 c8) (.slice q9 n9 c9) Wx (hSa.up h).inn (hSb.up h).inn
  have hk2 := fun Wx (h : Below W.heap.size W Wx) => rsame_calls n hNa.fine m (.slice q8 n8 c8) (.slice q9 n9 c9) Wx (hSa.up h).inn (hSb.up h).inn
  have hk3 := fun Wx (h : Below W.heap.size W Wx) => same_calls m hNb.fine n (.slice q9 n9 c9) (.slice q8 n8 c8) Wx (hSb.up h).inn (hSa.up h).inn
  have hk4 := fun Wx (h : Below W.heap.size W Wx) => same_calls n hNa.fine n (.slice q8 n8 c8) (.slice q8 n8 c8) Wx (hSa.up h).inn (hSa.up h).inn
  rw [hs] at hk1 hk2
  rw [same_comm m n, hs] at hk3
  rw [same_self] at hk4
  have hbz := Below.refl W.heap.size W
  have HS := hid (And.intro hSa hSb)
  clear hB3 hb3 hP hQ hI hbW hNa hNb hw1s hCb3 hSa hSb hfb HZ hs
  simp only [ndV, ndL] at hk1 hk2 hk3 hk4
  go_wp2_with fail
  clear hW u0 u1 u2 u3 u4 u5 u6 u7 u8 v0 v1 v2 v3 v4 v5 v6 v7 v8
  have hss : (s == s) = true := by cases s <;> rfl
  go_region_held3 (fun w' => w'.cell? ⟨w.heap.size, 0, none⟩ = some (.int .i64 n.p.k) ∧ w'.cell? ⟨w.heap.size, 1, none⟩ = some (.bool n.p.b) ∧ w'.cell? ⟨w.heap.size, 2, none⟩ = some (.bool n.p.n) ∧ w'.cell? ⟨w.heap.size, 3, none⟩ = some (.string n.p.dg) ∧ w'.cell? ⟨w.heap.size, 4, none⟩ = some (.int .i64 n.p.ex) ∧ w'.cell? ⟨w.heap.size, 5, none⟩ = some (.int .u64 n.p.u) ∧ w'.cell? ⟨w.heap.size, 6, none⟩ = some (.int .i64 n.p.w) ∧ w'.cell? ⟨w.heap.size, 7, none⟩ = some (.string n.p.s) ∧ w'.cell? ⟨w.heap.size, 8, none⟩ = some (.slice q8 n8 c8) ∧ w'.cell? ⟨w.heap.size + 1, 0, none⟩ = some (.int .i64 m.p.k) ∧ w'.cell? ⟨w.heap.size + 1, 1, none⟩ = some (.bool m.p.b) ∧ w'.cell? ⟨w.heap.size + 1, 2, none⟩ = some (.bool m.p.n) ∧ w'.cell? ⟨w.heap.size + 1, 3, none⟩ = some (.string m.p.dg) ∧ w'.cell? ⟨w.heap.size + 1, 4, none⟩ = some (.int .i64 m.p.ex) ∧ w'.cell? ⟨w.heap.size + 1, 5, none⟩ = some (.int .u64 m.p.u) ∧ w'.cell? ⟨w.heap.size + 1, 6, none⟩ = some (.int .i64 m.p.w) ∧ w'.cell? ⟨w.heap.size + 1, 7, none⟩ = some (.string m.p.s) ∧ w'.cell? ⟨w.heap.size + 1, 8, none⟩ = some (.slice q9 n9 c9) ∧ Below W.heap.size W w')
    (first
      | (refine ⟨?_, ?_, ?_, ?_, ?_, ?_, ?_, ?_, ?_, ?_, ?_, ?_, ?_, ?_, ?_, ?_, ?_, ?_, ?_⟩ <;> first | assumption | exact cell_below (by assumption) hbX | exact below_nx (by assumption) hbX | exact Below.drew (by assumption) | exact below_nx (Below.drew (by assumption)) hbX)
      | go_keep
      | (go_split_ands
         refine ⟨?_, ?_, ?_, ?_, ?_, ?_, ?_, ?_, ?_, ?_, ?_, ?_, ?_, ?_, ?_, ?_, ?_, ?_, ?_⟩ <;> first | assumption | exact cell_below (by assumption) hbX | exact below_nx (by assumption) hbX | exact Below.drew (by assumption) | exact below_nx (Below.drew (by assumption)) hbX))
    (first
      | (go_at_call 20; (first | ((with_reducible refine (hk1 _ ?hB).mono ?_); (case hB => (try go_split_ands); (first | assumption | exact Below.drew (by assumption) | exact Below.drew (Below.drew (by assumption)))); rintro e wn ⟨rfl, hbX⟩) | ((with_reducible refine (hk3 _ ?hB).mono ?_); (case hB => (try go_split_ands); (first | assumption | exact Below.drew (by assumption) | exact Below.drew (Below.drew (by assumption)))); rintro e wn ⟨rfl, hbX⟩) | ((with_reducible refine (hk4 _ ?hB).mono ?_); (case hB => (try go_split_ands); (first | assumption | exact Below.drew (by assumption) | exact Below.drew (Below.drew (by assumption)))); rintro e wn ⟨rfl, hbX⟩)))
      | (go_at_call 21; ((with_reducible refine (hk2 _ ?hB).mono ?_); (case hB => (try go_split_ands); (first | assumption | exact Below.drew (by assumption) | exact Below.drew (Below.drew (by assumption)))); rintro e wn ⟨rfl, hbX⟩)))
  all_goals (
    go_split_ands
    have hbn : Below W.heap.size W wn := by assumption
    have hbe := HS.out.1.below.trans (hbn.mono HS.out.1.below.size)
    clear hk1 hk2 hk3 hk4 hbn hbz
    go_wp2
    go_ret
    exact ⟨rfl, hbe⟩)
end Go.Proofs.YtdfoajclakjelaaGreatDoor

