/- Plain: what TreeParts asks, where a tree has fewer nodes than an int tells. -/
import Derived.Test.YtdfoajclakjelaaGreatDoorTC
import Derived.IntWalk
import Derived.Test.YtdfoajclakjelaaGreatDoorTK
import Derived.Test.YtdfoajclakjelaaGreatDoorRows
namespace Go.Proofs.YtdfoajclakjelaaGreatDoor
open Go

theorem wrapI_id {n : Nat} (h : n ≤ 9223372036854775807) : wrapI n = n := by
  unfold wrapI
  exact IntWalk.i64_in _ (by omega)
theorem cnt_mem {l : List Tr} {u : Tr} (h : u ∈ l) : u.cnt ≤ cntL l := by
  induction l with
  | nil => cases h
  | cons a r ih =>
    rw [cntL]
    rcases List.mem_cons.1 h with rfl | h
    · omega
    · have := ih h; omega
theorem dep_mem {l : List Tr} {u : Tr} (h : u ∈ l) : u.dep ≤ depL l := by
  induction l with
  | nil => cases h
  | cons a r ih =>
    rw [depL]
    rcases List.mem_cons.1 h with rfl | h
    · exact Nat.le_max_left _ _
    · exact Nat.le_trans (ih h) (Nat.le_max_right _ _)
theorem parts_plain (n : Tr) (hc : n.cnt ≤ 9223372036854775807) (f : Int) :
    (chk n f = 60 → n.right = false) ∧ (chk n f ≠ 60 → n.right = true ∧ ∀ u, u ∈ n.l → u.right = true ∧ (chk n f = 0 → chk u f = 0)) := by
  cases hr : n.right with
  | false => exact ⟨fun _ => rfl, fun h => absurd (by unfold chk; rw [hr]; rfl) h⟩
  | true =>
    have hk : chk n f = if n.fit f = true then 0 else 61 := by unfold chk; rw [hr]; rfl
    refine ⟨fun h => ?_, fun _ => ⟨rfl, fun u hu => ?_⟩⟩
    · rw [hk] at h
      split at h <;> omega
    · obtain ⟨p, l⟩ := n
      unfold Tr.right at hr
      rw [Bool.and_eq_true, Bool.and_eq_true, decide_eq_true_eq, decide_eq_true_eq, wrapI_id hc] at hr
      obtain ⟨h1, h2, h3⟩ := hr
      have hu' : u ∈ l := hu
      have c1 := cnt_mem hu'
      have d1 := dep_mem hu'
      rw [Tr.cnt] at h1 hc
      rw [Tr.dep] at h2
      rw [Tr.all, Bool.and_eq_true] at h3
      have hru : u.right = true := by
        unfold Tr.right
        rw [wrapI_id (by omega), decide_eq_true (by omega), decide_eq_true (by omega), (allL_iff l).1 h3.2 u hu']
        rfl
      refine ⟨hru, fun h0 => ?_⟩
      rw [hk] at h0
      have hfit : (Tr.nd p l).fit f = true := by
        cases hf : (Tr.nd p l).fit f with
        | true => rfl
        | false => rw [hf] at h0; simp at h0
      rw [Tr.fit, Bool.and_eq_true] at hfit
      unfold chk
      rw [hru, (fitL_iff l f).1 hfit.2 u hu']
      rfl
theorem cutD_cnt : ∀ (j : Nat) (t : Tr), (cutD j t).cnt ≤ t.cnt
  | 0, .nd p l => by show (Tr.nd p.cut []).cnt ≤ _; rw [Tr.cnt, Tr.cnt, cntL]; omega
  | j + 1, .nd p l => by
    show (Tr.nd p.cut ((l.take 40).map (cutD j))).cnt ≤ _
    rw [Tr.cnt, Tr.cnt]
    have h1 : ∀ m : List Tr, cntL (m.map (cutD j)) ≤ cntL m := fun m => by
      induction m with
      | nil => exact Nat.le_refl _
      | cons a r ih =>
        rw [List.map_cons, cntL, cntL]
        have := cutD_cnt j a
        omega
    have h2 : cntL (l.take 40) ≤ cntL l := by
      have h3 : cntL l = cntL (l.take 40) + cntL (l.drop 40) := by rw [← cntL_append, List.take_append_drop]
      omega
    have := h1 (l.take 40)
    omega
theorem few_cnt_le (t : Tr) : (fewT t).cnt ≤ t.cnt := by
  unfold fewT
  have h := cutD_cnt 17 t
  split
  · have := cnt_pos t
    rw [Tr.cnt, cntL]
    omega
  · exact h
end Go.Proofs.YtdfoajclakjelaaGreatDoor

/- The statement TreeParts: walked. -/
namespace Go.Proofs.YtdfoajclakjelaaGreatDoor
open Go.RowKit
attribute [local go_sem] Oper.semAt_some

set_option maxRecDepth 100000 in
set_option maxHeartbeats 4000000 in
theorem parts_law (t : Tr) (hwf : t.wf) (hcnt : t.cnt ≤ 9223372036854775807) (f : Int) (sl : Value) (w : World) {ea eb : Addr} (hT : TabT w ea eb) (hin : InT w (ndV t.p sl) t) :
    Calls Tryz.prog 5 #[ndV t.p sl, .int .i64 f] w fun e w' => e = .returned (.bool true) ∧ Below w.heap.size w w' := by
  have hpp := parts_plain (fewT t) (Nat.le_trans (few_cnt_le t) hcnt) f
  have HPP := hid hpp
  clear hpp hcnt
  have hbb := below_alloc w (.cells (ndL t.p sl).toArray 27)
  have hC := Cls.new w 27 (ndL t.p sl)
  have hsh := shown_calls _ (hT.below hbb)
  have hN := NF.of hwf hT
  obtain ⟨l1, q1, n1, c1, f1, -, g1, rfl, -⟩ := InT.inv hin
  subst g1
  have HX := hid (And.intro hbb (And.intro hC (And.intro hin (And.intro hwf hN))))
  clear hbb hC hin hwf hN hT
  simp only [ndV, ndL] at hsh ⊢
  go_enter Tryz.func5, Tryz.ntmps5
  go_wp2_with fail
  refine hsh.mono ?_
  rintro e w1 ⟨rfl, hb1⟩
  obtain ⟨hbb, hC, hin, hwf, hN⟩ := HX.out
  have hC1 := hC.below hb1
  have hB1 := hbb.trans (hb1.mono hbb.size)
  have hfew := few_calls t hwf _ w1 (hin.up hB1)
  obtain ⟨y0, y1, y2, y3, y4, y5, y6, y7, y8⟩ := hC1.nine
  have HY := hid (And.intro hC1 (And.intro hB1 hN))
  clear hbb hC hin hwf hN hb1 hC1 hB1 HX hsh
  obtain ⟨n, hn⟩ : ∃ n, fewT t = n := ⟨_, rfl⟩
  rw [hn] at hfew HY HPP
  clear hn
  simp only [ndV, ndL] at hfew
  go_wp2_with fail
  refine hfew.mono ?_
  rintro e w2 ⟨sl', rfl, hB2, hb2⟩
  obtain ⟨l9, q9, n9, c9, f9, -, rfl, -, -⟩ := InT.inv (p := n.p) hB2.toT
  obtain ⟨hC1, hB1, hN⟩ := HY.out
  have hC2 := hC1.below hb2
  obtain ⟨W, hW, hS⟩ : ∃ W, putN w2 w.heap.size 0 n.p (.slice q9 n9 c9) = W ∧ St w w.heap.size n (.slice q9 n9 c9) W := ⟨_, rfl, st_few hC1 hB1 (Nat.le_refl _) hB2 hb2⟩
  unfold putN at hW
  simp only [Nat.zero_add] at hW
  clear y0 y1 y2 y3 y4 y5 y6 y7 y8
  obtain ⟨u0, u1, u2, u3, u4, u5, u6, u7, u8⟩ := hC2.nine
  obtain ⟨v0, v1, v2, v3, v4, v5, v6, v7, v8⟩ := hC2.frozens
  obtain ⟨y0, y1, y2, y3, y4, y5, y6, y7, y8⟩ := hS.box.nine
  have HN := hid hN
  have HS := hid hS
  clear hB2 hb2 hC1 hB1 hN hC2 hS hfew HY
  have hk1 := fun W h1 h2 => check_calls n HN.out.fine HN.out.dep' f (.slice q9 n9 c9) W (ea := ea) (eb := eb) h1 h2
  have hk2 := fun W h1 h2 => tright_calls n HN.out.fine HN.out.dep' (.slice q9 n9 c9) W (ea := ea) (eb := eb) h1 h2
  obtain ⟨E, hE⟩ : ∃ E, chk n f = E := ⟨_, rfl⟩
  obtain ⟨R, hR⟩ : ∃ R, n.right = R := ⟨_, rfl⟩
  rw [hE] at hk1
  rw [hR] at hk2
  have hEc := chk_cases n f
  have hpp := HPP.out
  rw [hE] at hEc hpp
  rw [hR] at hpp
  have HK := hid (And.intro hk1 (And.intro hk2 (And.intro hEc hpp)))
  clear hk1 hk2 hE hR hEc hpp HPP
  go_wp2_with fail
  clear hW u0 u1 u2 u3 u4 u5 u6 u7 u8 v0 v1 v2 v3 v4 v5 v6 v7 v8
  refine (HK.out.1 _ (HN.out.tab.below HS.out.below) HS.out.inn).mono ?_
  rintro e w3 ⟨rfl, hb⟩
  have HS := hid (HS.out.up hb)
  clear hb y0 y1 y2 y3 y4 y5 y6 y7 y8
  obtain ⟨y0, y1, y2, y3, y4, y5, y6, y7, y8⟩ := HS.out.box.nine
  obtain ⟨-, -, hEc, hpp⟩ := HK.out
  by_cases hE : E = 60
  · obtain rfl : R = false := hpp.1 hE
    subst hE
    clear hEc hpp
    go_wp2_with fail
    refine (HK.out.2.1 _ (HN.out.tab.below HS.out.below) HS.out.inn).mono ?_
    rintro e w4 ⟨rfl, hb⟩
    have hbe := (HS.out.up hb).below
    clear hb
    go_wp2
    go_ret
    exact ⟨rfl, hbe⟩
  obtain ⟨hR, hparts⟩ := hpp.2 hE
  subst hR
  have hz : (E == 60) = false := by rw [beq_eq_false_iff_ne]; exact hE
  have hE0 : (E = 0) ∨ ((E == 0) = false ∧ (E == 61) = true) := by
    rcases hEc with h | h | h
    · exact absurd h hE
    · exact .inr ⟨by rw [h]; rfl, by rw [h]; rfl⟩
    · exact .inl h
  have HQ := hid (And.intro hparts hE0)
  clear hparts hE0 hpp hEc hE
  obtain ⟨p, lst⟩ := n
  obtain ⟨lst', a', m', c', f', he', e8, rfl, hL⟩ := InT.inv HS.out.inn
  obtain rfl : lst = lst' := (Tr.nd.inj he').2
  obtain ⟨rfl, rfl, rfl⟩ := Value.slice.inj e8
  have h40 := HN.out.fine.len
  have HL := hid hL
  clear hL he' e8
  go_wp2_with fail
  go_loopw [7] (fun v7 wr => ∃ k : Nat, v7 = .int .i64 k ∧ k ≤ lst.length ∧ Below w3.heap.size w3 wr) (fun v7 _ => lst.length - (intOf v7).toNat)
  case atStart => exact ⟨0, rfl, Nat.zero_le _, Below.refl _ _⟩
  case round =>
    obtain ⟨k, rfl, hk, hbw⟩ := hrel
    have HR := hid (HS.out.up hbw)
    have HW := hid hbw
    clear hbw y0 y1 y2 y3 y4 y5 y6 y7 y8
    obtain ⟨y0, y1, y2, y3, y4, y5, y6, y7, y8⟩ := HR.out.box.nine
    by_cases hkl : k < lst.length
    · obtain ⟨u, hu⟩ : ∃ u, lst[k]? = some u := ⟨_, List.getElem?_eq_getElem hkl⟩
      obtain ⟨⟨g, o, rfl, ca1⟩, ta⟩ := (HL.out.up HW.out) k u hu
      obtain ⟨l1', q1', n1', c1', f1', -, g1', rfl, -⟩ := InT.inv ta
      rw [g1'] at ca1 ta
      obtain ⟨a0, a1, a2, a3, a4, a5, a6, a7, a8⟩ := ca1.cells
      have hkz : (k : Int) < lst.length := by omega
      have HV := hid (show wrap64 ((k : Int) + 1) = (k : Int) + 1 by unfold wrap64; omega)
      have hfu := HN.out.fine.sub (List.mem_of_getElem? hu)
      have hdu : u.dep ≤ 1000 := (dep_sub HN.out.dep' hu).1
      have hc1 := check_calls u hfu hdu f (.slice q1' l1'.length c1') wr (HN.out.tab.below HR.out.below) ta
      have hc2 := fun W h1 h => tright_calls u hfu hdu (.slice q1' l1'.length c1') W (ea := ea) (eb := eb) h1 (ta.up h)
      obtain ⟨hur, huf⟩ := HQ.out.1 u (List.mem_of_getElem? hu)
      rw [hur] at hc2
      obtain ⟨G, hG⟩ : ∃ G, chk u f = G := ⟨_, rfl⟩
      rw [hG] at hc1 huf
      have HA := hid (And.intro ca1 huf)
      clear ca1 ta g1' hu hfu hdu hur huf hG
      simp only [ndV, ndL] at hc1 hc2
      go_wp2_with fail
      refine hc1.mono ?_
      rintro e w4 ⟨rfl, hb3⟩
      have HR3 := hid (HR.out.up hb3)
      clear y0 y1 y2 y3 y4 y5 y6 y7 y8 a0 a1 a2 a3 a4 a5 a6 a7 a8
      obtain ⟨y0, y1, y2, y3, y4, y5, y6, y7, y8⟩ := HR3.out.box.nine
      obtain ⟨a0, a1, a2, a3, a4, a5, a6, a7, a8⟩ := (HA.out.1.up hb3).cells
      have HB3 := hid hb3
      clear hb3 hc1
      go_wp2_with fail
      refine (hc2 _ (HN.out.tab.below HR3.out.below) HB3.out).mono ?_
      rintro e w5 ⟨rfl, hb4⟩
      have hb5 := HW.out.trans ((HB3.out.trans (hb4.mono HB3.out.size)).mono HW.out.size)
      have HM := hid hb5
      clear hc2 hb4 hb5
      rcases HQ.out.2 with rfl | ⟨hz0, hz1⟩
      · obtain rfl : G = 0 := HA.out.2 rfl
        go_wp2
        go_roundw
        case rel => exact ⟨k + 1, by simp, by omega, HM.out⟩
        case measure => simp [intOf]; omega
      · go_wp2
        go_roundw
        case rel => exact ⟨k + 1, by simp, by omega, HM.out⟩
        case measure => simp [intOf]; omega
    · have hkz : decide (k < lst.length) = false := decide_eq_false (by omega)
      have hrr := HK.out.2.1 wr (HN.out.tab.below HR.out.below) HR.out.inn
      simp only [ndV, ndL] at hrr
      clear hk hkl HW
      go_wp2_with fail
      refine hrr.mono ?_
      rintro e w4 ⟨rfl, hb4⟩
      have hbe := (HR.out.up hb4).below
      clear hrr hb4
      rcases HQ.out.2 with rfl | ⟨hz0, hz1⟩
      · go_wp2
        go_ret
        exact ⟨rfl, hbe⟩
      · go_wp2
        go_ret
        exact ⟨rfl, hbe⟩
end Go.Proofs.YtdfoajclakjelaaGreatDoor

/- A tree that came in has no more nodes than its reading has parts. -/
namespace Go.Proofs.YtdfoajclakjelaaGreatDoor
open Go Go.ChangeShapes Go.WideShapes Go.RowKit

theorem bulk_one {H : Type} (d : DataW H) : 1 ≤ Rows.uptoBulk d := by
  cases d with
  | lit l => cases l <;> simp [Rows.uptoBulk]
  | nil => simp [Rows.uptoBulk]
  | ptr d => simp [Rows.uptoBulk]
  | slice elems spare => simp [Rows.uptoBulk]
  | agg parts => simp [Rows.uptoBulk]
  | iface t d => simp [Rows.uptoBulk]
  | map entries => simp [Rows.uptoBulk]
  | held h => simp [Rows.uptoBulk]
theorem bulk_part {H : Type} {d : DataW H} {l : List (DataW H)} (h : d ∈ l) : Rows.uptoBulk d ≤ Rows.uptoBulkAll l := by
  induction l with
  | nil => cases h
  | cons x r ih =>
    simp only [Rows.uptoBulkAll]
    rcases List.mem_cons.1 h with e | e
    · subst e; omega
    · have := ih e; omega
theorem bulk_list {H : Type} : ∀ (l : List Tr) (ds : List (DataW H)), l.length = ds.length → (∀ (i : Nat) (t : Tr) (d : DataW H), l[i]? = some t → ds[i]? = some d → t.cnt ≤ Rows.uptoBulk d) → cntL l ≤ Rows.uptoBulkAll ds
  | [], _, _, _ => by rw [cntL]; omega
  | t :: r, [], h, _ => by simp at h
  | t :: r, d :: ds, h, hi => by
    have h1 := hi 0 t d rfl rfl
    have h2 := bulk_list r ds (by simpa using h) (fun i u e h3 h4 => hi (i + 1) u e h3 h4)
    rw [cntL]
    simp only [Rows.uptoBulkAll]
    omega

set_option maxRecDepth 100000 in
theorem bulk_tr {H : Type} {enc : TypeId × Value → H} {w : World} {base : Nat} {sp : Nat → Bool} {hd : Bool} : ∀ (fuel : Nat) (cs : List Value) (x : DataW H × List MemPlace), DataW.trod enc Tryz.prog w base sp hd fuel 27 cs = some x →
    ∀ (p : Pay) (sl : Value) (l : List Tr), cs = ndL p sl → InT w (ndV p sl) (.nd p l) → (Tr.nd p l).cnt ≤ Rows.uptoBulk x.1 := by
  intro fuel
  induction fuel using Nat.strongRecOn with
  | _ fuel ih =>
    intro cs x h p sl l hcs hin
    obtain ⟨xs, n, rfl, rfl, hlen, hxl, hf⟩ := DataW.trod_struct Tryz.underlying27 h
    have hC : Tryz.prog.cellsOf 27 = 9 := by kernel_rfl
    have c6 : Tryz.prog.cellsOf 25 = 1 := by kernel_rfl
    obtain ⟨y0, y1, y2, y3, y4, y5, y6, rfl⟩ : ∃ y0 y1 y2 y3 y4 y5 y6, xs = [y0, y1, y2, y3, y4, y5, y6] := by
      match xs, hxl with
      | [y0, y1, y2, y3, y4, y5, y6], _ => exact ⟨y0, y1, y2, y3, y4, y5, y6, rfl⟩
    have f6 : DataW.trod enc Tryz.prog w base sp hd n 25 ((cs.drop 8).take (Tryz.prog.cellsOf 25)) = some y6 := hf 6 _ rfl
    subst hcs
    rw [c6] at f6
    change DataW.trod enc Tryz.prog w base sp hd n 25 [sl] = some y6 at f6
    obtain ⟨l', a, m, c, f, e, rfl, rfl, hL⟩ := InT.inv hin
    obtain rfl : l = l' := (Tr.nd.inj e).2
    have hy6 : Rows.uptoBulk y6.1 ≤ Rows.uptoBulkAll ([y0, y1, y2, y3, y4, y5, y6].map (·.1)) := bulk_part (by simp)
    have hgoal : cntL l + 1 ≤ Rows.uptoBulk y6.1 := by
      rcases DataW.trod_slice Tryz.underlying25 f6 with ⟨e8, rfl⟩ | ⟨a', len, cap, elems, rest, n3, hn3, e8, rfl, -, hlc, hcm, hel, hat, -, -⟩
      · obtain ⟨-, h2, -⟩ := Value.slice.inj (List.cons.inj e8).1
        obtain rfl := List.length_eq_zero_iff.1 h2
        simp [cntL, Rows.uptoBulk]
      · obtain ⟨rfl, rfl, -⟩ := Value.slice.inj (List.cons.inj e8).1
        rw [hC] at hat
        have hkey := bulk_list l (elems.map (·.1)) (by rw [List.length_map, hel]) (fun i t d hi hdi => by
          rw [List.getElem?_map, Option.map_eq_some_iff] at hdi
          obtain ⟨y, hy, rfl⟩ := hdi
          have hil : i < l.length := (List.getElem?_eq_some_iff.1 hi).1
          obtain ⟨⟨g, o, ea, hN⟩, hti⟩ := hL i t hi
          obtain rfl := Option.some.inj ea
          have h1 := hat i hil
          rw [hy] at h1
          obtain ⟨ci, h2, h3⟩ := Option.bind_eq_some_iff.1 h1
          obtain ⟨hl8, hl9, hcell⟩ := World.cells?_some h2
          have hce : ci = ndL t.p (f i) := by
            refine List.ext_getElem? fun j => ?_
            by_cases hj : j < 9
            · rw [← hcell j hj]
              obtain ⟨v, hv⟩ : ∃ v, (ndL t.p (f i))[j]? = some v := ⟨_, List.getElem?_eq_getElem (show j < (ndL t.p (f i)).length from hj)⟩
              rw [hv, ← hN j v hv]
              congr 1
              rw [add_plain, add_plain]
              try simp [Nat.add_assoc]
            · rw [List.getElem?_eq_none (by omega), List.getElem?_eq_none (show (ndL t.p (f i)).length ≤ j from by show 9 ≤ j; omega)]
          have := ih n3 (by omega) ci y h3 t.p (f i) t.l hce (by rw [← Tr.eta]; exact hti)
          rwa [← Tr.eta] at this)
        simp only [Rows.uptoBulk]
        omega
    rw [Tr.cnt]
    simp only [Rows.uptoBulk]
    omega
end Go.Proofs.YtdfoajclakjelaaGreatDoor

