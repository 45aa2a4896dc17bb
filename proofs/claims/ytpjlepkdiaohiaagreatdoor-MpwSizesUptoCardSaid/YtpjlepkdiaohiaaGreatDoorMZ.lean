/- The statement MpwSizes: walked. -/
import Derived.Test.YtpjlepkdiaohiaaGreatDoorMT
import Derived.Test.YtpjlepkdiaohiaaGreatDoorMJ
import Derived.Test.YtpjlepkdiaohiaaGreatDoorMS
import Derived.Test.YtpjlepkdiaohiaaGreatDoorMP
namespace Go.Proofs.YtpjlepkdiaohiaaGreatDoor
open Go.RowKit
attribute [local go_sem] Oper.semAt_some

def parr : Pay := ⟨7, false, false, ⟨#[]⟩, 0, 0, 0, ⟨#[]⟩⟩
/-- the parts that are written. -/
def keptL (l : List Tr) : List Tr := (l.map fewT).filter (fun n => decide (chk n 4 = 0))
theorem keptL_succ {l : List Tr} {i : Nat} {t : Tr} (h : l[i]? = some t) : keptL (l.take (i + 1)) = keptL (l.take i) ++ (if chk (fewT t) 4 = 0 then [fewT t] else []) := by
  unfold keptL
  rw [List.take_add_one, h, Option.toList_some, List.map_append, List.filter_append, List.map_singleton]
  congr 1
  by_cases hc : chk (fewT t) 4 = 0
  · rw [if_pos hc, List.filter_cons_of_pos (by rw [hc]; rfl), List.filter_nil]
  · rw [if_neg hc, List.filter_cons_of_neg (by simpa using hc), List.filter_nil]
/-- what is known of the parts. -/
structure KP (ns : List Tr) : Prop where
  ok : ∀ n, n ∈ ns → chk n 4 = 0
  fine : ∀ n, n ∈ ns → n.fine
  dep : ∀ n, n ∈ ns → n.dep ≤ 18
  cnt : cntL ns ≤ 6291456
  len : ns.length ≤ 6
theorem kept_kp {l : List Tr} (hwf : ∀ t, t ∈ l → t.wf) (hct : ∀ t, t ∈ l → t.cnt ≤ 1048576) (i : Nat) (hi : i ≤ 6) : KP (keptL (l.take i)) := by
  have hmem : ∀ n, n ∈ keptL (l.take i) → ∃ t, t ∈ l ∧ n = fewT t ∧ chk n 4 = 0 := fun n hn => by
    obtain ⟨h1, h2⟩ := List.mem_filter.1 hn
    obtain ⟨t, ht, rfl⟩ := List.mem_map.1 h1
    exact ⟨t, List.mem_of_mem_take ht, rfl, by simpa using h2⟩
  have hlen : (keptL (l.take i)).length ≤ i := by
    unfold keptL
    refine Nat.le_trans (List.length_filter_le ..) ?_
    rw [List.length_map, List.length_take]; omega
  have hcn : ∀ ns : List Tr, (∀ n, n ∈ ns → n.cnt ≤ 1048576) → cntL ns ≤ 1048576 * ns.length := fun ns => by
    induction ns with
    | nil => intro _; simp [cntL]
    | cons t r ih =>
      intro h
      have h1 := h t (List.mem_cons_self ..)
      have h2 := ih (fun n hn => h n (List.mem_cons_of_mem _ hn))
      rw [cntL, List.length_cons]; omega
  refine ⟨fun n hn => (by obtain ⟨t, -, -, h⟩ := hmem n hn; exact h), fun n hn => ?_, fun n hn => ?_, ?_, by omega⟩
  · obtain ⟨t, ht, rfl, -⟩ := hmem n hn; exact few_fine (hwf t ht)
  · obtain ⟨t, ht, rfl, -⟩ := hmem n hn; exact few_dep t
  · have := hcn _ (fun n hn => by obtain ⟨t, ht, rfl, -⟩ := hmem n hn; exact Nat.le_trans (few_cnt_le t) (hct t ht))
    omega
theorem sizes_plain {ns : List Tr} (h : KP ns) : (Tr.nd parr ns).fine ∧ (Tr.nd parr ns).dep ≤ 1000 ∧ (Tr.nd parr ns).cnt ≤ 300000000000 ∧
    ((chk (.nd parr ns) 4 = 60 ∧ (300 < wrapI (Tr.nd parr ns).cnt ∨ 16 < (Tr.nd parr ns).dep)) ∨ (chk (.nd parr ns) 4 = 0 ∧ (wrtS (.nd parr ns)).size = 1 + (encL ns).length)) := by
  have hall : (Tr.nd parr ns).all = true := by
    rw [Tr.all, Bool.and_eq_true]
    exact ⟨by rw [own_7 rfl]; unfold onlyP; rw [Pay.same_iff]; rfl, (allL_iff ns).2 fun n hn => (chk_ok (h.ok n hn)).1.1⟩
  have hfit : (Tr.nd parr ns).fit 4 = true := by
    rw [Tr.fit, Bool.and_eq_true]
    exact ⟨rfl, (fitL_iff ns 4).2 fun n hn => (chk_ok (h.ok n hn)).1.2⟩
  refine ⟨.nd _ _ ⟨by decide, by decide, by decide, by decide, by decide, by decide⟩ (by have := h.len; omega) h.fine, ?_, ?_, ?_⟩
  · rw [Tr.dep]; have := depL_le h.dep; omega
  · rw [Tr.cnt]; have := h.cnt; omega
  · unfold chk
    by_cases hr : (Tr.nd parr ns).right = true
    · rw [if_pos hr, if_pos hfit]
      refine .inr ⟨rfl, ?_⟩
      have hc : chk (.nd parr ns) 4 = 0 := by unfold chk; rw [if_pos hr, if_pos hfit]
      rw [wrtS_ok hc, size_B, Tr.enc, if_pos (show isLst parr = true from rfl), List.length_append]
      have he : hdE parr ns.length = arrE ns.length := rfl
      rw [he]
      unfold arrE
      rw [if_pos (by have := h.len; omega)]
      rfl
    · rw [if_neg hr]
      refine .inl ⟨rfl, ?_⟩
      unfold Tr.right at hr
      rw [hall, Bool.and_true, Bool.and_eq_true, decide_eq_true_eq, decide_eq_true_eq] at hr
      omega

/-- what lies in memory while the parts are gathered. -/
structure SzI (w : World) (g : Nat) (v : Value) (zs : List (Value × Tr)) (W : World) : Prop where
  ge : w.heap.size ≤ g
  box : Cls W g 27 (ndL parr v)
  row : OwnL (g + 1) (g + 1) W v zs
  below : Below w.heap.size w W
theorem SzI.up {w : World} {g : Nat} {v : Value} {zs : List (Value × Tr)} {A B : World} (h : SzI w g v zs A) (hb : Below A.heap.size A B) : SzI w g v zs B :=
  ⟨h.ge, h.box.below hb, h.row.up hb, h.below.trans (hb.mono h.below.size)⟩
theorem OwnL.put {g : Nat} {W : World} {v : Value} {zs : List (Value × Tr)} (h : OwnL (g + 1) (g + 1) W v zs) (j : Nat) (x : Value) : OwnL (g + 1) (g + 1) (W.setCell ⟨g, j, none⟩ x) v zs := by
  refine ⟨h.1.kept (row := some g) ⟨rfl, rfl, rfl, Nat.le_of_eq (by simp), fun k _ hne => Below.heap_setCell _ _ _ _ (fun e => hne (by rw [e]))⟩ ?_, fun z hz => (h.2 z hz).kept (fun k _ hk => Below.heap_setCell _ _ _ _ (by show k ≠ g; have := hk.1; omega))⟩
  cases hv : v.ownBlock with
  | none => exact .inl rfl
  | some k => exact .inr (fun e => by have := (h.1.lt k hv).1; have := Option.some.inj e; omega)

set_option maxRecDepth 100000 in
set_option maxHeartbeats 8000000 in
theorem sizes_law15 (l : List Tr) (hwf : ∀ t, t ∈ l → t.wf) (hct : ∀ t, t ∈ l → t.cnt ≤ 1048576) (hlen : l.length ≤ 9223372036854775807) (a : Option Addr) (c : Nat) (f : Nat → Value) (w : World) {ea eb : Addr} (hT : TabT w ea eb) (hL : ListAt w a f l) :
    Calls Tryz.prog 6 #[.slice a l.length c] w fun e w' => e = .returned (.bool true) ∧ Below w.heap.size w w' := by
  have hsh := shown15_calls w hT
  obtain ⟨i0, hi, hz0, hz1, hz2⟩ := info_parts info_node
  have HX := hid (And.intro hL (And.intro hwf (And.intro hct hT)))
  clear hL hwf hct hT
  go_enter Tryz.func6, Tryz.ntmps6
  go_wp2_with fail
  refine hsh.mono ?_
  rintro e w1 ⟨rfl, hb1⟩
  obtain ⟨W1, hW1⟩ : ∃ W1, w1.alloc (.cells (ndL parr (.slice none 0 0)).toArray 27) = W1 := ⟨_, rfl⟩
  have hI : SzI w w1.heap.size (.slice none 0 0) [] W1 := by
    rw [← hW1]
    exact ⟨hb1.size, Cls.new w1 27 (ndL parr (.slice none 0 0)), OwnL.nil _ _ _, hb1.alloc hb1.size _⟩
  have HY := hid hI
  clear hsh hb1 hI
  go_wp2
  refine (?_ : Code.wp _ _ _ _ (w1.alloc (.cells (ndL parr (.slice none 0 0)).toArray 27)))
  rw [hW1]
  clear hW1
  go_loopw [5, 6] (fun v5 v6 wr => ∃ (i : Nat) (v : Value) (zs : List (Value × Tr)), v6 = .int .i64 i ∧ i ≤ l.length ∧ i ≤ 6 ∧ zs.map (·.2) = keptL (l.take i) ∧ v5 = .int .i64 (1 + ((encL (zs.map (·.2))).length : Int)) ∧ (encL (zs.map (·.2))).length ≤ 450000000 * i ∧ SzI w w1.heap.size v zs wr) (fun _ v6 _ => 7 - (intOf v6).toNat)
  case atStart => exact ⟨0, _, [], rfl, Nat.zero_le _, Nat.zero_le _, rfl, rfl, by simp [encL], HY.out⟩
  case round =>
    obtain ⟨i, v, zs, rfl, hil, hi6, hzs, rfl, hen, hI⟩ := hrel
    obtain ⟨va, vc, rfl, -, -⟩ := hI.row.shape
    have hzl : zs.length ≤ 6 := by
      have h1 := congrArg List.length hzs
      unfold keptL at h1
      have h2 := List.length_filter_le (fun n => decide (chk n 4 = 0)) ((l.take i).map fewT)
      rw [List.length_map, List.length_take] at h2
      rw [List.length_map] at h1
      omega
    by_cases hmore : i < l.length ∧ i < 6
    · obtain ⟨hil2, hi62⟩ := hmore
      obtain ⟨hL, hwf, hct, hT⟩ := HX.out
      obtain ⟨t, ht⟩ : ∃ t, l[i]? = some t := ⟨_, List.getElem?_eq_getElem hil2⟩
      obtain ⟨⟨g, o, rfl, ca1⟩, ta⟩ := (hL.up hI.below) i t ht
      obtain ⟨l1, q1, n1, c1, f1, -, g1, rfl, -⟩ := InT.inv ta
      rw [g1] at ca1 ta
      obtain ⟨a0, a1, a2, a3, a4, a5, a6, a7, a8⟩ := ca1.cells
      have hmem := List.mem_of_getElem? ht
      have hd1 : decide ((i : Int) < l.length) = true := decide_eq_true (by omega)
      have hd2 : decide ((i : Int) < 6) = true := decide_eq_true (by omega)
      have hcall := few_calls t (hwf t hmem) (.slice q1 l1.length c1) wr ta
      have hNF := NF.of (hwf t hmem) hT
      have hcn := Nat.le_trans (few_cnt_le t) (hct t hmem)
      have hks := keptL_succ ht
      obtain ⟨n, hn⟩ : ∃ n, fewT t = n := ⟨_, rfl⟩
      rw [hn] at hcall hNF hcn hks
      have HZ := hid (And.intro hI (And.intro hzs (And.intro hNF (And.intro hcn hks))))
      clear hL hwf hct hT ca1 ta g1 hI hmem hNF hcn hks hn ht hzs
      simp only [ndV, ndL] at hcall
      go_wp2_with fail
      refine hcall.mono ?_
      rintro e w2 ⟨sl', rfl, hB', hb1⟩
      obtain ⟨l9, q9, n9, c9, f9, -, rfl, -, -⟩ := InT.inv (p := n.p) hB'.toT
      obtain ⟨hI, hzs, hNF, hcn, hks⟩ := HZ.out
      have hI2 := hI.up hb1
      have hbx := Cls.new w2 27 (ndL n.p (.slice q9 n9 c9))
      have hA3 := below_alloc w2 (.cells (ndL n.p (.slice q9 n9 c9)).toArray 27)
      have hI3 := hI2.up hA3
      have hsz := size_calls n hNF.fine hNF.dep' (by omega) (.slice q9 n9 c9) _ (hNF.tab.below hI3.below) (hB'.toT.up hA3)
      have hso : chk n 4 = 0 → (wrtS n).size = n.enc.length ∧ n.enc.length ≤ 450000000 := fun h => by
        have h2 := (enc_len n (chk_ok h).1).2
        exact ⟨by rw [wrtS_ok h, size_B], by omega⟩
      obtain ⟨C, hC⟩ : ∃ C, chk n 4 = C := ⟨_, rfl⟩
      obtain ⟨S, hS⟩ : ∃ S, (wrtS n).size = S := ⟨_, rfl⟩
      rw [hC] at hsz hso hks
      rw [hS] at hsz hso
      have HV := hid (And.intro hI (And.intro hI3 (And.intro hbx (And.intro hzs (And.intro hks (And.intro hso (And.intro hB' (And.intro hb1 hA3))))))))
      clear hI hI2 hI3 hzs hNF hcn hks hB' hb1 hbx hA3 hC hS hso HZ hcall a0 a1 a2 a3 a4 a5 a6 a7 a8
      simp only [ndV, ndL] at hsz
      go_wp2_with fail
      refine hsz.mono ?_
      rintro e w4 ⟨rfl, hb4⟩
      obtain ⟨hI, hI3, hbx, hzs, hks, hso, hB', hb1, hA3⟩ := HV.out
      have hI4 := hI3.up hb4
      by_cases hc : C = 0
      · subst hc
        obtain ⟨hs1, hs2⟩ := hso rfl
        subst hs1
        obtain ⟨L0, hL0⟩ : ∃ L0, (encL (zs.map (·.2))).length = L0 := ⟨_, rfl⟩
        have hL1 : (encL ((zs ++ [((.slice q9 n9 c9 : Value), n)]).map (·.2))).length = L0 + n.enc.length := by
          rw [List.map_append, encL_append, List.length_append, hL0]
          simp [encL]
        have hz1' : (zs ++ [((.slice q9 n9 c9 : Value), n)]).map (·.2) = keptL (l.take (i + 1)) := by
          rw [hks, if_pos rfl, List.map_append, hzs]; rfl
        obtain ⟨E, hE⟩ : ∃ E, n.enc.length = E := ⟨_, rfl⟩
        have hsw : w1.heap.size + 1 ≤ wr.heap.size := hI.box.lt
        have hsw4 : wr.heap.size ≤ w4.heap.size := Nat.le_trans hb1.size (Nat.le_trans hA3.size hb4.size)
        have hno : ∀ k, (Value.slice va zs.length vc).ownBlock = some k → w1.heap.size + 1 ≤ k ∧ k < wr.heap.size := fun k hk => hI.row.1.lt k hk
        have hInB : InB (fun k => w1.heap.size + 1 ≤ k ∧ some k ≠ (Value.slice va zs.length vc).ownBlock) (w4.alloc (.cells (ndL n.p (.slice q9 n9 c9)).toArray 27)) (ndV n.p (.slice q9 n9 c9)) n :=
          (((hB'.mono (fun k _ (hk : wr.heap.size ≤ k) => ⟨Nat.le_trans hsw hk, fun e => by have := (hno k e.symm).2; omega⟩)).up hA3).up hb4).up (below_alloc _ _)
        have hI5 := hI4.up (below_alloc w4 (.cells (ndL n.p (.slice q9 n9 c9)).toArray 27))
        have hown := hI5.row.1
        have hnc := cells_new w4 27 (ndL n.p (.slice q9 n9 c9))
        obtain ⟨x0, x1, x2, x3, x4, x5, x6, x7, x8⟩ := (hbx.below hb4).nine
        have y8 := hI4.box.cell 8 rfl
        rw [hE] at hL1 hs2 
        have HW := hid (And.intro hI5 (And.intro hInB (And.intro hz1' hno)))
        have hsw5 : w1.heap.size + 1 ≤ w4.heap.size := by omega
        rw [hL0] at hen ⊢
        rw [hE]
        clear hI hI3 hbx hzs hks hso hB' hb1 hA3 hI4 hb4 hsz HV hInB hI5 hz1' hno hL0 hE hsw hsw4
        simp only [ndL] at hnc hown x0 x1 x2 x3 x4 x5 x6 x7 x8
        go_wp2_with (at_builtin; refine wpList_append_own_at _ rfl _ _ 25 rfl (w1.heap.size + 1) 27 i0 (.agg #[.int .i64 0, .bool false, .bool false, .string ⟨#[]⟩, .int .i64 0, .int .u64 0, .int .i64 0, .string ⟨#[]⟩, .slice none 0 0]) 9 104 Tryz.underlying25 hi hz0 hz1 hz2 rfl (by decide) _ _ _ rfl hown ⟨w4.heap.size, 0, none⟩ 1 1 (ndL n.p (.slice q9 n9 c9)) rfl rfl hnc (ndL_oneCell _ _ _ _) (by simp only [maxLen]; omega) (by omega) (by simp; omega) ?_)
        intro v' w6 hown' hgrow hnil hloc
        obtain ⟨hI5, hInB, hz1', hno⟩ := HW.out
        obtain ⟨va', m', vc', rfl⟩ : ∃ (va' : Option Addr) (m' vc' : Nat), v' = .slice va' m' vc' := by
          obtain ⟨va', vc', h, -, -⟩ := (hI5.row.snoc (z := (.slice q9 n9 c9, n)) hInB hown' hgrow (hloc.imp id fun h k hk => by rw [h] at hk; cases hk; simp)).shape
          exact ⟨va', _, vc', h⟩
        have hbox6 := hI5.box.kept hgrow (fun e => by have := (hno _ e.symm).1; omega)
        have hrow6 := (hI5.row.snoc (z := (.slice q9 n9 c9, n)) hInB hown' hgrow (hloc.imp id fun h k hk => by rw [h] at hk; cases hk; simp)).put 8 (.slice va' m' vc')
        have hbel6 := (hI5.below.grown hgrow hI5.below.size (fun k hk => by have := (hno _ hk).1; have := hI5.ge; omega)).setCell (p := ⟨w1.heap.size, 8, none⟩) hI5.ge (.slice va' m' vc')
        have hI6 : SzI w w1.heap.size (.slice va' m' vc') (zs ++ [(.slice q9 n9 c9, n)]) (w6.setCell ⟨w1.heap.size, 8, none⟩ (.slice va' m' vc')) := ⟨hI5.ge, hbox6.set 8 (.slice va' m' vc'), hrow6, hbel6⟩
        have z8 := hbox6.cell 8 rfl
        have r8 := hbox6.frozen 8
        have HU := hid (And.intro hz1' (And.intro hI6 hL1))
        clear hI5 hInB hz1' hno hbox6 hrow6 hbel6 hI6 hL1 hown' hgrow hnil hloc hnc hown HW x0 x1 x2 x3 x4 x5 x6 x7 x8 y8
        go_wp2
        go_roundw
        case rel => exact ⟨i + 1, (.slice va' m' vc'), zs ++ [(.slice q9 n9 c9, n)], by simp, by omega, by omega, HU.out.1, by rw [HU.out.2.2]; congr 1; omega, by rw [HU.out.2.2]; omega, HU.out.2.1⟩
        case measure => simp [intOf]; omega
      · have hz : (C != 0) = true := by rw [bne_iff_ne]; exact hc
        have HW := hid (show zs.map (·.2) = keptL (l.take (i + 1)) ∧ SzI w w1.heap.size (.slice va zs.length vc) zs w4 from ⟨by rw [hks, if_neg hc, List.append_nil]; exact hzs, hI4⟩)
        clear hI hI3 hbx hzs hks hso hB' hb1 hA3 hI4 hb4 hsz HV hc
        go_wp2
        go_roundw
        case rel => exact ⟨i + 1, .slice va zs.length vc, zs, by simp, by omega, by omega, HW.out.1, rfl, by omega, HW.out.2⟩
        case measure => simp [intOf]; omega
    · have hb1 : (decide (i < l.length) = true ∧ decide ((i : Int) < 6) = false) ∨ decide (i < l.length) = false := by
        by_cases h : i < l.length
        · exact .inl ⟨decide_eq_true h, decide_eq_false (by omega)⟩
        · exact .inr (decide_eq_false h)
      have hkp : KP (zs.map (·.2)) := by rw [hzs]; exact kept_kp HX.out.2.1 HX.out.2.2.1 i hi6
      obtain ⟨pf, pd, pc, hpl⟩ := sizes_plain hkp
      have hin : InT wr (ndV parr (.slice va zs.length vc)) (.nd parr (zs.map (·.2))) := (hI.row.inB (Nat.le_refl _) parr).toT
      have hsz := fun W h1 h2 => size_calls (.nd parr (zs.map (·.2))) pf pd pc (.slice va zs.length vc) W (ea := ea) (eb := eb) h1 h2
      have hkc := fun W h2 => rcount_calls (.nd parr (zs.map (·.2))) pf (.slice va zs.length vc) W h2
      have hkd := fun W h2 => rdepth_calls (.nd parr (zs.map (·.2))) pf pd (.slice va zs.length vc) W h2
      obtain ⟨L0, hL0⟩ : ∃ L0, (encL (zs.map (·.2))).length = L0 := ⟨_, rfl⟩
      rw [hL0] at hpl ⊢
      obtain ⟨T, hTT⟩ : ∃ T, Tr.nd parr (zs.map (·.2)) = T := ⟨_, rfl⟩
      have hTp : T.p = parr := by rw [← hTT]; rfl
      rw [hTT] at hsz hkc hkd hpl hin
      rw [hTp] at hsz hkc hkd
      obtain ⟨C, hC⟩ : ∃ C, chk T 4 = C := ⟨_, rfl⟩
      obtain ⟨S, hS⟩ : ∃ S, (wrtS T).size = S := ⟨_, rfl⟩
      obtain ⟨K, hK⟩ : ∃ K, wrapI T.cnt = K := ⟨_, rfl⟩
      obtain ⟨D, hD⟩ : ∃ D, T.dep = D := ⟨_, rfl⟩
      rw [hC, hS] at hsz
      rw [hK] at hkc
      rw [hD] at hkd
      rw [hC, hS, hK, hD] at hpl
      have hz8 := hid hlen
      have HI := hid (And.intro hI hin)
      have HT := hid HX.out.2.2.2
      have HK := hid (And.intro hsz (And.intro hkc hkd))
      obtain ⟨y0, y1, y2, y3, y4, y5, y6, y7, y8⟩ := hI.box.nine
      clear hzs hen hI hkp pf pd pc hin hsz hkc hkd hL0 hTT hTp hC hS hK hD hmore hil hi6 hzl
      simp only [parr] at y0 y1 y2 y3 y4 y5 y6 y7 y8
      rcases hpl with ⟨rfl, hp⟩ | ⟨rfl, rfl⟩
      · have hq : (300 < K) ∨ (decide (300 < K) = false ∧ (16 : Int) < (D : Int)) := by
          by_cases h : 300 < K
          · exact .inl h
          · exact .inr ⟨decide_eq_false h, by omega⟩
        clear hp
        rcases hb1 with ⟨hb1, hb2⟩ | hb1
        all_goals (
          go_wp2_with fail
          have hcall := HK.out.1 _ (HT.out.below HI.out.1.below) HI.out.2
          simp only [ndV, ndL, parr] at hcall
          refine hcall.mono ?_
          rintro e w3 ⟨rfl, hb3⟩
          have HI := hid (And.intro (HI.out.1.up hb3) (HI.out.2.up hb3))
          clear hcall hb3 y0 y1 y2 y3 y4 y5 y6 y7 y8
          obtain ⟨y0, y1, y2, y3, y4, y5, y6, y7, y8⟩ := HI.out.1.box.nine
          simp only [parr] at y0 y1 y2 y3 y4 y5 y6 y7 y8
          go_wp2_with fail
          have hcall := HK.out.2.1 _ HI.out.2
          simp only [ndV, ndL, parr] at hcall
          refine hcall.mono ?_
          rintro e w4 ⟨rfl, hb4⟩
          have HI := hid (And.intro (HI.out.1.up hb4) (HI.out.2.up hb4))
          clear hcall hb4 y0 y1 y2 y3 y4 y5 y6 y7 y8
          obtain ⟨y0, y1, y2, y3, y4, y5, y6, y7, y8⟩ := HI.out.1.box.nine
          simp only [parr] at y0 y1 y2 y3 y4 y5 y6 y7 y8
          rcases hq with hq | ⟨hq, hq2⟩
          · clear y0 y1 y2 y3 y4 y5 y6 y7 y8
            go_wp2
            go_ret
            exact ⟨rfl, HI.out.1.below⟩
          · go_wp2_with fail
            have hcall := HK.out.2.2 _ HI.out.2
            simp only [ndV, ndL, parr] at hcall
            refine hcall.mono ?_
            rintro e w5 ⟨rfl, hb5⟩
            have HI := hid (HI.out.1.up hb5)
            clear hcall hb5 y0 y1 y2 y3 y4 y5 y6 y7 y8
            go_wp2
            go_ret
            exact ⟨rfl, HI.out.below⟩)
      · rcases hb1 with ⟨hb1, hb2⟩ | hb1
        all_goals (
          go_wp2_with fail
          have hcall := HK.out.1 _ (HT.out.below HI.out.1.below) HI.out.2
          simp only [ndV, ndL, parr] at hcall
          refine hcall.mono ?_
          rintro e w3 ⟨rfl, hb3⟩
          have HI := hid (HI.out.1.up hb3)
          clear hcall hb3 y0 y1 y2 y3 y4 y5 y6 y7 y8
          go_wp2
          go_ret
          exact ⟨by simp, HI.out.below⟩)
end Go.Proofs.YtpjlepkdiaohiaaGreatDoor

/- A list of nodes that came in. -/
namespace Go.Proofs.YtpjlepkdiaohiaaGreatDoor
open Go Go.ChangeShapes Go.WideShapes Go.RowKit

set_option maxRecDepth 100000 in
theorem open_nodes {H : Type} {enc : TypeId × Value → H} {w : World} {base : Nat} {sp : Nat → Bool} {hd : Bool} {r : Reach} {b0 : Nat} {v : Value} {d : DataW H} {p : List MemPlace} (hv : Value.okWide Tryz.prog w r b0 25 v) (h : DataW.Trod enc Tryz.prog w base sp hd 25 v d p) :
    ∃ (l : List Tr) (a : Option Addr) (c : Nat) (f : Nat → Value), v = .slice a l.length c ∧ ListAt w a f l ∧ (∀ t, t ∈ l → t.wf) ∧ l.length ≤ 9223372036854775807 ∧ cntL l ≤ Rows.uptoBulk d := by
  obtain ⟨a0, len0, cap0, rfl⟩ := okWide_slice Tryz.underlying25 hv
  obtain ⟨n, hn⟩ := h
  have hC : Tryz.prog.cellsOf 27 = 9 := by kernel_rfl
  change DataW.trod enc Tryz.prog w base sp hd n 25 [.slice a0 len0 cap0] = some (d, p) at hn
  rcases DataW.trod_slice Tryz.underlying25 hn with ⟨e8, -⟩ | ⟨a, len, cap, elems, rest, n3, hn3, e8, hx, -, hlc, hcm, hel, hat, -, -⟩
  · obtain ⟨rfl, rfl, rfl⟩ := Value.slice.inj (List.cons.inj e8).1
    exact ⟨[], none, 0, fun _ => .bool false, rfl, (fun i t h => by simp at h), (fun t h => by cases h), by decide, by simp [cntL]⟩
  · obtain ⟨rfl, rfl, rfl⟩ := Value.slice.inj (List.cons.inj e8).1
    rw [hC] at hat
    obtain ⟨F, hF⟩ := Go.Deep.choose_lt (α := Pay × Value × Tr) (n := len0) (p := fun i z => (∀ j, j < 9 → w.cell? (a.add (i * 9 + j)) = (ndL z.1 z.2.1)[j]?) ∧ z.2.2.p = z.1 ∧ InT w (ndV z.1 z.2.1) z.2.2 ∧ Tr.wf z.2.2 ∧ ∀ y, elems[i]? = some y → z.2.2.cnt ≤ Rows.uptoBulk y.1) (fun i hi => by
      have h1 := hat i hi
      rw [List.getElem?_eq_getElem (by omega)] at h1
      obtain ⟨ci, h2, h3⟩ := Option.bind_eq_some_iff.1 h1
      obtain ⟨-, -, hcell⟩ := World.cells?_some h2
      obtain ⟨p, sl, l, rfl, h4, h5⟩ := open_tr n3 ci _ h3
      refine ⟨⟨p, sl, .nd p l⟩, fun j hj => ?_, rfl, h4, h5, fun y hy => ?_⟩
      · have := hcell j hj
        rw [← this]
        congr 1
        obtain ⟨ab, ao, asp⟩ := a
        unfold Addr.add
        dsimp only
        repeat' split
        all_goals (first | omega | (congr 1; omega) | (simp_all; done) | (simp_all; omega))
      · have := bulk_tr n3 _ _ h3 p sl l rfl h4
        rw [List.getElem?_eq_getElem (by omega)] at hy
        rw [← Option.some.inj hy]
        exact this)
    have hget : ∀ i t, ((List.range len0).map fun i => (F i).2.2)[i]? = some t → i < len0 ∧ (F i).2.2 = t := fun i t h => by
      rw [List.getElem?_map, Option.map_eq_some_iff] at h
      obtain ⟨i', h1, h2⟩ := h
      obtain ⟨hi, h3⟩ := List.getElem?_eq_some_iff.1 h1
      rw [List.getElem_range] at h3
      subst h3
      exact ⟨by simpa using hi, h2⟩
    refine ⟨(List.range len0).map fun i => (F i).2.2, some a, cap0, fun i => (F i).2.1, by simp, fun i t h => ?_, fun t h => ?_, by simp; exact Nat.le_trans hlc hcm, ?_⟩
    · obtain ⟨hi, rfl⟩ := hget i t h
      obtain ⟨h1, h2, h3, -⟩ := hF i hi
      refine ⟨?_, by rw [h2]; exact h3⟩
      obtain ⟨g, o, spot⟩ := a
      have hspot : spot = none := by
        have := World.cell?_spot (((hF 0 (by omega)).1 0 (by omega)).trans rfl)
        exact this
      subst hspot
      refine ⟨g, o, rfl, fun j x hj => ?_⟩
      have hj9 : j < 9 := (List.getElem?_eq_some_iff.1 hj).1
      have := h1 j hj9
      rw [add_plain, ← Nat.add_assoc] at this
      rw [this, ← h2]
      exact hj
    · obtain ⟨i, hi, rfl⟩ := List.mem_map.1 h
      exact (hF i (List.mem_range.1 hi)).2.2.2.1
    · obtain ⟨rfl, -⟩ := Prod.mk.inj hx
      have hkey := bulk_list ((List.range len0).map fun i => (F i).2.2) (elems.map (·.1)) (by simp [hel]) (fun i t e hi hdi => by
        obtain ⟨hil, rfl⟩ := hget i t hi
        rw [List.getElem?_map, Option.map_eq_some_iff] at hdi
        obtain ⟨y, hy, rfl⟩ := hdi
        exact (hF i hil).2.2.2.2 y hy)
      simp only [Rows.uptoBulk]
      omega
end Go.Proofs.YtpjlepkdiaohiaaGreatDoor

