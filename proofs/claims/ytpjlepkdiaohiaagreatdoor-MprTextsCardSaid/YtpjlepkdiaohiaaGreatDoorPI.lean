/- PI: TrH ErrIs TrA. -/
import Derived.Test.YtpjlepkdiaohiaaGreatDoorPH
import Derived.Test.YtpjlepkdiaohiaaGreatDoorPA
import Derived.LaidEql
import Derived.Stop.Asserts
import Derived.RowKitTokens
/- Package tree: checked, the walk through all nodes: walked. -/
namespace Go.Proofs.YtpjlepkdiaohiaaGreatDoor
open Go.RowKit
attribute [local go_sem] Oper.semAt_some

/-- what checked tells. -/
def ckV (ea eb : Addr) (c : Int) : Value := if c = 60 then .iface 251 (.pointer (some ea)) else if c = 61 then .iface 251 (.pointer (some eb)) else .nilIface
/-- what is told so far. -/
def fmV (eb : Addr) (b : Bool) : Value := if b then .nilIface else .iface 251 (.pointer (some eb))
def fitsAll (f : Int) (zs : List (Value × Tr)) : Bool := zs.all fun z => fitN z.2.p z.2.l f
theorem fine_flat (t : Tr) : t.fine → ∀ x, x ∈ t.flat → x.fine := by
  induction t using Tr.ind with
  | h p l ih =>
    intro hf x hx
    rw [Tr.flat] at hx
    rcases List.mem_cons.1 hx with rfl | hx
    · exact hf
    · have key : ∀ (m : List Tr), (∀ t, t ∈ m → t ∈ l) → x ∈ flatL m → ∃ t, t ∈ l ∧ x ∈ t.flat := by
        intro m
        induction m with
        | nil => intro _ h; rw [flatL] at h; cases h
        | cons a r ih2 =>
          intro hm h
          rw [flatL] at h
          rcases List.mem_append.1 h with h | h
          · exact ⟨a, hm a (List.mem_cons_self ..), h⟩
          · exact ih2 (fun t ht => hm t (List.mem_cons_of_mem _ ht)) h
      obtain ⟨u, hu, hxu⟩ := key l (fun _ h => h) hx
      exact ih u hu (hf.sub hu) x hxu

/-- what lies in memory while nodes are checked. -/
structure CkI (w : World) (f : Int) (b0 q5 q6 bm : Nat) (v : Value) (W : World) : Prop where
  chk : Cls W b0 74 [.int .i64 f]
  all : Boxed W q5 97 (.map (some bm))
  map : MapI W bm kindL
  wrong : Boxed W q6 70 v
  below : Below w.heap.size w W
theorem CkI.next {w : World} {f : Int} {b0 q5 q6 bm : Nat} {v : Value} {A B : World} (h : CkI w f b0 q5 q6 bm v A) (hk : CellsKept A B) {n : Nat} (hb : Below n A B) (hw : w.heap.size ≤ n) (hm : bm < n) : CkI w f b0 q5 q6 bm v B :=
  ⟨hk _ _ _ _ h.chk, hk.boxed h.all, (hb.block bm hm).trans h.map, hk.boxed h.wrong, h.below.trans (hb.mono hw)⟩
theorem MapI.lt {w : World} {b : Nat} {l : List (Int × Value)} (h : MapI w b l) : b < w.heap.size := (Array.getElem?_eq_some_iff.1 (show w.heap[b]? = some (mapObj l) from h)).1
theorem CkI.below' {w : World} {f : Int} {b0 q5 q6 bm : Nat} {v : Value} {A B : World} (h : CkI w f b0 q5 q6 bm v A) (hb : Below A.heap.size A B) : CkI w f b0 q5 q6 bm v B :=
  h.next (CellsKept.below hb) hb h.below.size h.map.lt
theorem CkI.put {w : World} {f : Int} {b0 q5 q6 bm : Nat} {v : Value} {W : World} (h : CkI w f b0 q5 q6 bm v W) (h1 : b0 ≠ q6) (h2 : q5 ≠ q6) (h3 : bm ≠ q6) (hw : w.heap.size ≤ q6) (u : Value) : CkI w f b0 q5 q6 bm u (W.setCell ⟨q6, 0, none⟩ u) :=
  ⟨h.chk.other h1 _, boxed_other h.all h2 _, (Below.heap_setCell _ _ _ _ h3).trans h.map, h.wrong.set _, h.below.setCell (p := ⟨q6, 0, none⟩) hw _⟩

set_option maxRecDepth 100000 in
set_option maxHeartbeats 4000000 in
theorem checked_calls (f : Int) (t : Tr) (hfin : t.fine) (hdep : t.dep ≤ 1000) (sl : Value) (w : World) {ea eb : Addr} (hT : TabT w ea eb) (hin : InT w (ndV t.p sl) t) :
    Calls Tryz.prog 36 #[.agg #[.int .i64 f], ndV t.p sl] w fun e w' => e = .returned (ckV ea eb (chk t f)) ∧ Below w.heap.size w w' := by
  have hprog : Tryz.prog.follows .mixedOrders = true := by kernel_rfl
  obtain ⟨C, hC⟩ : ∃ C, chk t f = C := ⟨_, rfl⟩
  rw [hC]
  have HC := hid hC
  clear hC
  have hnd := fun W => nodes_calls t.p sl W
  have hdc := fun W (h : InT W (ndV t.p sl) t) => depth_calls t hfin hdep sl W h
  have hcc := fun W (h : InT W (ndV t.p sl) t) => count_calls t hfin sl W h
  obtain ⟨l1, q1, n1, c1, f1, -, g1, rfl, -⟩ := InT.inv hin
  subst g1
  have hbA := (below_alloc w (.cells #[.int .i64 f] 74)).alloc (by simp) (.cells (ndL t.p (.slice q1 l1.length c1)).toArray 27)
  have hC0 := (Cls.new w 74 [.int .i64 f]).alloc (.cells (ndL t.p (.slice q1 l1.length c1)).toArray 27)
  have hC1 := Cls.new (w.alloc (.cells #[.int .i64 f] 74)) 27 (ndL t.p (.slice q1 l1.length c1))
  rw [World.size_alloc] at hC1
  simp only [ndV, ndL] at hnd hdc hcc hbA hC0 hC1 ⊢
  refine calls_marks Tryz.func36 rfl ?_
  simp only [Tryz.ntmps36, List.size_toArray, List.length_cons, List.length_nil, Nat.reduceAdd, Nat.reduceSub, Array.replicate_succ, Array.replicate_zero, List.push_toArray, List.append_toArray, List.nil_append, List.cons_append]
  have HX := hid (And.intro hin (And.intro hfin (And.intro hT (And.intro hbA (And.intro hC0 hC1)))))
  clear hin hfin hT hbA hC0 hC1
  go_wp2_with fail
  refine wp_scope_straight ?_
  go_wp2_with fail
  obtain ⟨hin, hfin, hT, hbA, hC0, hC1⟩ := HX.out
  refine (hdc _ (hin.up hbA)).mono ?_
  rintro e w1 ⟨rfl, hb1⟩
  have hB1 : Below w.heap.size w w1 := hbA.trans (hb1.mono (by simp; omega))
  have p1 := hC1.below hb1
  have p0 := hC0.below hb1
  obtain ⟨x0, x1, x2, x3, x4, x5, x6, x7, x8⟩ : _ ∧ _ ∧ _ ∧ _ ∧ _ ∧ _ ∧ _ ∧ _ ∧ _ := ⟨p1.cell 0 rfl, p1.cell 1 rfl, p1.cell 2 rfl, p1.cell 3 rfl, p1.cell 4 rfl, p1.cell 5 rfl, p1.cell 6 rfl, p1.cell 7 rfl, p1.cell 8 rfl⟩
  have hT1 := hT.below hB1
  have e0 := hT1.c0
  by_cases hdp : 16 < t.dep
  · have hd2 : (16 : Int) < (t.dep : Nat) := by omega
    have hck : chk t f = 60 := by
      unfold chk Tr.right
      rw [decide_eq_false (by omega : ¬ t.dep ≤ 16), Bool.false_and, Bool.and_false]; rfl
    obtain rfl : C = 60 := HC.out.symm.trans hck
    have HY := hid hB1
    clear hin hfin hT hbA hC0 hC1 hb1 hB1 p1 p0 hT1 hdc hcc hnd hck hdp HX
    go_wp2
    rw [Exit.noGoto_ret]
    exact ⟨.iface 251 (.pointer (some ea)), by simp [results, Tryz.results36, go_sem], by rw [ckV, if_pos rfl], HY.out⟩
  · have hd2 : (t.dep : Int) ≤ 16 := by omega
    have hdd : decide ((16 : Int) < (t.dep : Nat)) = false := decide_eq_false (by omega)
    have HY := hid (And.intro hin (And.intro hfin (And.intro hT (And.intro hB1 (And.intro p0 (And.intro p1 (show t.dep ≤ 16 by omega)))))))
    clear hin hfin hT hbA hC0 hC1 hb1 hB1 p1 p0 hT1 hdc hdp HX e0
    go_wp2_with fail
    obtain ⟨hin, hfin, hT, hB1, p0, p1, hdp⟩ := HY.out
    refine (hcc _ (hin.up hB1)).mono ?_
    rintro e w2 ⟨rfl, hb2⟩
    clear x0 x1 x2 x3 x4 x5 x6 x7 x8
    have hB2 : Below w.heap.size w w2 := hB1.trans (hb2.mono hB1.size)
    have p1 := p1.below hb2
    have p0 := p0.below hb2
    obtain ⟨x0, x1, x2, x3, x4, x5, x6, x7, x8⟩ : _ ∧ _ ∧ _ ∧ _ ∧ _ ∧ _ ∧ _ ∧ _ ∧ _ := ⟨p1.cell 0 rfl, p1.cell 1 rfl, p1.cell 2 rfl, p1.cell 3 rfl, p1.cell 4 rfl, p1.cell 5 rfl, p1.cell 6 rfl, p1.cell 7 rfl, p1.cell 8 rfl⟩
    have e0 := (hT.below hB2).c0
    obtain ⟨K, hK⟩ : ∃ K, wrapI t.cnt = K := ⟨_, rfl⟩
    rw [hK]
    by_cases hkb : 300 < K
    · have hck : chk t f = 60 := by
        unfold chk Tr.right
        rw [hK, decide_eq_false (by omega : ¬ K ≤ 300), Bool.false_and]; rfl
      obtain rfl : C = 60 := HC.out.symm.trans hck
      have HZ := hid hB2
      clear hin hfin hT hb2 hB1 hB2 p1 p0 hcc hnd hck HY hK hdp
      go_wp2
      rw [Exit.noGoto_ret]
      exact ⟨.iface 251 (.pointer (some ea)), by simp [results, Tryz.results36, go_sem], by rw [ckV, if_pos rfl], HZ.out⟩
    · have HZ := hid (And.intro hin (And.intro hfin (And.intro hT (And.intro hB2 (And.intro p0 (And.intro p1 (And.intro hdp (And.intro hK hkb))))))))
      have hkz : K ≤ 300 := by omega
      have hkd : decide ((300 : Int) < K) = false := decide_eq_false (by omega)
      clear hin hfin hT hb2 hB1 hB2 p1 p0 hcc hdp hK hkb e0 HY
      go_wp2_with fail
      refine (kinds_calls _).mono ?_
      rintro e w3 ⟨rfl, rfl⟩
      obtain ⟨hin, hfin, hT, hB2, p0, p1, hdp, hK, hkb⟩ := HZ.out
      have p1' := ((p1.alloc (mapObj kindL)).alloc (.cells #[.map (some w2.heap.size)] 97)).alloc (.cells #[.nilIface] 70)
      clear x0 x1 x2 x3 x4 x5 x6 x7 x8
      obtain ⟨x0, x1, x2, x3, x4, x5, x6, x7, x8⟩ : _ ∧ _ ∧ _ ∧ _ ∧ _ ∧ _ ∧ _ ∧ _ ∧ _ := ⟨p1'.cell 0 rfl, p1'.cell 1 rfl, p1'.cell 2 rfl, p1'.cell 3 rfl, p1'.cell 4 rfl, p1'.cell 5 rfl, p1'.cell 6 rfl, p1'.cell 7 rfl, p1'.cell 8 rfl⟩
      clear hin hfin hT hB2 p0 p1 hdp hK hkb p1'
      go_wp2_with fail
      first | refine wp_label ?_ | refine wp_seq (wp_label ?_)
      go_wp2_with fail
      refine (hnd _).mono ?_
      rintro e w3 ⟨rfl, rfl⟩
      go_wp2
      obtain ⟨hin, hfin, hT, hB2, p0, p1, hdp, hKK, hkb⟩ := HZ.out
      obtain ⟨W0, hW0, hsz0, hI0, hC0⟩ : ∃ W0, ((((w2.alloc (mapObj kindL)).alloc (.cells #[.map (some w2.heap.size)] 97)).alloc (.cells #[.nilIface] 70)).alloc (.cells #[.int .i64 t.p.k, .bool t.p.b, .bool t.p.n, .string t.p.dg, .int .i64 t.p.ex, .int .u64 t.p.u, .int .i64 t.p.w, .string t.p.s, .slice q1 l1.length c1] 27)) = W0 ∧ W0.heap.size = w2.heap.size + 4 ∧ CkI w f w.heap.size (w2.heap.size + 1) (w2.heap.size + 1 + 1) w2.heap.size .nilIface W0 ∧ Cls W0 (w2.heap.size + 1 + 1 + 1) 27 (ndL t.p (.slice q1 l1.length c1)) := by
        have bm := MapI.new w2 kindL
        have b5 := Boxed.new (w2.alloc (mapObj kindL)) 97 (.map (some w2.heap.size))
        have b6 := Boxed.new ((w2.alloc (mapObj kindL)).alloc (.cells #[.map (some w2.heap.size)] 97)) 70 .nilIface
        have b7 := Cls.new (((w2.alloc (mapObj kindL)).alloc (.cells #[.map (some w2.heap.size)] 97)).alloc (.cells #[.nilIface] 70)) 27 (ndL t.p (.slice q1 l1.length c1))
        simp only [World.size_alloc] at b5 b6 b7
        have hA := (((below_alloc w2 (mapObj kindL)).alloc (by simp) (.cells #[.map (some w2.heap.size)] 97)).alloc (by simp; omega) (.cells #[.nilIface] 70)).alloc (by simp; omega) (.cells #[.int .i64 t.p.k, .bool t.p.b, .bool t.p.n, .string t.p.dg, .int .i64 t.p.ex, .int .u64 t.p.u, .int .i64 t.p.w, .string t.p.s, .slice q1 l1.length c1] 27)
        exact ⟨_, rfl, by simp, ⟨p0.below hA, (b5.alloc _).alloc _, ((bm.below (below_alloc _ _)).below (below_alloc _ _)).below (below_alloc _ _), b6.alloc _, hB2.trans (hA.mono hB2.size)⟩, b7⟩
      have hw2s : w.heap.size + 2 ≤ w2.heap.size := p1.lt
      rw [hW0]
      clear hW0 hnd p0 p1 x0 x1 x2 x3 x4 x5 x6 x7 x8
      refine rangeOverP (gf := 89) (lb := #[.pointer (some ⟨w2.heap.size + 1 + 1 + 1, 0, none⟩)]) rfl (enters_of Tryz.func89 (by kernel_rfl) rfl)
        (nodes_iter t hfin _ w W0 _ hin hC0 hI0.below) (Below.refl _ _) (fun _ => rfl)
        (fun A B h => ⟨h.size, fun k o _ h1 _ => (h.block k (Array.getElem?_eq_some_iff.1 h1).1).trans h1⟩) (fun h k => h.trans k) (fun W l o o' hl h hc hw => KpN.putObj W l o o' h hc)
        (ownFrom_pure _ _) (ownFrom_pure _ _)
        (fun pre W => (∀ z, z ∈ pre → ownP z.2.p z.2.l = true) ∧ W0.heap.size ≤ W.heap.size ∧ CkI w f w.heap.size (w2.heap.size + 1) (w2.heap.size + 1 + 1) w2.heap.size (fmV eb (fitsAll f pre)) W)
        (fun c pre W => c = .exit 0 ∧ (∃ x, x ∈ t.flat ∧ ownP x.p x.l = false) ∧ W0.heap.size ≤ W.heap.size ∧ CkI w f w.heap.size (w2.heap.size + 1) (w2.heap.size + 1 + 1) w2.heap.size (.iface 251 (.pointer (some ea))) W)
        ?hI (fun _ => ?hIx) ?hII ?hIxI ⟨(fun z hz => by cases hz), Nat.le_refl _, hI0⟩
        (fun x a' W => ∃ q, W0.heap.size ≤ q ∧ q < W.heap.size ∧ Cls W q 27 (ndL x.2.p x.1) ∧ a' = { tmps := #[.agg #[.int .i64 f], .agg #[.int .i64 t.p.k, .bool t.p.b, .bool t.p.n, .string t.p.dg, .int .i64 t.p.ex, .int .u64 t.p.u, .int .i64 t.p.w, .string t.p.s, .slice q1 l1.length c1], .pointer (some ⟨w.heap.size, 0, none⟩), .pointer (some ⟨w.heap.size + 1, 0, none⟩), .nilIface, .pointer (some ⟨w2.heap.size + 1, 0, none⟩), .pointer (some ⟨w2.heap.size + 1 + 1, 0, none⟩), .pointer (some ⟨q, 0, none⟩), undef, undef, .agg #[.int .i64 t.p.k, .bool t.p.b, .bool t.p.n, .string t.p.dg, .int .i64 t.p.ex, .int .u64 t.p.u, .int .i64 t.p.w, .string t.p.s, .slice q1 l1.length c1], .int .i64 (t.dep : Nat), .bool false, .bool false, .agg #[.int .i64 t.p.k, .bool t.p.b, .bool t.p.n, .string t.p.dg, .int .i64 t.p.ex, .int .u64 t.p.u, .int .i64 t.p.w, .string t.p.s, .slice q1 l1.length c1], .int .i64 K, .bool false, .bool false, undef, .map (some w2.heap.size), .agg #[.int .i64 t.p.k, .bool t.p.b, .bool t.p.n, .string t.p.dg, .int .i64 t.p.ex, .int .u64 t.p.u, .int .i64 t.p.w, .string t.p.s, .slice q1 l1.length c1], .func (.func 89) #[] #[.pointer (some ⟨w2.heap.size + 1 + 1 + 1, 0, none⟩)], ndV x.2.p x.1, undef, undef, undef, undef, undef, undef, undef, undef, undef, undef, undef, undef, undef, undef, undef, undef, undef, undef, undef, undef, undef, undef, undef, undef, undef], defers := [] })
        ?hAx ?assign ?body ?done ?stop
      case hI => exact ownFrom_of (fun s W W' h hk hb => ⟨h.1, Nat.le_trans h.2.1 hb.size, h.2.2.next hk hb (by omega) (by omega)⟩) (fun s W h => h.2.1)
      case hIx => exact ownFrom_of (fun s W W' h hk hb => ⟨h.1, h.2.1, Nat.le_trans h.2.2.1 hb.size, h.2.2.2.next hk hb (by omega) (by omega)⟩) (fun s W h => h.2.2.1)
      case hII => exact fun s A B h hb => ⟨h.1, Nat.le_trans h.2.1 hb.size, h.2.2.below' hb⟩
      case hIxI => exact fun c s A B h hb => ⟨h.1, h.2.1, Nat.le_trans h.2.2.1 hb.size, h.2.2.2.below' hb⟩
      case hAx => exact fun i a' => ownFrom_of (fun s W W' ⟨q, h1, h2, h3, h4⟩ hk hb => ⟨q, h1, Nat.lt_of_lt_of_le h2 hb.size, hk _ _ _ _ h3, h4⟩) (fun s W ⟨q, h1, h2, h3, h4⟩ => by omega)
      case assign =>
        rintro l pre ⟨xs, x⟩ W K' hi ⟨hox, hoy⟩ hK'
        dsimp only at hox hoy
        obtain ⟨l2, q2, n2, c2, f2, -, g2, rfl, -⟩ := InT.inv hox
        subst g2
        have hA := below_alloc W (.cells (ndL x.p (.slice q2 l2.length c2)).toArray 27)
        have hC := Cls.new W 27 (ndL x.p (.slice q2 l2.length c2))
        have HV := hid (And.intro hA (And.intro hC (And.intro hi (And.intro hox (And.intro hoy hsz0)))))
        clear hA hC hi hox hoy hin hfin hT hB2 hI0 hC0 hdp hKK hkb hw2s hsz0
        simp only [encNd, ndV, ndL] at hK' ⊢
        gi_wp2
        obtain ⟨hA, hC, hi, hox, hoy, hsz0⟩ := HV.out
        refine hK' _ _ ((KeepsOthers.alloc W _).from _) (KpN.of_below (hA.mono (Nat.le_refl _))) ⟨hi.1, Nat.le_trans hi.2.1 hA.size, hi.2.2.below' hA⟩ ⟨W.heap.size, hi.2.1, by simp, hC, rfl⟩
      case body =>
        rintro l pre ⟨xs, x⟩ a' W hl ⟨hpre, hsW, hi⟩ ⟨q, hq1, hq2, hC, rfl⟩ ⟨hox, hoy⟩
        dsimp only at hC hox hoy
        obtain ⟨l2, q2, n2, c2, f2, -, g2, rfl, -⟩ := InT.inv hox
        subst g2
        have hxf := List.mem_of_getElem? hoy
        have hxfine : (Tr.nd x.p x.l).fine := by rw [← Tr.eta]; exact fine_flat t hfin x hxf
        have hTW := hT.below hi.below
        have hinW : InT W (ndV x.p (.slice q2 l2.length c2)) (.nd x.p x.l) := by rw [← Tr.eta]; exact hox.up hi.below
        have hlk := kind_look x.p.k W w2.heap.size hi.map
        have e0 := hTW.c0
        have k0 := hi.chk.cell 0 rfl
        have m5 := hi.all.cell
        have r6 := hi.wrong.cell
        have z6 := hi.wrong.frozen
        obtain ⟨y0, y1, y2, y3, y4, y5, y6, y7, y8⟩ : _ ∧ _ ∧ _ ∧ _ ∧ _ ∧ _ ∧ _ ∧ _ ∧ _ := ⟨hC.cell 0 rfl, hC.cell 1 rfl, hC.cell 2 rfl, hC.cell 3 rfl, hC.cell 4 rfl, hC.cell 5 rfl, hC.cell 6 rfl, hC.cell 7 rfl, hC.cell 8 rfl⟩
        have HV := hid (And.intro hpre (And.intro hsW (And.intro hi (And.intro hC (And.intro hox (And.intro hxf (And.intro hxfine (And.intro hTW (And.intro hinW (And.intro hsz0 (And.intro hw2s (And.intro hq1 hq2))))))))))))
        cases hF : kindF x.p.k with
        | none =>
          have hown : ownP x.p x.l = false := ownP_none (fun h => by
            rcases kindF_cases x.p.k with ⟨i, hi⟩ | ⟨h1, -⟩
            · rw [hi] at hF
              rcases i with ⟨i, hi2⟩
              rcases (show i = 0 ∨ i = 1 ∨ i = 2 ∨ i = 3 ∨ i = 4 ∨ i = 5 ∨ i = 6 ∨ i = 7 ∨ i = 8 ∨ i = 9 ∨ i = 10 by omega) with rfl | rfl | rfl | rfl | rfl | rfl | rfl | rfl | rfl | rfl | rfl <;> cases hF
            · exact h1 ⟨(x.p.k - 1).toNat, by omega⟩ (by show x.p.k = (((x.p.k - 1).toNat : Nat) : Int) + 1; omega))
          rw [hF] at hlk
          simp only [Option.elim, Option.isSome] at hlk
          have HU := hid hown
          clear hpre hsW hi hC hox hoy hxf hxfine hTW hinW hown hF hin hfin hT hB2 hI0 hC0 hdp hKK hkb hw2s hsz0 hq1 hq2
          gi_wp2
          refine ⟨(fun f h => by cases h), ?_⟩
          gi_wp2
          obtain ⟨hpre, hsW, hi, hC, hox, hxf, hxfine, hTW, hinW, hsz0, hw2s, hq1, hq2⟩ := HV.out
          refine ⟨(KeepsOthers.setCell _ _ _).from _, rfl, ⟨x, hxf, HU.out⟩, by rw [setCell_size]; exact hsW, hi.put (by omega) (by omega) (by omega) (by omega) _⟩
        | some F =>
          have eF := kindF_enters hF
          rw [hF] at hlk
          simp only [Option.elim, Option.isSome] at hlk
          have his := is_calls f x.p x.l hxfine (.slice q2 l2.length c2) W hTW hinW hF
          obtain ⟨own, hown⟩ : ∃ own, ownP x.p x.l = own := ⟨_, rfl⟩
          rw [hown] at his
          have HU := hid hown
          clear hpre hsW hi hC hox hoy hxf hxfine hTW hinW hown hF hin hfin hT hB2 hI0 hC0 hdp hKK hkb hw2s hsz0 hq1 hq2
          simp only [ndV, ndL] at his
          gi_wp2_with fail
          refine callR his ?_
          rintro e W1 ⟨rfl, hb1⟩
          obtain ⟨hpre, hsW, hi, hC, hox, hxf, hxfine, hTW, hinW, hsz0, hw2s, hq1, hq2⟩ := HV.out
          clear e0 k0 m5 r6 z6 y0 y1 y2 y3 y4 y5 y6 y7 y8
          have hi1 := hi.below' hb1
          have hC1 := hC.below hb1
          have e0 := (hTW.below hb1).c0
          have k0 := hi1.chk.cell 0 rfl
          have r6 := hi1.wrong.cell
          have z6 := hi1.wrong.frozen
          cases own with
          | false =>
            have HS := hid (And.intro hi1 hb1)
            clear hpre hsW hi hC hox hxf hxfine hTW hinW hsz0 hw2s hq1 hq2 hi1 hC1 hb1 his
            gi_wp2
            obtain ⟨hpre, hsW, hi, hC, hox, hxf, hxfine, hTW, hinW, hsz0, hw2s, hq1, hq2⟩ := HV.out
            obtain ⟨hi1, hb1⟩ := HS.out
            refine ⟨((keeps_below hb1).trans (KeepsOthers.setCell _ _ _)).from _, rfl, ⟨x, hxf, HU.out⟩, by rw [setCell_size]; exact Nat.le_trans hsW hb1.size, hi1.put (by omega) (by omega) (by omega) (by omega) _⟩
          | true =>
            obtain ⟨y0, y1, y2, y3, y4, y5, y6, y7, y8⟩ : _ ∧ _ ∧ _ ∧ _ ∧ _ ∧ _ ∧ _ ∧ _ ∧ _ := ⟨hC1.cell 0 rfl, hC1.cell 1 rfl, hC1.cell 2 rfl, hC1.cell 3 rfl, hC1.cell 4 rfl, hC1.cell 5 rfl, hC1.cell 6 rfl, hC1.cell 7 rfl, hC1.cell 8 rfl⟩
            have hfits := fits_calls f x.p x.l hxfine HU.out (.slice q2 l2.length c2) W1 (hTW.below hb1).tabs (hinW.up hb1)
            obtain ⟨ft, hft⟩ : ∃ ft, fitN x.p x.l f = ft := ⟨_, rfl⟩
            rw [hft] at hfits
            have HS := hid (And.intro hi1 (And.intro hb1 hft))
            clear hpre hsW hi hC hox hxf hxfine hTW hinW hsz0 hw2s hq1 hq2 hi1 hC1 hb1 his hft
            simp only [ndV, ndL] at hfits
            gi_wp2_with fail
            refine callR hfits ?_
            rintro e W2 ⟨rfl, hb2⟩
            obtain ⟨hpre, hsW, hi, hC, hox, hxf, hxfine, hTW, hinW, hsz0, hw2s, hq1, hq2⟩ := HV.out
            obtain ⟨hi1, hb1, hft⟩ := HS.out
            clear e0 k0 r6 z6 y0 y1 y2 y3 y4 y5 y6 y7 y8
            have hi2 := hi1.below' hb2
            have e1 := ((hTW.below hb1).below hb2).c1
            have r6 := hi2.wrong.cell
            have z6 := hi2.wrong.frozen
            have hpre2 : ∀ z, z ∈ pre ++ [((.slice q2 l2.length c2 : Value), x)] → ownP z.2.p z.2.l = true := fun z hz => by
              rcases List.mem_append.1 hz with hz | hz
              · exact hpre z hz
              · rw [List.mem_singleton] at hz; subst hz; exact HU.out
            have hfa : fitsAll f (pre ++ [((.slice q2 l2.length c2 : Value), x)]) = (fitsAll f pre && ft) := by
              unfold fitsAll
              rw [List.all_append, List.all_cons, List.all_nil, Bool.and_true, hft]
            have HR := hid (And.intro hi2 (And.intro hb2 (And.intro hpre2 hfa)))
            clear hpre hsW hi hC hox hxf hxfine hTW hinW hsz0 hw2s hq1 hq2 hi1 hb1 hft hi2 hb2 hpre2 hfa hfits
            cases ft with
            | true =>
              gi_wp2
              obtain ⟨hpre, hsW, hi, hC, hox, hxf, hxfine, hTW, hinW, hsz0, hw2s, hq1, hq2⟩ := HV.out
              obtain ⟨hi1, hb1, hft⟩ := HS.out
              obtain ⟨hi2, hb2, hpre2, hfa⟩ := HR.out
              exact ⟨((keeps_below hb1).trans (keeps_below hb2)).from _, (KpN.of_below hb1).trans (KpN.of_below hb2), hpre2, Nat.le_trans hsW (Nat.le_trans hb1.size hb2.size), by rw [hfa, Bool.and_true]; exact hi2⟩
            | false =>
              gi_wp2
              obtain ⟨hpre, hsW, hi, hC, hox, hxf, hxfine, hTW, hinW, hsz0, hw2s, hq1, hq2⟩ := HV.out
              obtain ⟨hi1, hb1, hft⟩ := HS.out
              obtain ⟨hi2, hb2, hpre2, hfa⟩ := HR.out
              exact ⟨(((keeps_below hb1).trans (keeps_below hb2)).trans (KeepsOthers.setCell _ _ _)).from _, ((KpN.of_below hb1).trans (KpN.of_below hb2)).trans (KpN.setCell _ _ _ (by show w.heap.size ≤ w2.heap.size + 1 + 1; omega) (by show w2.heap.size + 1 + 1 < W0.heap.size; omega)), hpre2, by rw [setCell_size]; exact Nat.le_trans hsW (Nat.le_trans hb1.size hb2.size), by rw [hfa, Bool.and_false]; exact hi2.put (by omega) (by omega) (by omega) (by omega) _⟩
      case done =>
        rintro D xs W hD hxl ⟨hpre, hsW, hi⟩ hK
        have hall : t.all = true := by
          rw [flat_all, List.all_eq_true]
          intro x hx
          rw [← hxl] at hx
          obtain ⟨z, hz, rfl⟩ := List.mem_map.1 hx
          exact hpre z hz
        have hfa : fitsAll f xs = t.fit f := by
          rw [flat_fit, ← hxl, List.all_map]; rfl
        have hck : chk t f = if t.fit f = true then 0 else 61 := by
          unfold chk Tr.right
          rw [hKK, hall, decide_eq_true hkb, decide_eq_true hdp]
          rfl
        have r6 := hi.wrong.cell
        have HR := hid (And.intro hi (And.intro hsz0 (And.intro hD (And.intro hK (And.intro hfa hck)))))
        clear hi hK hD hxl hin hfin hI0 hC0 hsz0 hpre hsW hall hfa hck hT hB2 hdp hkb hKK
        go_wp2
        rw [Exit.noGoto_ret]
        obtain ⟨hi, hsz, hD, hK, hfa, hck⟩ := HR.out
        refine ⟨by simp, .inl ⟨_, _, rfl, run_takeDeferred hK, ?_⟩⟩
        refine ⟨fmV eb (fitsAll f xs), by simp [results, Tryz.results36, go_sem], ?_, hi.below.trans (belowK_b (w := w) (Nat.le_refl _) _ D _ _ (by omega) hK rfl rfl)⟩
        rw [← HC.out, hck, hfa]
        cases t.fit f
        · rfl
        · rfl
      case stop =>
        rintro D c pre W hD - ⟨rfl, ⟨x, hx, hxo⟩, hsW, hi⟩ hK
        have hck : chk t f = 60 := by
          have hall : t.all = false := by
            rw [← Bool.not_eq_true, flat_all, List.all_eq_true]
            intro h
            rw [h x hx] at hxo
            cases hxo
          unfold chk Tr.right
          rw [hall, Bool.and_false, Bool.and_false]; rfl
        have r6 := hi.wrong.cell
        have HR := hid (And.intro hi (And.intro hsz0 (And.intro hD (And.intro hK hck))))
        clear hi hK hD hin hfin hI0 hC0 hsz0 hsW hck hT hB2 hdp hkb hKK hx hxo
        go_wp2
        rw [Exit.noGoto_ret]
        obtain ⟨hi, hsz, hD, hK, hck⟩ := HR.out
        refine ⟨by simp, .inl ⟨_, _, rfl, run_takeDeferred hK, ?_⟩⟩
        refine ⟨.iface 251 (.pointer (some ea)), by simp [results, Tryz.results36, go_sem], ?_, hi.below.trans (belowK_b (w := w) (Nat.le_refl _) _ D _ _ (by omega) hK rfl rfl)⟩
        rw [← HC.out, hck]
        rfl
end Go.Proofs.YtpjlepkdiaohiaaGreatDoor

/- errors.Is at this seat's program: where the target is one of the program's own errors (after the kit's worked example). -/
namespace Go.Proofs.YtpjlepkdiaohiaaGreatDoor
open Go.RowKit Go.Extern.Stop Go.Stop Go.Extern

/-- what the method Comparable does. -/
def cmpM : TypeId → Sem Value := fun t => do Rtype.noPackHeld "Comparable" t; pure (.bool (← typeInfo t).comparable)
theorem isTypeOf (v : Value) (w : World) : (Extern.ReflectliteType.typeOf #[.iface 251 v]).run Tryz.prog w = .ok (.iface 133 (.agg #[.pointer (some ⟨13, 251, none⟩)])) w := by kernel_rfl
theorem isComparable (w : World) : ((Extern.ReflectliteType.method cmpM) #[.agg #[.pointer (some ⟨13, 251, none⟩)]]).run Tryz.prog w = .ok (.bool true) w := by kernel_rfl
theorem isMethodComparable (v : Value) (w : World) : (Go.method 388 133 v "Comparable").run Tryz.prog w = .ok (249, v) w := by kernel_rfl
theorem isComp : (Tryz.prog.info? 251).map (·.comparable) = some true := by kernel_rfl
theorem isSize : (Tryz.prog.info? 253).map (·.size) = some 1 := by kernel_rfl
theorem noIsE (v : Value) (xT : TypeId) (w : World) : (Instr.typeAssert (.iface 251 v) xT 135 true).run Tryz.prog w = .ok (.tuple #[.nilIface, .bool false]) w := run_typeAssert_lacksB Tryz.underlying135 (by kernel_rfl) (by kernel_rfl) v xT w
theorem noUnwrapE (v : Value) (xT : TypeId) (w : World) : (Instr.typeAssert (.iface 251 v) xT 138 true).run Tryz.prog w = .ok (.tuple #[.nilIface, .bool false]) w := run_typeAssert_lacksB Tryz.underlying138 (by kernel_rfl) (by kernel_rfl) v xT w
theorem noUnwrapsE (v : Value) (xT : TypeId) (w : World) : (Instr.typeAssert (.iface 251 v) xT 140 true).run Tryz.prog w = .ok (.tuple #[.nilIface, .bool false]) w := run_typeAssert_lacksB Tryz.underlying140 (by kernel_rfl) (by kernel_rfl) v xT w

set_option maxRecDepth 100000 in
set_option maxHeartbeats 4000000 in
theorem is_same (a : Addr) (w : World) :
    Calls Tryz.prog 37 #[.iface 251 (.pointer (some a)), .iface 251 (.pointer (some a))] w fun e w' => e = .returned (.bool true) ∧ w' = w := by
  obtain ⟨i, hi, hcmp⟩ := Option.map_eq_some_iff.1 isComp
  obtain ⟨j, hj, hjs⟩ := Option.map_eq_some_iff.1 isSize
  have h8 := @run_callFunc_extern Tryz.prog 55 _ Extern.ReflectliteType.typeOf Tryz.func55 (by kernel_rfl) (by kernel_rfl) (by kernel_rfl) (by kernel_rfl)
  have h32 := @run_callFunc_extern Tryz.prog 249 _ (Extern.ReflectliteType.method cmpM) Tryz.func249 (by kernel_rfl) (by kernel_rfl) (by kernel_rfl) (by kernel_rfl)
  have tT := isTypeOf
  have cT := isComparable
  have mR := isMethodComparable
  have heq := run_eql_iface_ptr_same (P := Tryz.prog) w a Tryz.underlying70 Tryz.underlying251 hi hcmp hj
  go_enter Tryz.func37, Tryz.ntmps37
  go_wp2
  refine wp_loop_rounds 1 ?_
  rw [rounds_succ]
  go_wp2
  go_ret
  exact ⟨rfl, rfl⟩

set_option maxRecDepth 100000 in
set_option maxHeartbeats 4000000 in
theorem is_nil (b : Addr) (w : World) :
    Calls Tryz.prog 37 #[.nilIface, .iface 251 (.pointer (some b))] w fun e w' => e = .returned (.bool false) ∧ w' = w := by
  have hn := run_eql_iface_nil_left (P := Tryz.prog) w 251 (.pointer (some b)) Tryz.underlying70
  go_enter Tryz.func37, Tryz.ntmps37
  go_wp2
  go_ret
  exact ⟨rfl, rfl⟩

set_option maxRecDepth 100000 in
set_option maxHeartbeats 4000000 in
theorem is_other (a b : Addr) (ca cb : Array Value) (ta tb : TypeId) (w : World) (hne : a ≠ b) (ha : w.heap[a.block]? = some (.cells ca ta (0, 0))) (hb : w.heap[b.block]? = some (.cells cb tb (0, 0))) :
    Calls Tryz.prog 37 #[.iface 251 (.pointer (some a)), .iface 251 (.pointer (some b))] w fun e w' => e = .returned (.bool false) ∧ w' = w := by
  obtain ⟨i, hi, hcmp⟩ := Option.map_eq_some_iff.1 isComp
  obtain ⟨j, hj, hjs⟩ := Option.map_eq_some_iff.1 isSize
  have h8 := @run_callFunc_extern Tryz.prog 55 _ Extern.ReflectliteType.typeOf Tryz.func55 (by kernel_rfl) (by kernel_rfl) (by kernel_rfl) (by kernel_rfl)
  have h32 := @run_callFunc_extern Tryz.prog 249 _ (Extern.ReflectliteType.method cmpM) Tryz.func249 (by kernel_rfl) (by kernel_rfl) (by kernel_rfl) (by kernel_rfl)
  have tT := isTypeOf
  have cT := isComparable
  have mR := isMethodComparable
  have nE := noIsE
  have uE := noUnwrapE
  have vE := noUnwrapsE
  have heq := run_eql_iface_ptr_other (P := Tryz.prog) w Tryz.underlying70 Tryz.underlying251 hi hcmp hj (by rw [hjs]; decide) hne ha hb
  go_enter Tryz.func37, Tryz.ntmps37
  go_wp2
  refine wp_loop_rounds 1 ?_
  rw [rounds_succ]
  go_wp2
  go_ret
  exact ⟨rfl, rfl⟩
end Go.Proofs.YtpjlepkdiaohiaaGreatDoor

/- Package tree: Check, Right: walked. -/
namespace Go.Proofs.YtpjlepkdiaohiaaGreatDoor
open Go.RowKit
attribute [local go_sem] Oper.semAt_some

theorem chk_cases (t : Tr) (f : Int) : chk t f = 60 ∨ chk t f = 61 ∨ chk t f = 0 := by
  unfold chk
  cases t.right
  · exact .inl rfl
  · cases t.fit f
    · exact .inr (.inl rfl)
    · exact .inr (.inr rfl)
set_option maxRecDepth 100000 in
set_option maxHeartbeats 4000000 in
theorem check_calls (t : Tr) (hfin : t.fine) (hdep : t.dep ≤ 1000) (f : Int) (sl : Value) (w : World) {ea eb : Addr} (hT : TabT w ea eb) (hin : InT w (ndV t.p sl) t) :
    Calls Tryz.prog 26 #[ndV t.p sl, .int .i64 f] w fun e w' => e = .returned (.int .i64 (chk t f)) ∧ Below w.heap.size w w' := by
  have hbb := below_alloc w (.cells (ndL t.p sl).toArray 27)
  have hcall := checked_calls f t hfin hdep sl _ (hT.below hbb) (hin.up hbb)
  have hCC := chk_cases t f
  obtain ⟨C, hC⟩ : ∃ C, chk t f = C := ⟨_, rfl⟩
  rw [hC] at hcall hCC ⊢
  obtain ⟨l1, q1, n1, c1, f1, -, g1, rfl, -⟩ := InT.inv hin
  subst g1
  have HX := hid (And.intro hbb hT)
  clear hin hT hfin hbb hC
  simp only [ndV, ndL] at hcall ⊢
  go_enter Tryz.func26, Tryz.ntmps26
  go_wp2_with fail
  refine hcall.mono ?_
  rintro e w1 ⟨rfl, hb1⟩
  have hw1 := HX.out.1.trans (hb1.mono HX.out.1.size)
  have hT1 := HX.out.2.below hw1
  have e0 := hT1.c0
  have e1 := hT1.c1
  obtain ⟨ca, ta, ha⟩ := hT1.h0
  obtain ⟨cb, tb, hb⟩ := hT1.h1
  have hs0 := is_same ea w1
  have hs1 := is_same eb w1
  have ho := is_other eb ea cb ca tb ta w1 (Ne.symm hT1.ne) hb ha
  have hn0 := is_nil ea w1
  have hn1 := is_nil eb w1
  have HY := hid hw1
  clear hb1 hcall HX hw1 hT1 ha hb
  rcases hCC with rfl | rfl | rfl
  · clear hs1 ho hn0 hn1
    rw [show ckV ea eb 60 = .iface 251 (.pointer (some ea)) from rfl]
    go_wp2_with fail
    refine hs0.mono ?_
    rintro e w2 ⟨rfl, rfl⟩
    clear hs0
    go_wp2
    go_ret
    exact ⟨rfl, HY.out⟩
  · clear hs0 hn0 hn1
    rw [show ckV ea eb 61 = .iface 251 (.pointer (some eb)) from rfl]
    go_wp2_with fail
    refine ho.mono ?_
    rintro e w2 ⟨rfl, rfl⟩
    clear ho
    go_wp2_with fail
    refine hs1.mono ?_
    rintro e w2 ⟨rfl, rfl⟩
    clear hs1
    go_wp2
    go_ret
    exact ⟨rfl, HY.out⟩
  · clear hs0 hs1 ho
    rw [show ckV ea eb 0 = .nilIface from rfl]
    go_wp2_with fail
    refine hn0.mono ?_
    rintro e w2 ⟨rfl, rfl⟩
    clear hn0
    go_wp2_with fail
    refine hn1.mono ?_
    rintro e w2 ⟨rfl, rfl⟩
    clear hn1
    go_wp2
    go_ret
    exact ⟨rfl, HY.out⟩

end Go.Proofs.YtpjlepkdiaohiaaGreatDoor

