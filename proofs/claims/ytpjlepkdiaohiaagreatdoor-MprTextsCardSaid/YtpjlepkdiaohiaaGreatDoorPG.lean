/- PG: TrN MapI TrJ TrL. -/
import Derived.Test.YtpjlepkdiaohiaaGreatDoorPF
import Derived.Test.YtpjlepkdiaohiaaGreatDoorPE
import Derived.Test.YtpjlepkdiaohiaaGreatDoorShelfB
import Derived.Maps.OwnOps
import Derived.Below
/- Package tree: how nodes are checked, kind by kind: walked. -/
namespace Go.Proofs.YtpjlepkdiaohiaaGreatDoor
open Go.RowKit
attribute [local go_sem] Oper.semAt_some

theorem Utf8Tabs_up {a b : Nat} {w W : World} (h : Lib.Utf8Tabs a b w) (hb : Below w.heap.size w W) : Lib.Utf8Tabs a b W := Utf8Tabs_below h hb
set_option maxHeartbeats 1000000 in
theorem utfRight_calls (s : ByteArray) (hs : s.size ≤ 9223372036854775807) (w : World) (hT : Lib.Utf8Tabs 5 6 w) :
    Calls Tryz.prog 126 #[.string s] w fun e w' => e = .returned (.bool (utfOk s)) ∧ Below w.heap.size w w' := by
  have hv := TryzB.utf8_ValidString s w hs hT
  clear hT
  go_enter Tryz.func126, Tryz.ntmps126
  go_wp2_with fail
  refine hv.mono ?_
  rintro e w1 ⟨rfl, hb1⟩
  clear hv
  go_wp2
  go_ret
  exact ⟨rfl, hb1⟩

set_option maxRecDepth 100000 in
set_option maxHeartbeats 4000000 in
theorem isNull_calls (f : Int) (p : Pay) (l : List Tr) (hfin : (Tr.nd p l).fine) (sl : Value) (w : World) (hin : InT w (ndV p sl) (.nd p l)) :
    Calls Tryz.prog 78 #[.agg #[.int .i64 f], ndV p sl] w fun e w' => e = .returned (.bool (l.isEmpty && onlyP p (Pay.z))) ∧ Below w.heap.size w w' := by
  obtain ⟨l', a, na, c, fa, e1, rfl, rfl, hla⟩ := InT.inv hin
  obtain rfl : l = l' := (Tr.nd.inj e1).2
  clear e1
  have hbr := fun W h => bare_calls p (Pay.z) l hfin (.slice a l.length c) W h
  obtain ⟨B, hB⟩ : ∃ B, (l.isEmpty && onlyP p (Pay.z)) = B := ⟨_, rfl⟩
  rw [hB] at hbr ⊢
  have hbb : Below w.heap.size w ((w.alloc (.cells #[.int .i64 f] 74)).alloc (.cells (ndL p (.slice a l.length c)).toArray 27)) := (below_alloc w _).alloc (by simp) _
  have hbx := Cls.new (w.alloc (.cells #[.int .i64 f] 74)) 27 (ndL p (.slice a l.length c))
  have hbc := (Cls.new w 74 [.int .i64 f]).alloc (.cells (ndL p (.slice a l.length c)).toArray 27)
  rw [World.size_alloc] at hbx
  have hin2 := hin.up hbb
  have HX := hid (And.intro hbb (And.intro hbx (And.intro hbc (And.intro hin2 (And.intro hla hfin)))))
  clear hbb hbx hbc hin2 hla hfin hin hB
  simp only [ndV, ndL] at HX ⊢
  go_enter Tryz.func78, Tryz.ntmps78
  go_wp2_with fail
  refine (hbr _ HX.out.2.2.2.1).mono ?_
  rintro e w1 ⟨rfl, hb1⟩
  obtain ⟨hbb, hbx, hbc, hin2, hla, hfin⟩ := HX.out
  have hw1 := hbb.trans (hb1.mono (by simp; omega))
  have hx1 := hbx.below hb1
  have d0 := hx1.cell 0 rfl
  have d1 := hx1.cell 1 rfl
  have d2 := hx1.cell 2 rfl
  have d3 := hx1.cell 3 rfl
  have d4 := hx1.cell 4 rfl
  have d5 := hx1.cell 5 rfl
  have d6 := hx1.cell 6 rfl
  have d7 := hx1.cell 7 rfl
  have d8 := hx1.cell 8 rfl
  clear hbr hbb hbx hbc hin2 hla hfin hb1 hx1
  go_wp2
  go_ret
  exact ⟨rfl, hw1⟩

set_option maxRecDepth 100000 in
set_option maxHeartbeats 4000000 in
theorem isBool_calls (f : Int) (p : Pay) (l : List Tr) (hfin : (Tr.nd p l).fine) (sl : Value) (w : World) (hin : InT w (ndV p sl) (.nd p l)) :
    Calls Tryz.prog 79 #[.agg #[.int .i64 f], ndV p sl] w fun e w' => e = .returned (.bool (l.isEmpty && onlyP p ({ Pay.z with b := p.b }))) ∧ Below w.heap.size w w' := by
  obtain ⟨l', a, na, c, fa, e1, rfl, rfl, hla⟩ := InT.inv hin
  obtain rfl : l = l' := (Tr.nd.inj e1).2
  clear e1
  have hbr := fun W h => bare_calls p ({ Pay.z with b := p.b }) l hfin (.slice a l.length c) W h
  obtain ⟨B, hB⟩ : ∃ B, (l.isEmpty && onlyP p ({ Pay.z with b := p.b })) = B := ⟨_, rfl⟩
  rw [hB] at hbr ⊢
  have hbb : Below w.heap.size w ((w.alloc (.cells #[.int .i64 f] 74)).alloc (.cells (ndL p (.slice a l.length c)).toArray 27)) := (below_alloc w _).alloc (by simp) _
  have hbx := Cls.new (w.alloc (.cells #[.int .i64 f] 74)) 27 (ndL p (.slice a l.length c))
  have hbc := (Cls.new w 74 [.int .i64 f]).alloc (.cells (ndL p (.slice a l.length c)).toArray 27)
  rw [World.size_alloc] at hbx
  have hin2 := hin.up hbb
  have HX := hid (And.intro hbb (And.intro hbx (And.intro hbc (And.intro hin2 (And.intro hla hfin)))))
  clear hbb hbx hbc hin2 hla hfin hin hB
  simp only [ndV, ndL] at HX ⊢
  go_enter Tryz.func79, Tryz.ntmps79
  go_wp2_with fail
  refine (hbr _ HX.out.2.2.2.1).mono ?_
  rintro e w1 ⟨rfl, hb1⟩
  obtain ⟨hbb, hbx, hbc, hin2, hla, hfin⟩ := HX.out
  have hw1 := hbb.trans (hb1.mono (by simp; omega))
  have hx1 := hbx.below hb1
  have d0 := hx1.cell 0 rfl
  have d1 := hx1.cell 1 rfl
  have d2 := hx1.cell 2 rfl
  have d3 := hx1.cell 3 rfl
  have d4 := hx1.cell 4 rfl
  have d5 := hx1.cell 5 rfl
  have d6 := hx1.cell 6 rfl
  have d7 := hx1.cell 7 rfl
  have d8 := hx1.cell 8 rfl
  clear hbr hbb hbx hbc hin2 hla hfin hb1 hx1
  go_wp2
  go_ret
  exact ⟨rfl, hw1⟩

set_option maxRecDepth 100000 in
set_option maxHeartbeats 4000000 in
theorem isNum_calls (f : Int) (p : Pay) (l : List Tr) (hfin : (Tr.nd p l).fine) (sl : Value) (w : World) (hin : InT w (ndV p sl) (.nd p l)) :
    Calls Tryz.prog 80 #[.agg #[.int .i64 f], ndV p sl] w fun e w' => e = .returned (.bool ((l.isEmpty && onlyP p { Pay.z with n := p.n, dg := p.dg, ex := p.ex }) && decR ⟨p.n, tx p.dg, p.ex⟩)) ∧ Below w.heap.size w w' := by
  obtain ⟨l', a, na, c, fa, e1, rfl, rfl, hla⟩ := InT.inv hin
  obtain rfl : l = l' := (Tr.nd.inj e1).2
  clear e1
  have hbr := fun W h => bare_calls p ({ Pay.z with n := p.n, dg := p.dg, ex := p.ex }) l hfin (.slice a l.length c) W h
  obtain ⟨B, hB⟩ : ∃ B, (l.isEmpty && onlyP p ({ Pay.z with n := p.n, dg := p.dg, ex := p.ex })) = B := ⟨_, rfl⟩
  rw [hB] at hbr ⊢
  have hbb : Below w.heap.size w ((w.alloc (.cells #[.int .i64 f] 74)).alloc (.cells (ndL p (.slice a l.length c)).toArray 27)) := (below_alloc w _).alloc (by simp) _
  have hbx := Cls.new (w.alloc (.cells #[.int .i64 f] 74)) 27 (ndL p (.slice a l.length c))
  have hbc := (Cls.new w 74 [.int .i64 f]).alloc (.cells (ndL p (.slice a l.length c)).toArray 27)
  rw [World.size_alloc] at hbx
  have hin2 := hin.up hbb
  have hdr := fun W => decRight_calls p.n p.dg p.ex (by have := hfin.pay.2.1; omega) W
  have HX := hid (And.intro hbb (And.intro hbx (And.intro hbc (And.intro hin2 (And.intro hla hfin)))))
  clear hbb hbx hbc hin2 hla hfin hin hB
  simp only [ndV, ndL] at HX ⊢
  go_enter Tryz.func80, Tryz.ntmps80
  go_wp2_with fail
  refine (hbr _ HX.out.2.2.2.1).mono ?_
  rintro e w1 ⟨rfl, hb1⟩
  obtain ⟨hbb, hbx, hbc, hin2, hla, hfin⟩ := HX.out
  have hw1 := hbb.trans (hb1.mono (by simp; omega))
  have hx1 := hbx.below hb1
  have d0 := hx1.cell 0 rfl
  have d1 := hx1.cell 1 rfl
  have d2 := hx1.cell 2 rfl
  have d3 := hx1.cell 3 rfl
  have d4 := hx1.cell 4 rfl
  have d5 := hx1.cell 5 rfl
  have d6 := hx1.cell 6 rfl
  have d7 := hx1.cell 7 rfl
  have d8 := hx1.cell 8 rfl
  clear hbr hbb hbx hbc hin2 hla hfin hb1 hx1
  cases B
  · go_wp2
    go_ret
    exact ⟨rfl, hw1⟩
  go_wp2_with fail
  refine (hdr _).mono ?_
  rintro e w2 ⟨rfl, hb2⟩
  have hw2 := hw1.trans (hb2.mono hw1.size)
  clear hdr
  go_wp2
  go_ret
  exact ⟨rfl, hw2⟩

set_option maxRecDepth 100000 in
set_option maxHeartbeats 4000000 in
theorem isBytes_calls (f : Int) (p : Pay) (l : List Tr) (hfin : (Tr.nd p l).fine) (sl : Value) (w : World) (hin : InT w (ndV p sl) (.nd p l)) :
    Calls Tryz.prog 83 #[.agg #[.int .i64 f], ndV p sl] w fun e w' => e = .returned (.bool ((l.isEmpty && onlyP p { Pay.z with s := p.s }) && decide (p.s.size ≤ 400))) ∧ Below w.heap.size w w' := by
  obtain ⟨l', a, na, c, fa, e1, rfl, rfl, hla⟩ := InT.inv hin
  obtain rfl : l = l' := (Tr.nd.inj e1).2
  clear e1
  have hbr := fun W h => bare_calls p ({ Pay.z with s := p.s }) l hfin (.slice a l.length c) W h
  obtain ⟨B, hB⟩ : ∃ B, (l.isEmpty && onlyP p ({ Pay.z with s := p.s })) = B := ⟨_, rfl⟩
  rw [hB] at hbr ⊢
  have hbb : Below w.heap.size w ((w.alloc (.cells #[.int .i64 f] 74)).alloc (.cells (ndL p (.slice a l.length c)).toArray 27)) := (below_alloc w _).alloc (by simp) _
  have hbx := Cls.new (w.alloc (.cells #[.int .i64 f] 74)) 27 (ndL p (.slice a l.length c))
  have hbc := (Cls.new w 74 [.int .i64 f]).alloc (.cells (ndL p (.slice a l.length c)).toArray 27)
  rw [World.size_alloc] at hbx
  have hin2 := hin.up hbb
  have HX := hid (And.intro hbb (And.intro hbx (And.intro hbc (And.intro hin2 (And.intro hla hfin)))))
  clear hbb hbx hbc hin2 hla hfin hin hB
  simp only [ndV, ndL] at HX ⊢
  go_enter Tryz.func83, Tryz.ntmps83
  go_wp2_with fail
  refine (hbr _ HX.out.2.2.2.1).mono ?_
  rintro e w1 ⟨rfl, hb1⟩
  obtain ⟨hbb, hbx, hbc, hin2, hla, hfin⟩ := HX.out
  have hw1 := hbb.trans (hb1.mono (by simp; omega))
  have hx1 := hbx.below hb1
  have d0 := hx1.cell 0 rfl
  have d1 := hx1.cell 1 rfl
  have d2 := hx1.cell 2 rfl
  have d3 := hx1.cell 3 rfl
  have d4 := hx1.cell 4 rfl
  have d5 := hx1.cell 5 rfl
  have d6 := hx1.cell 6 rfl
  have d7 := hx1.cell 7 rfl
  have d8 := hx1.cell 8 rfl
  clear hbr hbb hbx hbc hin2 hla hfin hb1 hx1
  cases B
  · go_wp2
    go_ret
    exact ⟨rfl, hw1⟩
  go_wp2
  go_ret
  exact ⟨by simp; omega, hw1⟩

set_option maxRecDepth 100000 in
set_option maxHeartbeats 4000000 in
theorem isText_calls (f : Int) (p : Pay) (l : List Tr) (hfin : (Tr.nd p l).fine) (sl : Value) (w : World) (hT : Lib.Utf8Tabs 5 6 w) (hin : InT w (ndV p sl) (.nd p l)) :
    Calls Tryz.prog 82 #[.agg #[.int .i64 f], ndV p sl] w fun e w' => e = .returned (.bool ((l.isEmpty && onlyP p { Pay.z with s := p.s }) && (decide (p.s.size ≤ 400) && utfOk p.s))) ∧ Below w.heap.size w w' := by
  obtain ⟨l', a, na, c, fa, e1, rfl, rfl, hla⟩ := InT.inv hin
  obtain rfl : l = l' := (Tr.nd.inj e1).2
  clear e1
  have hbr := fun W h => bare_calls p ({ Pay.z with s := p.s }) l hfin (.slice a l.length c) W h
  obtain ⟨B, hB⟩ : ∃ B, (l.isEmpty && onlyP p ({ Pay.z with s := p.s })) = B := ⟨_, rfl⟩
  rw [hB] at hbr ⊢
  have hbb : Below w.heap.size w ((w.alloc (.cells #[.int .i64 f] 74)).alloc (.cells (ndL p (.slice a l.length c)).toArray 27)) := (below_alloc w _).alloc (by simp) _
  have hbx := Cls.new (w.alloc (.cells #[.int .i64 f] 74)) 27 (ndL p (.slice a l.length c))
  have hbc := (Cls.new w 74 [.int .i64 f]).alloc (.cells (ndL p (.slice a l.length c)).toArray 27)
  rw [World.size_alloc] at hbx
  have hin2 := hin.up hbb
  have hur := fun W (h : Below w.heap.size w W) => utfRight_calls p.s (by have := hfin.pay.2.2.2.2.2; omega) W (Utf8Tabs_up hT h)
  clear hT
  have HX := hid (And.intro hbb (And.intro hbx (And.intro hbc (And.intro hin2 (And.intro hla hfin)))))
  clear hbb hbx hbc hin2 hla hfin hin hB
  simp only [ndV, ndL] at HX ⊢
  go_enter Tryz.func82, Tryz.ntmps82
  go_wp2_with fail
  refine (hbr _ HX.out.2.2.2.1).mono ?_
  rintro e w1 ⟨rfl, hb1⟩
  obtain ⟨hbb, hbx, hbc, hin2, hla, hfin⟩ := HX.out
  have hw1 := hbb.trans (hb1.mono (by simp; omega))
  have hx1 := hbx.below hb1
  have d0 := hx1.cell 0 rfl
  have d1 := hx1.cell 1 rfl
  have d2 := hx1.cell 2 rfl
  have d3 := hx1.cell 3 rfl
  have d4 := hx1.cell 4 rfl
  have d5 := hx1.cell 5 rfl
  have d6 := hx1.cell 6 rfl
  have d7 := hx1.cell 7 rfl
  have d8 := hx1.cell 8 rfl
  clear hbr hbb hbx hbc hin2 hla hfin hb1 hx1
  cases B
  · go_wp2
    go_ret
    exact ⟨rfl, hw1⟩
  by_cases h400 : p.s.size ≤ 400
  · have hz : ((p.s.size : Nat) : Int) ≤ 400 := by omega
    go_wp2_with fail
    refine (hur _ hw1).mono ?_
    rintro e w2 ⟨rfl, hb2⟩
    have hw2 := hw1.trans (hb2.mono hw1.size)
    clear hur
    go_wp2
    go_ret
    exact ⟨by simp [h400], hw2⟩
  · have hz : ¬ ((p.s.size : Nat) : Int) ≤ 400 := by omega
    go_wp2
    go_ret
    exact ⟨by simp, hw1⟩

set_option maxRecDepth 100000 in
set_option maxHeartbeats 4000000 in
theorem isExt_calls (f : Int) (p : Pay) (l : List Tr) (hfin : (Tr.nd p l).fine) (sl : Value) (w : World) (hin : InT w (ndV p sl) (.nd p l)) :
    Calls Tryz.prog 88 #[.agg #[.int .i64 f], ndV p sl] w fun e w' => e = .returned (.bool ((l.isEmpty && onlyP p { Pay.z with u := p.u, s := p.s }) && (decide (p.u ≤ 255) && decide (p.s.size ≤ 400)))) ∧ Below w.heap.size w w' := by
  obtain ⟨l', a, na, c, fa, e1, rfl, rfl, hla⟩ := InT.inv hin
  obtain rfl : l = l' := (Tr.nd.inj e1).2
  clear e1
  have hbr := fun W h => bare_calls p ({ Pay.z with u := p.u, s := p.s }) l hfin (.slice a l.length c) W h
  obtain ⟨B, hB⟩ : ∃ B, (l.isEmpty && onlyP p ({ Pay.z with u := p.u, s := p.s })) = B := ⟨_, rfl⟩
  rw [hB] at hbr ⊢
  have hbb : Below w.heap.size w ((w.alloc (.cells #[.int .i64 f] 74)).alloc (.cells (ndL p (.slice a l.length c)).toArray 27)) := (below_alloc w _).alloc (by simp) _
  have hbx := Cls.new (w.alloc (.cells #[.int .i64 f] 74)) 27 (ndL p (.slice a l.length c))
  have hbc := (Cls.new w 74 [.int .i64 f]).alloc (.cells (ndL p (.slice a l.length c)).toArray 27)
  rw [World.size_alloc] at hbx
  have hin2 := hin.up hbb
  have HX := hid (And.intro hbb (And.intro hbx (And.intro hbc (And.intro hin2 (And.intro hla hfin)))))
  clear hbb hbx hbc hin2 hla hfin hin hB
  simp only [ndV, ndL] at HX ⊢
  go_enter Tryz.func88, Tryz.ntmps88
  go_wp2_with fail
  refine (hbr _ HX.out.2.2.2.1).mono ?_
  rintro e w1 ⟨rfl, hb1⟩
  obtain ⟨hbb, hbx, hbc, hin2, hla, hfin⟩ := HX.out
  have hw1 := hbb.trans (hb1.mono (by simp; omega))
  have hx1 := hbx.below hb1
  have d0 := hx1.cell 0 rfl
  have d1 := hx1.cell 1 rfl
  have d2 := hx1.cell 2 rfl
  have d3 := hx1.cell 3 rfl
  have d4 := hx1.cell 4 rfl
  have d5 := hx1.cell 5 rfl
  have d6 := hx1.cell 6 rfl
  have d7 := hx1.cell 7 rfl
  have d8 := hx1.cell 8 rfl
  clear hbr hbb hbx hbc hin2 hla hfin hb1 hx1
  cases B
  · go_wp2
    go_ret
    exact ⟨rfl, hw1⟩
  by_cases h255 : p.u ≤ 255
  · have hz : (p.u : Int) ≤ 255 := by omega
    go_wp2
    go_ret
    exact ⟨by simp [h255]; omega, hw1⟩
  · have hz : ¬ (p.u : Int) ≤ 255 := by omega
    go_wp2
    go_ret
    exact ⟨by simp, hw1⟩

set_option maxRecDepth 100000 in
set_option maxHeartbeats 4000000 in
theorem isSimple_calls (f : Int) (p : Pay) (l : List Tr) (hfin : (Tr.nd p l).fine) (sl : Value) (w : World) (hin : InT w (ndV p sl) (.nd p l)) :
    Calls Tryz.prog 87 #[.agg #[.int .i64 f], ndV p sl] w fun e w' => e = .returned (.bool ((l.isEmpty && onlyP p { Pay.z with u := p.u }) && (decide (p.u ≤ 255) && (decide (p.u ≤ 19) || (decide (p.u = 23) || decide (32 ≤ p.u)))))) ∧ Below w.heap.size w w' := by
  obtain ⟨l', a, na, c, fa, e1, rfl, rfl, hla⟩ := InT.inv hin
  obtain rfl : l = l' := (Tr.nd.inj e1).2
  clear e1
  have hbr := fun W h => bare_calls p ({ Pay.z with u := p.u }) l hfin (.slice a l.length c) W h
  obtain ⟨B, hB⟩ : ∃ B, (l.isEmpty && onlyP p ({ Pay.z with u := p.u })) = B := ⟨_, rfl⟩
  rw [hB] at hbr ⊢
  have hbb : Below w.heap.size w ((w.alloc (.cells #[.int .i64 f] 74)).alloc (.cells (ndL p (.slice a l.length c)).toArray 27)) := (below_alloc w _).alloc (by simp) _
  have hbx := Cls.new (w.alloc (.cells #[.int .i64 f] 74)) 27 (ndL p (.slice a l.length c))
  have hbc := (Cls.new w 74 [.int .i64 f]).alloc (.cells (ndL p (.slice a l.length c)).toArray 27)
  rw [World.size_alloc] at hbx
  have hin2 := hin.up hbb
  have HX := hid (And.intro hbb (And.intro hbx (And.intro hbc (And.intro hin2 (And.intro hla hfin)))))
  clear hbb hbx hbc hin2 hla hfin hin hB
  simp only [ndV, ndL] at HX ⊢
  go_enter Tryz.func87, Tryz.ntmps87
  go_wp2_with fail
  refine (hbr _ HX.out.2.2.2.1).mono ?_
  rintro e w1 ⟨rfl, hb1⟩
  obtain ⟨hbb, hbx, hbc, hin2, hla, hfin⟩ := HX.out
  have hw1 := hbb.trans (hb1.mono (by simp; omega))
  have hx1 := hbx.below hb1
  have d0 := hx1.cell 0 rfl
  have d1 := hx1.cell 1 rfl
  have d2 := hx1.cell 2 rfl
  have d3 := hx1.cell 3 rfl
  have d4 := hx1.cell 4 rfl
  have d5 := hx1.cell 5 rfl
  have d6 := hx1.cell 6 rfl
  have d7 := hx1.cell 7 rfl
  have d8 := hx1.cell 8 rfl
  clear hbr hbb hbx hbc hin2 hla hfin hb1 hx1
  cases B
  · go_wp2
    go_ret
    exact ⟨rfl, hw1⟩
  by_cases h255 : p.u ≤ 255
  · by_cases h20 : p.u ≤ 19
    · have hz : (p.u : Int) ≤ 255 := by omega
      have hz2 : (p.u : Int) < 20 := by omega
      go_wp2
      go_ret
      exact ⟨by simp [h255, h20], hw1⟩
    · by_cases h23 : p.u = 23
      · have hz2 : ((p.u : Int) == 23) = true := by rw [beq_iff_eq]; omega
        have hz3 : ((23 : Nat) : Int) = 23 := rfl
        rw [h23] at d5
        go_wp2
        go_ret
        exact ⟨by simp [h23], hw1⟩
      · have hz : (p.u : Int) ≤ 255 := by omega
        have hz2 : ¬ (p.u : Int) < 20 := by omega
        have hz3 : ((p.u : Int) == 23) = false := by rw [beq_eq_false_iff_ne]; omega
        by_cases h32 : 32 ≤ p.u
        · have hz4 : (31 : Int) < (p.u : Int) := by omega
          go_wp2
          go_ret
          exact ⟨by simp [h255, h20, h23, h32], hw1⟩
        · have hz4 : ¬ (31 : Int) < (p.u : Int) := by omega
          go_wp2
          go_ret
          exact ⟨by simp [h255, h20, h23, h32]; omega, hw1⟩
  · have hz : ¬ (p.u : Int) ≤ 255 := by omega
    go_wp2
    go_ret
    exact ⟨by simp, hw1⟩

set_option maxRecDepth 100000 in
set_option maxHeartbeats 4000000 in
theorem isArray_calls (f : Int) (p : Pay) (l : List Tr) (hfin : (Tr.nd p l).fine) (sl : Value) (w : World) (hin : InT w (ndV p sl) (.nd p l)) :
    Calls Tryz.prog 84 #[.agg #[.int .i64 f], ndV p sl] w fun e w' => e = .returned (.bool (onlyP p (Pay.z))) ∧ Below w.heap.size w w' := by
  obtain ⟨l', a, na, c, fa, e1, rfl, rfl, hla⟩ := InT.inv hin
  obtain rfl : l = l' := (Tr.nd.inj e1).2
  clear e1
  have hbr := fun W => bare_calls p (Pay.z) [] (fine_leaf hfin.pay) (.slice none 0 0) W (InT.leaf W p 0 none)
  obtain ⟨B, hB⟩ : ∃ B, onlyP p (Pay.z) = B := ⟨_, rfl⟩
  change ∀ W, Calls _ _ _ _ fun e w' => e = .returned (.bool (onlyP p (Pay.z))) ∧ _ at hbr
  rw [hB] at hbr ⊢
  have hbb : Below w.heap.size w ((w.alloc (.cells #[.int .i64 f] 74)).alloc (.cells (ndL p (.slice none 0 0)).toArray 27)) := (below_alloc w _).alloc (by simp) _
  have hbx := Cls.new (w.alloc (.cells #[.int .i64 f] 74)) 27 (ndL p (.slice none 0 0))
  have hbc := (Cls.new w 74 [.int .i64 f]).alloc (.cells (ndL p (.slice none 0 0)).toArray 27)
  rw [World.size_alloc] at hbx
  have hin2 := hin.up hbb
  have HX := hid (And.intro hbb (And.intro hbx (And.intro hbc (And.intro hin2 (And.intro hla hfin)))))
  clear hbb hbx hbc hin2 hla hfin hin hB
  simp only [ndV, ndL] at HX ⊢
  go_enter Tryz.func84, Tryz.ntmps84
  go_wp2_with fail
  refine (hbr _ ).mono ?_
  rintro e w1 ⟨rfl, hb1⟩
  obtain ⟨hbb, hbx, hbc, hin2, hla, hfin⟩ := HX.out
  have hw1 := hbb.trans (hb1.mono (by simp; omega))
  have hx1 := hbx.below hb1
  have d0 := hx1.cell 0 rfl
  have d1 := hx1.cell 1 rfl
  have d2 := hx1.cell 2 rfl
  have d3 := hx1.cell 3 rfl
  have d4 := hx1.cell 4 rfl
  have d5 := hx1.cell 5 rfl
  have d6 := hx1.cell 6 rfl
  have d7 := hx1.cell 7 rfl
  have d8 := hx1.cell 8 rfl
  clear hbr hbb hbx hbc hin2 hla hfin hb1 hx1
  go_wp2
  go_ret
  exact ⟨rfl, hw1⟩

set_option maxRecDepth 100000 in
set_option maxHeartbeats 4000000 in
theorem isTag_calls (f : Int) (p : Pay) (l : List Tr) (hfin : (Tr.nd p l).fine) (sl : Value) (w : World) (hin : InT w (ndV p sl) (.nd p l)) :
    Calls Tryz.prog 86 #[.agg #[.int .i64 f], ndV p sl] w fun e w' => e = .returned (.bool (onlyP p { Pay.z with u := p.u } && decide (l.length = 1))) ∧ Below w.heap.size w w' := by
  obtain ⟨l', a, na, c, fa, e1, rfl, rfl, hla⟩ := InT.inv hin
  obtain rfl : l = l' := (Tr.nd.inj e1).2
  clear e1
  have hbr := fun W => bare_calls p ({ Pay.z with u := p.u }) [] (fine_leaf hfin.pay) (.slice none 0 0) W (InT.leaf W p 0 none)
  obtain ⟨B, hB⟩ : ∃ B, onlyP p ({ Pay.z with u := p.u }) = B := ⟨_, rfl⟩
  change ∀ W, Calls _ _ _ _ fun e w' => e = .returned (.bool (onlyP p ({ Pay.z with u := p.u }))) ∧ _ at hbr
  rw [hB] at hbr ⊢
  have hbb : Below w.heap.size w (((w.alloc (.cells #[.int .i64 f] 74)).alloc (.cells (ndL p (.slice a l.length c)).toArray 27)).alloc (.cells (ndL p (.slice none 0 0)).toArray 27)) := ((below_alloc w _).alloc (by simp) _).alloc (by simp; omega) _
  have hbx := (Cls.new (w.alloc (.cells #[.int .i64 f] 74)) 27 (ndL p (.slice a l.length c))).alloc (.cells (ndL p (.slice none 0 0)).toArray 27)
  have hbc := ((Cls.new w 74 [.int .i64 f]).alloc (.cells (ndL p (.slice a l.length c)).toArray 27)).alloc (.cells (ndL p (.slice none 0 0)).toArray 27)
  rw [World.size_alloc] at hbx
  have hin2 := hin.up hbb
  have HX := hid (And.intro hbb (And.intro hbx (And.intro hbc (And.intro hin2 (And.intro hla hfin)))))
  clear hbb hbx hbc hin2 hla hfin hin hB
  simp only [ndV, ndL] at HX ⊢
  go_enter Tryz.func86, Tryz.ntmps86
  go_wp2_with fail
  refine (hbr _ ).mono ?_
  rintro e w1 ⟨rfl, hb1⟩
  obtain ⟨hbb, hbx, hbc, hin2, hla, hfin⟩ := HX.out
  have hw1 := hbb.trans (hb1.mono (by simp; omega))
  have hx1 := hbx.below hb1
  have d0 := hx1.cell 0 rfl
  have d1 := hx1.cell 1 rfl
  have d2 := hx1.cell 2 rfl
  have d3 := hx1.cell 3 rfl
  have d4 := hx1.cell 4 rfl
  have d5 := hx1.cell 5 rfl
  have d6 := hx1.cell 6 rfl
  have d7 := hx1.cell 7 rfl
  have d8 := hx1.cell 8 rfl
  clear hbr hbb hbx hbc hin2 hla hfin hb1 hx1
  cases B
  · go_wp2
    go_ret
    exact ⟨rfl, hw1⟩
  by_cases h1 : l.length = 1
  · have hz : ((l.length : Int) == 1) = true := by rw [beq_iff_eq]; omega
    go_wp2
    go_ret
    exact ⟨by simp [h1], hw1⟩
  · have hz : ((l.length : Int) == 1) = false := by rw [beq_eq_false_iff_ne]; omega
    go_wp2
    go_ret
    exact ⟨by simp [h1], hw1⟩

set_option maxRecDepth 100000 in
set_option maxHeartbeats 4000000 in
theorem isMap_calls (f : Int) (p : Pay) (l : List Tr) (hfin : (Tr.nd p l).fine) (sl : Value) (w : World) (hin : InT w (ndV p sl) (.nd p l)) :
    Calls Tryz.prog 85 #[.agg #[.int .i64 f], ndV p sl] w fun e w' => e = .returned (.bool (onlyP p Pay.z && (decide (l.length % 2 = 0) && !twice (keysT l)))) ∧ Below w.heap.size w w' := by
  obtain ⟨l', a, na, c, fa, e1, rfl, rfl, hla⟩ := InT.inv hin
  obtain rfl : l = l' := (Tr.nd.inj e1).2
  clear e1
  have hbb : Below w.heap.size w ((w.alloc (.cells #[.int .i64 f] 74)).alloc (.cells (ndL p (.slice a l.length c)).toArray 27)) := (below_alloc w _).alloc (by simp) _
  have hbx := Cls.new (w.alloc (.cells #[.int .i64 f] 74)) 27 (ndL p (.slice a l.length c))
  have hbc := (Cls.new w 74 [.int .i64 f]).alloc (.cells (ndL p (.slice a l.length c)).toArray 27)
  rw [World.size_alloc] at hbx
  have hin2 := hin.up hbb
  have hbr := fun W h => isArray_calls f p l hfin (.slice a l.length c) W h
  obtain ⟨B, hB⟩ : ∃ B, onlyP p Pay.z = B := ⟨_, rfl⟩
  rw [hB] at hbr ⊢
  have h40 := hfin.len
  obtain ⟨tw, ht⟩ : ∃ tw, twice (keysT l) = tw := ⟨_, rfl⟩
  rw [ht]
  have HX := hid (And.intro hbb (And.intro hbx (And.intro hbc (And.intro hin2 (And.intro hla hfin)))))
  clear hbb hbx hbc hin2 hla hfin hin hB
  simp only [ndV, ndL] at HX ⊢
  go_enter Tryz.func85, Tryz.ntmps85
  go_wp2_with fail
  refine (hbr _ HX.out.2.2.2.1).mono ?_
  rintro e w1 ⟨rfl, hb1⟩
  obtain ⟨hbb, hbx, hbc, hin2, hla, hfin⟩ := HX.out
  have hw1 := hbb.trans (hb1.mono (by simp; omega))
  have hx1 := hbx.below hb1
  have d0 := hx1.cell 0 rfl
  have d1 := hx1.cell 1 rfl
  have d2 := hx1.cell 2 rfl
  have d3 := hx1.cell 3 rfl
  have d4 := hx1.cell 4 rfl
  have d5 := hx1.cell 5 rfl
  have d6 := hx1.cell 6 rfl
  have d7 := hx1.cell 7 rfl
  have d8 := hx1.cell 8 rfl
  have hla1 := hla.up hw1
  have HL := hid (And.intro hla1 hfin)
  clear hla1
  clear hbr hbb hbx hbc hin2 hla hfin hb1 hx1
  cases B
  · go_wp2
    go_ret
    exact ⟨rfl, hw1⟩
  by_cases h2 : l.length % 2 = 0
  · have hz : ((l.length : Int).tmod 2 == 0) = true := by rw [beq_iff_eq, Int.tmod_eq_emod_of_nonneg (by omega)]; omega
    have hz2 : ((l.length : Int) % 2 == 0) = true := by rw [beq_iff_eq]; omega
    go_wp2_with fail
    refine (keys_calls l h40 a c fa w1 HL.out.1).mono ?_
    rintro e w2 ⟨a', c', f', rfl, hcc, hk2, hb2⟩
    have hw2 := hw1.trans (hb2.mono hw1.size)
    obtain ⟨n2, hn2⟩ : ∃ n2, (keysT l).length = n2 := ⟨_, rfl⟩
    have htw := isTwice_calls (keysT l) (by rw [keysT_len]; omega) (fun t ht => HL.out.2.sub (keysT_mem ht)) a' c' hcc f' w2 hk2
    rw [hn2] at htw ⊢
    rw [ht] at htw
    clear hk2 hb2 hcc hn2 ht
    go_wp2_with fail
    refine htw.mono ?_
    rintro e w3 ⟨rfl, hb3⟩
    have hw3 := hw2.trans (hb3.mono hw2.size)
    clear htw
    go_wp2
    go_ret
    exact ⟨by simp [h2], hw3⟩
  · have hz : ((l.length : Int).tmod 2 == 0) = false := by rw [beq_eq_false_iff_ne, Int.tmod_eq_emod_of_nonneg (by omega)]; omega
    have hz2 : ((l.length : Int) % 2 == 0) = false := by rw [beq_eq_false_iff_ne]; omega
    go_wp2
    go_ret
    exact ⟨by simp [h2], hw1⟩

set_option maxRecDepth 100000 in
set_option maxHeartbeats 4000000 in
theorem isFloat_calls (f : Int) (p : Pay) (l : List Tr) (hfin : (Tr.nd p l).fine) (sl : Value) (w : World) (hin : InT w (ndV p sl) (.nd p l)) :
    Calls Tryz.prog 81 #[.agg #[.int .i64 f], ndV p sl] w fun e w' => e = .returned (.bool ((l.isEmpty && onlyP p { Pay.z with u := p.u, w := p.w }) && decide (widE p.u p.w = 0))) ∧ Below w.heap.size w w' := by
  obtain ⟨l', a, na, c, fa, e1, rfl, rfl, hla⟩ := InT.inv hin
  obtain rfl : l = l' := (Tr.nd.inj e1).2
  clear e1
  have hbr := fun W h => bare_calls p ({ Pay.z with u := p.u, w := p.w }) l hfin (.slice a l.length c) W h
  obtain ⟨B, hB⟩ : ∃ B, (l.isEmpty && onlyP p ({ Pay.z with u := p.u, w := p.w })) = B := ⟨_, rfl⟩
  rw [hB] at hbr ⊢
  have hbb : Below w.heap.size w ((w.alloc (.cells #[.int .i64 f] 74)).alloc (.cells (ndL p (.slice a l.length c)).toArray 27)) := (below_alloc w _).alloc (by simp) _
  have hbx := Cls.new (w.alloc (.cells #[.int .i64 f] 74)) 27 (ndL p (.slice a l.length c))
  have hbc := (Cls.new w 74 [.int .i64 f]).alloc (.cells (ndL p (.slice a l.length c)).toArray 27)
  rw [World.size_alloc] at hbx
  have hin2 := hin.up hbb
  have hwi := fun W => widen_calls p.u hfin.pay.2.2.2.1 p.w W
  obtain ⟨wd, hwd⟩ : ∃ wd, widS p.u p.w = wd := ⟨_, rfl⟩
  obtain ⟨we, hwe⟩ : ∃ we, widE p.u p.w = we := ⟨_, rfl⟩
  rw [hwd, hwe] at hwi
  rw [hwe]
  clear hwd hwe
  have HX := hid (And.intro hbb (And.intro hbx (And.intro hbc (And.intro hin2 (And.intro hla hfin)))))
  clear hbb hbx hbc hin2 hla hfin hin hB
  simp only [ndV, ndL] at HX ⊢
  go_enter Tryz.func81, Tryz.ntmps81
  go_wp2_with fail
  refine (hwi _).mono ?_
  rintro e w0 ⟨rfl, hb0⟩
  obtain ⟨hbb, hbx, hbc, hin2, hla, hfin⟩ := HX.out
  have hw0 := hbb.trans (hb0.mono (by simp; omega))
  have hx0 := hbx.below hb0
  have hin0 := hin2.up hb0
  have b0 := hx0.cell 0 rfl
  have b1 := hx0.cell 1 rfl
  have b2 := hx0.cell 2 rfl
  have b3 := hx0.cell 3 rfl
  have b4 := hx0.cell 4 rfl
  have b5 := hx0.cell 5 rfl
  have b6 := hx0.cell 6 rfl
  have b7 := hx0.cell 7 rfl
  have b8 := hx0.cell 8 rfl
  clear hwi hbb hbx hbc hin2 hla hfin hb0 HX
  have HX := hid (And.intro hin0 (And.intro hw0 hx0))
  clear hin0 hw0 hx0
  go_wp2_with fail
  refine (hbr _ HX.out.1).mono ?_
  rintro e w1 ⟨rfl, hb1⟩
  have hw1 := HX.out.2.1.trans (hb1.mono HX.out.2.1.size)
  clear hbr hb1
  cases B
  · go_wp2
    go_ret
    exact ⟨rfl, hw1⟩
  · by_cases he : we = 0
    · subst he
      go_wp2
      go_ret
      exact ⟨rfl, hw1⟩
    · have hz : (we == 0) = false := by rw [beq_eq_false_iff_ne]; exact he
      go_wp2
      go_ret
      exact ⟨by simp [he], hw1⟩

end Go.Proofs.YtpjlepkdiaohiaaGreatDoor

/- A map keyed by numbers that a call makes: its entries are stored one by one, and looked up: over any program. -/
namespace Go.Proofs.YtpjlepkdiaohiaaGreatDoor
open Go Go.RowKit Go.MapKept

/-- entries, in the order in which they are stored. -/
def entsI : List (Int × Value) → Nat → List MapEntry
  | [], _ => []
  | (k, v) :: r, n => ⟨.int .i64 k, v, n⟩ :: entsI r (n + 1)
def mapObj (l : List (Int × Value)) : Obj := .map (entsI l 0).toArray l.length
theorem entsI_snoc : ∀ (l : List (Int × Value)) (n : Nat) (k : Int) (v : Value), entsI (l ++ [(k, v)]) n = entsI l n ++ [⟨.int .i64 k, v, n + l.length⟩]
  | [], n, k, v => rfl
  | (j, u) :: r, n, k, v => by
    rw [List.cons_append, entsI, entsI_snoc r (n + 1), entsI, List.length_cons, List.cons_append, show n + 1 + r.length = n + (r.length + 1) by omega]
theorem findNow_ents : ∀ (l : List (Int × Value)) (n i : Nat) (k : Int), Instr.findNow (.int .i64) (.int .i64 k) (entsI l n) i = some ((l.findIdx? (fun p => p.1 == k)).map fun j => (i + j, ((l[j]?).map (·.2)).getD (.bool false)))
  | [], _, _, _ => rfl
  | (j, u) :: r, n, i, k => by
    have ih := findNow_ents r (n + 1) (i + 1) k
    rw [entsI, Instr.findNow]
    by_cases h : j = k
    · subst h
      simp [Instr.sameNow, List.findIdx?_cons]
    · have h2 : (k == j) = false := by simpa using fun e => h e.symm
      have h3 : (j == k) = false := by simpa using h
      simp only [Instr.sameNow, if_true, h2, ih, List.findIdx?_cons, h3]
      cases List.findIdx? (fun p => p.1 == k) r <;> simp [Nat.add_comm, Nat.add_left_comm]

variable {P : Program}
theorem run_insert {t kt et : TypeId} (ht : P.underlying t = some (.map kt et)) (hk : P.underlying kt = some (.int .i64)) (w : World) (l : List (Int × Value)) (k : Int) (v : Value) (hn : l.findIdx? (fun p => p.1 == k) = none) :
    (Instr.mapUpdate t (.map (some w.heap.size)) (.int .i64 k) v).run P (w.alloc (mapObj l)) = .ok () (w.alloc (mapObj (l ++ [(k, v)]))) := by
  have hb : (w.alloc (mapObj l)).heap[w.heap.size]? = some (.map (entsI l 0).toArray l.length) := heap_alloc_new w _
  have hf := findNow_ents l 0 0 k
  rw [hn] at hf
  have he : (⟨.int .i64 k, v, l.length⟩ : MapEntry) = ⟨.int .i64 k, v, 0 + l.length⟩ := by rw [Nat.zero_add]
  have hh : ({ heap := (w.alloc (mapObj l)).heap.setIfInBounds w.heap.size (.map (entsI l 0 ++ [(⟨.int .i64 k, v, l.length⟩ : MapEntry)]).toArray (l.length + 1)), tape := w.tape, drawn := w.drawn, os := (w.alloc (mapObj l)).os, output := (w.alloc (mapObj l)).output } : World) = w.alloc (mapObj (l ++ [(k, v)])) := by
    unfold World.alloc mapObj
    simp only [World.mk.injEq, and_true]
    rw [entsI_snoc, List.length_append, List.length_singleton, he]
    apply Array.ext'
    simp
  simp [Instr.mapUpdate, run_underlying ht, MapKept.run_getObj_map hb, run_checkKey hk (show IsKey (.int .i64) (.int .i64 k) from rfl), run_findKey hk hf, MapKept.run_setObj_map _ hb, Result.andThen, hh]
/-- a map of these entries lies at block b. -/
def MapI (w : World) (b : Nat) (l : List (Int × Value)) : Prop := w.heap[b]? = some (mapObj l)
theorem MapI.below {w w' : World} {b : Nat} {l : List (Int × Value)} (h : MapI w b l) (hb : Below w.heap.size w w') : MapI w' b l := (hb.block b (Array.getElem?_eq_some_iff.1 h).1).trans h
theorem MapI.new (w : World) (l : List (Int × Value)) : MapI (w.alloc (mapObj l)) w.heap.size l := heap_alloc_new w _
theorem run_look {t kt et : TypeId} (ht : P.underlying t = some (.map kt et)) (hk : P.underlying kt = some (.int .i64)) {z : Value} (hz : ∀ w, (zeroValue et).run P w = .ok z w) (w : World) (b : Nat) (l : List (Int × Value)) (h : MapI w b l) (k : Int) :
    (Instr.lookup t (.map (some b)) (.int .i64 k) true).run P w = .ok (.tuple (match l.findIdx? (fun p => p.1 == k) with | none => #[z, .bool false] | some j => #[((l[j]?).map (·.2)).getD (.bool false), .bool true])) w := by
  have h' : w.heap[b]? = some (.map (entsI l 0).toArray l.length) := h
  have hf := findNow_ents l 0 0 k
  have hc : ∀ e, (Instr.checkKey e 10000 kt (.int .i64 k)).run P w = .ok () w := fun e => run_checkKey hk (show IsKey (.int .i64) (.int .i64 k) from rfl) e 9999
  cases hi : l.findIdx? (fun p => p.1 == k) with
  | none =>
    rw [hi] at hf
    simp [Instr.lookup, run_underlying ht, MapKept.run_getObj_map h', hc, run_findKey hk hf, hz, Result.andThen]
  | some j =>
    rw [hi] at hf
    simp [Instr.lookup, run_underlying ht, MapKept.run_getObj_map h', hc, run_findKey hk hf, Result.andThen]
end Go.Proofs.YtpjlepkdiaohiaaGreatDoor

/- Package tree: has, isKey, kinds, fits: walked. -/
namespace Go.Proofs.YtpjlepkdiaohiaaGreatDoor
open Go.RowKit
attribute [local go_sem] Oper.semAt_some

set_option maxRecDepth 100000 in
set_option maxHeartbeats 4000000 in
theorem has_calls (f : Int) (zs : List Int) (b : Nat) (w : World) (hz : zs.length ≤ 100) (hb : Cls w b 3 (zs.map fun x => .int .i64 x)) :
    Calls Tryz.prog 94 #[.agg #[.int .i64 f], .slice (some ⟨b, 0, none⟩) zs.length zs.length] w fun e w' => e = .returned (.bool (zs.contains f)) ∧ Below w.heap.size w w' := by
  have hbb := below_alloc w (.cells #[.int .i64 f] 72)
  have hct := TryzB.slices_Contains_int b 0 zs.length zs.length zs f (w.alloc (.cells #[.int .i64 f] 72)) (Nat.le_refl _) (by omega) (fun j hj => by
    rw [Nat.zero_add]
    exact (hb.below hbb).cell j (by simp [hj]))
  rw [List.take_of_length_le (Nat.le_refl _)] at hct
  clear hb
  go_enter Tryz.func94, Tryz.ntmps94
  go_wp2_with fail
  refine hct.mono ?_
  rintro e w1 ⟨rfl, rfl⟩
  clear hct
  go_wp2
  go_ret
  exact ⟨by simp, hbb⟩
theorem has1 (f x : Int) (W : World) (b : Nat) (hb0 : b = W.heap.size) :
    Calls Tryz.prog 94 #[.agg #[.int .i64 f], .slice (some ⟨b, 0, none⟩) 1 1] (W.alloc (.cells #[.int .i64 x] 3)) fun e w' => e = .returned (.bool (f == x)) ∧ Below W.heap.size W w' := by
  subst hb0
  refine (has_calls f [x] W.heap.size _ (by simp) (Cls.new W 3 ([x].map fun x => .int .i64 x))).mono ?_
  rintro e w' ⟨rfl, hb⟩
  refine ⟨?_, (below_alloc W _).trans (hb.mono (by simp))⟩
  simp <;> rfl
theorem has2 (f x y : Int) (W : World) (b : Nat) (hb0 : b = W.heap.size) :
    Calls Tryz.prog 94 #[.agg #[.int .i64 f], .slice (some ⟨b, 0, none⟩) 2 2] (W.alloc (.cells #[.int .i64 x, .int .i64 y] 3)) fun e w' => e = .returned (.bool (f == x || (f == y))) ∧ Below W.heap.size W w' := by
  subst hb0
  refine (has_calls f [x, y] W.heap.size _ (by simp) (Cls.new W 3 ([x, y].map fun x => .int .i64 x))).mono ?_
  rintro e w' ⟨rfl, hb⟩
  refine ⟨?_, (below_alloc W _).trans (hb.mono (by simp))⟩
  simp <;> rfl
theorem has3 (f x y z : Int) (W : World) (b : Nat) (hb0 : b = W.heap.size) :
    Calls Tryz.prog 94 #[.agg #[.int .i64 f], .slice (some ⟨b, 0, none⟩) 3 3] (W.alloc (.cells #[.int .i64 x, .int .i64 y, .int .i64 z] 3)) fun e w' => e = .returned (.bool (f == x || (f == y || (f == z)))) ∧ Below W.heap.size W w' := by
  subst hb0
  refine (has_calls f [x, y, z] W.heap.size _ (by simp) (Cls.new W 3 ([x, y, z].map fun x => .int .i64 x))).mono ?_
  rintro e w' ⟨rfl, hb⟩
  refine ⟨?_, (below_alloc W _).trans (hb.mono (by simp))⟩
  simp <;> rfl
theorem has4 (f x y z u : Int) (W : World) (b : Nat) (hb0 : b = W.heap.size) :
    Calls Tryz.prog 94 #[.agg #[.int .i64 f], .slice (some ⟨b, 0, none⟩) 4 4] (W.alloc (.cells #[.int .i64 x, .int .i64 y, .int .i64 z, .int .i64 u] 3)) fun e w' => e = .returned (.bool (f == x || (f == y || (f == z || (f == u))))) ∧ Below W.heap.size W w' := by
  subst hb0
  refine (has_calls f [x, y, z, u] W.heap.size _ (by simp) (Cls.new W 3 ([x, y, z, u].map fun x => .int .i64 x))).mono ?_
  rintro e w' ⟨rfl, hb⟩
  refine ⟨?_, (below_alloc W _).trans (hb.mono (by simp))⟩
  simp <;> rfl
set_option maxRecDepth 100000 in
set_option maxHeartbeats 4000000 in
theorem isKey_calls (f : Int) (p : Pay) (l : List Tr) (hfin : (Tr.nd p l).fine) (sl : Value) (w : World) (hT : Tabs w) (hin : InT w (ndV p sl) (.nd p l)) :
    Calls Tryz.prog 92 #[.agg #[.int .i64 f], ndV p sl] w fun e w' => e = .returned (.bool (keyOk p f)) ∧ Below w.heap.size w w' := by
  obtain ⟨l', a, na, c, fa, e1, rfl, rfl, hla⟩ := InT.inv hin
  obtain rfl : l = l' := (Tr.nd.inj e1).2
  clear e1
  have hbb : Below w.heap.size w ((w.alloc (.cells #[.int .i64 f] 74)).alloc (.cells (ndL p (.slice a l.length c)).toArray 27)) := (below_alloc w _).alloc (by simp) _
  have hbx := Cls.new (w.alloc (.cells #[.int .i64 f] 74)) 27 (ndL p (.slice a l.length c))
  have hbc := (Cls.new w 74 [.int .i64 f]).alloc (.cells (ndL p (.slice a l.length c)).toArray 27)
  rw [World.size_alloc] at hbx
  have hti := fun W h => toInt_calls p.n p.dg p.ex (by have := hfin.pay.2.1; omega) W h
  obtain ⟨tb, htb⟩ : ∃ tb, tiB ⟨p.n, tx p.dg, p.ex⟩ = tb := ⟨_, rfl⟩
  obtain ⟨tn, htn⟩ : ∃ tn, tiN ⟨p.n, tx p.dg, p.ex⟩ = tn := ⟨_, rfl⟩
  rw [htb, htn] at hti
  have hspec : keyOk p f = (if p.k = 5 then true else if f = 1 then false else if p.k = 3 then tb else decide (p.k = 6) || (decide (p.k = 2) || decide (p.k = 1))) := by
    unfold keyOk
    rw [show tiB p.d = tb from htb]
    by_cases h5 : p.k = 5
    · rw [if_neg (by omega), if_pos h5, h5]; rfl
    · rw [if_neg h5, decide_eq_false h5, Bool.false_or]
      by_cases h1 : f = 1
      · rw [if_neg (by omega), if_pos h1, h1]; rfl
      · rw [if_neg h1, decide_eq_true h1, Bool.true_and]
        by_cases h3 : p.k = 3
        · rw [if_pos ⟨h3, h1⟩, if_pos h3]
        · rw [if_neg (fun h => h3 h.1), if_neg h3]
  rw [hspec]
  have hti2 := hti _ (hT.below hbb)
  have HX := hid (And.intro hbb (And.intro hbx (And.intro hbc hla)))
  clear hbb hbx hbc hla hfin hin hspec htb htn hti hT
  simp only [ndV, ndL] at hti2 ⊢
  go_enter Tryz.func92, Tryz.ntmps92
  go_wp2_with fail
  refine hti2.mono ?_
  rintro e w1 ⟨rfl, hb1⟩
  obtain ⟨hbb, hbx, hbc, hla⟩ := HX.out
  have hw1 := hbb.trans (hb1.mono (by simp; omega))
  have hx1 := hbx.below hb1
  have hc1 := hbc.below hb1
  have d0 := hx1.cell 0 rfl
  have k0 := hc1.cell 0 rfl
  have HY := hid (And.intro hw1 (And.intro hx1 hc1))
  clear hti2 hb1 hbb hbx hbc hla hw1 hx1 hc1
  by_cases h5 : p.k = 5
  · have hz : (p.k == 5) = true := by rw [beq_iff_eq]; exact h5
    go_wp2
    go_ret
    exact ⟨by first | rfl | (simp [*]; done), HY.out.1⟩
  · have hz : (p.k == 5) = false := by rw [beq_eq_false_iff_ne]; exact h5
    go_wp2_with fail
    refine (has1 f 1 _ _ (by first | rfl | simp)).mono ?_
    rintro e w2 ⟨rfl, hb2⟩
    have hw2 := HY.out.1.trans (hb2.mono HY.out.1.size)
    have d0 := (HY.out.2.1.below hb2).cell 0 rfl
    clear hb2
    by_cases h1 : f = 1
    · have hz1 : (f == 1) = true := by rw [beq_iff_eq]; exact h1
      go_wp2
      go_ret
      exact ⟨by first | rfl | (simp [*]; done), hw2⟩
    · have hz1 : (f == 1) = false := by rw [beq_eq_false_iff_ne]; exact h1
      by_cases h3 : p.k = 3
      · have hz3 : (p.k == 3) = true := by rw [beq_iff_eq]; exact h3
        go_wp2
        go_ret
        exact ⟨by first | rfl | (simp [*]; done), hw2⟩
      · have hz3 : (p.k == 3) = false := by rw [beq_eq_false_iff_ne]; exact h3
        by_cases h6 : p.k = 6
        · have hz6 : (p.k == 6) = true := by rw [beq_iff_eq]; exact h6
          go_wp2
          go_ret
          exact ⟨by first | rfl | (simp [*]; done), hw2⟩
        · have hz6 : (p.k == 6) = false := by rw [beq_eq_false_iff_ne]; exact h6
          by_cases h2 : p.k = 2
          · have hz2 : (p.k == 2) = true := by rw [beq_iff_eq]; exact h2
            go_wp2
            go_ret
            exact ⟨by first | rfl | (simp [*]; done), hw2⟩
          · have hz2 : (p.k == 2) = false := by rw [beq_eq_false_iff_ne]; exact h2
            by_cases h1' : p.k = 1
            · have hz1 : (p.k == 1) = true := by rw [beq_iff_eq]; exact h1'
              go_wp2
              go_ret
              exact ⟨by first | rfl | (simp [*]; done), hw2⟩
            · have hz1 : (p.k == 1) = false := by rw [beq_eq_false_iff_ne]; exact h1'
              go_wp2
              go_ret
              exact ⟨by first | rfl | (simp [*]; done), hw2⟩

set_option maxRecDepth 100000 in
set_option maxHeartbeats 4000000 in
theorem fits1_calls (f : Int) (t : Tr) (ht : t.fine) (sl : Value) (b : Nat) (w : World) (hT : Tabs w) (hb : Cls w b 74 [.int .i64 f]) (hin : InT w (ndV t.p sl) t) :
    Calls Tryz.prog 91 #[ndV t.p sl, .pointer (some ⟨b, 0, none⟩)] w fun e w' => e = .returned (.bool (!keyOk t.p f)) ∧ Below w.heap.size w w' := by
  have hbb := below_alloc w (.cells (ndL t.p sl).toArray 27)
  have hk := isKey_calls f t.p t.l (by rw [← Tr.eta]; exact ht) sl _ (hT.below hbb) (by rw [← Tr.eta]; exact hin.up hbb)
  obtain ⟨l1, q1, n1, c1, f1, -, g1, rfl, -⟩ := InT.inv hin
  subst g1
  have k0 := (hb.below hbb).cell 0 rfl
  obtain ⟨K, hK⟩ : ∃ K, keyOk t.p f = K := ⟨_, rfl⟩
  rw [hK] at hk ⊢
  clear hb hin hT ht hK
  simp only [ndV, ndL] at hk hbb k0 ⊢
  have HX := hid hbb
  clear hbb
  go_enter Tryz.func91, Tryz.ntmps91
  go_wp2_with fail
  refine hk.mono ?_
  rintro e w1 ⟨rfl, hb1⟩
  have hw1 := HX.out.trans (hb1.mono (by simp))
  clear hk
  go_wp2
  go_ret
  exact ⟨rfl, hw1⟩

/-- which functions check which kinds. -/
def kindL : List (Int × Value) := [(1, .func (.func 78) #[] #[]), (2, .func (.func 79) #[] #[]), (3, .func (.func 80) #[] #[]), (4, .func (.func 81) #[] #[]), (5, .func (.func 82) #[] #[]), (6, .func (.func 83) #[] #[]), (7, .func (.func 84) #[] #[]), (8, .func (.func 85) #[] #[]), (9, .func (.func 86) #[] #[]), (10, .func (.func 87) #[] #[]), (11, .func (.func 88) #[] #[])]
set_option maxRecDepth 100000 in
set_option maxHeartbeats 4000000 in
theorem kinds_calls (w : World) :
    Calls Tryz.prog 52 #[] w fun e w' => e = .returned (.map (some w.heap.size)) ∧ w' = w.alloc (mapObj kindL) := by
  have hmm : (Instr.makeMap 97 none).run Tryz.prog w = .ok (.map (some w.heap.size)) (w.alloc (mapObj [])) := run_makeMap _ _
  have i1 := run_insert (P := Tryz.prog) (t := 97) Tryz.underlying97 Tryz.underlying3 w (kindL.take 0) 1 (.func (.func 78) #[] #[]) rfl
  have i2 := run_insert (P := Tryz.prog) (t := 97) Tryz.underlying97 Tryz.underlying3 w (kindL.take 1) 2 (.func (.func 79) #[] #[]) rfl
  have i3 := run_insert (P := Tryz.prog) (t := 97) Tryz.underlying97 Tryz.underlying3 w (kindL.take 2) 3 (.func (.func 80) #[] #[]) rfl
  have i4 := run_insert (P := Tryz.prog) (t := 97) Tryz.underlying97 Tryz.underlying3 w (kindL.take 3) 4 (.func (.func 81) #[] #[]) rfl
  have i5 := run_insert (P := Tryz.prog) (t := 97) Tryz.underlying97 Tryz.underlying3 w (kindL.take 4) 5 (.func (.func 82) #[] #[]) rfl
  have i6 := run_insert (P := Tryz.prog) (t := 97) Tryz.underlying97 Tryz.underlying3 w (kindL.take 5) 6 (.func (.func 83) #[] #[]) rfl
  have i7 := run_insert (P := Tryz.prog) (t := 97) Tryz.underlying97 Tryz.underlying3 w (kindL.take 6) 7 (.func (.func 84) #[] #[]) rfl
  have i8 := run_insert (P := Tryz.prog) (t := 97) Tryz.underlying97 Tryz.underlying3 w (kindL.take 7) 8 (.func (.func 85) #[] #[]) rfl
  have i9 := run_insert (P := Tryz.prog) (t := 97) Tryz.underlying97 Tryz.underlying3 w (kindL.take 8) 9 (.func (.func 86) #[] #[]) rfl
  have i10 := run_insert (P := Tryz.prog) (t := 97) Tryz.underlying97 Tryz.underlying3 w (kindL.take 9) 10 (.func (.func 87) #[] #[]) rfl
  have i11 := run_insert (P := Tryz.prog) (t := 97) Tryz.underlying97 Tryz.underlying3 w (kindL.take 10) 11 (.func (.func 88) #[] #[]) rfl
  simp only [kindL, List.take_succ_cons, List.take_zero, List.cons_append, List.nil_append] at i1 i2 i3 i4 i5 i6 i7 i8 i9 i10 i11 ⊢
  go_enter Tryz.func52, Tryz.ntmps52
  go_wp2
  go_ret
  exact ⟨rfl, rfl⟩
end Go.Proofs.YtpjlepkdiaohiaaGreatDoor

/- Package tree: fits: walked. -/
namespace Go.Proofs.YtpjlepkdiaohiaaGreatDoor
open Go.RowKit
attribute [local go_sem] Oper.semAt_some

theorem formB_or (f : Int) : formB f = (f == 1 || (f == 2 || (f == 3 || f == 4))) := by
  unfold formB
  rw [Bool.eq_iff_iff]
  simp only [Bool.and_eq_true, Bool.or_eq_true, decide_eq_true_eq, beq_iff_eq]
  omega
theorem own_wid {p : Pay} {l : List Tr} (h : ownP p l = true) (h4 : p.k = 4) : p.w = 16 ∨ p.w = 32 ∨ p.w = 64 := by
  unfold ownP at h
  rw [if_neg (by omega), if_neg (by omega), if_neg (by omega), if_pos h4, Bool.and_eq_true, Bool.and_eq_true, decide_eq_true_eq] at h
  have h2 := h.2.2
  cases hw : isW p.w with
  | false =>
    rw [(notW hw).2.1] at h2
    cases h2
  | true =>
    unfold isW at hw
    simpa using hw

set_option maxRecDepth 100000 in
set_option maxHeartbeats 4000000 in
theorem fits6 (f : Int) (p : Pay) (l : List Tr) (_hfin : (Tr.nd p l).fine) (sl : Value) (w : World) (hin : InT w (ndV p sl) (.nd p l)) (hk : p.k = 6) :
    Calls Tryz.prog 54 #[.agg #[.int .i64 f], ndV p sl] w fun e w' => e = .returned (.bool (fitN p l f)) ∧ Below w.heap.size w w' := by
  obtain ⟨l', a, na, c, fa, e1, rfl, rfl, hla⟩ := InT.inv hin
  obtain rfl : l = l' := (Tr.nd.inj e1).2
  clear e1
  have hbb : Below w.heap.size w ((w.alloc (.cells #[.int .i64 f] 74)).alloc (.cells (ndL p (.slice a l.length c)).toArray 27)) := (below_alloc w _).alloc (by simp) _
  have hbx := Cls.new (w.alloc (.cells #[.int .i64 f] 74)) 27 (ndL p (.slice a l.length c))
  have hbc := (Cls.new w 74 [.int .i64 f]).alloc (.cells (ndL p (.slice a l.length c)).toArray 27)
  rw [World.size_alloc] at hbx
  have hs : fitN p l f = (f == 2 || (f == 3 || (f == 4))) := by
    unfold fitN
    rw [formB_or]
    rw [Bool.eq_iff_iff]
    simp [hk]
    omega
  rw [hs]
  clear hs _hfin
  have z4 : (p.k == 4) = false := by rw [beq_eq_false_iff_ne]; omega
  have z3 : (p.k == 3) = false := by rw [beq_eq_false_iff_ne]; omega
  have z6 : (p.k == 6) = true := by rw [beq_iff_eq]; exact hk
  have HX := hid (And.intro hbb (And.intro hbx (And.intro hbc hla)))
  clear hbb hbx hbc hla hin hk
  simp only [ndV, ndL]
  go_enter Tryz.func54, Tryz.ntmps54
  go_wp2_with fail
  refine (has3 f 2 3 4 _ _ (by first | rfl | simp)).mono ?_
  rintro e w1 ⟨rfl, hb1⟩
  obtain ⟨hbb, hbx, hbc, hla⟩ := HX.out
  have hw1 := hbb.trans (hb1.mono (by simp; omega))
  have hx1 := hbx.below hb1
  have hc1 := hbc.below hb1
  clear hbb hbx hbc hla hb1 hx1 hc1
  go_wp2
  go_ret
  exact ⟨rfl, hw1⟩

set_option maxRecDepth 100000 in
set_option maxHeartbeats 4000000 in
theorem fits9 (f : Int) (p : Pay) (l : List Tr) (_hfin : (Tr.nd p l).fine) (sl : Value) (w : World) (hin : InT w (ndV p sl) (.nd p l)) (hk : p.k = 9) :
    Calls Tryz.prog 54 #[.agg #[.int .i64 f], ndV p sl] w fun e w' => e = .returned (.bool (fitN p l f)) ∧ Below w.heap.size w w' := by
  obtain ⟨l', a, na, c, fa, e1, rfl, rfl, hla⟩ := InT.inv hin
  obtain rfl : l = l' := (Tr.nd.inj e1).2
  clear e1
  have hbb : Below w.heap.size w ((w.alloc (.cells #[.int .i64 f] 74)).alloc (.cells (ndL p (.slice a l.length c)).toArray 27)) := (below_alloc w _).alloc (by simp) _
  have hbx := Cls.new (w.alloc (.cells #[.int .i64 f] 74)) 27 (ndL p (.slice a l.length c))
  have hbc := (Cls.new w 74 [.int .i64 f]).alloc (.cells (ndL p (.slice a l.length c)).toArray 27)
  rw [World.size_alloc] at hbx
  have hs : fitN p l f = (f == 2 || (f == 3)) := by
    unfold fitN
    rw [formB_or]
    rw [Bool.eq_iff_iff]
    simp [hk]
    omega
  rw [hs]
  clear hs _hfin
  have z4 : (p.k == 4) = false := by rw [beq_eq_false_iff_ne]; omega
  have z3 : (p.k == 3) = false := by rw [beq_eq_false_iff_ne]; omega
  have z6 : (p.k == 6) = false := by rw [beq_eq_false_iff_ne]; omega
  have z9 : (p.k == 9) = true := by rw [beq_iff_eq]; exact hk
  have HX := hid (And.intro hbb (And.intro hbx (And.intro hbc hla)))
  clear hbb hbx hbc hla hin hk
  simp only [ndV, ndL]
  go_enter Tryz.func54, Tryz.ntmps54
  go_wp2_with fail
  refine (has2 f 2 3 _ _ (by first | rfl | simp)).mono ?_
  rintro e w1 ⟨rfl, hb1⟩
  obtain ⟨hbb, hbx, hbc, hla⟩ := HX.out
  have hw1 := hbb.trans (hb1.mono (by simp; omega))
  have hx1 := hbx.below hb1
  have hc1 := hbc.below hb1
  clear hbb hbx hbc hla hb1 hx1 hc1
  go_wp2
  go_ret
  exact ⟨rfl, hw1⟩

set_option maxRecDepth 100000 in
set_option maxHeartbeats 4000000 in
theorem fits10 (f : Int) (p : Pay) (l : List Tr) (_hfin : (Tr.nd p l).fine) (sl : Value) (w : World) (hin : InT w (ndV p sl) (.nd p l)) (hk : p.k = 10) :
    Calls Tryz.prog 54 #[.agg #[.int .i64 f], ndV p sl] w fun e w' => e = .returned (.bool (fitN p l f)) ∧ Below w.heap.size w w' := by
  obtain ⟨l', a, na, c, fa, e1, rfl, rfl, hla⟩ := InT.inv hin
  obtain rfl : l = l' := (Tr.nd.inj e1).2
  clear e1
  have hbb : Below w.heap.size w ((w.alloc (.cells #[.int .i64 f] 74)).alloc (.cells (ndL p (.slice a l.length c)).toArray 27)) := (below_alloc w _).alloc (by simp) _
  have hbx := Cls.new (w.alloc (.cells #[.int .i64 f] 74)) 27 (ndL p (.slice a l.length c))
  have hbc := (Cls.new w 74 [.int .i64 f]).alloc (.cells (ndL p (.slice a l.length c)).toArray 27)
  rw [World.size_alloc] at hbx
  have hs : fitN p l f = (f == 2 || (f == 3)) := by
    unfold fitN
    rw [formB_or]
    rw [Bool.eq_iff_iff]
    simp [hk]
    omega
  rw [hs]
  clear hs _hfin
  have z4 : (p.k == 4) = false := by rw [beq_eq_false_iff_ne]; omega
  have z3 : (p.k == 3) = false := by rw [beq_eq_false_iff_ne]; omega
  have z6 : (p.k == 6) = false := by rw [beq_eq_false_iff_ne]; omega
  have z9 : (p.k == 9) = false := by rw [beq_eq_false_iff_ne]; omega
  have z10 : (p.k == 10) = true := by rw [beq_iff_eq]; exact hk
  have HX := hid (And.intro hbb (And.intro hbx (And.intro hbc hla)))
  clear hbb hbx hbc hla hin hk
  simp only [ndV, ndL]
  go_enter Tryz.func54, Tryz.ntmps54
  go_wp2_with fail
  refine (has2 f 2 3 _ _ (by first | rfl | simp)).mono ?_
  rintro e w1 ⟨rfl, hb1⟩
  obtain ⟨hbb, hbx, hbc, hla⟩ := HX.out
  have hw1 := hbb.trans (hb1.mono (by simp; omega))
  have hx1 := hbx.below hb1
  have hc1 := hbc.below hb1
  clear hbb hbx hbc hla hb1 hx1 hc1
  go_wp2
  go_ret
  exact ⟨rfl, hw1⟩

set_option maxRecDepth 100000 in
set_option maxHeartbeats 4000000 in
theorem fits11 (f : Int) (p : Pay) (l : List Tr) (_hfin : (Tr.nd p l).fine) (sl : Value) (w : World) (hin : InT w (ndV p sl) (.nd p l)) (hk : p.k = 11) :
    Calls Tryz.prog 54 #[.agg #[.int .i64 f], ndV p sl] w fun e w' => e = .returned (.bool (fitN p l f)) ∧ Below w.heap.size w w' := by
  obtain ⟨l', a, na, c, fa, e1, rfl, rfl, hla⟩ := InT.inv hin
  obtain rfl : l = l' := (Tr.nd.inj e1).2
  clear e1
  have hbb : Below w.heap.size w ((w.alloc (.cells #[.int .i64 f] 74)).alloc (.cells (ndL p (.slice a l.length c)).toArray 27)) := (below_alloc w _).alloc (by simp) _
  have hbx := Cls.new (w.alloc (.cells #[.int .i64 f] 74)) 27 (ndL p (.slice a l.length c))
  have hbc := (Cls.new w 74 [.int .i64 f]).alloc (.cells (ndL p (.slice a l.length c)).toArray 27)
  rw [World.size_alloc] at hbx
  have hs : fitN p l f = (f == 4) := by
    unfold fitN
    rw [formB_or]
    rw [Bool.eq_iff_iff]
    simp [hk]
    omega
  rw [hs]
  clear hs _hfin
  have z4 : (p.k == 4) = false := by rw [beq_eq_false_iff_ne]; omega
  have z3 : (p.k == 3) = false := by rw [beq_eq_false_iff_ne]; omega
  have z6 : (p.k == 6) = false := by rw [beq_eq_false_iff_ne]; omega
  have z9 : (p.k == 9) = false := by rw [beq_eq_false_iff_ne]; omega
  have z10 : (p.k == 10) = false := by rw [beq_eq_false_iff_ne]; omega
  have z11 : (p.k == 11) = true := by rw [beq_iff_eq]; exact hk
  have HX := hid (And.intro hbb (And.intro hbx (And.intro hbc hla)))
  clear hbb hbx hbc hla hin hk
  simp only [ndV, ndL]
  go_enter Tryz.func54, Tryz.ntmps54
  go_wp2_with fail
  refine (has1 f 4 _ _ (by first | rfl | simp)).mono ?_
  rintro e w1 ⟨rfl, hb1⟩
  obtain ⟨hbb, hbx, hbc, hla⟩ := HX.out
  have hw1 := hbb.trans (hb1.mono (by simp; omega))
  have hx1 := hbx.below hb1
  have hc1 := hbc.below hb1
  clear hbb hbx hbc hla hb1 hx1 hc1
  go_wp2
  go_ret
  exact ⟨rfl, hw1⟩

set_option maxRecDepth 100000 in
set_option maxHeartbeats 4000000 in
theorem fitsE (f : Int) (p : Pay) (l : List Tr) (_hfin : (Tr.nd p l).fine) (sl : Value) (w : World) (hin : InT w (ndV p sl) (.nd p l)) (hk : p.k ≠ 4 ∧ p.k ≠ 3 ∧ p.k ≠ 6 ∧ p.k ≠ 9 ∧ p.k ≠ 10 ∧ p.k ≠ 11 ∧ p.k ≠ 8) :
    Calls Tryz.prog 54 #[.agg #[.int .i64 f], ndV p sl] w fun e w' => e = .returned (.bool (fitN p l f)) ∧ Below w.heap.size w w' := by
  obtain ⟨l', a, na, c, fa, e1, rfl, rfl, hla⟩ := InT.inv hin
  obtain rfl : l = l' := (Tr.nd.inj e1).2
  clear e1
  have hbb : Below w.heap.size w ((w.alloc (.cells #[.int .i64 f] 74)).alloc (.cells (ndL p (.slice a l.length c)).toArray 27)) := (below_alloc w _).alloc (by simp) _
  have hbx := Cls.new (w.alloc (.cells #[.int .i64 f] 74)) 27 (ndL p (.slice a l.length c))
  have hbc := (Cls.new w 74 [.int .i64 f]).alloc (.cells (ndL p (.slice a l.length c)).toArray 27)
  rw [World.size_alloc] at hbx
  have hs : fitN p l f = (f == 1 || (f == 2 || (f == 3 || (f == 4)))) := by
    unfold fitN
    rw [formB_or]
    rw [if_neg hk.1, if_neg hk.2.1, if_neg hk.2.2.1, if_neg (by rintro (h | h); exact hk.2.2.2.1 h; exact hk.2.2.2.2.1 h), if_neg hk.2.2.2.2.2.1, if_neg hk.2.2.2.2.2.2, Bool.and_true]
  rw [hs]
  clear hs _hfin
  have z4 : (p.k == 4) = false := by rw [beq_eq_false_iff_ne]; exact hk.1
  have z3 : (p.k == 3) = false := by rw [beq_eq_false_iff_ne]; exact hk.2.1
  have z6 : (p.k == 6) = false := by rw [beq_eq_false_iff_ne]; exact hk.2.2.1
  have z9 : (p.k == 9) = false := by rw [beq_eq_false_iff_ne]; exact hk.2.2.2.1
  have z10 : (p.k == 10) = false := by rw [beq_eq_false_iff_ne]; exact hk.2.2.2.2.1
  have z11 : (p.k == 11) = false := by rw [beq_eq_false_iff_ne]; exact hk.2.2.2.2.2.1
  have z8 : (p.k == 8) = false := by rw [beq_eq_false_iff_ne]; exact hk.2.2.2.2.2.2
  have HX := hid (And.intro hbb (And.intro hbx (And.intro hbc hla)))
  clear hbb hbx hbc hla hin hk
  simp only [ndV, ndL]
  go_enter Tryz.func54, Tryz.ntmps54
  go_wp2_with fail
  refine (has4 f 1 2 3 4 _ _ (by first | rfl | simp)).mono ?_
  rintro e w1 ⟨rfl, hb1⟩
  obtain ⟨hbb, hbx, hbc, hla⟩ := HX.out
  have hw1 := hbb.trans (hb1.mono (by simp; omega))
  have hx1 := hbx.below hb1
  have hc1 := hbc.below hb1
  clear hbb hbx hbc hla hb1 hx1 hc1
  go_wp2
  go_ret
  exact ⟨rfl, hw1⟩

set_option maxRecDepth 100000 in
set_option maxHeartbeats 4000000 in
theorem fits8 (f : Int) (p : Pay) (l : List Tr) (hfin : (Tr.nd p l).fine) (sl : Value) (w : World) (hT : Tabs w) (hin : InT w (ndV p sl) (.nd p l)) (hk : p.k = 8) :
    Calls Tryz.prog 54 #[.agg #[.int .i64 f], ndV p sl] w fun e w' => e = .returned (.bool (fitN p l f)) ∧ Below w.heap.size w w' := by
  obtain ⟨l', a, na, c, fa, e1, rfl, rfl, hla⟩ := InT.inv hin
  obtain rfl : l = l' := (Tr.nd.inj e1).2
  clear e1
  have hbb : Below w.heap.size w ((w.alloc (.cells #[.int .i64 f] 74)).alloc (.cells (ndL p (.slice a l.length c)).toArray 27)) := (below_alloc w _).alloc (by simp) _
  have hbx := Cls.new (w.alloc (.cells #[.int .i64 f] 74)) 27 (ndL p (.slice a l.length c))
  have hbc := (Cls.new w 74 [.int .i64 f]).alloc (.cells (ndL p (.slice a l.length c)).toArray 27)
  rw [World.size_alloc] at hbx
  have hs : fitN p l f = ((f == 1 || (f == 2 || (f == 3 || f == 4))) && !((keysT l).any fun t => !keyOk t.p f)) := by
    unfold fitN
    rw [formB_or, if_neg (by omega), if_neg (by omega), if_neg (by omega), if_neg (by omega), if_neg (by omega), if_pos hk]
    congr 1
    unfold keysOk
    rw [Bool.eq_iff_iff]
    simp
  rw [hs]
  have h40 := hfin.len
  obtain ⟨K, hK⟩ : ∃ K, ((keysT l).any fun t => !keyOk t.p f) = K := ⟨_, rfl⟩
  rw [hK]
  have z4 : (p.k == 4) = false := by rw [beq_eq_false_iff_ne]; omega
  have z3 : (p.k == 3) = false := by rw [beq_eq_false_iff_ne]; omega
  have z6 : (p.k == 6) = false := by rw [beq_eq_false_iff_ne]; omega
  have z9 : (p.k == 9) = false := by rw [beq_eq_false_iff_ne]; omega
  have z10 : (p.k == 10) = false := by rw [beq_eq_false_iff_ne]; omega
  have z11 : (p.k == 11) = false := by rw [beq_eq_false_iff_ne]; omega
  have z8 : (p.k == 8) = true := by rw [beq_iff_eq]; exact hk
  have HH := hid (And.intro hT hfin)
  clear hT hs hfin
  have HX := hid (And.intro hbb (And.intro hbx (And.intro hbc hla)))
  clear hbb hbx hbc hla hin hk
  simp only [ndV, ndL]
  go_enter Tryz.func54, Tryz.ntmps54
  go_wp2_with fail
  refine (has4 f 1 2 3 4 _ _ (by first | rfl | simp)).mono ?_
  rintro e w1 ⟨rfl, hb1⟩
  obtain ⟨hbb, hbx, hbc, hla⟩ := HX.out
  have hw1 := hbb.trans (hb1.mono (by simp; omega))
  have hx1 := hbx.below hb1
  have hc1 := hbc.below hb1
  have d8 := hx1.cell 8 rfl
  have HY := hid (And.intro hw1 (And.intro hc1 (hla.up hw1)))
  clear hbb hbx hbc hla hb1 hx1 hc1
  cases hB : (f == 1 || (f == 2 || (f == 3 || f == 4)))
  · go_wp2
    go_ret
    exact ⟨by first | (rw [hB]; rfl) | (simp [hB]; done), hw1⟩
  · clear hw1
    go_wp2_with fail
    refine (keys_calls l h40 a c fa w1 HY.out.2.2).mono ?_
    rintro e w2 ⟨a', c', f', rfl, hcc, hk2, hb2⟩
    obtain ⟨hw1, hc1, -⟩ := HY.out
    have hw2 := hw1.trans (hb2.mono hw1.size)
    have hc2 := hc1.below hb2
    have hT2 := HH.out.1.below hw2
    have hcf := containsFunc_calls 91 (enters_of Tryz.func91 (by kernel_rfl) rfl) w.heap.size (fun t => !keyOk t.p f) (keysT l) (by rw [keysT_len]; omega) a' c' f' w2 hk2
      (fun t ht st W hW hin => fits1_calls f t (HH.out.2.sub (keysT_mem ht)) st w.heap.size W (hT2.below hW) (hc2.below hW) hin)
    rw [hK] at hcf
    obtain ⟨n2, hn2⟩ : ∃ n2, (keysT l).length = n2 := ⟨_, rfl⟩
    rw [hn2] at hcf ⊢
    clear hw1 hc1 hb2 hc2 hT2 hk2 hcc hn2 hK
    go_wp2_with fail
    refine hcf.mono ?_
    rintro e w3 ⟨rfl, hb3⟩
    have hw3 := hw2.trans (hb3.mono hw2.size)
    clear hcf
    go_wp2
    go_ret
    exact ⟨by first | (rw [hB]; rfl) | (simp [hB]; done), hw3⟩

set_option maxRecDepth 100000 in
set_option maxHeartbeats 4000000 in
theorem fits3 (f : Int) (p : Pay) (l : List Tr) (hfin : (Tr.nd p l).fine) (sl : Value) (w : World) (hT : Tabs w) (hin : InT w (ndV p sl) (.nd p l)) (hk : p.k = 3) :
    Calls Tryz.prog 54 #[.agg #[.int .i64 f], ndV p sl] w fun e w' => e = .returned (.bool (fitN p l f)) ∧ Below w.heap.size w w' := by
  obtain ⟨l', a, na, c, fa, e1, rfl, rfl, hla⟩ := InT.inv hin
  obtain rfl : l = l' := (Tr.nd.inj e1).2
  clear e1
  have hbb : Below w.heap.size w ((w.alloc (.cells #[.int .i64 f] 74)).alloc (.cells (ndL p (.slice a l.length c)).toArray 27)) := (below_alloc w _).alloc (by simp) _
  have hbx := Cls.new (w.alloc (.cells #[.int .i64 f] 74)) 27 (ndL p (.slice a l.length c))
  have hbc := (Cls.new w 74 [.int .i64 f]).alloc (.cells (ndL p (.slice a l.length c)).toArray 27)
  rw [World.size_alloc] at hbx
  have hti := fun W h => toInt_calls p.n p.dg p.ex (by have := hfin.pay.2.1; omega) W h
  obtain ⟨tb, htb⟩ : ∃ tb, tiB ⟨p.n, tx p.dg, p.ex⟩ = tb := ⟨_, rfl⟩
  obtain ⟨tn, htn⟩ : ∃ tn, tiN ⟨p.n, tx p.dg, p.ex⟩ = tn := ⟨_, rfl⟩
  rw [htb, htn] at hti
  have hti2 := hti _ (hT.below hbb)
  have hs : fitN p l f = (formB f && (decide (f = 1) || (tb && (decide (f ≠ 4) || (!(tb && p.n) || decide (tn ≤ 9223372036854775808)))))) := by
    unfold fitN
    rw [if_neg (by omega), if_pos hk, show tiB p.d = tb from htb, show tiN p.d = tn from htn]
  rw [hs]
  clear hs htb htn hti hT hfin
  have z4 : (p.k == 4) = false := by rw [beq_eq_false_iff_ne]; omega
  have z3 : (p.k == 3) = true := by rw [beq_iff_eq]; exact hk
  have HX := hid (And.intro hbb (And.intro hbx (And.intro hbc hla)))
  clear hbb hbx hbc hla hin hk
  simp only [ndV, ndL]
  simp only [ndL] at hti2
  go_enter Tryz.func54, Tryz.ntmps54
  go_wp2_with fail
  refine (hti2).mono ?_
  rintro e w1 ⟨rfl, hb1⟩
  obtain ⟨hbb, hbx, hbc, hla⟩ := HX.out
  have hw1 := hbb.trans (hb1.mono (by simp; omega))
  have hx1 := hbx.below hb1
  have hc1 := hbc.below hb1
  have HY := hid (And.intro hw1 (And.intro hx1 hc1))
  have k0 := hc1.cell 0 rfl
  clear hti2 hbb hbx hbc hla hb1 hw1 hx1 hc1
  go_wp2_with fail
  refine (has1 f 1 _ _ (by first | rfl | simp)).mono ?_
  rintro e w2 ⟨rfl, hb2⟩
  have hw2 := HY.out.1.trans (hb2.mono HY.out.1.size)
  have k0 := (HY.out.2.2.below hb2).cell 0 rfl
  have hc2 := HY.out.2.2.below hb2
  have HZ := hid (And.intro hw2 hc2)
  clear hb2 hc2
  by_cases h1 : f = 1
  · subst h1
    go_wp2
    go_ret
    exact ⟨by first | rfl | (simp [formB]; done), hw2⟩
  have f1 : (f == 1) = false := by rw [beq_eq_false_iff_ne]; exact h1
  clear hw2
  go_wp2_with fail
  refine (has2 f 2 3 _ _ (by first | rfl | simp)).mono ?_
  rintro e w3 ⟨rfl, hb3⟩
  have hw3 := HZ.out.1.trans (hb3.mono HZ.out.1.size)
  have k0 := (HZ.out.2.below hb3).cell 0 rfl
  have hc3 := HZ.out.2.below hb3
  have HV := hid (And.intro hw3 hc3)
  clear hb3 hc3
  by_cases h23 : f = 2 ∨ f = 3
  · have f2 : (f == 2 || f == 3) = true := by rw [Bool.or_eq_true, beq_iff_eq, beq_iff_eq]; exact h23
    cases tb
    · clear hw3
      go_wp2_with fail
      refine (has1 f 4 _ _ (by first | rfl | simp)).mono ?_
      rintro e w4 ⟨rfl, hb4⟩
      have hw4 := HV.out.1.trans (hb4.mono HV.out.1.size)
      clear hb4
      have f4 : (f == 4) = false := by rw [beq_eq_false_iff_ne]; omega
      rcases h23 with rfl | rfl
      · go_wp2
        go_ret
        exact ⟨by first | rfl | (simp [formB]; done), hw4⟩
      · go_wp2
        go_ret
        exact ⟨by first | rfl | (simp [formB]; done), hw4⟩
    · rcases h23 with rfl | rfl
      · go_wp2
        go_ret
        exact ⟨by first | rfl | (simp [formB]; done), hw3⟩
      · go_wp2
        go_ret
        exact ⟨by first | rfl | (simp [formB]; done), hw3⟩
  · have f2 : (f == 2 || f == 3) = false := by rw [Bool.or_eq_false_iff, beq_eq_false_iff_ne, beq_eq_false_iff_ne]; omega
    clear hw3
    go_wp2_with fail
    refine (has1 f 4 _ _ (by first | rfl | simp)).mono ?_
    rintro e w4 ⟨rfl, hb4⟩
    have hw4 := HV.out.1.trans (hb4.mono HV.out.1.size)
    clear hb4
    by_cases h4 : f = 4
    · subst h4
      cases tb
      · go_wp2
        go_ret
        exact ⟨by first | rfl | (simp [formB]; done), hw4⟩
      · cases hn : p.n
        · go_wp2
          go_ret
          exact ⟨by first | rfl | (simp [formB, hn]; done), hw4⟩
        · by_cases hz : tn ≤ 9223372036854775808
          · have hzi : (tn : Int) ≤ 9223372036854775808 := by omega
            have hzd : decide ((tn : Int) ≤ 9223372036854775808) = true := decide_eq_true hzi
            go_wp2
            go_ret
            exact ⟨by first | rfl | (simp [formB, hz, hn]; done), hw4⟩
          · have hzd : decide ((tn : Int) ≤ 9223372036854775808) = false := decide_eq_false (by omega)
            have hzn : ¬ (tn : Int) ≤ 9223372036854775808 := by omega
            go_wp2
            go_ret
            exact ⟨by first | rfl | (simp [formB, hz, hn]; done), hw4⟩
    · have f4 : (f == 4) = false := by rw [beq_eq_false_iff_ne]; exact h4
      have hfb : formB f = false := by rw [formB_or, f1, Bool.false_or]; rw [← Bool.or_assoc, f2, f4]; rfl
      go_wp2
      go_ret
      exact ⟨by first | rfl | (rw [hfb]; rfl) | (simp [hfb]; done), hw4⟩

end Go.Proofs.YtpjlepkdiaohiaaGreatDoor

