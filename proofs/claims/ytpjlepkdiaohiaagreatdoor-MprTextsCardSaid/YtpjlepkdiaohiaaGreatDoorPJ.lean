/- PJ: TrT TrV TrY TrZ TrSh TrU. -/
import Derived.Test.YtpjlepkdiaohiaaGreatDoorPC
import Derived.Test.YtpjlepkdiaohiaaGreatDoorPF
import Derived.IntWalk
import Derived.Test.YtpjlepkdiaohiaaGreatDoorPB
import Derived.Test.YtpjlepkdiaohiaaGreatDoorPI
import Derived.Deep.RegionHeld3
import Derived.ArgAppend
import Derived.Lib.SliceRun
/- Trees in memory that are turned in place: rows of nodes, one of which is stored into. -/
namespace Go.Proofs.YtpjlepkdiaohiaaGreatDoor
open Go Go.RowKit

/-- a node's cells stored from an offset on. -/
def putN (W : World) (g o : Nat) (p : Pay) (s : Value) : World := ((((((((W.setCell ⟨g, o, none⟩ (.int .i64 p.k)).setCell ⟨g, o + 1, none⟩ (.bool p.b)).setCell ⟨g, o + 2, none⟩ (.bool p.n)).setCell ⟨g, o + 3, none⟩ (.string p.dg)).setCell ⟨g, o + 4, none⟩ (.int .i64 p.ex)).setCell ⟨g, o + 5, none⟩ (.int .u64 p.u)).setCell ⟨g, o + 6, none⟩ (.int .i64 p.w)).setCell ⟨g, o + 7, none⟩ (.string p.s)).setCell ⟨g, o + 8, none⟩ s
theorem setCell_heap (W : World) (g o : Nat) (v : Value) (cur : Array Value) (t : TypeId) (fz : Nat × Nat) (h : W.heap[g]? = some (.cells cur t fz)) : (W.setCell ⟨g, o, none⟩ v).heap[g]? = some (.cells (cur.setIfInBounds o v) t fz) := by
  show (W.heap.modify g _)[g]? = _
  rw [Array.getElem?_modify, if_pos rfl, h]
  simp
theorem putN_heap (W : World) (g o : Nat) (p : Pay) (s : Value) (cur : Array Value) (t : TypeId) (fz : Nat × Nat) (h : W.heap[g]? = some (.cells cur t fz)) :
    (putN W g o p s).heap[g]? = some (.cells (((((((((cur.setIfInBounds o (.int .i64 p.k)).setIfInBounds (o + 1) (.bool p.b)).setIfInBounds (o + 2) (.bool p.n)).setIfInBounds (o + 3) (.string p.dg)).setIfInBounds (o + 4) (.int .i64 p.ex)).setIfInBounds (o + 5) (.int .u64 p.u)).setIfInBounds (o + 6) (.int .i64 p.w)).setIfInBounds (o + 7) (.string p.s)).setIfInBounds (o + 8) s) t fz) := by
  unfold putN
  exact setCell_heap _ _ _ _ _ _ _ (setCell_heap _ _ _ _ _ _ _ (setCell_heap _ _ _ _ _ _ _ (setCell_heap _ _ _ _ _ _ _ (setCell_heap _ _ _ _ _ _ _ (setCell_heap _ _ _ _ _ _ _ (setCell_heap _ _ _ _ _ _ _ (setCell_heap _ _ _ _ _ _ _ (setCell_heap _ _ _ _ _ _ _ h))))))))
theorem putN_other (W : World) (g o : Nat) (p : Pay) (s : Value) {k : Nat} (h : k ≠ g) : (putN W g o p s).heap[k]? = W.heap[k]? := by
  unfold putN
  exact (Below.heap_setCell _ _ _ _ h).trans ((Below.heap_setCell _ _ _ _ h).trans ((Below.heap_setCell _ _ _ _ h).trans ((Below.heap_setCell _ _ _ _ h).trans ((Below.heap_setCell _ _ _ _ h).trans ((Below.heap_setCell _ _ _ _ h).trans ((Below.heap_setCell _ _ _ _ h).trans ((Below.heap_setCell _ _ _ _ h).trans (Below.heap_setCell _ _ _ _ h))))))))
theorem putN_size (W : World) (g o : Nat) (p : Pay) (s : Value) : (putN W g o p s).heap.size = W.heap.size := by
  unfold putN
  simp only [setCell_size]
theorem putN_below {n : Nat} {w W : World} (h : Below n w W) (g o : Nat) (p : Pay) (s : Value) (hg : n ≤ g) : Below n w (putN W g o p s) := by
  unfold putN
  exact ((((((((h.setCell (p := ⟨g, o, none⟩) hg _).setCell (p := ⟨g, o + 1, none⟩) hg _).setCell (p := ⟨g, o + 2, none⟩) hg _).setCell (p := ⟨g, o + 3, none⟩) hg _).setCell (p := ⟨g, o + 4, none⟩) hg _).setCell (p := ⟨g, o + 5, none⟩) hg _).setCell (p := ⟨g, o + 6, none⟩) hg _).setCell (p := ⟨g, o + 7, none⟩) hg _).setCell (p := ⟨g, o + 8, none⟩) hg _

/-- a row of nodes lies in block g. -/
def RowAt (W : World) (g : Nat) (zs : List (Value × Tr)) : Prop := ∃ cur t, W.heap[g]? = some (.cells cur t (0, 0)) ∧ ∀ i z, zs[i]? = some z → ∀ j x, (ndL z.2.p z.1)[j]? = some x → cur[i * 9 + j]? = some x
theorem RowAt.frozen {W : World} {g : Nat} {zs : List (Value × Tr)} (h : RowAt W g zs) (o : Nat) : W.frozen? ⟨g, o, none⟩ = false := by
  obtain ⟨cur, t, h1, -⟩ := h
  simp [World.frozen?, h1]
theorem RowAt.atN {W : World} {g : Nat} {zs : List (Value × Tr)} (h : RowAt W g zs) {i : Nat} {z : Value × Tr} (hi : zs[i]? = some z) : AtN W g (i * 9) z.2.p z.1 := by
  obtain ⟨cur, t, h1, h2⟩ := h
  intro j x hj
  have := h2 i z hi j x hj
  simp [World.cell?, h1, this]
theorem RowAt.lt {W : World} {g : Nat} {zs : List (Value × Tr)} (h : RowAt W g zs) : g < W.heap.size := by
  obtain ⟨cur, t, h1, -⟩ := h
  exact (Array.getElem?_eq_some_iff.1 h1).1
theorem RowAt.same {W W' : World} {g : Nat} {zs : List (Value × Tr)} (h : RowAt W g zs) (he : W'.heap[g]? = W.heap[g]?) : RowAt W' g zs := by
  obtain ⟨cur, t, h1, h2⟩ := h
  exact ⟨cur, t, he.trans h1, h2⟩
theorem RowAt.below {W W' : World} {g : Nat} {zs : List (Value × Tr)} (h : RowAt W g zs) (hb : Below W.heap.size W W') : RowAt W' g zs := h.same (hb.block g h.lt)
theorem nine {j : Nat} {x : Value} {p : Pay} {s : Value} (h : (ndL p s)[j]? = some x) : j < 9 := (List.getElem?_eq_some_iff.1 h).1
theorem RowAt.put {W : World} {g : Nat} {zs : List (Value × Tr)} (h : RowAt W g zs) {k : Nat} (hk : k < zs.length) (z : Value × Tr) : RowAt (putN W g (k * 9) z.2.p z.1) g (zs.set k z) := by
  obtain ⟨cur, t, h1, h2⟩ := h
  refine ⟨_, t, putN_heap W g (k * 9) z.2.p z.1 cur t (0, 0) h1, fun i y hi j x hj => ?_⟩
  have hj9 := nine hj
  have hsz : k * 9 + 8 < cur.size := by
    have hz : zs[k]? = some zs[k] := List.getElem?_eq_getElem hk
    have := h2 k _ hz 8 zs[k].1 rfl
    exact (Array.getElem?_eq_some_iff.1 this).1
  rw [List.getElem?_set] at hi
  by_cases hik : k = i
  · subst hik
    rw [if_pos rfl, if_pos hk] at hi
    obtain rfl := Option.some.inj hi
    rcases (show j = 0 ∨ j = 1 ∨ j = 2 ∨ j = 3 ∨ j = 4 ∨ j = 5 ∨ j = 6 ∨ j = 7 ∨ j = 8 by omega) with rfl | rfl | rfl | rfl | rfl | rfl | rfl | rfl | rfl <;>
    · obtain rfl := Option.some.inj hj
      simp only [Array.getElem?_setIfInBounds, Array.size_setIfInBounds, if_true]
      repeat rw [if_neg (by omega)]
      repeat rw [if_pos (by omega)]
  · rw [if_neg hik] at hi
    have h3 := h2 i y hi j x hj
    simp only [Array.getElem?_setIfInBounds, Array.size_setIfInBounds]
    repeat rw [if_neg (by omega)]
    exact h3

/-- a tree whose lists are each a row at the beginning of a block of K. -/
inductive InC (K : Nat → Prop) (W : World) : Value → Tr → Prop where
  | nd (p : Pay) (l : List Tr) (a : Option Addr) (n c : Nat) (zs : List (Value × Tr)) (hn : n = l.length) (hz : zs.map (·.2) = l)
      (hc : 0 < l.length → ∃ g, a = some ⟨g, 0, none⟩ ∧ K g ∧ RowAt W g zs)
      (ht : ∀ z, z ∈ zs → InC K W (ndV z.2.p z.1) z.2) : InC K W (ndV p (.slice a n c)) (.nd p l)
theorem InC.toB {K : Nat → Prop} {W : World} {v : Value} {t : Tr} (h : InC K W v t) : InB K W v t := by
  induction h with
  | nd p l a n c zs hn hz hc ht ih =>
    subst hz
    refine .nd p _ a n c (fun i => ((zs[i]?).map (·.1)).getD (.bool false)) hn (fun i t hi => ?_) (fun i t hi => ?_)
    · rw [List.getElem?_map, Option.map_eq_some_iff] at hi
      obtain ⟨z, h1, rfl⟩ := hi
      have hpos : 0 < (zs.map (·.2)).length := by
        rw [List.length_map]
        have := (List.getElem?_eq_some_iff.1 h1).1
        omega
      obtain ⟨g, h2, h3, h4⟩ := hc hpos
      refine ⟨g, 0, h2, h3, ?_⟩
      rw [h1, Nat.zero_add]
      exact h4.atN h1
    · rw [List.getElem?_map, Option.map_eq_some_iff] at hi
      obtain ⟨z, h1, rfl⟩ := hi
      rw [h1]
      exact ih z (List.mem_of_getElem? h1)
theorem InC.mono {K K' : Nat → Prop} {W : World} {v : Value} {t : Tr} (h : InC K W v t) (hK : ∀ k, k < W.heap.size → K k → K' k) : InC K' W v t := by
  induction h with
  | nd p l a n c zs hn hz hc ht ih =>
    refine .nd p l a n c zs hn hz (fun h => ?_) ih
    obtain ⟨g, h1, h2, h3⟩ := hc h
    exact ⟨g, h1, hK g h3.lt h2, h3⟩
theorem InC.kept {K : Nat → Prop} {W W' : World} {v : Value} {t : Tr} (h : InC K W v t) (hK : ∀ k, k < W.heap.size → K k → W'.heap[k]? = W.heap[k]?) : InC K W' v t := by
  induction h with
  | nd p l a n c zs hn hz hc ht ih =>
    refine .nd p l a n c zs hn hz (fun h => ?_) ih
    obtain ⟨g, h1, h2, h3⟩ := hc h
    exact ⟨g, h1, h2, h3.same (hK g h3.lt h2)⟩
theorem InC.up {K : Nat → Prop} {W W' : World} {v : Value} {t : Tr} (h : InC K W v t) (hb : Below W.heap.size W W') : InC K W' v t := h.kept fun k hk _ => hb.block k hk
theorem InC.leaf (K : Nat → Prop) (W : World) (p : Pay) (c : Nat) (a : Option Addr) : InC K W (ndV p (.slice a 0 c)) (.nd p []) := .nd p [] a 0 c [] rfl rfl (fun h => absurd h (by simp)) (fun z h => by cases h)

/-- what may be spoiled: nodes so deep at most, their lists rows at the beginnings of blocks. -/
def SpV (lo top : Nat) (W : World) : Nat → Value → Prop
  | 0, v => ∃ p a c, v = ndV p (.slice a 0 c)
  | d + 1, v => ∃ p a c, ∃ zs : List (Value × Tr), v = ndV p (.slice a zs.length c) ∧ zs.length ≤ 10000 ∧ (0 < zs.length → ∃ g, a = some ⟨g, 0, none⟩ ∧ (lo ≤ g ∧ g < top) ∧ RowAt W g zs) ∧ ∀ z, z ∈ zs → SpV lo top W d (ndV z.2.p z.1)
theorem InC.sp {lo top : Nat} {W : World} {v : Value} {t : Tr} (h : InC (fun k => lo ≤ k ∧ k < top) W v t) : t.fine → ∀ d, t.dep ≤ d + 1 → SpV lo top W d v := by
  induction h with
  | nd p l a n c zs hn hz hc ht ih =>
    intro hf d hd
    subst hz
    subst hn
    cases d with
    | zero =>
      rw [Tr.dep] at hd
      have : zs = [] := by
        cases zs with
        | nil => rfl
        | cons z r =>
          rw [List.map_cons, depL] at hd
          have h1 : 1 ≤ z.2.dep := by cases z.2; rw [Tr.dep]; omega
          omega
      subst this
      exact ⟨p, a, c, rfl⟩
    | succ d =>
      refine ⟨p, a, c, zs, by rw [List.length_map], by have := hf.len; rwa [List.length_map] at this, fun h => hc (by rwa [List.length_map]), fun z hz => ih z hz (hf.sub (List.mem_map_of_mem hz)) d ?_⟩
      rw [Tr.dep] at hd
      have : z.2.dep ≤ depL (zs.map (·.2)) := by
        clear hd ih hf hc ht
        induction zs with
        | nil => cases hz
        | cons y r ih2 =>
          rw [List.map_cons, depL]
          rcases List.mem_cons.1 hz with rfl | h
          · exact Nat.le_max_left _ _
          · exact Nat.le_trans (ih2 h) (Nat.le_max_right _ _)
      omega
theorem SpV.kept {lo top : Nat} {W W' : World} (hK : ∀ k, k < W.heap.size → lo ≤ k → k < top → W'.heap[k]? = W.heap[k]?) : ∀ (d : Nat) (v : Value), SpV lo top W d v → SpV lo top W' d v
  | 0, _, ⟨p', a, c, e⟩ => ⟨p', a, c, e⟩
  | d + 1, v, ⟨p, a, c, zs, h1, h2, h3, h4⟩ => ⟨p, a, c, zs, h1, h2, fun h => by
      obtain ⟨g, h5, h6, h7⟩ := h3 h
      exact ⟨g, h5, h6, h7.same (hK g h7.lt h6.1 h6.2)⟩, fun z hz => SpV.kept hK d _ (h4 z hz)⟩
/-- a node without a list put into a row. -/
theorem SpV.leaf (lo top : Nat) (W : World) (p : Pay) (a : Option Addr) (c : Nat) : ∀ d, SpV lo top W d (ndV p (.slice a 0 c))
  | 0 => ⟨p, a, c, rfl⟩
  | d + 1 => ⟨p, a, c, [], rfl, by simp, fun h => absurd h (by simp), fun z h => by cases h⟩
theorem SpV.put {lo top : Nat} {W : World} (g k : Nat) {zs0 : List (Value × Tr)} (h0 : RowAt W g zs0) (hk : k < zs0.length) (p : Pay) : ∀ (d : Nat) (v : Value), SpV lo top W d v → SpV lo top (putN W g (k * 9) p (.slice none 0 0)) d v
  | 0, _, ⟨p', a, c, e⟩ => ⟨p', a, c, e⟩
  | d + 1, v, ⟨q, a, c, zs, h1, h2, h3, h4⟩ => by
    by_cases hg : ∃ b, a = some ⟨g, b, none⟩ ∧ 0 < zs.length
    · obtain ⟨b, rfl, hpos⟩ := hg
      obtain ⟨g', h5, h6, h7⟩ := h3 hpos
      obtain ⟨rfl, rfl⟩ : g = g' ∧ b = 0 := by
        have e := Option.some.inj h5
        exact ⟨congrArg (·.block) e, congrArg (·.off) e⟩
      by_cases hkl : k < zs.length
      · refine ⟨q, _, c, zs.set k (.slice none 0 0, .nd p []), by rw [List.length_set]; exact h1, by rw [List.length_set]; exact h2, fun _ => ⟨g, rfl, h6, h7.put hkl (.slice none 0 0, .nd p [])⟩, fun z hz => ?_⟩
        rcases List.mem_or_eq_of_mem_set hz with hz | rfl
        · exact SpV.put g k h0 hk p d _ (h4 z hz)
        · exact SpV.leaf _ _ _ _ _ _ d
      · refine ⟨q, _, c, zs, h1, h2, fun _ => ⟨g, rfl, h6, ?_⟩, fun z hz => SpV.put g k h0 hk p d _ (h4 z hz)⟩
        obtain ⟨cur, t, e1, e2⟩ := h7
        refine ⟨_, t, putN_heap W g (k * 9) p _ cur t (0, 0) e1, fun i y hi j x hj => ?_⟩
        have hj9 := nine hj
        have hil := (List.getElem?_eq_some_iff.1 hi).1
        simp only [Array.getElem?_setIfInBounds, Array.size_setIfInBounds]
        repeat rw [if_neg (by omega)]
        exact e2 i y hi j x hj
    · refine ⟨q, a, c, zs, h1, h2, fun h => ?_, fun z hz => SpV.put g k h0 hk p d _ (h4 z hz)⟩
      obtain ⟨g', h5, h6, h7⟩ := h3 h
      have hne : g' ≠ g := fun e => hg ⟨0, by rw [h5, e], h⟩
      exact ⟨g', h5, h6, h7.same (putN_other _ _ _ _ _ hne)⟩
end Go.Proofs.YtpjlepkdiaohiaaGreatDoor

/- The statements' helper Cut: walked. -/
namespace Go.Proofs.YtpjlepkdiaohiaaGreatDoor
open Go.RowKit
attribute [local go_sem] Oper.semAt_some

/-- what Cut's contract says, so deep. -/
def CutC (j : Nat) : Prop := ∀ (t : Tr), t.wf → ∀ (sl : Value) (w : World), InT w (ndV t.p sl) t →
  Calls Tryz.prog 29 #[ndV t.p sl, .int .i64 ((j + 1 : Nat) : Int)] w fun e w' => ∃ sl', e = .returned (ndV t.p.cut sl') ∧ InB (fun k => w.heap.size ≤ k) w' (ndV t.p.cut sl') (cutD j t) ∧ Below w.heap.size w w'
/-- what lies in memory while a tree is cut. -/
structure CutI (w : World) (p : Pay) (sl v : Value) (zs : List (Value × Tr)) (W : World) : Prop where
  own : Cls W w.heap.size 27 (ndL p.cut sl)
  res : Cls W (w.heap.size + 1) 27 (ndL Pay.z (.slice none 0 0))
  row : OwnL (w.heap.size + 2) (w.heap.size + 2) W v zs
  below : Below w.heap.size w W
theorem CutI.up {w : World} {p : Pay} {sl v : Value} {zs : List (Value × Tr)} {A B : World} (h : CutI w p sl v zs A) (hb : Below A.heap.size A B) : CutI w p sl v zs B :=
  ⟨h.own.below hb, h.res.below hb, h.row.up hb, h.below.trans (hb.mono h.below.size)⟩
theorem pre_le {x : Nat} (y : Nat) : 0 ≤ min (x : Int) (y : Int) ∧ min (x : Int) (y : Int) ≤ x := by omega

theorem min_toNat (x y : Nat) : (min (x : Int) (y : Int)).toNat = min x y := by omega

set_option maxRecDepth 100000 in
set_option maxHeartbeats 4000000 in
theorem cut_step (j : Nat) (hj : j ≤ 100) (ih : ∀ i, j = i + 1 → CutC i) : CutC j := by
  rintro ⟨p, l⟩ hwf sl w hin
  obtain ⟨l', a, n, c, f, he, rfl, rfl, hL⟩ := InT.inv hin
  obtain rfl : l = l' := (Tr.nd.inj he).2
  have hp2 := hwf.pay.2.1
  have hp6 := hwf.pay.2.2.2.2.2
  have hn : l.length ≤ 9223372036854775807 := by cases hwf; assumption
  simp only [Tr.p] at hp2 hp6
  have hm1 := pre_le (x := p.s.size) 410
  have hm2 := pre_le (x := p.dg.size) 200
  have e1 := hid (min_toNat p.s.size 410)
  have e2 := hid (min_toNat p.dg.size 200)
  simp only [ndV, ndL, Tr.p]
  obtain ⟨d, hd⟩ : ∃ d : Nat, j + 1 = d := ⟨_, rfl⟩
  have hd1 : 1 ≤ d := by omega
  have hd2 : d ≤ 101 := by omega
  rw [hd]
  have HD := hid hd
  clear hd
  obtain ⟨i0, hi, hz0, hz1, hz2⟩ := info_parts info_node
  have HX := hid (And.intro hL (And.intro hwf ih))
  clear hL hwf he hin ih
  go_enter Tryz.func29, Tryz.ntmps29
  go_wp2_with fail
  obtain ⟨W1, hW1⟩ : ∃ W1, W1 = (w.alloc (.cells (ndL p.cut (.slice a l.length c)).toArray 27)).alloc (.cells (ndL Pay.z (.slice none 0 0)).toArray 27) := ⟨_, rfl⟩
  have hI : CutI w p (.slice a l.length c) (.slice none 0 0) [] W1 := by
    have hbx2 := Cls.new (w.alloc (.cells (ndL p.cut (.slice a l.length c)).toArray 27)) 27 (ndL Pay.z (.slice none 0 0))
    rw [World.size_alloc] at hbx2
    rw [hW1]
    exact ⟨(Cls.new w 27 (ndL p.cut (.slice a l.length c))).alloc _, hbx2, OwnL.nil _ _ _, (below_alloc w _).alloc (by simp) _⟩
  rw [show (min (p.s.size : Int) 410).toNat = min p.s.size 410 from e1.out, show (min (p.dg.size : Int) 200).toNat = min p.dg.size 200 from e2.out]
  refine (?_ : Code.wp _ _ _ _ ((w.alloc (.cells (ndL p.cut (.slice a l.length c)).toArray 27)).alloc (.cells (ndL Pay.z (.slice none 0 0)).toArray 27)))
  rw [← hW1]
  clear hW1 e1 e2
  have HY := hid hI
  clear hI
  go_loopw [5, 6] (fun v5 v6 wr => ∃ (i : Nat) (zs : List (Value × Tr)), v6 = .int .i64 i ∧ i ≤ l.length ∧ i ≤ 40 ∧ (j = 0 → i = 0) ∧ zs.map (·.2) = (l.take i).map (cutD (j - 1)) ∧ CutI w p (.slice a l.length c) v5 zs wr) (fun _ v6 _ => 41 - (intOf v6).toNat)
  case atStart => exact ⟨0, [], rfl, Nat.zero_le _, Nat.zero_le _, fun _ => rfl, rfl, HY.out⟩
  case round =>
    obtain ⟨i, zs, rfl, hil, hi40, hj0, hzs, hI⟩ := hrel
    obtain ⟨va, vc, rfl, -, -⟩ := hI.row.shape
    have i8 := hI.own.cell 8 rfl
    by_cases hmore : (i < l.length ∧ i < 40) ∧ 0 < j
    · obtain ⟨⟨hil2, hi402⟩, hj1⟩ := hmore
      obtain ⟨hL, hwf, ih⟩ := HX.out
      obtain ⟨t, ht⟩ : ∃ t, l[i]? = some t := ⟨_, List.getElem?_eq_getElem hil2⟩
      obtain ⟨⟨g, o, rfl, ca1⟩, ta⟩ := (hL.up hI.below) i t ht
      obtain ⟨l1, q1, n1, c1, f1, -, g1, rfl, -⟩ := InT.inv ta
      rw [g1] at ca1 ta
      obtain ⟨a0, a1, a2, a3, a4, a5, a6, a7, a8⟩ := ca1.cells
      have hb1 : decide ((i : Int) < l.length) = true := decide_eq_true (by omega)
      have hb2 : decide ((i : Int) < 40) = true := decide_eq_true (by omega)
      have hb3 : (1 : Int) < (d : Int) := by have := HD.out; omega
      have HW := hid (show wrap64 ((i : Int) + 1) = ((i + 1 : Nat) : Int) by unfold wrap64; omega)
      have hcall := ih (j - 1) (by omega) t (hwf.sub (List.mem_of_getElem? ht)) (.slice q1 l1.length c1) wr ta
      rw [show ((j - 1 + 1 : Nat) : Int) = (d : Int) - 1 by have := HD.out; omega] at hcall
      have HZ := hid (And.intro hI (And.intro ht hzs))
      have hzl : zs.length ≤ i := by
        have := congrArg List.length hzs
        rw [List.length_map, List.length_map, List.length_take] at this
        omega
      clear hL hwf ih ca1 ta g1 hI ht hzs
      simp only [ndV, ndL] at hcall
      go_wp2_with fail
      refine hcall.mono ?_
      rintro e w1 ⟨sl', rfl, hB', hb1⟩
      obtain ⟨l9, q9, n9, c9, f9, -, rfl, -, -⟩ := InT.inv hB'.toT
      obtain ⟨hI, ht, hzs⟩ := HZ.out
      have hI1 := hI.up hb1
      have hI2 := hI1.up (below_alloc w1 (.cells (ndL t.p.cut (.slice q9 n9 c9)).toArray 27))
      have hown := hI2.row.1
      have hnc := cells_new w1 27 (ndL t.p.cut (.slice q9 n9 c9))
      have hsw : w.heap.size + 2 ≤ w1.heap.size := Nat.le_trans hI.res.lt hb1.size
      have HV := hid (And.intro hI (And.intro hI2 (And.intro ht (And.intro hzs (And.intro hB' hb1)))))
      simp only [ndL] at hnc hown
      clear hI hI1 hI2 ht hzs hB' hb1 HZ hcall
      go_wp2_with (at_builtin; refine wpList_append_own_at _ rfl _ _ 25 rfl (w.heap.size + 2) 27 i0 (.agg #[.int .i64 0, .bool false, .bool false, .string ⟨#[]⟩, .int .i64 0, .int .u64 0, .int .i64 0, .string ⟨#[]⟩, .slice none 0 0]) 9 104 Tryz.underlying25 hi hz0 hz1 hz2 rfl (by decide) _ _ _ rfl hown ⟨w1.heap.size, 0, none⟩ 1 1 (ndL t.p.cut (.slice q9 n9 c9)) rfl rfl hnc (ndL_oneCell _ _ _ _) (by simp only [maxLen]; omega) (by omega) (by simp; omega) ?_)
      intro v' w2 hown' hgrow hnil hloc
      have HU := hid (And.intro hown' (And.intro hgrow hloc))
      clear hown' hgrow hnil hloc hnc hown
      go_wp2
      go_roundw
      case rel =>
        obtain ⟨hI, hI2, ht, hzs, hB', hb1⟩ := HV.out
        obtain ⟨hown', hgrow, hloc⟩ := HU.out
        have hno : ∀ k, (Value.slice va zs.length vc).ownBlock = some k → w.heap.size + 2 ≤ k ∧ k < wr.heap.size := fun k hk => hI.row.1.lt k hk
        have hInB : InB (fun k => w.heap.size + 2 ≤ k ∧ some k ≠ (Value.slice va zs.length vc).ownBlock) (w1.alloc (.cells (ndL t.p.cut (.slice q9 n9 c9)).toArray 27)) (ndV t.p.cut (.slice q9 n9 c9)) (cutD (j - 1) t) :=
          (hB'.mono (fun k _ (hk : wr.heap.size ≤ k) => ⟨Nat.le_trans hI.res.lt hk, fun e => by have := (hno k e.symm).2; omega⟩)).up (below_alloc _ _)
        have hcp : (cutD (j - 1) t).p = t.p.cut := by cases j - 1 <;> rfl
        have hInB2 : InB (fun k => w.heap.size + 2 ≤ k ∧ some k ≠ (Value.slice va zs.length vc).ownBlock) (w1.alloc (.cells (ndL t.p.cut (.slice q9 n9 c9)).toArray 27)) (ndV (cutD (j - 1) t).p (.slice q9 n9 c9)) (cutD (j - 1) t) := by rw [hcp]; exact hInB
        have hown2 : w2.ownsRow (w.heap.size + 2) 27 9 v' (zs.length + 1) (zsC zs ++ ndL (cutD (j - 1) t).p (.slice q9 n9 c9)) := by rw [hcp]; exact hown'
        refine ⟨i + 1, zs ++ [(.slice q9 n9 c9, cutD (j - 1) t)], by simp, by omega, by omega, by omega, ?_, ?_, ?_, ?_, ?_⟩
        · rw [List.map_append, hzs, List.take_add_one, ht]; simp
        · exact hI2.own.kept hgrow (fun e => by have := (hno _ e.symm).1; omega)
        · exact hI2.res.kept hgrow (fun e => by have := (hno _ e.symm).1; omega)
        · exact hI2.row.snoc (z := (.slice q9 n9 c9, cutD (j - 1) t)) hInB2 hown2 hgrow (hloc.imp id fun h k hk => by rw [h] at hk; cases hk; simp)
        · exact hI2.below.grown hgrow hI2.below.size (fun k hk => by have := (hno _ hk).1; omega)
      case measure => simp [intOf]; omega
    · have hb1 : (i < l.length ∧ (i : Int) < 40 ∧ (d : Int) ≤ 1) ∨ (i < l.length ∧ (40 : Int) ≤ i) ∨ l.length ≤ i := by
        have := HD.out
        omega
      have hfull : cutD j (.nd p l) = .nd p.cut (zs.map (·.2)) := by
        rw [hzs]
        cases j with
        | zero => rw [hj0 rfl]; rfl
        | succ j =>
          show Tr.nd p.cut ((l.take 40).map (cutD j)) = _
          rw [show j + 1 - 1 = j by omega]
          congr 2
          rcases (show i = l.length ∨ i = 40 by omega) with rfl | rfl
          · rw [List.take_of_length_le (Nat.le_refl _), List.take_of_length_le (by omega)]
          · rfl
      have q8 := hI.own.frozen 8
      obtain ⟨o0, o1, o2, o3, o4, o5, o6, o7, o8⟩ := AtN.cells (o := 0) (fun j v hj => by rw [Nat.zero_add]; exact hI.own.cell j hj)
      obtain ⟨s0, s1, s2, s3, s4, s5, s6, s7, s8⟩ := AtN.cells (p := Pay.z) (sl := .slice none 0 0) (o := 0) (fun j v hj => by rw [Nat.zero_add]; exact hI.res.cell j hj)
      have r0 := hI.res.frozen 0
      have r1 := hI.res.frozen 1
      have r2 := hI.res.frozen 2
      have r3 := hI.res.frozen 3
      have r4 := hI.res.frozen 4
      have r5 := hI.res.frozen 5
      have r6 := hI.res.frozen 6
      have r7 := hI.res.frozen 7
      have r8 := hI.res.frozen 8
      simp only [Pay.z] at s0 s1 s2 s3 s4 s5 s6 s7 s8
      have HZ := hid (And.intro hI hfull)
      clear hI hfull hzs hmore hil hi40 hj0 i8
      rcases hb1 with ⟨hb1, hb2, hb3⟩ | ⟨hb1, hb2⟩ | hb1
      all_goals (
        go_wp2
        obtain ⟨hI, hfull⟩ := HZ.out
        obtain ⟨W5, hW5, hR, hC5, hB5⟩ : ∃ W5, putN (wr.setCell ⟨w.heap.size, 8, none⟩ (.slice va zs.length vc)) (w.heap.size + 1) 0 p.cut (.slice va zs.length vc) = W5 ∧ Cls W5 (w.heap.size + 1) 27 (ndL p.cut (.slice va zs.length vc)) ∧ InB (fun k => w.heap.size ≤ k) W5 (ndV p.cut (.slice va zs.length vc)) (cutD j (.nd p l)) ∧ Below w.heap.size w W5 := by
          refine ⟨_, rfl, ?_, ?_, putN_below (hI.below.setCell (p := ⟨w.heap.size, 8, none⟩) (Nat.le_refl _) _) _ _ _ _ (by omega)⟩
          · exact (((((((((hI.res.other (by omega) _).set 0 (.int .i64 p.cut.k)).set 1 (.bool p.cut.b)).set 2 (.bool p.cut.n)).set 3 (.string p.cut.dg)).set 4 (.int .i64 p.cut.ex)).set 5 (.int .u64 p.cut.u)).set 6 (.int .i64 p.cut.w)).set 7 (.string p.cut.s)).set 8 (.slice va zs.length vc)
          · rw [hfull]
            exact ((hI.row.inB (Nat.le_refl _) p.cut).kept (fun k _ (hk : w.heap.size + 2 ≤ k) => (putN_other _ _ _ _ _ (by omega)).trans (Below.heap_setCell _ _ _ _ (by show k ≠ w.heap.size; omega)))).mono (fun k _ (hk : w.heap.size + 2 ≤ k) => by show w.heap.size ≤ k; omega)
        have hW5' := hW5
        unfold putN at hW5'
        simp only [Nat.zero_add] at hW5'
        rw [hW5']
        obtain ⟨f0, f1, f2, f3, f4, f5, f6, f7, f8⟩ := AtN.cells (o := 0) (fun j v hj => by rw [Nat.zero_add]; exact hR.cell j hj)
        exact bodyPost_ret (v := ndV p.cut (.slice va zs.length vc)) (by simp [results, Tryz.results29, go_sem, f0, f1, f2, f3, f4, f5, f6, f7, f8, ndV, ndL]) rfl ⟨_, rfl, hC5, hB5⟩)

theorem cut_calls : ∀ (j : Nat), j ≤ 100 → CutC j
  | 0, h => cut_step 0 h (fun i e => by omega)
  | j + 1, h => cut_step (j + 1) h (fun i e => by obtain rfl : j = i := by omega
                                                  exact cut_calls j (by omega))
end Go.Proofs.YtpjlepkdiaohiaaGreatDoor

/- The statements' helpers Few, small: walked. -/
namespace Go.Proofs.YtpjlepkdiaohiaaGreatDoor
open Go.RowKit
attribute [local go_sem] Oper.semAt_some

theorem Cls.atN {W : World} {g : Nat} {T : TypeId} {p : Pay} {s : Value} (h : Cls W g T (ndL p s)) : AtN W g 0 p s := fun j v hj => by rw [Nat.zero_add]; exact h.cell j hj
theorem Cls.putN {W : World} {g : Nat} {T : TypeId} {p q : Pay} {s u : Value} (h : Cls W g T (ndL p s)) : Cls (putN W g 0 q u) g T (ndL q u) :=
  ((((((((h.set 0 (.int .i64 q.k)).set 1 (.bool q.b)).set 2 (.bool q.n)).set 3 (.string q.dg)).set 4 (.int .i64 q.ex)).set 5 (.int .u64 q.u)).set 6 (.int .i64 q.w)).set 7 (.string q.s)).set 8 u
theorem Cls.putN_other {W : World} {g b o : Nat} {T : TypeId} {q : Pay} {u : Value} {xs : List Value} (h : Cls W g T xs) (hne : g ≠ b) : Cls (Go.Proofs.YtpjlepkdiaohiaaGreatDoor.putN W b o q u) g T xs := (Go.Proofs.YtpjlepkdiaohiaaGreatDoor.putN_other W b o q u hne).trans h
theorem Cls.frozens {W : World} {g : Nat} {T : TypeId} {xs : List Value} (h : Cls W g T xs) : W.frozen? ⟨g, 0, none⟩ = false ∧ W.frozen? ⟨g, 1, none⟩ = false ∧ W.frozen? ⟨g, 2, none⟩ = false ∧ W.frozen? ⟨g, 3, none⟩ = false ∧ W.frozen? ⟨g, 4, none⟩ = false ∧ W.frozen? ⟨g, 5, none⟩ = false ∧ W.frozen? ⟨g, 6, none⟩ = false ∧ W.frozen? ⟨g, 7, none⟩ = false ∧ W.frozen? ⟨g, 8, none⟩ = false :=
  ⟨h.frozen 0, h.frozen 1, h.frozen 2, h.frozen 3, h.frozen 4, h.frozen 5, h.frozen 6, h.frozen 7, h.frozen 8⟩
theorem Cls.nine {W : World} {g : Nat} {T : TypeId} {p : Pay} {sl : Value} (h : Cls W g T (ndL p sl)) : W.cell? ⟨g, 0, none⟩ = some (.int .i64 p.k) ∧ W.cell? ⟨g, 1, none⟩ = some (.bool p.b) ∧ W.cell? ⟨g, 2, none⟩ = some (.bool p.n) ∧ W.cell? ⟨g, 3, none⟩ = some (.string p.dg) ∧
    W.cell? ⟨g, 4, none⟩ = some (.int .i64 p.ex) ∧ W.cell? ⟨g, 5, none⟩ = some (.int .u64 p.u) ∧ W.cell? ⟨g, 6, none⟩ = some (.int .i64 p.w) ∧ W.cell? ⟨g, 7, none⟩ = some (.string p.s) ∧ W.cell? ⟨g, 8, none⟩ = some sl :=
  ⟨h.cell 0 rfl, h.cell 1 rfl, h.cell 2 rfl, h.cell 3 rfl, h.cell 4 rfl, h.cell 5 rfl, h.cell 6 rfl, h.cell 7 rfl, h.cell 8 rfl⟩

set_option maxRecDepth 100000 in
set_option maxHeartbeats 4000000 in
theorem few_calls (t : Tr) (hwf : t.wf) (sl : Value) (w : World) (hin : InT w (ndV t.p sl) t) :
    Calls Tryz.prog 16 #[ndV t.p sl] w fun e w' => ∃ sl', e = .returned (ndV (fewT t).p sl') ∧ InB (fun k => w.heap.size ≤ k) w' (ndV (fewT t).p sl') (fewT t) ∧ Below w.heap.size w w' := by
  have hfp : (fewT t).p = t.p.cut := by unfold fewT; split <;> rfl
  have hcp : (cutD 17 t).p = t.p.cut := rfl
  have hfine := cutD_fine 17 t hwf
  rw [hfp]
  have hB : Below w.heap.size w ((w.alloc (.cells (ndL t.p sl).toArray 27)).alloc (.cells (ndL Pay.z (.slice none 0 0)).toArray 27)) := (below_alloc w _).alloc (by simp) _
  have hbx1 := (Cls.new w 27 (ndL t.p sl)).alloc (.cells (ndL Pay.z (.slice none 0 0)).toArray 27)
  have hbx2 := Cls.new (w.alloc (.cells (ndL t.p sl).toArray 27)) 27 (ndL Pay.z (.slice none 0 0))
  rw [World.size_alloc] at hbx2
  have hcall := cut_calls 17 (by omega) t hwf sl _ (hin.up hB)
  obtain ⟨l1, q1, n1, c1, f1, -, g1, rfl, -⟩ := InT.inv hin
  subst g1
  have hsz : ((w.alloc (.cells (ndL t.p (.slice q1 l1.length c1)).toArray 27)).alloc (.cells (ndL Pay.z (.slice none 0 0)).toArray 27)).heap.size = w.heap.size + 2 := by simp
  have HX := hid (And.intro hB (And.intro hbx1 (And.intro hbx2 (And.intro hfine (And.intro hcp hsz)))))
  obtain ⟨a0, a1, a2, a3, a4, a5, a6, a7, a8⟩ := hbx1.nine
  clear hB hbx1 hbx2 hfine hcp hfp hwf hin hsz
  simp only [ndV, ndL, Pay.z] at hcall a0 a1 a2 a3 a4 a5 a6 a7 a8 ⊢
  go_enter Tryz.func16, Tryz.ntmps16
  go_wp2_with fail
  refine hcall.mono ?_
  rintro e w1 ⟨sl', rfl, hB', hb1⟩
  obtain ⟨l9, q9, n9, c9, f9, he9, rfl, rfl, -⟩ := InT.inv (p := t.p.cut) hB'.toT
  obtain ⟨hB, hbx1, hbx2, hfine, hcp, hsz⟩ := HX.out
  have k1 := hbx1.below hb1
  have k2 := hbx2.below hb1
  obtain ⟨W2, hW2, hP1, hP2, hIn2, hb2⟩ : ∃ W2, putN w1 w.heap.size 0 t.p.cut (.slice q9 l9.length c9) = W2 ∧ Cls W2 w.heap.size 27 (ndL t.p.cut (.slice q9 l9.length c9)) ∧ Cls W2 (w.heap.size + 1) 27 (ndL Pay.z (.slice none 0 0)) ∧ InB (fun k => w.heap.size + 2 ≤ k) W2 (ndV t.p.cut (.slice q9 l9.length c9)) (cutD 17 t) ∧ Below w.heap.size w W2 := by
    refine ⟨_, rfl, k1.putN, k2.putN_other (by omega), ?_, putN_below (hB.trans (hb1.mono hB.size)) _ _ _ _ (Nat.le_refl _)⟩
    exact (hB'.mono (K' := fun k => w.heap.size + 2 ≤ k) (fun k _ hk => by rw [← hsz]; exact hk)).kept (fun k _ (hk : w.heap.size + 2 ≤ k) => putN_other _ _ _ _ _ (by omega))
  have hW2' := hW2
  unfold putN at hW2'
  simp only [Nat.zero_add] at hW2'
  obtain ⟨b0, b1, b2, b3, b4, b5, b6, b7, b8⟩ := k1.nine
  obtain ⟨z0, z1, z2, z3, z4, z5, z6, z7, z8⟩ := k1.frozens
  obtain ⟨d0, d1, d2, d3, d4, d5, d6, d7, d8⟩ := hP1.nine
  have HY := hid (And.intro hP1 (And.intro hP2 (And.intro hIn2 (And.intro hb2 (And.intro hfine (And.intro hcp he9))))))
  have hcc := fun (W : World) (h : InT W (ndV t.p.cut (.slice q9 l9.length c9)) (cutD 17 t)) => rcount_calls (cutD 17 t) hfine (.slice q9 l9.length c9) W h
  rw [hcp] at hcc
  clear hB' hb1 hB hbx1 hbx2 hfine hcp hsz k1 k2 hP1 hP2 hIn2 hb2 hcall HX hW2 he9 a0 a1 a2 a3 a4 a5 a6 a7 a8
  simp only [ndV, ndL] at hcc
  go_wp2_with fail
  refine (hcc _ HY.out.2.2.1.toT).mono ?_
  rintro e w3 ⟨rfl, hb3⟩
  obtain ⟨K, hK⟩ : ∃ K, wrapI (cutD 17 t).cnt = K := ⟨_, rfl⟩
  rw [hK]
  obtain ⟨hP1, hP2, hIn2, hb2, hfine, hcp, he9⟩ := HY.out
  have m1 := hP1.below hb3
  have m2 := hP2.below hb3
  obtain ⟨a0, a1, a2, a3, a4, a5, a6, a7, a8⟩ := m1.nine
  have q8 := m1.frozen 8
  obtain ⟨s0, s1, s2, s3, s4, s5, s6, s7, s8⟩ := m2.nine
  obtain ⟨y0, y1, y2, y3, y4, y5, y6, y7, y8⟩ := m2.frozens
  have hbw : Below w.heap.size w w3 := hb2.trans (hb3.mono hb2.size)
  have hI3 := hIn2.up hb3
  simp only [Pay.z] at s0 s1 s2 s3 s4 s5 s6 s7 s8
  have HZ := hid (And.intro m1 (And.intro m2 (And.intro hbw (And.intro hI3 (And.intro hcp (And.intro hK he9))))))
  clear hP1 hP2 hIn2 hb2 hfine hcp hb3 HY hcc m1 m2 hbw hI3 hK hW2' d0 d1 d2 d3 d4 d5 d6 d7 d8 z0 z1 z2 z3 z4 z5 z6 z7 z8 b0 b1 b2 b3 b4 b5 b6 b7 b8 he9
  by_cases hbig : 400 < K
  · go_wp2
    obtain ⟨m1, m2, hbw, hI3, hcp, hK, -⟩ := HZ.out
    obtain ⟨W5, hW5, hR, hC5, hB5⟩ : ∃ W5, putN (w3.setCell ⟨w.heap.size, 8, none⟩ (.slice none 0 0)) (w.heap.size + 1) 0 t.p.cut (.slice none 0 0) = W5 ∧ Cls W5 (w.heap.size + 1) 27 (ndL t.p.cut (.slice none 0 0)) ∧ InB (fun k => w.heap.size ≤ k) W5 (ndV t.p.cut (.slice none 0 0)) (fewT t) ∧ Below w.heap.size w W5 := by
      refine ⟨_, rfl, (m2.other (by omega) _).putN, ?_, putN_below (hbw.setCell (p := ⟨w.heap.size, 8, none⟩) (Nat.le_refl _) _) _ _ _ _ (by omega)⟩
      unfold fewT
      rw [if_pos (by rw [hK]; exact hbig), hcp]
      exact (InC.leaf _ _ _ _ _).toB
    have hW5' := hW5
    unfold putN at hW5'
    simp only [Nat.zero_add] at hW5'
    rw [hW5']
    obtain ⟨f0, f1, f2, f3, f4, f5, f6, f7, f8⟩ := hR.nine
    exact bodyPost_ret (v := ndV t.p.cut (.slice none 0 0)) (by simp [results, Tryz.results16, go_sem, f0, f1, f2, f3, f4, f5, f6, f7, f8, ndV, ndL]) rfl ⟨_, rfl, hC5, hB5⟩
  · go_wp2
    obtain ⟨m1, m2, hbw, hI3, hcp, hK, -⟩ := HZ.out
    obtain ⟨W5, hW5, hR, hC5, hB5⟩ : ∃ W5, putN w3 (w.heap.size + 1) 0 t.p.cut (.slice q9 l9.length c9) = W5 ∧ Cls W5 (w.heap.size + 1) 27 (ndL t.p.cut (.slice q9 l9.length c9)) ∧ InB (fun k => w.heap.size ≤ k) W5 (ndV t.p.cut (.slice q9 l9.length c9)) (fewT t) ∧ Below w.heap.size w W5 := by
      refine ⟨_, rfl, m2.putN, ?_, putN_below hbw _ _ _ _ (by omega)⟩
      unfold fewT
      rw [if_neg (by rw [hK]; omega)]
      exact (hI3.kept (fun k _ (hk : w.heap.size + 2 ≤ k) => putN_other _ _ _ _ _ (by omega))).mono (fun k _ (hk : w.heap.size + 2 ≤ k) => by show w.heap.size ≤ k; omega)
    have hW5' := hW5
    unfold putN at hW5'
    simp only [Nat.zero_add] at hW5'
    rw [hW5']
    obtain ⟨f0, f1, f2, f3, f4, f5, f6, f7, f8⟩ := hR.nine
    exact bodyPost_ret (v := ndV t.p.cut (.slice q9 l9.length c9)) (by simp [results, Tryz.results16, go_sem, f0, f1, f2, f3, f4, f5, f6, f7, f8, ndV, ndL]) rfl ⟨_, rfl, hC5, hB5⟩

end Go.Proofs.YtpjlepkdiaohiaaGreatDoor

/- The statements' helper spoil: walked. -/
namespace Go.Proofs.YtpjlepkdiaohiaaGreatDoor
open Go.RowKit
attribute [local go_sem] Oper.semAt_some

/-- what spoil may turn. -/
structure SpR (lo top : Nat) (A B : World) : Prop where
  kp : KpN lo top A B
  sp : ∀ d v, SpV lo top A d v → SpV lo top B d v
  below : Below lo A B
theorem SpR.refl (lo top : Nat) (A : World) : SpR lo top A A := ⟨KpN.refl _ _ _, fun _ _ h => h, Below.refl _ _⟩
theorem SpR.trans {lo top : Nat} {A B C : World} (h : SpR lo top A B) (k : SpR lo top B C) : SpR lo top A C := ⟨h.kp.trans k.kp, fun d v x => k.sp d v (h.sp d v x), h.below.trans k.below⟩
theorem SpR.of_below {lo top : Nat} {A B : World} (h : Below A.heap.size A B) (hlo : lo ≤ A.heap.size) : SpR lo top A B := ⟨KpN.of_below h, fun d v x => SpV.kept (fun k hk _ _ => h.block k hk) d v x, h.mono hlo⟩
def p99 : Pay := { Pay.z with k := 99 }
theorem SpR.put {lo top : Nat} {A : World} {g k : Nat} {zs : List (Value × Tr)} (h : RowAt A g zs) (hk : k < zs.length) (hg : lo ≤ g ∧ g < top) : SpR lo top A (putN A g (k * 9) p99 (.slice none 0 0)) :=
  ⟨⟨by rw [putN_size]; exact Nat.le_refl _, fun b c t fz hb hc => (putN_other A g (k * 9) p99 _ (by omega)).trans hc⟩, fun d v x => SpV.put g k h hk p99 d v x, putN_below (Below.refl _ _) _ _ _ _ hg.1⟩
theorem ndV_inj {p q : Pay} {s u : Value} (h : ndV p s = ndV q u) : p = q ∧ s = u := by
  injection h with h
  have h2 := congrArg Array.toList h
  simp only [ndL, List.cons.injEq, Value.int.injEq, Value.bool.injEq, Value.string.injEq, and_true, true_and] at h2
  obtain ⟨h0, h1, h3, h4, h5, h6, h7, h8, h9⟩ := h2
  obtain ⟨pk, pb, pn, pd, pe, pu, pw, ps⟩ := p
  obtain ⟨qk, qb, qn, qd, qe, qu, qw, qs⟩ := q
  simp only at h0 h1 h3 h4 h5 h6 h7 h8
  obtain rfl : pu = qu := by omega
  subst h0 h1 h3 h4 h5 h7 h8
  exact ⟨rfl, h9⟩
theorem SpV.slice {lo top : Nat} {W : World} {d : Nat} {p : Pay} {s : Value} (h : SpV lo top W d (ndV p s)) : ∃ a n c, s = .slice a n c := by
  cases d with
  | zero =>
    obtain ⟨q, a, c, e⟩ := h
    exact ⟨a, 0, c, (ndV_inj e).2⟩
  | succ d =>
    obtain ⟨q, a, c, zs, e, -⟩ := h
    exact ⟨a, zs.length, c, (ndV_inj e).2⟩
/-- a row's element, its cells. -/
theorem SpV.elem {lo top : Nat} {W : World} {d : Nat} {p : Pay} {a : Option Addr} {n c : Nat} (h : SpV lo top W (d + 1) (ndV p (.slice a n c))) : n ≤ 10000 ∧ ∀ k, k < n → ∃ g, ∃ zs : List (Value × Tr), ∃ z : Value × Tr, a = some ⟨g, 0, none⟩ ∧ (lo ≤ g ∧ g < top) ∧ RowAt W g zs ∧ k < zs.length ∧ zs[k]? = some z ∧ SpV lo top W d (ndV z.2.p z.1) := by
  obtain ⟨q, a', c', zs, e, h1, h2, h3⟩ := h
  obtain ⟨-, e2⟩ := ndV_inj e
  obtain ⟨rfl, rfl, rfl⟩ := Value.slice.inj e2
  refine ⟨h1, fun k hk => ?_⟩
  obtain ⟨g, h4, h5, h6⟩ := h2 (by omega)
  exact ⟨g, zs, zs[k], h4, h5, h6, hk, List.getElem?_eq_getElem hk, h3 _ (List.getElem_mem hk)⟩

end Go.Proofs.YtpjlepkdiaohiaaGreatDoor

/- The statements' helper shown (a tag of two numbers): walked. -/
namespace Go.Proofs.YtpjlepkdiaohiaaGreatDoor
open Go.RowKit
attribute [local go_sem] Oper.semAt_some

def shOne : Pay := { Pay.z with k := 3, dg := ⟨#[49]⟩ }
def shArr : Pay := { Pay.z with k := 7 }
def shTag : Pay := { Pay.z with k := 9, u := 1 }
def shT : Tr := .nd shTag [.nd shArr [.nd shOne [], .nd shOne []]]
end Go.Proofs.YtpjlepkdiaohiaaGreatDoor

/- Package tree: Clone, with the library's slices.Clone: walked. -/
namespace Go.Proofs.YtpjlepkdiaohiaaGreatDoor
open Go.RowKit
attribute [local go_sem] Oper.semAt_some

/-- nodes with what lies in their lists' cells. -/
def zsF (f : Nat → Value) : List Tr → Nat → List (Value × Tr)
  | [], _ => []
  | t :: r, i => (f i, t) :: zsF f r (i + 1)
/-- what lies in memory while a tree is cloned. -/
structure CloI (w : World) (p : Pay) (l : List Tr) (a' : Option Addr) (c' : Nat) (k : Nat) (zs : List (Value × Tr)) (W : World) : Prop where
  map : zs.map (·.2) = l
  old : ∀ i z, zs[i]? = some z → k ≤ i → InT w (ndV z.2.p z.1) z.2
  new : ∀ i z, zs[i]? = some z → i < k → InC (fun j => w.heap.size + 2 ≤ j ∧ ∀ b, a' = some b → j ≠ b.block) W (ndV z.2.p z.1) z.2
  row : 0 < l.length → ∃ g, a' = some ⟨g, 0, none⟩ ∧ w.heap.size + 2 ≤ g ∧ RowAt W g zs
  own : Cls W w.heap.size 27 (ndL p (.slice a' l.length c'))
  res : Cls W (w.heap.size + 1) 27 (ndL Pay.z (.slice none 0 0))
  below : Below w.heap.size w W
theorem CloI.up {w : World} {p : Pay} {l : List Tr} {a' : Option Addr} {c' k : Nat} {zs : List (Value × Tr)} {A B : World} (h : CloI w p l a' c' k zs A) (hb : Below A.heap.size A B) : CloI w p l a' c' k zs B :=
  ⟨h.map, h.old, fun i z hi hk => (h.new i z hi hk).up hb, fun hl => by obtain ⟨g, h1, h2, h3⟩ := h.row hl; exact ⟨g, h1, h2, h3.below hb⟩, h.own.below hb, h.res.below hb, h.below.trans (hb.mono h.below.size)⟩
theorem CloI.put {w : World} {p : Pay} {l : List Tr} {g c' k : Nat} {zs : List (Value × Tr)} {A : World} (h : CloI w p l (some ⟨g, 0, none⟩) c' k zs A) (hk : k < l.length) {t : Tr} (ht : l[k]? = some t) {s : Value} {n : Nat} (hn : g < n) (_hwn : w.heap.size + 2 ≤ n)
    (hC : InC (fun j => n ≤ j) A (ndV t.p s) t) : CloI w p l (some ⟨g, 0, none⟩) c' (k + 1) (zs.set k (s, t)) (putN A g (k * 9) t.p s) := by
  obtain ⟨g', e, hg, hrow⟩ := h.row (by omega)
  obtain rfl : g = g' := congrArg (·.block) (Option.some.inj e)
  have hzl : zs.length = l.length := by rw [← h.map, List.length_map]
  refine ⟨?_, fun i z hi hki => ?_, fun i z hi hik => ?_, fun _ => ⟨g, rfl, hg, hrow.put (by omega) (s, t)⟩, (putN_other _ _ _ _ _ (by omega)).trans h.own, (putN_other _ _ _ _ _ (by omega)).trans h.res, putN_below h.below _ _ _ _ (by omega)⟩
  · rw [List.map_set, h.map]
    exact List.ext_getElem? fun i => by
      rw [List.getElem?_set]
      split
      · rename_i e; subst e; first | exact ht.symm | (rw [if_pos hk]; exact ht.symm)
      · rfl
  · rw [List.getElem?_set, if_neg (by omega)] at hi
    exact h.old i z hi (by omega)
  · rw [List.getElem?_set] at hi
    have hput : ∀ j, j < A.heap.size → (w.heap.size + 2 ≤ j ∧ ∀ b, some (⟨g, 0, none⟩ : Addr) = some b → j ≠ b.block) → (putN A g (k * 9) t.p s).heap[j]? = A.heap[j]? := fun j _ hj => putN_other _ _ _ _ _ (hj.2 _ rfl)
    split at hi
    · rw [if_pos (by omega)] at hi
      obtain rfl := Option.some.inj hi
      refine InC.kept (hC.mono fun j _ hj => ⟨by omega, fun b e => ?_⟩) hput
      obtain rfl := Option.some.inj e
      show j ≠ g
      omega
    · exact (h.new i z hi (by omega)).kept hput

end Go.Proofs.YtpjlepkdiaohiaaGreatDoor

