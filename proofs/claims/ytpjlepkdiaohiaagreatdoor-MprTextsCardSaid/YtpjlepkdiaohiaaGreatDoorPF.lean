/- PF: TrW TrX TrD TrS TrE TrB TrI. -/
import Derived.Test.YtpjlepkdiaohiaaGreatDoorPC
import Derived.Lib.OthersKept
import Derived.StillTailTactics
import Derived.RangeFuncNested
import Derived.RangeFuncBound
import Derived.RangeFuncCalls
import Derived.RangeFuncLeaves
import Derived.OwnWalkIn
import Derived.TacticsInMore
import Derived.LoopNIn
import Derived.LoopIn
import Derived.Test.YtpjlepkdiaohiaaGreatDoorPB
import Derived.Deep.RegionHeld3
import Derived.OwnWalk
/- Package tree: walk, nodes, Count: walked. -/
namespace Go.Proofs.YtpjlepkdiaohiaaGreatDoor
open Go.RowKit
attribute [local go_sem] Oper.semAt_some

/-- what lies below lo, and from top on, and is cells, lies as it lay. -/
def KpN (lo top : Nat) (A B : World) : Prop := A.heap.size ≤ B.heap.size ∧ ∀ (k : Nat) (c : Array Value) (t : TypeId) (fz : Nat × Nat), (k < lo ∨ top ≤ k) → A.heap[k]? = some (.cells c t fz) → B.heap[k]? = some (.cells c t fz)
theorem KpN.refl (lo top : Nat) (A : World) : KpN lo top A A := ⟨Nat.le_refl _, fun _ _ _ _ _ h => h⟩
theorem KpN.trans {lo top : Nat} {A B C : World} (h : KpN lo top A B) (k : KpN lo top B C) : KpN lo top A C := ⟨Nat.le_trans h.1 k.1, fun i c t fz hi ha => k.2 i c t fz hi (h.2 i c t fz hi ha)⟩
theorem KpN.of_below {lo top : Nat} {A B : World} (h : Below A.heap.size A B) : KpN lo top A B := ⟨h.size, fun k _ _ _ _ hk => (h.block k (Array.getElem?_eq_some_iff.1 hk).1).trans hk⟩
theorem KpN.putObj {lo top : Nat} (W : World) (l : Nat) (o o' : Obj) (h : W.heap[l]? = some o) (hc : o.isCells = false) : KpN lo top W (W.putObj l o') := by
  refine ⟨by simp [World.putObj], fun k c t fz _ hk => ?_⟩
  refine (World.putObj_heap_other ?_).trans hk
  rintro rfl
  rw [h] at hk
  cases hk
  cases hc
theorem KpN.setCell {lo top : Nat} (W : World) (p : Addr) (v : Value) (h1 : lo ≤ p.block) (h2 : p.block < top) : KpN lo top W (W.setCell p v) :=
  ⟨by rw [setCell_size]; exact Nat.le_refl _, fun k c t fz hk hc => (Below.heap_setCell _ _ _ _ (by omega)).trans hc⟩
theorem KpN.cls {lo top : Nat} {A B : World} (h : KpN lo top A B) {g : Nat} {t : TypeId} {xs : List Value} (hg : g < lo ∨ top ≤ g) (hc : Cls A g t xs) : Cls B g t xs := h.2 g _ _ _ hg hc
theorem cell_isCells {W : World} {p : Addr} {v : Value} (h : W.cell? p = some v) : ∃ c t fz, W.heap[p.block]? = some (.cells c t fz) := by
  unfold World.cell? at h
  cases hb : W.heap[p.block]? with
  | none => simp [hb] at h
  | some o =>
    cases o with
    | cells c t fz => exact ⟨c, t, fz, rfl⟩
    | _ => simp [hb] at h
theorem InB.kp {lo top : Nat} {A B : World} (h : KpN lo top A B) {K : Nat → Prop} (hK : ∀ k, K k → k < lo ∨ top ≤ k) {v : Value} {t : Tr} (ht : InB K A v t) : InB K B v t := by
  induction ht with
  | nd p l a n c sl hn hc ht ih =>
    refine .nd p l a n c sl hn (fun i t hi => ?_) ih
    obtain ⟨g, o, h1, h2, h3⟩ := hc i t hi
    refine ⟨g, o, h1, h2, fun j x hj => ?_⟩
    have h4 := h3 j x hj
    obtain ⟨cc, tt, fz, h5⟩ := cell_isCells h4
    rw [World.cell?_of_block (show B.heap[g]? = A.heap[g]? by rw [h5]; exact h.2 g _ _ _ (hK g h2) h5)]
    exact h4

theorem InT.kp {w W : World} {top : Nat} (h : KpN w.heap.size top w W) {v : Value} {t : Tr} (ht : InT w v t) : InT W v t := (InB.kp h (fun _ hk => .inl hk) ht.lt).toT
theorem AtN.kp {w W : World} {top : Nat} (h : KpN w.heap.size top w W) {g o : Nat} {p : Pay} {sl : Value} (ha : AtN w g o p sl) : AtN W g o p sl := fun j x hj => by
  have h4 := ha j x hj
  obtain ⟨cc, tt, fz, h5⟩ := cell_isCells h4
  rw [World.cell?_of_block (show W.heap[g]? = w.heap[g]? by rw [h5]; exact h.2 g _ _ _ (.inl (World.block_lt_of_cell? w _ h4)) h5)]
  exact h4
theorem ListAt.kp {w W : World} {top : Nat} (h : KpN w.heap.size top w W) {a : Option Addr} {f : Nat → Value} {l : List Tr} (hL : ListAt w a f l) : ListAt W a f l := fun i t hi => by
  obtain ⟨⟨g, o, h1, h2⟩, h3⟩ := hL i t hi
  exact ⟨⟨g, o, h1, h2.kp h⟩, h3.kp h⟩

def encNd (x : Value × Tr) : Array Value := #[ndV x.2.p x.1]
/-- what is known of a node that comes: it lies in memory as it lay; it is the next one. -/
def OkN (w : World) (F : List Tr) (pre : List (Value × Tr)) (x : Value × Tr) : Prop := InT w (ndV x.2.p x.1) x.2 ∧ F[pre.length]? = some x.2

theorem next_of {F : List Tr} {pre : List (Value × Tr)} {t : Tr} {rest : List Tr} (h : pre.map (·.2) ++ (t.flat ++ rest) = F) : F[pre.length]? = some t := by
  subst h
  rw [List.getElem?_append_right (by simp)]
  cases t with
  | nd p l => simp [Tr.flat]

set_option maxRecDepth 100000 in
set_option maxHeartbeats 2000000 in
theorem walk1 (w : World) (top : Nat) (l : Nat) (F : List Tr) (J Jx : List (Value × Tr) → World → Prop)
    (hJ : ∀ p A B, J p A → Below A.heap.size A B → J p B)
    (hY : ∀ pre x W1, J pre W1 → OkN w F pre x → YieldAt Fence.wide 7 Tryz.prog l (encNd x) W1 fun e W' =>
      (e = .returned (.bool true) ∧ J (pre ++ [x]) W' ∧ KpN w.heap.size top W1 W') ∨ (e = .returned (.bool false) ∧ Jx (pre ++ [x]) W')) (t : Tr) :
    t.fine → ∀ (sl : Value) (W : World) (pre : List (Value × Tr)) (rest : List Tr), top ≤ W.heap.size → KpN w.heap.size top w W → InT w (ndV t.p sl) t → J pre W → pre.map (·.2) ++ (t.flat ++ rest) = F →
    Calls Tryz.prog 90 #[ndV t.p sl, .func (.yield l) #[] #[]] W fun e W' =>
      (e = .returned (.bool true) ∧ ∃ xs, xs.map (·.2) = t.flat ∧ J (pre ++ xs) W' ∧ KpN w.heap.size top W W') ∨ (e = .returned (.bool false) ∧ ∃ pre', Jx pre' W') := by
  induction t using Tr.ind with
  | h p lst ih =>
    intro hfin sl W pre rest htop hkw hin h0 hF
    have h40 := hfin.len
    obtain ⟨lst', a, n, c, f, he, rfl, rfl, hL⟩ := InT.inv hin
    obtain rfl : lst = lst' := (Tr.nd.inj he).2
    refine (callsIn_wide (n := 8)).1 ?_
    refine callsIn_of_wp Tryz.func90 rfl trivial ?_ rfl
    simp only [Tryz.ntmps90, List.size_toArray, List.length_cons, List.length_nil, Nat.reduceAdd, Nat.reduceSub, Array.replicate_succ, Array.replicate_zero, List.push_toArray, List.append_toArray, List.nil_append, List.cons_append]
    have hbox := Cls.new W 27 (ndL p (.slice a lst.length c))
    have hbb := below_alloc W (.cells (ndL p (.slice a lst.length c)).toArray 27)
    have hJ1 := hJ _ _ _ h0 hbb
    obtain ⟨fn, tmps, assign, body, hy, hR⟩ := hY pre ⟨.slice a lst.length c, .nd p lst⟩ _ hJ1 ⟨hin, next_of hF⟩
    simp only [encNd, ndV, ndL, Tr.p] at hy hbox hbb hR ⊢
    have HX := hid (And.intro hJ (And.intro hY (And.intro ih (And.intro htop (And.intro hkw (And.intro hin (And.intro hF (And.intro hL (And.intro hbox (And.intro hbb hfin))))))))))
    clear hJ hY ih htop hkw hin hF hL hJ1 h0 hbox hbb hfin
    gi_wp2
    refine hR.mono ?_
    rintro e W3 (⟨rfl, hJ3, hk3⟩ | ⟨rfl, hJx3⟩)
    · obtain ⟨hJ, hY, ih, htop, hkw, hin, hF, hL, hbox, hbb, hfin⟩ := HX.out
      have hB3 : Cls W3 W.heap.size 27 (ndL p (.slice a lst.length c)) := hk3.cls (.inr htop) hbox
      have hkW3 : KpN w.heap.size top W W3 := (KpN.of_below (hbb.mono (Nat.le_refl _))).trans hk3
      have hkw3 : KpN w.heap.size top w W3 := hkw.trans hkW3
      have HY := hid (And.intro hB3 (And.intro hkW3 (And.intro hkw3 hJ3)))
      have c8 := hB3.cell 8 rfl
      clear hJ hY ih htop hkw hin hF hL hbox hbb hfin hJ3 hk3 hB3 hkW3 hkw3
      gi_wp2
      gi_loopw [14] (fun v wr => ∃ (k : Nat) (xs : List (Value × Tr)), v = .int .i64 k ∧ k ≤ lst.length ∧ xs.map (·.2) = .nd p lst :: flatL (lst.take k) ∧ J (pre ++ xs) wr ∧ KpN w.heap.size top W wr) (fun v _ => lst.length - (intOf v).toNat)
      case atStart => exact ⟨0, [_], rfl, Nat.zero_le _, rfl, HY.out.2.2.2, HY.out.2.1⟩
      case round =>
        obtain ⟨k, xs, rfl, hk, hxs, hJs, hks⟩ := hrel
        by_cases hkl : k < lst.length
        · obtain ⟨hJ, hY, ih, htop, hkw, hin, hF, hL, hbox, hbb, hfin⟩ := HX.out
          obtain ⟨t, ht⟩ : ∃ t, lst[k]? = some t := ⟨_, List.getElem?_eq_getElem hkl⟩
          obtain ⟨⟨g, o, rfl, ca1⟩, ta⟩ := hL k t ht
          have hcw := ca1.kp (hkw.trans hks)
          obtain ⟨l1, q1, n1, c1, f1, -, g1, rfl, -⟩ := InT.inv ta
          rw [g1] at hcw ta
          have hkz : (k : Int) < lst.length := by omega
          have hw1 : wrap64 ((k : Int) + 1) = (k : Int) + 1 := by unfold wrap64; omega
          obtain ⟨a0, a1, a2, a3, a4, a5, a6, a7, a8⟩ := hcw.cells
          have hbb2 := below_alloc wr (.cells (ndL t.p (.slice q1 l1.length c1)).toArray 27)
          have hJ2 := hJ _ _ _ hJs hbb2
          have hcall := ih t (List.mem_of_getElem? ht) (hfin.sub (List.mem_of_getElem? ht)) (.slice q1 l1.length c1) _ (pre ++ xs) (flatL (lst.drop (k + 1)) ++ rest) (Nat.le_trans htop (Nat.le_trans hks.1 hbb2.size)) ((hkw.trans hks).trans (KpN.of_below hbb2)) ta hJ2 (by
            rw [← hF, List.map_append, hxs, Tr.flat]
            simp only [List.append_assoc, List.cons_append]
            congr 2
            have h4 : flatL lst = flatL (lst.take (k + 1)) ++ flatL (lst.drop (k + 1)) := by rw [← flatL_append, List.take_append_drop]
            rw [h4, flatL_take_succ ht]
            simp only [List.append_assoc])
          have HZ := hid (And.intro hks (And.intro hxs (And.intro ht (KpN.of_below (lo := w.heap.size) (top := top) hbb2))))
          clear hJ hY ih htop hkw hin hF hL hbox hbb hfin hJs hks hxs ca1 ta hcw g1 hbb2 hJ2 ht
          gi_wp2
          refine callW hcall ?_
          rintro e W4 (⟨rfl, ys, hys, hJ4, hk4⟩ | ⟨rfl, pre', hJx4⟩)
          · have HV := hid (And.intro hys (And.intro hJ4 hk4))
            clear hys hJ4 hk4 hcall
            gi_wp2
            go_roundw
            case rel =>
              obtain ⟨hks, hxs, ht, hkb⟩ := HZ.out
              obtain ⟨hys, hJ4, hk4⟩ := HV.out
              exact ⟨k + 1, xs ++ ys, by simp, by omega, by rw [List.map_append, hxs, hys, flatL_take_succ ht, List.cons_append], by rw [← List.append_assoc]; exact hJ4, (hks.trans hkb).trans hk4⟩
            case measure => simp [intOf]; omega
          · clear hcall
            gi_wp2
            go_ret
            exact .inr ⟨rfl, _, hJx4⟩
        · have hkz : decide (k < lst.length) = false := decide_eq_false (by omega)
          have HZ := hid (And.intro hks (And.intro hxs (And.intro hJs (And.intro hk hkl))))
          clear hks hxs hJs hk hkl h40
          gi_wp2
          go_ret
          obtain ⟨hks, hxs, hJs, hk, hkl⟩ := HZ.out
          rw [List.take_of_length_le (by omega)] at hxs
          exact .inl ⟨rfl, xs, by rw [hxs, Tr.flat], hJs, hks⟩
    · gi_wp2
      go_ret
      exact .inr ⟨rfl, _, hJx3⟩

theorem nodes_calls (p : Pay) (sl : Value) (w : World) :
    Calls Tryz.prog 53 #[ndV p sl] w fun e w' => e = .returned (.func (.func 89) #[] #[.pointer (some ⟨w.heap.size, 0, none⟩)]) ∧ w' = w.alloc (.cells (ndL p sl).toArray 27) := by
  simp only [ndV, ndL]
  go_enter Tryz.func53, Tryz.ntmps53
  go_wp2
  go_ret
  exact ⟨rfl, rfl⟩

/-- the iterator's contract. -/
theorem nodes_iter (t : Tr) (hfin : t.fine) (sl : Value) (w W0 : World) (b : Nat) (hin : InT w (ndV t.p sl) t) (hb : Cls W0 b 27 (ndL t.p sl)) (hw : Below w.heap.size w W0) :
    IterC Tryz.prog 89 #[.pointer (some ⟨b, 0, none⟩)] encNd (fun A B => Below A.heap.size A B) (KpN w.heap.size W0.heap.size) (OkN w t.flat) (fun xs _ => xs.map (·.2) = t.flat) (fun _ _ => True) W0 := by
  intro l J Jx W hW hJ _ hY h0
  have hwk := walk1 w W0.heap.size l t.flat J Jx (fun p A B h ho => hJ p A B h ho) hY t hfin sl W [] [] hW.size (KpN.of_below (hw.trans (hW.mono hw.size))) hin h0 (by simp)
  have hbW : Cls W b 27 (ndL t.p sl) := hb.below hW
  obtain ⟨l1, q1, n1, c1, f1, -, g1, rfl, -⟩ := InT.inv hin
  subst g1
  have c0 := hbW.cell 0 rfl
  have c1 := hbW.cell 1 rfl
  have c2 := hbW.cell 2 rfl
  have c3 := hbW.cell 3 rfl
  have c4 := hbW.cell 4 rfl
  have c5 := hbW.cell 5 rfl
  have c6 := hbW.cell 6 rfl
  have c7 := hbW.cell 7 rfl
  have c8 := hbW.cell 8 rfl
  refine callsIn_of_wp Tryz.func89 rfl trivial ?_ rfl
  simp only [Tryz.ntmps89, List.size_toArray, List.length_cons, List.length_nil, Nat.reduceAdd, Nat.reduceSub, Array.replicate_succ, Array.replicate_zero, List.push_toArray, List.append_toArray, List.nil_append, List.cons_append]
  clear hJ hY h0 hin hb hw hW hbW
  gi_wp2
  refine callW hwk ?_
  rintro e W4 (⟨rfl, xs, h1, h2, -⟩ | ⟨rfl, pre', h2⟩)
  · have HX := hid (And.intro h1 h2)
    clear h1 h2 hwk
    gi_wp2
    go_end0
    exact ⟨⟨_, rfl⟩, .inl ⟨xs, HX.out.1, HX.out.2⟩⟩
  · have HX := hid h2
    clear h2 hwk
    gi_wp2
    go_end0
    exact ⟨⟨_, rfl⟩, .inr ⟨pre', trivial, HX.out⟩⟩
end Go.Proofs.YtpjlepkdiaohiaaGreatDoor

/- Package tree: Count: walked. -/
namespace Go.Proofs.YtpjlepkdiaohiaaGreatDoor
open Go.RowKit
attribute [local go_sem] Oper.semAt_some

/-- what lies in memory while nodes are counted. -/
structure CntI (w : World) (k : Nat) (W : World) : Prop where
  num : Boxed W (w.heap.size + 1) 3 (.int .i64 (wrapI k))
  below : Below w.heap.size w W
  size : w.heap.size + 3 ≤ W.heap.size
theorem CntI.next {w : World} {k : Nat} {A B : World} (h : CntI w k A) (hk : CellsKept A B) (hb : Below w.heap.size A B) : CntI w k B :=
  ⟨hk.boxed h.num, h.below.trans hb, Nat.le_trans h.size hb.size⟩
theorem CntI.below' {w : World} {k : Nat} {A B : World} (h : CntI w k A) (hb : Below A.heap.size A B) : CntI w k B :=
  h.next (CellsKept.below hb) (hb.mono h.below.size)

set_option maxRecDepth 100000 in
set_option maxHeartbeats 4000000 in
theorem count_calls (t : Tr) (hfin : t.fine) (sl : Value) (w : World) (hin : InT w (ndV t.p sl) t) :
    Calls Tryz.prog 51 #[ndV t.p sl] w fun e w' => e = .returned (.int .i64 (wrapI t.cnt)) ∧ Below w.heap.size w w' := by
  have hprog : Tryz.prog.follows .mixedOrders = true := by kernel_rfl
  have hnd := fun W => nodes_calls t.p sl W
  have hbx := Cls.new w 27 (ndL t.p sl)
  obtain ⟨l1, q1, n1, c1, f1, -, g1, rfl, -⟩ := InT.inv hin
  subst g1
  simp only [ndV, ndL] at hnd hbx ⊢
  refine calls_marks Tryz.func51 rfl ?_
  simp only [Tryz.ntmps51, List.size_toArray, List.length_cons, List.length_nil, Nat.reduceAdd, Nat.reduceSub, Array.replicate_succ, Array.replicate_zero, List.push_toArray, List.append_toArray, List.nil_append, List.cons_append]
  have HX := hid (And.intro hin hfin)
  clear hin hfin
  go_wp2_with fail
  refine (hnd _).mono ?_
  rintro e v1 ⟨rfl, rfl⟩
  go_wp2
  obtain ⟨hin, hfin⟩ := HX.out
  obtain ⟨W0, hW0, hsz0, hI0, hC0⟩ : ∃ W0, (((w.alloc (.cells #[.int .i64 t.p.k, .bool t.p.b, .bool t.p.n, .string t.p.dg, .int .i64 t.p.ex, .int .u64 t.p.u, .int .i64 t.p.w, .string t.p.s, .slice q1 l1.length c1] 27)).alloc (.cells #[.int .i64 0] 3)).alloc (.cells #[.int .i64 t.p.k, .bool t.p.b, .bool t.p.n, .string t.p.dg, .int .i64 t.p.ex, .int .u64 t.p.u, .int .i64 t.p.w, .string t.p.s, .slice q1 l1.length c1] 27)) = W0 ∧ W0.heap.size = w.heap.size + 3 ∧ CntI w 0 W0 ∧ Cls W0 (w.heap.size + 1 + 1) 27 (ndL t.p (.slice q1 l1.length c1)) := by
    have b1 := Boxed.new (w.alloc (.cells #[.int .i64 t.p.k, .bool t.p.b, .bool t.p.n, .string t.p.dg, .int .i64 t.p.ex, .int .u64 t.p.u, .int .i64 t.p.w, .string t.p.s, .slice q1 l1.length c1] 27)) 3 (.int .i64 0)
    have b2 := Cls.new ((w.alloc (.cells #[.int .i64 t.p.k, .bool t.p.b, .bool t.p.n, .string t.p.dg, .int .i64 t.p.ex, .int .u64 t.p.u, .int .i64 t.p.w, .string t.p.s, .slice q1 l1.length c1] 27)).alloc (.cells #[.int .i64 0] 3)) 27 (ndL t.p (.slice q1 l1.length c1))
    simp only [World.size_alloc] at b1 b2
    exact ⟨_, rfl, by simp, ⟨b1.alloc _, ((below_alloc w _).alloc (by simp) _).alloc (by simp; omega) _, by simp⟩, b2⟩
  rw [hW0]
  clear hW0 hbx hnd HX
  refine rangeOverP (gf := 89) (lb := #[.pointer (some ⟨w.heap.size + 1 + 1, 0, none⟩)]) rfl (enters_of Tryz.func89 (by kernel_rfl) rfl)
    (nodes_iter t hfin _ w W0 _ hin hC0 hI0.below) (Below.refl _ _) (fun _ => rfl)
    (fun A B h => ⟨h.size, fun k o _ h1 _ => (h.block k (Array.getElem?_eq_some_iff.1 h1).1).trans h1⟩) (fun h k => h.trans k) (fun W l o o' hl h hc hw => KpN.putObj W l o o' h hc)
    (ownFrom_pure _ _) (ownFrom_pure _ _)
    (fun pre W => CntI w pre.length W) (fun c pre W => False) ?hI (fun _ => ?hIx) ?hII ?hIxI hI0
    (fun x a' W => W0.heap.size ≤ W.heap.size ∧ a' = { tmps := #[.agg #[.int .i64 t.p.k, .bool t.p.b, .bool t.p.n, .string t.p.dg, .int .i64 t.p.ex, .int .u64 t.p.u, .int .i64 t.p.w, .string t.p.s, .slice q1 l1.length c1], .pointer (some ⟨w.heap.size, 0, none⟩), .int .i64 0, .pointer (some ⟨w.heap.size + 1, 0, none⟩), .agg #[.int .i64 t.p.k, .bool t.p.b, .bool t.p.n, .string t.p.dg, .int .i64 t.p.ex, .int .u64 t.p.u, .int .i64 t.p.w, .string t.p.s, .slice q1 l1.length c1], .func (.func 89) #[] #[.pointer (some ⟨w.heap.size + 1 + 1, 0, none⟩)], ndV x.2.p x.1, undef, undef, undef], defers := [] })
    ?hAx ?assign ?body ?done ?stop
  case hI => exact ownFrom_of (fun s W W' h hk hb => h.next hk (hb.mono (by omega))) (fun s W h => by rw [hsz0]; exact h.size)
  case hIx => exact ownFrom_of (fun s W W' h hk hb => h) (fun s W h => h.elim)
  case hII => exact fun s A B h hb => h.below' hb
  case hIxI => exact fun c s A B h hb => h
  case hAx => exact fun i a' => ownFrom_of (fun s W W' h hk hb => ⟨Nat.le_trans h.1 hb.size, h.2⟩) (fun s W h => h.1)
  case assign =>
    rintro l pre x W K hi hok hK
    gi_wp2
    exact hK _ _ (KeepsFrom.refl _ _) (KpN.refl _ _ _) hi ⟨by rw [hsz0]; exact hi.size, by simp [encNd]⟩
  case body =>
    rintro l pre x a' W hl hi ⟨-, rfl⟩ hok
    have c0 := hi.num.cell
    have z0 := hi.num.frozen
    have hw1 : wrap64 (wrapI pre.length + 1) = wrapI (pre.length + 1) := wrap64_wrapI pre.length 1
    have HX := hid (And.intro hi hsz0)
    clear hi hok hin hfin hI0 hC0 hsz0
    gi_wp2
    obtain ⟨hi, hsz0⟩ := HX.out
    refine ⟨(KeepsOthers.setCell _ _ _).from _, KpN.setCell _ _ _ (by show w.heap.size ≤ w.heap.size + 1; omega) (by show w.heap.size + 1 < W0.heap.size; omega), ?_⟩
    show CntI w (pre ++ [x]).length _
    rw [List.length_append, List.length_singleton]
    exact ⟨hi.num.set _, hi.below.setCell (p := ⟨w.heap.size + 1, 0, none⟩) (by show w.heap.size ≤ w.heap.size + 1; omega) _, by rw [setCell_size]; exact hi.size⟩
  case done =>
    rintro D xs W hD hxl hi hK
    have hlen : xs.length = t.cnt := by rw [← List.length_map (f := (·.2)), hxl, flat_len]
    rw [hlen] at hi
    have c0 := hi.num.cell
    have HX := hid (And.intro hi (And.intro hsz0 (And.intro hD hK)))
    clear hi hK hD hxl hlen hin hfin hI0 hC0 hsz0
    go_wp2
    obtain ⟨hi, hsz, hD, hK⟩ := HX.out
    refine ⟨by simp, .inl ⟨_, _, rfl, run_takeDeferred hK, ?_⟩⟩
    exact ⟨.int .i64 (wrapI t.cnt), by simp [results, Tryz.results51, go_sem], rfl, hi.below.trans (belowK_b (w := w) (Nat.le_refl _) _ D _ _ (by omega) hK rfl rfl)⟩
  case stop =>
    rintro D c pre W hD - h
    exact h.elim
end Go.Proofs.YtpjlepkdiaohiaaGreatDoor

/- Package tree: Depth; the reference's Count, Depth: walked. -/
namespace Go.Proofs.YtpjlepkdiaohiaaGreatDoor
open Go.RowKit
attribute [local go_sem] Oper.semAt_some

theorem dep_sub {lst : List Tr} {p : Pay} {t : Tr} {k d : Nat} (h : (Tr.nd p lst).dep ≤ d) (ht : lst[k]? = some t) : t.dep ≤ d ∧ t.dep < (Tr.nd p lst).dep := by
  have h2 : ∀ l : List Tr, ∀ t, t ∈ l → t.dep ≤ depL l := fun l => by
    induction l with
    | nil => exact fun t h => by cases h
    | cons x r ih =>
      intro t ht
      rw [depL]
      rcases List.mem_cons.1 ht with rfl | h
      · exact Nat.le_max_left _ _
      · exact Nat.le_trans (ih t h) (Nat.le_max_right _ _)
  have h3 := h2 lst t (List.mem_of_getElem? ht)
  rw [Tr.dep] at h ⊢
  omega
set_option maxRecDepth 100000 in
set_option maxHeartbeats 4000000 in
theorem depth_calls (t : Tr) : t.fine → t.dep ≤ 1000 → ∀ (sl : Value) (w : World), InT w (ndV t.p sl) t →
    Calls Tryz.prog 50 #[ndV t.p sl] w fun e w' => e = .returned (.int .i64 (t.dep : Nat)) ∧ Below w.heap.size w w' := by
  induction t using Tr.ind with
  | h p lst ih =>
    intro hfin hdep sl w hin
    obtain ⟨lst', a, n, c, f, he, rfl, rfl, hL⟩ := InT.inv hin
    obtain rfl : lst = lst' := (Tr.nd.inj he).2
    have h40 := hfin.len
    have hbx := Cls.new w 27 (ndL p (.slice a lst.length c))
    have hbb := below_alloc w (.cells (ndL p (.slice a lst.length c)).toArray 27)
    have hsz : (w.alloc (.cells (ndL p (.slice a lst.length c)).toArray 27)).heap.size = w.heap.size + 1 := by simp
    simp only [ndV, ndL, Tr.p] at hbx hbb hsz ⊢
    clear he hin
    go_enter Tryz.func50, Tryz.ntmps50
    have c8 := hbx.cell 8 rfl
    have HX := hid (And.intro hL (And.intro hbb (And.intro hbx (And.intro hfin (And.intro ih hdep)))))
    clear hL hbb hbx hfin ih
    go_wp2
    generalize w.alloc (.cells #[.int .i64 p.k, .bool p.b, .bool p.n, .string p.dg, .int .i64 p.ex, .int .u64 p.u, .int .i64 p.w, .string p.s, .slice a lst.length c] 27) = W1 at *
    go_loopw [3, 9] (fun v3 v9 wr => ∃ k : Nat, v9 = .int .i64 k ∧ v3 = .int .i64 (depL (lst.take k) : Nat) ∧ k ≤ lst.length ∧ Below W1.heap.size W1 wr) (fun v3 v9 _ => lst.length - (intOf v9).toNat)
    case atStart => exact ⟨0, rfl, rfl, Nat.zero_le _, Below.refl _ _⟩
    case round =>
      obtain ⟨k, rfl, rfl, hk, hbw⟩ := hrel
      obtain ⟨hL, hbb, hbx, hfin, ih, hx⟩ := HX.out
      have hwr : Below w.heap.size w wr := hbb.trans (hbw.mono hbb.size)
      have c8 := (hbx.below hbw).cell 8 rfl
      by_cases hkl : k < lst.length
      · obtain ⟨t, ht⟩ : ∃ t, lst[k]? = some t := ⟨_, List.getElem?_eq_getElem hkl⟩
        obtain ⟨⟨g, o, rfl, ca1⟩, ta⟩ := (hL.up hwr) k t ht
        obtain ⟨l1, q1, n1, c1, f1, -, g1, rfl, -⟩ := InT.inv ta
        rw [g1] at ca1 ta
        have hkz : (k : Int) < lst.length := by omega
        have hw1 : wrap64 ((k : Int) + 1) = (k : Int) + 1 := by unfold wrap64; omega
        obtain ⟨a0, a1, a2, a3, a4, a5, a6, a7, a8⟩ := ca1.cells

        have hcall := fun W (h : Below wr.heap.size wr W) => ih t (List.mem_of_getElem? ht) (hfin.sub (List.mem_of_getElem? ht)) (dep_sub hx ht).1 (.slice q1 l1.length c1) W (ta.up h)
        have HY := hid (And.intro hbw (And.intro ht hwr))
        clear hL hbb hbx hfin ih ta ca1 g1 hbw ht hwr hx
        go_wp2_with fail
        refine (hcall _ (below_alloc _ _)).mono ?_
        rintro e w1 ⟨rfl, hb1⟩
        obtain ⟨hbw, ht, -⟩ := HY.out
        have hb2 : Below W1.heap.size W1 w1 := hbw.trans (((below_alloc wr _).trans (hb1.mono (by simp))).mono hbw.size)
        have hmx : max (depL (lst.take k) : Int) (t.dep : Int) = (depL (lst.take (k + 1)) : Nat) := by rw [depL_take_succ ht]; omega

        clear hcall hb1 hbw ht
        go_wp2
        go_roundw
        case rel => exact ⟨k + 1, by simp, by rw [← hmx], by omega, hb2⟩
        case measure => simp [intOf]; omega
      · have hkz : decide (k < lst.length) = false := decide_eq_false (by omega)
        obtain rfl : k = lst.length := by omega
        rw [List.take_of_length_le (Nat.le_refl _)]
        clear hk hkl hL hbb hbx hfin ih hbw hx
        have hd2 : wrap64 ((depL lst : Nat) + 1 : Int) = ((Tr.nd p lst).dep : Nat) := by
          rw [Tr.dep] at hdep ⊢
          unfold wrap64
          omega

        go_wp2
        go_ret
        exact ⟨by rw [← hd2]; rfl, hwr⟩
set_option maxRecDepth 100000 in
set_option maxHeartbeats 4000000 in
theorem rcount_calls (t : Tr) : t.fine → ∀ (sl : Value) (w : World), InT w (ndV t.p sl) t →
    Calls Tryz.prog 22 #[ndV t.p sl] w fun e w' => e = .returned (.int .i64 (wrapI t.cnt)) ∧ Below w.heap.size w w' := by
  induction t using Tr.ind with
  | h p lst ih =>
    intro hfin sl w hin
    obtain ⟨lst', a, n, c, f, he, rfl, rfl, hL⟩ := InT.inv hin
    obtain rfl : lst = lst' := (Tr.nd.inj he).2
    have h40 := hfin.len
    have hbx := Cls.new w 27 (ndL p (.slice a lst.length c))
    have hbb := below_alloc w (.cells (ndL p (.slice a lst.length c)).toArray 27)
    have hsz : (w.alloc (.cells (ndL p (.slice a lst.length c)).toArray 27)).heap.size = w.heap.size + 1 := by simp
    simp only [ndV, ndL, Tr.p] at hbx hbb hsz ⊢
    clear he hin
    go_enter Tryz.func22, Tryz.ntmps22
    have c8 := hbx.cell 8 rfl
    have HX := hid (And.intro hL (And.intro hbb (And.intro hbx (And.intro hfin (And.intro ih h40)))))
    clear hL hbb hbx hfin ih
    go_wp2
    generalize w.alloc (.cells #[.int .i64 p.k, .bool p.b, .bool p.n, .string p.dg, .int .i64 p.ex, .int .u64 p.u, .int .i64 p.w, .string p.s, .slice a lst.length c] 27) = W1 at *
    go_loopw [3, 4] (fun v3 v4 wr => ∃ k : Nat, v4 = .int .i64 k ∧ v3 = .int .i64 (wrapI (cntL (lst.take k) + 1)) ∧ k ≤ lst.length ∧ Below W1.heap.size W1 wr) (fun v3 v4 _ => lst.length - (intOf v4).toNat)
    case atStart => exact ⟨0, rfl, rfl, Nat.zero_le _, Below.refl _ _⟩
    case round =>
      obtain ⟨k, rfl, rfl, hk, hbw⟩ := hrel
      obtain ⟨hL, hbb, hbx, hfin, ih, hx⟩ := HX.out
      have hwr : Below w.heap.size w wr := hbb.trans (hbw.mono hbb.size)
      have c8 := (hbx.below hbw).cell 8 rfl
      by_cases hkl : k < lst.length
      · obtain ⟨t, ht⟩ : ∃ t, lst[k]? = some t := ⟨_, List.getElem?_eq_getElem hkl⟩
        obtain ⟨⟨g, o, rfl, ca1⟩, ta⟩ := (hL.up hwr) k t ht
        obtain ⟨l1, q1, n1, c1, f1, -, g1, rfl, -⟩ := InT.inv ta
        rw [g1] at ca1 ta
        have hkz : (k : Int) < lst.length := by omega
        have hw1 : wrap64 ((k : Int) + 1) = (k : Int) + 1 := by unfold wrap64; omega
        obtain ⟨a0, a1, a2, a3, a4, a5, a6, a7, a8⟩ := ca1.cells

        have hcall := fun W (h : Below wr.heap.size wr W) => ih t (List.mem_of_getElem? ht) (hfin.sub (List.mem_of_getElem? ht)) (.slice q1 l1.length c1) W (ta.up h)
        have HY := hid (And.intro hbw (And.intro ht hwr))
        clear hL hbb hbx hfin ih ta ca1 g1 hbw ht hwr hx
        go_wp2_with fail
        refine (hcall _ (Below.refl _ _)).mono ?_
        rintro e w1 ⟨rfl, hb1⟩
        obtain ⟨hbw, ht, -⟩ := HY.out
        have hb2 : Below W1.heap.size W1 w1 := hbw.trans (hb1.mono hbw.size)
        have hmx : wrap64 (wrapI (cntL (lst.take k) + 1) + wrapI t.cnt) = wrapI (cntL (lst.take (k + 1)) + 1) := by
          rw [cntL_take_succ ht, wrap64_two]
          congr 1
          omega

        clear hcall hb1 hbw ht
        go_wp2
        go_roundw
        case rel => exact ⟨k + 1, by simp, by rw [← hmx], by omega, hb2⟩
        case measure => simp [intOf]; omega
      · have hkz : decide (k < lst.length) = false := decide_eq_false (by omega)
        obtain rfl : k = lst.length := by omega
        rw [List.take_of_length_le (Nat.le_refl _)]
        clear hk hkl hL hbb hbx hfin ih hbw hx

        go_wp2
        go_ret
        exact ⟨rfl, hwr⟩
set_option maxRecDepth 100000 in
set_option maxHeartbeats 4000000 in
theorem rdepth_calls (t : Tr) : t.fine → t.dep ≤ 1000 → ∀ (sl : Value) (w : World), InT w (ndV t.p sl) t →
    Calls Tryz.prog 23 #[ndV t.p sl] w fun e w' => e = .returned (.int .i64 (t.dep : Nat)) ∧ Below w.heap.size w w' := by
  induction t using Tr.ind with
  | h p lst ih =>
    intro hfin hdep sl w hin
    obtain ⟨lst', a, n, c, f, he, rfl, rfl, hL⟩ := InT.inv hin
    obtain rfl : lst = lst' := (Tr.nd.inj he).2
    have h40 := hfin.len
    have hbx := Cls.new w 27 (ndL p (.slice a lst.length c))
    have hbb := below_alloc w (.cells (ndL p (.slice a lst.length c)).toArray 27)
    have hsz : (w.alloc (.cells (ndL p (.slice a lst.length c)).toArray 27)).heap.size = w.heap.size + 1 := by simp
    simp only [ndV, ndL, Tr.p] at hbx hbb hsz ⊢
    clear he hin
    go_enter Tryz.func23, Tryz.ntmps23
    have c8 := hbx.cell 8 rfl
    have HX := hid (And.intro hL (And.intro hbb (And.intro hbx (And.intro hfin (And.intro ih hdep)))))
    clear hL hbb hbx hfin ih
    go_wp2
    generalize w.alloc (.cells #[.int .i64 p.k, .bool p.b, .bool p.n, .string p.dg, .int .i64 p.ex, .int .u64 p.u, .int .i64 p.w, .string p.s, .slice a lst.length c] 27) = W1 at *
    go_loopw [3, 4] (fun v3 v4 wr => ∃ k : Nat, v4 = .int .i64 k ∧ v3 = .int .i64 (depL (lst.take k) : Nat) ∧ k ≤ lst.length ∧ Below W1.heap.size W1 wr) (fun v3 v4 _ => lst.length - (intOf v4).toNat)
    case atStart => exact ⟨0, rfl, rfl, Nat.zero_le _, Below.refl _ _⟩
    case round =>
      obtain ⟨k, rfl, rfl, hk, hbw⟩ := hrel
      obtain ⟨hL, hbb, hbx, hfin, ih, hx⟩ := HX.out
      have hwr : Below w.heap.size w wr := hbb.trans (hbw.mono hbb.size)
      have c8 := (hbx.below hbw).cell 8 rfl
      by_cases hkl : k < lst.length
      · obtain ⟨t, ht⟩ : ∃ t, lst[k]? = some t := ⟨_, List.getElem?_eq_getElem hkl⟩
        obtain ⟨⟨g, o, rfl, ca1⟩, ta⟩ := (hL.up hwr) k t ht
        obtain ⟨l1, q1, n1, c1, f1, -, g1, rfl, -⟩ := InT.inv ta
        rw [g1] at ca1 ta
        have hkz : (k : Int) < lst.length := by omega
        have hw1 : wrap64 ((k : Int) + 1) = (k : Int) + 1 := by unfold wrap64; omega
        obtain ⟨a0, a1, a2, a3, a4, a5, a6, a7, a8⟩ := ca1.cells

        have hcall := fun W (h : Below wr.heap.size wr W) => ih t (List.mem_of_getElem? ht) (hfin.sub (List.mem_of_getElem? ht)) (dep_sub hx ht).1 (.slice q1 l1.length c1) W (ta.up h)
        have HY := hid (And.intro hbw (And.intro ht hwr))
        clear hL hbb hbx hfin ih ta ca1 g1 hbw ht hwr hx
        go_wp2_with fail
        refine (hcall _ (Below.refl _ _)).mono ?_
        rintro e w1 ⟨rfl, hb1⟩
        obtain ⟨hbw, ht, -⟩ := HY.out
        have hb2 : Below W1.heap.size W1 w1 := hbw.trans (hb1.mono hbw.size)
        have hmx : max (depL (lst.take k) : Int) (t.dep : Int) = (depL (lst.take (k + 1)) : Nat) := by rw [depL_take_succ ht]; omega

        clear hcall hb1 hbw ht
        go_wp2
        go_roundw
        case rel => exact ⟨k + 1, by simp, by rw [← hmx], by omega, hb2⟩
        case measure => simp [intOf]; omega
      · have hkz : decide (k < lst.length) = false := decide_eq_false (by omega)
        obtain rfl : k = lst.length := by omega
        rw [List.take_of_length_le (Nat.le_refl _)]
        clear hk hkl hL hbb hbx hfin ih hbw hx
        have hd2 : wrap64 ((depL lst : Nat) + 1 : Int) = ((Tr.nd p lst).dep : Nat) := by
          rw [Tr.dep] at hdep ⊢
          unfold wrap64
          omega

        go_wp2
        go_ret
        exact ⟨by rw [← hd2]; rfl, hwr⟩
end Go.Proofs.YtpjlepkdiaohiaaGreatDoor

/- Package tree: Same: walked. -/
namespace Go.Proofs.YtpjlepkdiaohiaaGreatDoor
open Go.RowKit
attribute [local go_sem] Oper.semAt_some

/-- what Same's contract says of one tree. -/
def SameC (t : Tr) : Prop := t.fine → ∀ (u : Tr) (sa sb : Value) (w : World), InT w (ndV t.p sa) t → InT w (ndV u.p sb) u →
  Calls Tryz.prog 150 #[ndV t.p sa, ndV u.p sb] w fun e w' => e = .returned (.bool (Tr.same t u)) ∧ Below w.heap.size w w'
theorem sameL_len : ∀ (l m : List Tr), l.length ≠ m.length → sameL l m = false
  | [], [], h => absurd rfl h
  | [], _ :: _, _ => rfl
  | _ :: _, [], _ => rfl
  | t :: r, u :: s, h => by rw [sameL, sameL_len r s (by simpa using h), Bool.and_false]
theorem sameL_iff (l m : List Tr) : sameL l m = true ↔ l = m := by
  have h := same_iff (.nd Pay.z l) (.nd Pay.z m)
  rw [Tr.same, Bool.and_eq_true] at h
  constructor
  · intro h2
    exact (Tr.nd.inj (h.1 ⟨Pay.same_iff.2 rfl, h2⟩)).2
  · rintro rfl
    exact (h.2 rfl).2
/-- lists go on alike. -/
theorem take_go {l m : List Tr} {k : Nat} {t u : Tr} (h : l.take k = m.take k) (ht : l[k]? = some t) (hu : m[k]? = some u) (he : Tr.same t u = true) : l.take (k + 1) = m.take (k + 1) := by
  rw [List.take_add_one, List.take_add_one, h, ht, hu, (same_iff t u).1 he]
theorem take_stop {l m : List Tr} {k : Nat} {t u : Tr} (ht : l[k]? = some t) (hu : m[k]? = some u) (he : Tr.same t u = false) : sameL l m = false := by
  cases h : sameL l m with
  | false => rfl
  | true =>
    rw [(sameL_iff l m).1 h] at ht
    rw [ht] at hu
    rw [Option.some.inj hu, same_self] at he
    cases he

set_option maxRecDepth 100000 in
set_option maxHeartbeats 2000000 in
theorem eqFunc_calls (l : List Tr) (hS : ∀ t, t ∈ l → SameC t) (hfi : ∀ t, t ∈ l → t.fine) (hl40 : l.length ≤ 10000) (m : List Tr) (aa ab : Option Addr) (ca cb : Nat) (fa fb : Nat → Value) (w : World) (ha : ListAt w aa fa l) (hb : ListAt w ab fb m) :
    Calls Tryz.prog 175 #[.slice aa l.length ca, .slice ab m.length cb, .func (.func 150) #[] #[]] w fun e w' => e = .returned (.bool (sameL l m)) ∧ Below w.heap.size w w' := by
  have ec : ∀ args w, (callFunc 150 args).run Tryz.prog w = .ok (.enter 150 args) w := enters_of Tryz.func150 (by kernel_rfl) rfl
  by_cases hlen : l.length = m.length
  · have hz : ((l.length : Int) != (m.length : Int)) = false := by rw [hlen]; simp
    have HH := hid (And.intro hS (And.intro ha (And.intro hb (And.intro hlen hfi))))
    clear hS ha hb hlen hfi
    go_enter Tryz.func175, Tryz.ntmps175
    go_wp2
    go_loopw [17] (fun v wr => ∃ k : Nat, v = .int .i64 k ∧ k ≤ l.length ∧ l.take k = m.take k ∧ Below w.heap.size w wr) (fun v _ => l.length - (intOf v).toNat)
    case atStart => exact ⟨0, rfl, Nat.zero_le _, by simp, Below.refl _ _⟩
    case round =>
      obtain ⟨k, rfl, hk, hs, hbw⟩ := hrel
      by_cases hks : k < l.length
      · obtain ⟨hS, ha, hb, hl, hfi⟩ := HH.out
        have hkm : k < m.length := by omega
        have hw1 : wrap64 ((k : Int) + 1) = (k : Int) + 1 := by unfold wrap64; omega
        have hks' : (k : Int) < l.length := by omega
        obtain ⟨t, ht⟩ : ∃ t, l[k]? = some t := ⟨_, List.getElem?_eq_getElem hks⟩
        obtain ⟨u, hu⟩ : ∃ u, m[k]? = some u := ⟨_, List.getElem?_eq_getElem (by omega)⟩
        obtain ⟨⟨g, o, rfl, ca1⟩, ta⟩ := (ha.up hbw) k t ht
        obtain ⟨⟨g', o', rfl, cb1⟩, tb⟩ := (hb.up hbw) k u hu
        obtain ⟨a0, a1, a2, a3, a4, a5, a6, a7, a8⟩ := ca1.cells
        obtain ⟨l1, q1, n1, c1, f1, -, g1, rfl, -⟩ := InT.inv ta
        obtain ⟨l2, q2, n2, c2, f2, -, g2, rfl, -⟩ := InT.inv tb
        rw [g1] at a8 ta
        rw [g2] at cb1 tb
        have cbA := fun X => (cb1.al X).cells
        have HK := hid (And.intro hl (And.intro hs (And.intro ht (And.intro hu hfi))))
        clear hfi cb1 ca1 g1 g2 ha hb hl hs ht hu
        go_wp2_with fail
        obtain ⟨hl, hs, ht, hu, hfi⟩ := HK.out
        refine (hS t (List.mem_of_getElem? ht) (hfi t (List.mem_of_getElem? ht)) u _ _ _ ((ta.up (below_alloc _ _)).up (below_alloc _ _)) ((tb.up (below_alloc _ _)).up (below_alloc _ _))).mono ?_
        clear hl hs ht hu hfi
        rintro e w1 ⟨rfl, hb1⟩
        have hbw1 : Below w.heap.size w w1 := ((hbw.alloc hbw.size _).alloc (Nat.le_trans hbw.size (by simp)) _).trans (hb1.mono (Nat.le_trans hbw.size (by simp; omega)))
        cases he : Tr.same t u with
        | true =>
          go_wp2
          go_roundw
          case rel => exact ⟨k + 1, by simp, by omega, take_go HK.out.2.1 HK.out.2.2.1 HK.out.2.2.2.1 he, hbw1⟩
          case measure => simp [intOf]; omega
        | false =>
          have hf := take_stop HK.out.2.2.1 HK.out.2.2.2.1 he
          go_wp2
          go_ret
          exact ⟨by first | rfl | (rw [hf]; rfl), hbw1⟩
      · have hks' : ¬ (k : Int) < l.length := by omega
        have hf : sameL l m = true := by
          obtain ⟨-, -, -, hl, -⟩ := HH.out
          rw [List.take_of_length_le (by omega), List.take_of_length_le (by omega)] at hs
          exact (sameL_iff l m).2 hs
        go_wp2
        go_ret
        exact ⟨by first | rfl | (rw [hf]; rfl), hbw⟩
  · have hz : ((l.length : Int) != (m.length : Int)) = true := by simpa using fun h => hlen (by omega)
    have hf := sameL_len l m hlen
    go_enter Tryz.func175, Tryz.ntmps175
    go_wp2
    go_ret
    exact ⟨by first | rfl | (rw [hf]; rfl), Below.refl _ _⟩

set_option maxRecDepth 100000 in
set_option maxHeartbeats 4000000 in
theorem same_calls (a : Tr) : SameC a := by
  induction a using Tr.ind with
  | h p l ih =>
    intro hfin b sa sb w ha hb
    obtain ⟨l', qa, na, ca, fa, e1, rfl, rfl, hla⟩ := InT.inv ha
    obtain rfl : l = l' := (Tr.nd.inj e1).2
    obtain ⟨m, qb, nb, cb, fb, e2, rfl, rfl, hlb⟩ := InT.inv hb
    obtain ⟨q, m', rfl⟩ : ∃ q m', b = .nd q m' := ⟨b.p, b.l, Tr.eta b⟩
    obtain rfl : m' = m := (Tr.nd.inj e2).2
    clear e1 e2
    have hce := fun W h1 h2 => eqFunc_calls l ih (fun t ht => hfin.sub ht) hfin.len m' qa qb ca cb fa fb W h1 h2
    obtain ⟨pk, pb, pn, pd, pe, pu, pw, ps⟩ := p
    obtain ⟨qk, qb', qn, qd, qe, qu, qw, qs⟩ := q
    have hq := eqD pn qn pd qd pe qe
    have hg := guardD
    have hB : Below w.heap.size w ((w.alloc (.cells (ndL ⟨pk, pb, pn, pd, pe, pu, pw, ps⟩ (.slice qa l.length ca)).toArray 27)).alloc (.cells (ndL ⟨qk, qb', qn, qd, qe, qu, qw, qs⟩ (.slice qb m'.length cb)).toArray 27)) :=
      (below_alloc w _).alloc (by simp) _
    have HX := hid (And.intro hla (And.intro hlb (And.intro hce hB)))
    simp only [ndV, ndL, Tr.p]
    rw [Tr.same, Pay.same]
    dsimp only
    clear hla hlb hce ha hb ih hB
    go_enter Tryz.func150, Tryz.ntmps150
    cases h1 : (pk == qk)
    · go_wp2; go_ret; exact ⟨rfl, HX.out.2.2.2⟩
    cases h2 : (pb == qb')
    · go_wp2; go_ret; exact ⟨rfl, HX.out.2.2.2⟩
    cases h3 : (pn == qn && (pd.toList == qd.toList && pe == qe))
    · rw [h3] at hq; go_wp2; go_ret; exact ⟨rfl, HX.out.2.2.2⟩
    rw [h3] at hq
    cases h4 : (pu == qu)
    · have h4' : ((pu : Int) == (qu : Int)) = false := by rw [beq_eq_false_iff_ne] at h4 ⊢; omega
      go_wp2; go_ret; exact ⟨rfl, HX.out.2.2.2⟩
    have h4' : ((pu : Int) == (qu : Int)) = true := by rw [beq_iff_eq] at h4 ⊢; omega
    cases h5 : (pw == qw)
    · go_wp2; go_ret; exact ⟨rfl, HX.out.2.2.2⟩
    cases h6 : (ps.toList == qs.toList)
    · go_wp2; go_ret; exact ⟨rfl, HX.out.2.2.2⟩
    go_wp2_with fail
    obtain ⟨hla, hlb, hce, hB⟩ := HX.out
    refine (hce _ (hla.up hB) (hlb.up hB)).mono ?_
    rintro e w1 ⟨rfl, hb1⟩
    have hb2 := hB.trans (hb1.mono (by simp; omega))
    clear hla hlb hce hB
    go_wp2
    go_ret
    exact ⟨rfl, hb2⟩
end Go.Proofs.YtpjlepkdiaohiaaGreatDoor

/- The reference's Same: walked. -/
namespace Go.Proofs.YtpjlepkdiaohiaaGreatDoor
open Go.RowKit
attribute [local go_sem] Oper.semAt_some

theorem below_nx {w W W' : World} (h : Below w.heap.size w W) (hb : Below W.heap.size W W') : Below w.heap.size w W' := h.trans (hb.mono h.size)
theorem neqD (n n' : Bool) (s s' : ByteArray) (x x' : Int) (w : World) :
    (binOp .neq 23 (.agg #[.bool n, .string s, .int .i64 x]) (.agg #[.bool n', .string s', .int .i64 x'])).run Tryz.prog w = .ok (.bool (!(n == n' && (s.toList == s'.toList && x == x')))) w := by
  have h := eqD n n' s s' x x' w
  rw [run_eql_struct] at h
  rw [run_neq_struct]
  cases hr : (Op.equalIn 10000 23 (.agg #[.bool n, .string s, .int .i64 x]) (.agg #[.bool n', .string s', .int .i64 x'])).run Tryz.prog w with
  | ok b w' =>
    rw [hr] at h
    simp only [Result.andThen, Result.ok.injEq, Value.bool.injEq] at h ⊢
    exact ⟨by rw [h.1], h.2⟩
  | halt e w' =>
    rw [hr] at h
    simp [Result.andThen] at h

/-- what the reference's Same's contract says of one tree. -/
def RSameC (t : Tr) : Prop := t.fine → ∀ (u : Tr) (sa sb : Value) (w : World), InT w (ndV t.p sa) t → InT w (ndV u.p sb) u →
  Calls Tryz.prog 18 #[ndV t.p sa, ndV u.p sb] w fun e w' => e = .returned (.bool (Tr.same t u)) ∧ Below w.heap.size w w'

set_option maxRecDepth 100000 in
set_option maxHeartbeats 4000000 in
theorem rsame_calls (a : Tr) : RSameC a := by
  induction a using Tr.ind with
  | h p l ih =>
    intro hfin b sa sb w ha hb
    obtain ⟨l', qa, na, ca, fa, e1, rfl, rfl, hla⟩ := InT.inv ha
    obtain rfl : l = l' := (Tr.nd.inj e1).2
    obtain ⟨m, qb, nb, cb, fb, e2, rfl, rfl, hlb⟩ := InT.inv hb
    obtain ⟨q, m', rfl⟩ : ∃ q m', b = .nd q m' := ⟨b.p, b.l, Tr.eta b⟩
    obtain rfl : m' = m := (Tr.nd.inj e2).2
    clear e1 e2
    have h40 := hfin.len
    obtain ⟨pk, pb, pn, pd, pe, pu, pw, ps⟩ := p
    obtain ⟨qk, qb', qn, qd, qe, qu, qw, qs⟩ := q
    have hq := neqD pn qn pd qd pe qe
    have hg := guardD
    have hbx1 := Cls.new w 27 (ndL ⟨pk, pb, pn, pd, pe, pu, pw, ps⟩ (.slice qa l.length ca))
    have hbx2 := Cls.new (w.alloc (.cells (ndL ⟨pk, pb, pn, pd, pe, pu, pw, ps⟩ (.slice qa l.length ca)).toArray 27)) 27 (ndL ⟨qk, qb', qn, qd, qe, qu, qw, qs⟩ (.slice qb m'.length cb))
    have hbx3 := hbx1.alloc (.cells (ndL ⟨qk, qb', qn, qd, qe, qu, qw, qs⟩ (.slice qb m'.length cb)).toArray 27)
    have hB : Below w.heap.size w ((w.alloc (.cells (ndL ⟨pk, pb, pn, pd, pe, pu, pw, ps⟩ (.slice qa l.length ca)).toArray 27)).alloc (.cells (ndL ⟨qk, qb', qn, qd, qe, qu, qw, qs⟩ (.slice qb m'.length cb)).toArray 27)) :=
      (below_alloc w _).alloc (by simp) _
    rw [World.size_alloc] at hbx2
    simp only [ndV, ndL, Tr.p] at hbx2 hbx3 hB ⊢
    rw [Tr.same, Pay.same]
    dsimp only
    have HX := hid (And.intro hla (And.intro hlb (And.intro ih (And.intro hfin (And.intro hbx2 (And.intro hbx3 hB))))))
    clear hla hlb ha hb ih hB hbx1 hbx2 hbx3 hfin
    go_enter Tryz.func18, Tryz.ntmps18
    cases h1 : (pk == qk)
    · have h1' : (pk != qk) = true := by rw [bne, h1]; rfl
      go_wp2; go_ret; exact ⟨rfl, HX.out.2.2.2.2.2.2⟩
    have h1' : (pk != qk) = false := by rw [bne, h1]; rfl
    cases h2 : (pb == qb')
    · have h2' : (pb != qb') = true := by rw [bne, h2]; rfl
      go_wp2; go_ret; exact ⟨rfl, HX.out.2.2.2.2.2.2⟩
    have h2' : (pb != qb') = false := by rw [bne, h2]; rfl
    cases h3 : (pn == qn && (pd.toList == qd.toList && pe == qe))
    · rw [h3] at hq; go_wp2; go_ret; exact ⟨rfl, HX.out.2.2.2.2.2.2⟩
    rw [h3] at hq
    cases h4 : (pu == qu)
    · have h4' : ((pu : Int) == (qu : Int)) = false := by rw [beq_eq_false_iff_ne] at h4 ⊢; omega
      have h4n : ((pu : Int) != (qu : Int)) = true := by rw [bne, h4']; rfl
      go_wp2; go_ret; exact ⟨rfl, HX.out.2.2.2.2.2.2⟩
    have h4' : ((pu : Int) == (qu : Int)) = true := by rw [beq_iff_eq] at h4 ⊢; omega
    have h4n : ((pu : Int) != (qu : Int)) = false := by rw [bne, h4']; rfl
    cases h5 : (pw == qw)
    · have h5' : (pw != qw) = true := by rw [bne, h5]; rfl
      go_wp2; go_ret; exact ⟨rfl, HX.out.2.2.2.2.2.2⟩
    have h5' : (pw != qw) = false := by rw [bne, h5]; rfl
    cases h6 : (ps.toList == qs.toList)
    · have h6' : (ps.toList != qs.toList) = true := by rw [bne, h6]; rfl
      go_wp2; go_ret; exact ⟨rfl, HX.out.2.2.2.2.2.2⟩
    have h6' : (ps.toList != qs.toList) = false := by rw [bne, h6]; rfl
    by_cases hlen : l.length = m'.length
    · have hz : ((l.length : Int) != (m'.length : Int)) = false := by rw [hlen]; simp
      have HL := hid hlen
      clear hlen
      go_wp2
      generalize (w.alloc (.cells #[.int .i64 pk, .bool pb, .bool pn, .string pd, .int .i64 pe, .int .u64 pu, .int .i64 pw, .string ps, .slice qa l.length ca] 27)).alloc (.cells #[.int .i64 qk, .bool qb', .bool qn, .string qd, .int .i64 qe, .int .u64 qu, .int .i64 qw, .string qs, .slice qb m'.length cb] 27) = W1 at *
      go_loopw [5] (fun v wr => ∃ k : Nat, v = .int .i64 k ∧ k ≤ l.length ∧ l.take k = m'.take k ∧ Below W1.heap.size W1 wr) (fun v _ => l.length - (intOf v).toNat)
      case atStart => exact ⟨0, rfl, Nat.zero_le _, by simp, Below.refl _ _⟩
      case round =>
        obtain ⟨k, rfl, hk, hs, hbw⟩ := hrel
        obtain ⟨hla, hlb, ih, hfin, hbx2, hbx3, hB⟩ := HX.out
        have hlen := HL.out
        have hwr : Below w.heap.size w wr := hB.trans (hbw.mono hB.size)
        have c8a := (hbx3.below hbw).cell 8 rfl
        have c8b := (hbx2.below hbw).cell 8 rfl
        by_cases hkl : k < l.length
        · obtain ⟨t, ht⟩ : ∃ t, l[k]? = some t := ⟨_, List.getElem?_eq_getElem hkl⟩
          obtain ⟨u, hu⟩ : ∃ u, m'[k]? = some u := ⟨_, List.getElem?_eq_getElem (by omega)⟩
          obtain ⟨⟨g, o, rfl, ca1⟩, ta⟩ := (hla.up hwr) k t ht
          obtain ⟨⟨g', o', rfl, cb1⟩, tb⟩ := (hlb.up hwr) k u hu
          obtain ⟨l1, q1, n1, c1, f1, -, g1, rfl, -⟩ := InT.inv ta
          obtain ⟨l2, q2, n2, c2, f2, -, g2, rfl, -⟩ := InT.inv tb
          rw [g1] at ca1 ta
          rw [g2] at cb1 tb
          have hkm : k < m'.length := by omega
          have hkz : (k : Int) < l.length := by omega
          have hw1 : wrap64 ((k : Int) + 1) = (k : Int) + 1 := by unfold wrap64; omega
          obtain ⟨a0, a1, a2, a3, a4, a5, a6, a7, a8⟩ := ca1.cells
          obtain ⟨b0, b1, b2, b3, b4, b5, b6, b7, b8⟩ := cb1.cells
          have hcall := fun W (h : Below wr.heap.size wr W) => ih t (List.mem_of_getElem? ht) (hfin.sub (List.mem_of_getElem? ht)) u (.slice q1 l1.length c1) (.slice q2 l2.length c2) W (ta.up h) (tb.up h)
          have hbz := Below.refl wr.heap.size wr
          have HY := hid (And.intro hbw (And.intro ht (And.intro hu (And.intro hs hwr))))
          clear hla hlb hbx2 hbx3 hB hfin ih ta tb ca1 cb1 g1 g2 hbw ht hu hs hwr hlen
          obtain ⟨sm, hsm⟩ : ∃ sm, Tr.same t u = sm := ⟨_, rfl⟩
          rw [hsm] at hcall
          go_wp2_with fail
          go_region_held3 (fun w' => w'.cell? ⟨w.heap.size, 8, none⟩ = some (.slice (some ⟨g, o, none⟩) l.length ca) ∧ w'.cell? ⟨w.heap.size + 1, 8, none⟩ = some (.slice (some ⟨g', o', none⟩) m'.length cb) ∧ w'.cell? ⟨g, o + k * 9, none⟩ = some (.int .i64 t.p.k) ∧ w'.cell? ⟨g, o + k * 9 + 1, none⟩ = some (.bool t.p.b) ∧ w'.cell? ⟨g, o + k * 9 + 2, none⟩ = some (.bool t.p.n) ∧ w'.cell? ⟨g, o + k * 9 + 3, none⟩ = some (.string t.p.dg) ∧ w'.cell? ⟨g, o + k * 9 + 4, none⟩ = some (.int .i64 t.p.ex) ∧ w'.cell? ⟨g, o + k * 9 + 5, none⟩ = some (.int .u64 t.p.u) ∧ w'.cell? ⟨g, o + k * 9 + 6, none⟩ = some (.int .i64 t.p.w) ∧ w'.cell? ⟨g, o + k * 9 + 7, none⟩ = some (.string t.p.s) ∧ w'.cell? ⟨g, o + k * 9 + 8, none⟩ = some (.slice q1 l1.length c1) ∧ w'.cell? ⟨g', o' + k * 9, none⟩ = some (.int .i64 u.p.k) ∧ w'.cell? ⟨g', o' + k * 9 + 1, none⟩ = some (.bool u.p.b) ∧ w'.cell? ⟨g', o' + k * 9 + 2, none⟩ = some (.bool u.p.n) ∧ w'.cell? ⟨g', o' + k * 9 + 3, none⟩ = some (.string u.p.dg) ∧ w'.cell? ⟨g', o' + k * 9 + 4, none⟩ = some (.int .i64 u.p.ex) ∧ w'.cell? ⟨g', o' + k * 9 + 5, none⟩ = some (.int .u64 u.p.u) ∧ w'.cell? ⟨g', o' + k * 9 + 6, none⟩ = some (.int .i64 u.p.w) ∧ w'.cell? ⟨g', o' + k * 9 + 7, none⟩ = some (.string u.p.s) ∧ w'.cell? ⟨g', o' + k * 9 + 8, none⟩ = some (.slice q2 l2.length c2) ∧ Below wr.heap.size wr w')
            (first
              | (refine ⟨?_, ?_, ?_, ?_, ?_, ?_, ?_, ?_, ?_, ?_, ?_, ?_, ?_, ?_, ?_, ?_, ?_, ?_, ?_, ?_, ?_⟩ <;> first | assumption | exact cell_below (by assumption) hbX | exact below_nx (by assumption) hbX | exact Below.drew (by assumption) | exact below_nx (Below.drew (by assumption)) hbX)
              | go_keep
              | (go_split_ands
                 refine ⟨?_, ?_, ?_, ?_, ?_, ?_, ?_, ?_, ?_, ?_, ?_, ?_, ?_, ?_, ?_, ?_, ?_, ?_, ?_, ?_, ?_⟩ <;> first | assumption | exact cell_below (by assumption) hbX | exact below_nx (by assumption) hbX | exact Below.drew (by assumption) | exact below_nx (Below.drew (by assumption)) hbX))
            (first
              | (go_at_call 18; refine (hcall _ (by first | assumption | exact Below.drew (by assumption))).mono ?_; rintro e wn ⟨rfl, hbX⟩))
          all_goals (
            go_split_ands
            have hBn : Below wr.heap.size wr wn := by first | assumption | exact Below.drew (by assumption)
            obtain ⟨hbw, ht, hu, hs, hwr⟩ := HY.out
            have hb2 := hbw.trans (hBn.mono hbw.size)
            have hb3 := hwr.trans (hBn.mono hwr.size)
            clear hcall hbw hwr
            cases sm with
            | true =>
              have htk := take_go hs ht hu hsm
              clear ht hu hs
              go_wp2
              go_roundw
              case rel => exact ⟨k + 1, by simp, by omega, htk, hb2⟩
              case measure => simp [intOf]; omega
            | false =>
              have hf := take_stop ht hu hsm
              clear ht hu hs
              go_wp2
              go_ret
              exact ⟨by first | rfl | (rw [hf]; rfl), hb3⟩)
        · have hkz : decide (k < m'.length) = false := decide_eq_false (by omega)
          have hkz2 : decide (k < l.length) = false := decide_eq_false (by omega)
          have hf : sameL l m' = true := by
            rw [List.take_of_length_le (by omega), List.take_of_length_le (by omega)] at hs
            exact (sameL_iff l m').2 hs
          clear hla hlb hbx2 hbx3 hB hfin ih hbw hs hlen hk hkl
          go_wp2
          go_ret
          exact ⟨by first | rfl | (rw [hf]; rfl), hwr⟩
    · have hz : ((l.length : Int) != (m'.length : Int)) = true := by simpa using fun h => hlen (by omega)
      have hf := sameL_len l m' hlen
      go_wp2
      go_ret
      exact ⟨by first | rfl | (rw [hf]; rfl), HX.out.2.2.2.2.2.2⟩
end Go.Proofs.YtpjlepkdiaohiaaGreatDoor

/- Package tree: bare, keys; the reference's only: walked. -/
namespace Go.Proofs.YtpjlepkdiaohiaaGreatDoor
open Go.RowKit
attribute [local go_sem] Oper.semAt_some

theorem same_nil (p q : Pay) : Tr.same (.nd p []) (.nd q []) = Pay.same p q := by rw [Tr.same, sameL, Bool.and_true]
theorem same_self_l (p q : Pay) (l : List Tr) : Tr.same (.nd p l) (.nd q l) = Pay.same p q := by rw [Tr.same, (sameL_iff l l).2 rfl, Bool.and_true]
theorem InT.leaf (W : World) (p : Pay) (c : Nat) (a : Option Addr) : InT W (ndV p (.slice a 0 c)) (.nd p []) := .nd p [] a 0 c (fun _ => .bool false) rfl (fun i t h => by simp at h) (fun i t h => by simp at h)
theorem fine_leaf {p : Pay} (h : p.fine) : (Tr.nd p []).fine := .nd p [] h (by simp) (fun t h => by cases h)
theorem InT.pay {W : World} {p q : Pay} {l : List Tr} {sl : Value} (h : InT W (ndV p sl) (.nd p l)) : InT W (ndV q sl) (.nd q l) := by
  obtain ⟨l', a, n, c, f, e, rfl, rfl, hL⟩ := InT.inv h
  obtain rfl : l = l' := (Tr.nd.inj e).2
  exact InT.mk rfl hL

set_option maxRecDepth 100000 in
set_option maxHeartbeats 4000000 in
theorem bare_calls (p q : Pay) (l : List Tr) (hfin : (Tr.nd p l).fine) (sl : Value) (w : World) (hin : InT w (ndV p sl) (.nd p l)) :
    Calls Tryz.prog 124 #[ndV p sl, ndV q (.slice none 0 0)] w fun e w' => e = .returned (.bool (l.isEmpty && onlyP p q)) ∧ Below w.heap.size w w' := by
  obtain ⟨l', qa, na, ca, fa, e1, rfl, rfl, hla⟩ := InT.inv hin
  obtain rfl : l = l' := (Tr.nd.inj e1).2
  clear e1
  have hB : Below w.heap.size w ((w.alloc (.cells (ndL p (.slice qa l.length ca)).toArray 27)).alloc (.cells (ndL { q with k := p.k } (.slice none 0 0)).toArray 27)) := (below_alloc w _).alloc (by simp) _
  simp only [ndV, ndL] at hB ⊢
  have HX := hid (And.intro hla (And.intro hin (And.intro hfin hB)))
  clear hla hin hfin hB
  by_cases hl : l = []
  · subst hl
    have hsm := fun W h => same_calls (.nd p []) HX.out.2.2.1 (.nd { q with k := p.k } []) (.slice qa 0 ca) (.slice none 0 0) W h (InT.leaf W _ _ _)
    rw [same_nil] at hsm
    go_enter Tryz.func124, Tryz.ntmps124
    go_wp2_with fail
    refine (hsm _ (InT.leaf _ _ _ _)).mono ?_
    rintro e w1 ⟨rfl, hb1⟩
    have hb2 := HX.out.2.2.2.trans (hb1.mono (by simp; omega))
    clear hsm
    go_wp2
    go_ret
    exact ⟨rfl, hb2⟩
  · have hz : ((l.length : Int) == 0) = false := by
      rw [beq_eq_false_iff_ne]
      have := List.length_pos_iff.2 hl
      omega
    have hz2 : l.isEmpty = false := by cases l with | nil => exact absurd rfl hl | cons t r => rfl
    have hz3 : ¬ l.length = 0 := fun h => hl (List.length_eq_zero_iff.1 h)
    clear hl
    go_enter Tryz.func124, Tryz.ntmps124
    go_wp2
    go_ret
    exact ⟨by rw [hz2]; rfl, HX.out.2.2.2⟩

set_option maxRecDepth 100000 in
set_option maxHeartbeats 4000000 in
theorem only_calls (p q : Pay) (l : List Tr) (hfin : (Tr.nd p l).fine) (sl : Value) (w : World) (hin : InT w (ndV p sl) (.nd p l)) :
    Calls Tryz.prog 148 #[ndV p sl, ndV q (.slice none 0 0)] w fun e w' => e = .returned (.bool (onlyP p q)) ∧ Below w.heap.size w w' := by
  have hsm := fun W (h : InT W (ndV p sl) (.nd p l)) => rsame_calls (.nd p l) hfin (.nd { q with k := p.k } l) sl sl W h h.pay
  rw [same_self_l] at hsm
  obtain ⟨l', qa, na, ca, fa, e1, rfl, rfl, hla⟩ := InT.inv hin
  have hB : Below w.heap.size w ((w.alloc (.cells (ndL p (.slice qa l'.length ca)).toArray 27)).alloc (.cells (ndL { q with k := p.k } (.slice qa l'.length ca)).toArray 27)) := (below_alloc w _).alloc (by simp) _
  have hin2 := hin.up hB
  simp only [ndL] at hB hin2
  have HX := hid (And.intro hin2 hB)
  clear hla hin hfin hB hin2 e1
  simp only [ndV, ndL]
  go_enter Tryz.func148, Tryz.ntmps148
  go_wp2_with fail
  refine (hsm _ HX.out.1).mono ?_
  rintro e w1 ⟨rfl, hb1⟩
  have hb2 := HX.out.2.trans (hb1.mono (by simp; omega))
  clear hsm
  go_wp2
  go_ret
  exact ⟨rfl, hb2⟩

theorem info_node : (Tryz.prog.info? 27).map (fun i => (i.zero, i.size, i.bytes)) = some (some (.agg #[.int .i64 0, .bool false, .bool false, .string ⟨#[]⟩, .int .i64 0, .int .u64 0, .int .i64 0, .string ⟨#[]⟩, .slice none 0 0]), 9, 104) := by kernel_rfl
theorem cells_new (W : World) (t : TypeId) (xs : List Value) (j : Nat) (u : Value) (h : xs[j]? = some u) : (W.alloc (.cells xs.toArray t)).cell? ((⟨W.heap.size, 0, none⟩ : Addr).add j) = some u := by
  rw [Go.Addr.add_lit, Nat.zero_add]
  exact (Cls.new W t xs).cell j h
theorem ndL_oneCell (p : Pay) (a : Option Addr) (n c : Nat) : ∀ u ∈ ndL p (.slice a n c), u.oneCell' = true := by
  intro u hu
  simp only [ndL, List.mem_cons, List.not_mem_nil, or_false] at hu
  rcases hu with rfl | rfl | rfl | rfl | rfl | rfl | rfl | rfl | rfl <;> rfl

set_option maxRecDepth 100000 in
set_option maxHeartbeats 4000000 in
theorem keys_calls (l : List Tr) (hl40 : l.length ≤ 10000) (a : Option Addr) (c : Nat) (f : Nat → Value) (w : World) (hL : ListAt w a f l) :
    Calls Tryz.prog 98 #[.slice a l.length c] w fun e w' => ∃ a' c' f', e = .returned (.slice a' (keysT l).length c') ∧ (keysT l).length ≤ c' ∧ ListAt w' a' f' (keysT l) ∧ Below w.heap.size w w' := by
  obtain ⟨i0, hi, hz0, hz1, hz2⟩ := info_parts info_node
  have HX := hid (And.intro hL hl40)
  clear hL
  go_enter Tryz.func98, Tryz.ntmps98
  go_wp2
  go_loopw [3, 4] (fun v3 v4 wr => ∃ (i j : Nat) (zs : List (Value × Tr)), v4 = .int .i64 i ∧ i = 2 * j ∧ j ≤ (l.length + 1) / 2 ∧ zs.map (·.2) = (keysT l).take j ∧ OwnL 0 w.heap.size wr v3 zs ∧ Below w.heap.size w wr) (fun _ v4 _ => (l.length + 2) - (intOf v4).toNat)
  case atStart => exact ⟨0, 0, [], rfl, rfl, Nat.zero_le _, rfl, OwnL.nil _ _ _, Below.refl _ _⟩
  case round =>
    obtain ⟨i, j, zs, rfl, hij, hj, hzs, hown, hbw⟩ := hrel
    obtain ⟨va, vc, rfl, -, -⟩ := hown.shape
    have hzl : zs.length ≤ j := by
      have := congrArg List.length hzs
      rw [List.length_map, List.length_take] at this
      omega
    by_cases hjl : i < l.length
    · obtain ⟨t, ht⟩ : ∃ t, l[i]? = some t := ⟨_, List.getElem?_eq_getElem hjl⟩
      obtain ⟨⟨g, o, rfl, ca1⟩, ta⟩ := (HX.out.1.up hbw) i t ht
      have ta0 := ((HX.out.1) i t ht).2
      obtain ⟨l1, q1, n1, c1, f1, -, g1, rfl, -⟩ := InT.inv ta
      rw [g1] at ca1 ta ta0
      have hjz : (i : Int) < l.length := by omega
      have hz20 : zs.length ≤ 5000 := by omega
      have hw2 : wrap64 ((i : Int) + 2) = ((i + 2 : Nat) : Int) := by unfold wrap64; omega
      obtain ⟨a0, a1, a2, a3, a4, a5, a6, a7, a8⟩ := ca1.cells
      have hB1 : Below w.heap.size w (wr.alloc (.cells (ndL t.p (.slice q1 l1.length c1)).toArray 27)) := hbw.alloc hbw.size _
      have hownA := hown.up (below_alloc wr (.cells (ndL t.p (.slice q1 l1.length c1)).toArray 27))
      have hnc := cells_new wr 27 (ndL t.p (.slice q1 l1.length c1))
      have hsz := hbw.size
      have HY := hid (And.intro hij (And.intro hj (And.intro hzs (And.intro ht (And.intro ta0 (And.intro hbw (And.intro hB1 hownA)))))))
      have hownR := hownA.1
      simp only [ndL] at hnc hownR
      clear hij hj hzs hown hownA hB1 ht ta ta0 ca1 g1 hbw
      go_wp2_with (at_builtin; refine wpList_append_own_at _ rfl _ _ 25 rfl w.heap.size 27 i0 (.agg #[.int .i64 0, .bool false, .bool false, .string ⟨#[]⟩, .int .i64 0, .int .u64 0, .int .i64 0, .string ⟨#[]⟩, .slice none 0 0]) 9 104 Tryz.underlying25 hi hz0 hz1 hz2 rfl (by decide) _ _ _ rfl hownR ⟨wr.heap.size, 0, none⟩ 1 1 (ndL t.p (.slice q1 l1.length c1)) rfl rfl hnc (ndL_oneCell _ _ _ _) (by simp only [maxLen]; omega) (by omega) (by simp; omega) ?_)
      intro v' w1 hown' hgrow hnil hloc
      have HZ := hid (And.intro hown' (And.intro hgrow hloc))
      clear hown' hgrow hnil hloc hnc hownR
      go_wp2
      go_roundw
      case rel =>
        obtain ⟨hij, hj, hzs, ht, ta0, hbw, hB1, hownA⟩ := HY.out
        obtain ⟨hown', hgrow, hloc⟩ := HZ.out
        have hno : ∀ k, (Value.slice va zs.length vc).ownBlock = some k → w.heap.size ≤ k := fun k hk => (hownA.1.lt k hk).1
        have hInB : InB (fun k => 0 ≤ k ∧ some k ≠ (Value.slice va zs.length vc).ownBlock) (wr.alloc (.cells (ndL t.p (.slice q1 l1.length c1)).toArray 27)) (ndV t.p (.slice q1 l1.length c1)) t :=
          (ta0.lt.mono (K' := fun k => k < w.heap.size ∧ (0 ≤ k ∧ some k ≠ (Value.slice va zs.length vc).ownBlock)) (fun k _ hk => ⟨hk, Nat.zero_le _, fun e => by have := hno k e.symm; omega⟩)).kept (fun k _ hk => hB1.block k hk.1) |>.mono fun k _ hk => hk.2
        have hlt : i < l.length := hjl
        refine ⟨i + 2, j + 1, zs ++ [(.slice q1 l1.length c1, t)], by simp, by omega, by omega, ?_, ?_, ?_⟩
        · rw [List.map_append, hzs, List.take_add_one, keysT_get, ← hij, ht]; rfl
        · exact hownA.snoc (z := (.slice q1 l1.length c1, t)) hInB hown' hgrow (hloc.imp id fun h k hk => by rw [h] at hk; cases hk; simp)
        · exact hB1.grown hgrow hB1.size hno
      case measure => simp [intOf]; omega
    · obtain ⟨a', c', f', hv, hcc, hLa⟩ := hown.listAt
      have hke : zs.map (·.2) = keysT l := by rw [hzs, List.take_of_length_le (by rw [keysT_len]; omega)]
      rw [hke] at hLa
      have hkl : zs.length = (keysT l).length := by rw [← hke, List.length_map]
      obtain ⟨rfl, -, rfl⟩ := Value.slice.inj hv
      have hz : decide (i < l.length) = false := decide_eq_false hjl
      rw [hkl] at hcc
      have HY := hid (And.intro hLa (And.intro hbw (And.intro hkl hcc)))
      clear hLa hbw hkl hcc hke hv hown hzs hzl hij hj hjl
      go_wp2
      go_ret
      exact ⟨_, _, _, by rw [← HY.out.2.2.1]; rfl, HY.out.2.2.2, HY.out.1, HY.out.2.1⟩
end Go.Proofs.YtpjlepkdiaohiaaGreatDoor

/- Package tree: isTwice, with the library's IndexFunc and ContainsFunc: walked. -/
namespace Go.Proofs.YtpjlepkdiaohiaaGreatDoor
open Go.RowKit
attribute [local go_sem] Oper.semAt_some

set_option maxRecDepth 100000 in
set_option maxHeartbeats 4000000 in
theorem indexFunc_calls (F : Nat) (eF : ∀ args w, (callFunc F args).run Tryz.prog w = .ok (.enter F args) w) (b : Nat) (pr : Tr → Bool) (l : List Tr) (hl40 : l.length ≤ 10000) (a : Option Addr) (c : Nat) (f : Nat → Value) (w : World) (hL : ListAt w a f l)
    (hP : ∀ t, t ∈ l → ∀ (sl : Value) (W : World), Below w.heap.size w W → InT W (ndV t.p sl) t → Calls Tryz.prog F #[ndV t.p sl, .pointer (some ⟨b, 0, none⟩)] W fun e w' => e = .returned (.bool (pr t)) ∧ Below W.heap.size W w') :
    Calls Tryz.prog 140 #[.slice a l.length c, .func (.func F) #[] #[.pointer (some ⟨b, 0, none⟩)]] w fun e w' => ∃ r : Int, e = .returned (.int .i64 r) ∧ decide (0 ≤ r) = l.any pr ∧ Below w.heap.size w w' := by
  have HX := hid (And.intro hL hP)
  clear hL hP
  go_enter Tryz.func140, Tryz.ntmps140
  go_wp2
  go_loopw [8] (fun v wr => ∃ i : Nat, v = .int .i64 i ∧ i ≤ l.length ∧ (l.take i).any pr = false ∧ Below w.heap.size w wr) (fun v _ => l.length - (intOf v).toNat)
  case atStart => exact ⟨0, rfl, Nat.zero_le _, by simp, Below.refl _ _⟩
  case round =>
    obtain ⟨i, rfl, hi, hn, hbw⟩ := hrel
    by_cases hil : i < l.length
    · obtain ⟨hL, hP⟩ := HX.out
      obtain ⟨t, ht⟩ : ∃ t, l[i]? = some t := ⟨_, List.getElem?_eq_getElem hil⟩
      obtain ⟨⟨g, o, rfl, ca1⟩, ta⟩ := (hL.up hbw) i t ht
      obtain ⟨l1, q1, n1, c1, f1, -, g1, rfl, -⟩ := InT.inv ta
      rw [g1] at ca1 ta
      have hiz : (i : Int) < l.length := by omega
      have hw1 : wrap64 ((i : Int) + 1) = (i : Int) + 1 := by unfold wrap64; omega
      obtain ⟨a0, a1, a2, a3, a4, a5, a6, a7, a8⟩ := ca1.cells
      have hcall := hP t (List.mem_of_getElem? ht) (.slice q1 l1.length c1) wr hbw ta
      obtain ⟨pt, hpt⟩ : ∃ pt, pr t = pt := ⟨_, rfl⟩
      rw [hpt] at hcall
      have HY := hid (And.intro ht (And.intro hn (And.intro hbw hpt)))
      clear hL hP ta ca1 g1 ht hn hbw hpt
      go_wp2_with fail
      refine hcall.mono ?_
      rintro e w1 ⟨rfl, hb1⟩
      obtain ⟨ht, hn, hbw, hpt⟩ := HY.out
      have hb2 : Below w.heap.size w w1 := hbw.trans (hb1.mono hbw.size)
      have hstep : (l.take (i + 1)).any pr = pt := by rw [List.take_add_one, ht, Option.toList_some, List.any_append, hn, List.any_cons, List.any_nil, hpt]; cases pt <;> rfl
      clear hcall hb1 hbw ht
      cases pt with
      | true =>
        have hany : l.any pr = true := by
          rw [List.any_eq_true] at hstep ⊢
          obtain ⟨x, h1, h2⟩ := hstep
          exact ⟨x, List.mem_of_mem_take h1, h2⟩
        have HZ := hid (And.intro hany (And.intro hpt (And.intro hstep hn)))
        clear hany hpt hstep hn
        go_wp2
        go_ret
        exact ⟨i, rfl, by rw [HZ.out.1]; exact decide_eq_true (by omega), hb2⟩
      | false =>
        have HZ := hid (And.intro hstep (And.intro hpt hn))
        clear hpt hstep hn
        go_wp2
        go_roundw
        case rel => exact ⟨i + 1, by simp, by omega, HZ.out.1, hb2⟩
        case measure => simp [intOf]; omega
    · have hz : decide (i < l.length) = false := decide_eq_false hil
      have hany : l.any pr = false := by rw [List.take_of_length_le (by omega)] at hn; exact hn
      have HZ := hid (And.intro hany (And.intro hn hbw))
      clear hany hn hbw hi hil
      go_wp2
      go_ret
      exact ⟨-1, rfl, by rw [HZ.out.1]; rfl, HZ.out.2.2⟩

set_option maxRecDepth 100000 in
set_option maxHeartbeats 4000000 in
theorem containsFunc_calls (F : Nat) (eF : ∀ args w, (callFunc F args).run Tryz.prog w = .ok (.enter F args) w) (b : Nat) (pr : Tr → Bool) (l : List Tr) (hl40 : l.length ≤ 10000) (a : Option Addr) (c : Nat) (f : Nat → Value) (w : World) (hL : ListAt w a f l)
    (hP : ∀ t, t ∈ l → ∀ (sl : Value) (W : World), Below w.heap.size w W → InT W (ndV t.p sl) t → Calls Tryz.prog F #[ndV t.p sl, .pointer (some ⟨b, 0, none⟩)] W fun e w' => e = .returned (.bool (pr t)) ∧ Below W.heap.size W w') :
    Calls Tryz.prog 97 #[.slice a l.length c, .func (.func F) #[] #[.pointer (some ⟨b, 0, none⟩)]] w fun e w' => e = .returned (.bool (l.any pr)) ∧ Below w.heap.size w w' := by
  have hcall := indexFunc_calls F eF b pr l hl40 a c f w hL hP
  clear hL hP eF
  go_enter Tryz.func97, Tryz.ntmps97
  go_wp2_with fail
  refine hcall.mono ?_
  rintro e w1 ⟨r, rfl, hr, hb1⟩
  have HZ := hid hr
  clear hcall hr
  go_wp2
  go_ret
  exact ⟨by rw [← HZ.out] <;> rfl, hb1⟩

set_option maxRecDepth 100000 in
set_option maxHeartbeats 4000000 in
theorem isTwice1_calls (t u : Tr) (ht : t.fine) (st su : Value) (b : Nat) (w : World) (hb : Cls w b 27 (ndL t.p st)) (h1 : InT w (ndV t.p st) t) (h2 : InT w (ndV u.p su) u) :
    Calls Tryz.prog 156 #[ndV u.p su, .pointer (some ⟨b, 0, none⟩)] w fun e w' => e = .returned (.bool (Tr.same t u)) ∧ Below w.heap.size w w' := by
  obtain ⟨l1, q1, n1, c1, f1, -, g1, rfl, -⟩ := InT.inv h1
  obtain ⟨l2, q2, n2, c2, f2, -, g2, rfl, -⟩ := InT.inv h2
  subst g1 g2
  have hbb := below_alloc w (.cells (ndL u.p (.slice q2 l2.length c2)).toArray 27)
  have hcall := same_calls t ht u _ _ _ (h1.up hbb) (h2.up hbb)
  obtain ⟨d0, d1, d2, d3, d4, d5, d6, d7, d8⟩ : _ ∧ _ ∧ _ ∧ _ ∧ _ ∧ _ ∧ _ ∧ _ ∧ _ := ⟨(hb.below hbb).cell 0 rfl, (hb.below hbb).cell 1 rfl, (hb.below hbb).cell 2 rfl, (hb.below hbb).cell 3 rfl, (hb.below hbb).cell 4 rfl, (hb.below hbb).cell 5 rfl, (hb.below hbb).cell 6 rfl, (hb.below hbb).cell 7 rfl, (hb.below hbb).cell 8 rfl⟩
  clear hb h1 h2
  simp only [ndV, ndL] at hcall hbb d0 d1 d2 d3 d4 d5 d6 d7 d8 ⊢
  have HX := hid hbb
  clear hbb
  go_enter Tryz.func156, Tryz.ntmps156
  go_wp2_with fail
  refine hcall.mono ?_
  rintro e w1 ⟨rfl, hb1⟩
  have hb2 := HX.out.trans (hb1.mono (by simp))
  clear hcall
  go_wp2
  go_ret
  exact ⟨rfl, hb2⟩

set_option maxRecDepth 100000 in
set_option maxHeartbeats 4000000 in
theorem isTwice_calls (l : List Tr) (hl40 : l.length ≤ 10000) (hfi : ∀ t, t ∈ l → t.fine) (a : Option Addr) (c : Nat) (hlc : l.length ≤ c) (f : Nat → Value) (w : World) (hL : ListAt w a f l) :
    Calls Tryz.prog 127 #[.slice a l.length c] w fun e w' => e = .returned (.bool (twice l)) ∧ Below w.heap.size w w' := by
  have eF : ∀ args w, (callFunc 156 args).run Tryz.prog w = .ok (.enter 156 args) w := enters_of Tryz.func156 (by kernel_rfl) rfl
  have HX := hid (And.intro hL (And.intro hfi eF))
  clear hL hfi eF
  go_enter Tryz.func127, Tryz.ntmps127
  go_wp2
  go_loopw [7] (fun v wr => ∃ i : Nat, v = .int .i64 i ∧ i ≤ l.length ∧ (l.take i).Nodup ∧ Below w.heap.size w wr) (fun v _ => l.length - (intOf v).toNat)
  case atStart => exact ⟨0, rfl, Nat.zero_le _, by simp, Below.refl _ _⟩
  case round =>
    obtain ⟨i, rfl, hi, hn, hbw⟩ := hrel
    by_cases hil : i < l.length
    · obtain ⟨hL, hfi, eF⟩ := HX.out
      obtain ⟨t, ht⟩ : ∃ t, l[i]? = some t := ⟨_, List.getElem?_eq_getElem hil⟩
      obtain ⟨⟨g, o, rfl, ca1⟩, ta⟩ := (hL.up hbw) i t ht
      obtain ⟨l1, q1, n1, c1, f1, -, g1, rfl, -⟩ := InT.inv ta
      rw [g1] at ca1 ta
      have hiz : (i : Int) < l.length := by omega
      have hw1 : wrap64 ((i : Int) + 1) = (i : Int) + 1 := by unfold wrap64; omega
      obtain ⟨a0, a1, a2, a3, a4, a5, a6, a7, a8⟩ := ca1.cells
      have hbA := below_alloc wr (.cells (ndL t.p (.slice q1 l1.length c1)).toArray 27)
      have hbx := Cls.new wr 27 (ndL t.p (.slice q1 l1.length c1))
      have hcall := containsFunc_calls 156 eF wr.heap.size (fun u => Tr.same t u) (l.take i) (by rw [List.length_take]; omega) (some ⟨g, o, none⟩) c f (wr.alloc (.cells (ndL t.p (.slice q1 l1.length c1)).toArray 27)) (((hL.up hbw).up hbA).take i)
        (fun u hu su W hW hu2 => isTwice1_calls t u (hfi t (List.mem_of_getElem? ht)) (.slice q1 l1.length c1) su wr.heap.size W (hbx.below hW) ((ta.up hbA).up hW) hu2)
      have hlen : (l.take i).length = i := by rw [List.length_take]; omega
      rw [hlen] at hcall
      change Calls _ _ _ _ fun e w' => e = .returned (.bool (hasT (l.take i) t)) ∧ _ at hcall
      obtain ⟨pt, hpt⟩ : ∃ pt, hasT (l.take i) t = pt := ⟨_, rfl⟩
      rw [hpt] at hcall
      have hic : i ≤ c := by omega
      have HY := hid (And.intro ht (And.intro hn (And.intro hbw (And.intro hpt hbA))))
      simp only [ndL] at hcall
      clear hL hfi eF ta ca1 g1 ht hn hbw hpt hbA hbx hlen
      go_wp2_with fail
      refine hcall.mono ?_
      rintro e w1 ⟨rfl, hb1⟩
      obtain ⟨ht, hn, hbw, hpt, hbA⟩ := HY.out
      have hb2 : Below w.heap.size w w1 := (hbw.trans (hbA.mono hbw.size)).trans (hb1.mono (by simp; have := hbw.size; omega))
      clear hcall hb1 hbw hbA
      cases pt with
      | true =>
        have htw : twice l = true := (twice_iff l).2 (not_nodup_of_take (i := i + 1) (by rw [nodup_snoc ht]; exact fun h => h.2 ((hasT_iff _ _).1 hpt)))
        have HZ := hid (And.intro htw (And.intro hpt (And.intro hn ht)))
        clear htw hpt hn ht
        go_wp2
        go_ret
        exact ⟨by rw [HZ.out.1]; rfl, hb2⟩
      | false =>
        have hnd : (l.take (i + 1)).Nodup := (nodup_snoc ht).2 ⟨hn, fun h => by rw [(hasT_iff _ _).2 h] at hpt; cases hpt⟩
        have HZ := hid (And.intro hnd (And.intro hpt (And.intro hn ht)))
        clear hnd hpt hn ht
        go_wp2
        go_roundw
        case rel => exact ⟨i + 1, by simp, by omega, HZ.out.1, hb2⟩
        case measure => simp [intOf]; omega
    · have hz : decide (i < l.length) = false := decide_eq_false hil
      have hany : twice l = false := by
        rw [List.take_of_length_le (by omega)] at hn
        cases h : twice l with
        | false => rfl
        | true => exact absurd hn ((twice_iff l).1 h)
      have HZ := hid (And.intro hany (And.intro hn hbw))
      clear hany hn hbw hi hil
      go_wp2
      go_ret
      exact ⟨by rw [HZ.out.1]; rfl, HZ.out.2.2⟩
end Go.Proofs.YtpjlepkdiaohiaaGreatDoor

