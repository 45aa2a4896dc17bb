/- Package nat: div. -/
import Derived.Test.YtdppcpiepippoaaGreatDoorNatC
import Derived.Test.YtdppcpiepippoaaGreatDoorStill
namespace Go.Proofs.YtdppcpiepippoaaGreatDoor
open Go.RowKit Go.Shelf
attribute [local go_sem] Oper.semAt_some

theorem Lim.kept {A B : World} {v : Value} {xs : List Nat} (h : Lim A v xs) (hk : CellsKept A B) (hs : A.heap.size ≤ B.heap.size) : Lim B v xs := by
  obtain ⟨a, cap, h1, h2, h3, h4⟩ := h
  refine ⟨a, cap, h1, h2, ⟨h3.1, fun k hk' => let ⟨c, fz, e⟩ := h3.2 k hk'; ⟨c, fz, hk _ _ _ _ e⟩⟩, fun hne => ?_⟩
  obtain ⟨b, off, e1, e2, e3⟩ := h4 hne
  exact ⟨b, off, e1, Nat.lt_of_lt_of_le e2 hs, fun j hj => hk.cell (e3 j hj)⟩

/-- an append to another slice, of another type, leaves it. -/
theorem Lim.grown {A B : World} {v u : Value} {xs : List Nat} {base : Nat} {e : TypeId} {n : Nat} {ys : List Value} (h : Lim A v xs) (hg : A.grownBy B u.ownBlock) (hu : A.ownsRow base e 1 u n ys) (hne : e ≠ 37) : Lim B v xs := by
  have key : ∀ k, v.ownBlock = some k → B.heap[k]? = A.heap[k]? := fun k hk => by
    obtain ⟨c, fz, e1⟩ := h.typed k hk
    refine hg.block k (Array.getElem?_eq_some_iff.1 e1).1 fun e2 => ?_
    rcases hu.2 with ⟨rfl, _⟩ | ⟨g, cap, cur, rfl, _, hgg, _⟩
    · simp [Value.ownBlock] at e2
    · obtain rfl : k = g := by simpa [Value.ownBlock] using e2
      rw [hgg] at e1
      cases e1
      exact hne rfl
  obtain ⟨a, cap, h1, h2, h3, h4⟩ := h
  refine ⟨a, cap, h1, h2, ⟨h3.1, fun k hk => let ⟨c, fz, e1⟩ := h3.2 k hk; ⟨c, fz, (key k hk).trans e1⟩⟩, fun hne => ?_⟩
  obtain ⟨b, off, e1, e2, e3⟩ := h4 hne
  exact ⟨b, off, e1, Nat.lt_of_lt_of_le e2 hg.size, fun j hj => (World.cell?_of_block (w := A) (key b (by rw [h1, e1]; rfl))).trans (e3 j hj)⟩

theorem made_zeros (n : Nat) : (madeCells #[Value.int .u32 0] n).toList = (List.replicate n 0).map fun x => Value.int .u32 (x : Nat) := by
  apply List.ext_getElem
  · simp [madeCells]
  · intro i h1 h2
    simp [madeCells, Nat.mod_one]

/-- THE PLAIN LAW OF A STEP: from the top, the quotient so far, and the rest. -/
theorem div_step {xs ys : List Nat} {i r by' : Nat} (hi : i < xs.length) (hl : ys.length = xs.length) (hb : 0 < by') (h : val (xs.drop (i + 1)) = by' * val (ys.drop (i + 1)) + r) :
    val (xs.drop i) = by' * val ((ys.set i ((r * 1000000000 + xs[i]?.getD 0) / by')).drop i) + (r * 1000000000 + xs[i]?.getD 0) % by' := by
  have h1 : xs.drop i = xs[i]?.getD 0 :: xs.drop (i + 1) := by
    rw [List.getElem?_eq_getElem hi, Option.getD_some, List.drop_eq_getElem_cons hi]
  have h2 : ∀ q, (ys.set i q).drop i = q :: ys.drop (i + 1) := fun q => by
    rw [List.drop_eq_getElem_cons (by simpa using hl ▸ hi), List.getElem_set_self, List.drop_set_of_lt (by omega)]
  rw [h1, h2, val, val, h]
  have := Nat.div_add_mod (r * 1000000000 + xs[i]?.getD 0) by'
  generalize (r * 1000000000 + xs[i]?.getD 0) / by' = q at *
  generalize (r * 1000000000 + xs[i]?.getD 0) % by' = r' at *
  generalize val (ys.drop (i + 1)) = v at *
  rw [Nat.mul_add, Nat.mul_add, ← Nat.mul_assoc by' 1000000000 v, Nat.mul_comm by' 1000000000, Nat.mul_assoc]
  omega

theorem div_small {r y by' : Nat} (hb : 0 < by') (hr : r < by') (hy : y < 1000000000) : (r * 1000000000 + y) / by' < 1000000000 := by
  rw [Nat.div_lt_iff_lt_mul hb]
  have : (r + 1) * 1000000000 ≤ by' * 1000000000 := Nat.mul_le_mul_right _ hr
  omega

def DivInv (w : World) (N : Nat) (v : Value) (xs : List Nat) (by' : Nat) (pre : List (Nat × Nat)) (W : World) : Prop :=
  ∃ (ys : List Nat) (r : Nat), Boxed W w.heap.size 37 (.int .u32 by') ∧ RowN W (w.heap.size + 1) 37 .u32 ys ∧ Boxed W N 46 (.slice (some ⟨w.heap.size + 1, 0, none⟩) xs.length xs.length) ∧
    Boxed W (N + 1) 22 (.int .u64 r) ∧ Boxed W (N + 2) 46 v ∧ Below w.heap.size w W ∧ N + 3 ≤ W.heap.size ∧
    ys.length = xs.length ∧ Grp ys ∧ r < by' ∧ val (xs.drop (xs.length - pre.length)) = by' * val (ys.drop (xs.length - pre.length)) + r

theorem divInv_own (w : World) (N : Nat) (hN : w.heap.size + 2 ≤ N) (v : Value) (xs : List Nat) (by' : Nat) : OwnFrom (N + 3) (DivInv w N v xs by') :=
  ownFrom_of (fun s W W' ⟨ys, r, h1, h2, h3, h4, h5, h6, h7, h8⟩ hk hb => ⟨ys, r, hk.boxed h1, hk.row h2, hk.boxed h3, hk.boxed h4, hk.boxed h5, h6.trans (hb.mono (by omega)), Nat.le_trans h7 hb.size, h8⟩) (fun s W ⟨_, _, h⟩ => h.2.2.2.2.2.2.1)

set_option maxRecDepth 100000 in
set_option maxHeartbeats 4000000 in
theorem div_some (a : Option Addr) (cap : Nat) (xs : List Nat) (hg : Grp xs) (by' : Nat) (w : World) (hlen : xs.length ≤ 1000000) (h1 : 0 < by') (h2 : by' < 4294967296) (hL : Lim w (.slice a xs.length cap) xs) :
    Calls Tryz.prog 26 #[.slice a xs.length cap, .int .u32 by'] w fun e w' => ∃ v', e = .returned (.tuple #[v', .int .u32 (val xs % by' : Nat)]) ∧ Lim w' v' (lim (val xs / by')) ∧ Below w.heap.size w w' := by
  obtain ⟨i0, hi, hz0, hz1, hz2⟩ := info_parts info_u32
  have hv : ∀ k, (Value.slice a xs.length cap).ownBlock = some k → k < w.heap.size := hL.own
  refine calls_marks Tryz.func26 rfl ?_
  simp only [Tryz.ntmps26, List.size_toArray, List.length_cons, List.length_nil, Nat.reduceAdd, Nat.reduceSub, Array.replicate_succ, Array.replicate_zero, List.push_toArray, List.append_toArray, List.nil_append, List.cons_append]
  go_wp2_with (at_make; refine wpList_make_full _ rfl (.tmp 11) (.tmp 11) 46 rfl w.heap.size 37 i0 (.int .u32 0) 1 Tryz.underlying46 hi hz0 hz1 .i64 .i64 _ _ xs.length rfl rfl rfl rfl (by rw [hz2]; omega) (by simp only [maxLen]; omega) (by simp) ?_)
  intro w1 hown hgrow
  have hrow : RowN w1 (w.heap.size + 1) 37 .u32 (List.replicate xs.length 0) := row_of_owns hown (made_zeros _)
  have hN : w.heap.size + 2 ≤ w1.heap.size := hrow.lt
  have hB1 : Below w.heap.size w w1 := ((Below.refl _ w).alloc (Nat.le_refl _) _).grown hgrow (by simp) (fun _ e => by cases e)
  have hby : Boxed w1 w.heap.size 37 (.int .u32 by') := (Boxed.new w _ _).kept hgrow (by simp)
  clear hown hgrow hi hz0 hz1 hz2
  go_wp2_with (go_at_call 47; refine (back_calls _ _ _ _).mono ?_; rintro e w' ⟨rfl, rfl⟩)
  obtain ⟨W0, hW0, hsz0, hI0, hc0, hL0⟩ : ∃ W0, (((w1.alloc (.cells #[.slice (some ⟨w.heap.size + 1, 0, none⟩) xs.length xs.length] 46)).alloc (.cells #[.int .u64 0] 22)).alloc (.cells #[.slice a xs.length cap] 46)) = W0 ∧
      W0.heap.size = w1.heap.size + 3 ∧ DivInv w w1.heap.size (.slice a xs.length cap) xs by' [] W0 ∧ W0.cell? ⟨w1.heap.size + 2, 0, none⟩ = some (.slice a xs.length cap) ∧ Lim W0 (.slice a xs.length cap) xs := by
    have b1 := Boxed.new w1 46 (.slice (some ⟨w.heap.size + 1, 0, none⟩) xs.length xs.length)
    have b2 := Boxed.new (w1.alloc (.cells #[.slice (some ⟨w.heap.size + 1, 0, none⟩) xs.length xs.length] 46)) 22 (.int .u64 0)
    have b3 := Boxed.new ((w1.alloc (.cells #[.slice (some ⟨w.heap.size + 1, 0, none⟩) xs.length xs.length] 46)).alloc (.cells #[.int .u64 0] 22)) 46 (.slice a xs.length cap)
    have hB : Below w1.heap.size w1 (((w1.alloc (.cells #[.slice (some ⟨w.heap.size + 1, 0, none⟩) xs.length xs.length] 46)).alloc (.cells #[.int .u64 0] 22)).alloc (.cells #[.slice a xs.length cap] 46)) :=
      (((Below.refl _ w1).alloc (Nat.le_refl _) _).alloc (by simp) _).alloc (by simp; omega) _
    have hk := CellsKept.below hB
    simp only [World.size_alloc, Nat.add_assoc, Nat.reduceAdd] at b2 b3
    refine ⟨_, rfl, by simp, ⟨_, 0, hk.boxed hby, hk.row hrow, (b1.alloc _).alloc _, b2.alloc _, b3, hB1.trans (hB.mono (by omega)), by simp, by simp, Grp.replicate _, h1, ?_⟩, b3.cell, (hL.below hB1).below hB⟩
    rw [List.length_nil, Nat.sub_zero, List.drop_of_length_le (by simp), List.drop_of_length_le (by simp)]
    simp [val]
  rw [hW0]
  clear hW0
  refine rangeOverP (gf := 64) (lb := #[.pointer (some ⟨w1.heap.size + 1 + 1, 0, none⟩)]) rfl (enters_of Tryz.func64 (by kernel_rfl) rfl)
    (back_iter (w1.heap.size + 2) (.slice a xs.length cap) xs W0 hL0 hc0 (by omega)) (Below.refl _ _) (fun _ => rfl)
    (fun A B e => by subst e; exact ⟨Nat.le_refl _, fun _ _ _ h _ => h⟩) (fun h k => h.trans k)
    (fun W l o o' hl h _ _ => KeptAt.putObj W l o' (notKB hv (by omega) (by omega)))
    (ownFrom_pure _ _) (ownFrom_pure _ _)
    (DivInv w w1.heap.size (.slice a xs.length cap) xs by') (fun _ _ _ => False) (by rw [hsz0]; exact divInv_own w _ hN _ xs by') (fun _ _ _ _ _ hs _ _ => hs) (fun s A B h e => by subst e; exact h) (fun _ _ _ _ h _ => h) hI0
    (fun x a' _ => a' = { tmps := #[.slice a xs.length cap, .int .u32 by', undef, .pointer (some ⟨w.heap.size, 0, none⟩), .slice none 0 0, .int .u32 0, .pointer (some ⟨w1.heap.size, 0, none⟩), .pointer (some ⟨w1.heap.size + 1, 0, none⟩),
      .int .i64 (x.1 : Nat), .int .u32 (x.2 : Nat), .slice a xs.length cap, .int .i64 xs.length, .slice (some ⟨w.heap.size + 1, 0, none⟩) xs.length xs.length, .slice a xs.length cap, .func (.func 64) #[] #[.pointer (some ⟨w1.heap.size + 1 + 1, 0, none⟩)],
      .int .i64 (x.1 : Nat), .int .u32 (x.2 : Nat), undef, undef, undef, undef, undef, undef, undef, undef, undef, undef, undef, undef, undef, undef, undef, undef, undef, undef, undef, undef, undef], defers := [] })
    (fun _ _ _ _ _ _ hs _ _ => hs) ?assign ?body ?done ?stop
  case assign =>
    intro l pre x W K hi hok hK
    unfold encB
    gi_wp2
    exact hK _ _ (KeepsFrom.refl _ _) (KeptAt.refl _ _) hi rfl
  case body =>
    rintro l pre ⟨i, y⟩ a' W hl ⟨ys, r, f1, f2, f3, f4, f5, f6, f7, hyl, hyg, hr, hval⟩ rfl ⟨hx1, hx2⟩
    have hmx : Tryz.prog.follows .mixedOrders = true := by kernel_rfl
    have hx1' : i + pre.length + 1 = xs.length := hx1
    have hxy : y < 1000000000 := by rw [show y = xs[i]?.getD 0 from hx2]; exact hg i
    have hq := div_small h1 hr hxy
    have hc1 := f1.cell
    have hc3 := f3.cell
    have hc4 := f4.cell
    have hz4 := f4.frozen
    have hcr := f2.cell (j := i) (by omega)
    have hzr := f2.frozen i
    have hil : i < xs.length := by omega
    have HX := hid (And.intro hval (And.intro hx1' hx2))
    have f7' := f7
    have hyl' := hyl
    have hyg' := hyg
    clear hval hx1' hx2 hx1
    gi_wp2
    rw [show ((r : Int) * 1000000000 + (y : Int)) = ((r * 1000000000 + y : Nat) : Int) from by omega]
    obtain ⟨m, hm⟩ : ∃ m, r * 1000000000 + y = m := ⟨_, rfl⟩
    rw [hm] at hq ⊢
    have g1 := boxed_other (off := 0) f1 (b := w1.heap.size + 1) (by omega) (.int .u64 (m : Nat))
    have g2 := f2.other (off := 0) (b := w1.heap.size + 1) (by omega) (.int .u64 (m : Nat))
    have g3 := boxed_other (off := 0) f3 (b := w1.heap.size + 1) (by omega) (.int .u64 (m : Nat))
    have g4 := f4.set (.int .u64 (m : Nat))
    have g5 := boxed_other (off := 0) f5 (b := w1.heap.size + 1) (by omega) (.int .u64 (m : Nat))
    have g6 : Below w.heap.size w (W.setCell ⟨w1.heap.size + 1, 0, none⟩ (.int .u64 (m : Nat))) := f6.setCell (by show _ ≤ w1.heap.size + 1; omega) _
    have gk := KeptAt.setCell (K := KB (w1.heap.size + 2) (.slice a xs.length cap)) W ⟨w1.heap.size + 1, 0, none⟩ (.int .u64 (m : Nat)) (notKB hv (by show w1.heap.size + 1 ≠ _; omega) (by show _ ≤ w1.heap.size + 1; omega))
    have go := KeepsOthers.setCell W ⟨w1.heap.size + 1, 0, none⟩ (.int .u64 (m : Nat))
    have g7 : w1.heap.size + 3 ≤ (W.setCell ⟨w1.heap.size + 1, 0, none⟩ (.int .u64 (m : Nat))).heap.size := Nat.le_trans f7 go.size
    generalize W.setCell ⟨w1.heap.size + 1, 0, none⟩ (.int .u64 (m : Nat)) = W2 at *
    clear hc1 hc3 hc4 hz4 hcr hzr f1 f2 f3 f4 f5 f6 f7
    have hc1 := g1.cell
    have hc3 := g3.cell
    have hc4 := g4.cell
    have hz4 := g4.frozen
    have hcr := g2.cell (j := i) (by omega)
    have hzr := g2.frozen i
    obtain ⟨q, hqe⟩ : ∃ q, m / by' = q := ⟨_, rfl⟩
    obtain ⟨r', hre⟩ : ∃ r', m % by' = r' := ⟨_, rfl⟩
    obtain ⟨q1, q2, q3⟩ := quo_forms h1 (by omega) hqe
    obtain ⟨q4, q5⟩ := rem_forms hre
    have hr' : r' < 4294967296 := by have := Nat.mod_lt m h1; omega
    rw [hqe] at hq
    have HM := hid (And.intro hm (And.intro hqe hre))
    clear hm hqe hre
    have hwb : IntKind.u64.wrap (by' : Int) = (by' : Int) := IntWalk.u64_in _ (by omega)
    have hwq : IntKind.u32.wrap (q : Int) = (q : Int) := IntWalk.u32_in _ (by omega)
    have hwr : IntKind.u32.wrap (r' : Int) = (r' : Int) := IntWalk.u32_in _ (by omega)
    have HG := hid (And.intro g1 (And.intro g2 (And.intro g3 (And.intro g4 (And.intro g5 (And.intro g6 (And.intro gk go)))))))
    clear g1 g2 g3 g4 g5 g6 gk go hI0 hc0 hL0 hrow hby hB1 hlen hL hl hyl hyg
    refine regionIn_tail 8 (fun ⟨_, _, h⟩ => h) (by kernel_rfl) hmx (by kernel_rfl) ?_
    simp only [List.take_succ_cons, List.take_zero, List.drop_succ_cons, List.drop_zero]
    repeat still_step
    refine wpStill_nil ?_
    go_wp2
    obtain ⟨g1, g2, g3, g4, g5, g6, gk, go⟩ := HG.out
    have e1 := boxed_other (off := i) g1 (b := w.heap.size + 1) (by omega) (.int .u32 (q : Nat))
    have e2 := g2.set i q
    have e3 := boxed_other (off := i) g3 (b := w.heap.size + 1) (by omega) (.int .u32 (q : Nat))
    have e4 := boxed_other (off := i) g4 (b := w.heap.size + 1) (by omega) (.int .u32 (q : Nat))
    have e5 := boxed_other (off := i) g5 (b := w.heap.size + 1) (by omega) (.int .u32 (q : Nat))
    have e6 : Below w.heap.size w (W2.setCell ⟨w.heap.size + 1, i, none⟩ (.int .u32 (q : Nat))).drew := (g6.setCell (by show _ ≤ w.heap.size + 1; omega) _).drew
    have ek := gk.trans (KeptAt.setCell (K := KB (w1.heap.size + 2) (.slice a xs.length cap)) W2 ⟨w.heap.size + 1, i, none⟩ (.int .u32 (q : Nat)) (notKB hv (by show w.heap.size + 1 ≠ _; omega) (by show _ ≤ w.heap.size + 1; omega)))
    have eo := (go.trans (KeepsOthers.setCell W2 ⟨w.heap.size + 1, i, none⟩ (.int .u32 (q : Nat)))).trans (KeepsOthers.drew _)
    replace e1 : Boxed (W2.setCell ⟨w.heap.size + 1, i, none⟩ (.int .u32 (q : Nat))).drew _ _ _ := e1
    replace e2 : RowN (W2.setCell ⟨w.heap.size + 1, i, none⟩ (.int .u32 (q : Nat))).drew _ _ _ _ := e2
    replace e3 : Boxed (W2.setCell ⟨w.heap.size + 1, i, none⟩ (.int .u32 (q : Nat))).drew _ _ _ := e3
    replace e4 : Boxed (W2.setCell ⟨w.heap.size + 1, i, none⟩ (.int .u32 (q : Nat))).drew _ _ _ := e4
    replace e5 : Boxed (W2.setCell ⟨w.heap.size + 1, i, none⟩ (.int .u32 (q : Nat))).drew _ _ _ := e5
    replace ek : KeptAt _ W (W2.setCell ⟨w.heap.size + 1, i, none⟩ (.int .u32 (q : Nat))).drew := ek
    clear hc1 hc3 hc4 hz4 hcr hzr g1 g2 g3 g4 g5 g6 gk go HG
    generalize (W2.setCell ⟨w.heap.size + 1, i, none⟩ (.int .u32 (q : Nat))).drew = W3 at *
    have hc1 := e1.cell
    have hc4 := e4.cell
    have hz4 := e4.frozen
    gi_wp2
    obtain ⟨hval, hx1, hx2⟩ := HX.out
    obtain ⟨hm, hqe, hre⟩ := HM.out
    have hrb : r' < by' := by rw [← hre]; exact Nat.mod_lt m h1
    refine ⟨(eo.trans (KeepsOthers.setCell _ _ _)).from _, ek.trans (KeptAt.setCell _ _ _ (notKB hv (by show w1.heap.size + 1 ≠ _; omega) (by show _ ≤ w1.heap.size + 1; omega))),
      ys.set i q, r', boxed_other e1 (by omega) _, e2.other (by omega) _, boxed_other e3 (by omega) _, e4.set _, boxed_other e5 (by omega) _, e6.setCell (by show _ ≤ w1.heap.size + 1; omega) _, Nat.le_trans f7' (eo.trans (KeepsOthers.setCell _ _ _)).size, by simpa using hyl', hyg'.set i q hq, hrb, ?_⟩
    rw [List.length_append, List.length_singleton, show xs.length - (pre.length + 1) = i from by omega]
    rw [show xs.length - pre.length = i + 1 from by omega] at hval
    have := div_step hil hyl' h1 hval
    rw [← hx2, hm, hqe, hre] at this
    exact this
  case done =>
    rintro D zs W hD hzl ⟨ys, r, f1, f2, f3, f4, f5, f6, f7, hyl, hyg, hr, hval⟩ hK
    have hmx : Tryz.prog.follows .mixedOrders = true := by kernel_rfl
    have hcap : xs.length ≤ maxLen := by simp only [maxLen]; omega
    have hLy : Lim W (.slice (some ⟨w.heap.size + 1, 0, none⟩) xs.length xs.length) ys :=
      ⟨_, _, by rw [hyl], by omega, ⟨hcap, fun k hk => by simp [Value.ownBlock] at hk; rw [← hk]; exact ⟨_, _, f2⟩⟩, fun _ => ⟨_, 0, rfl, f2.lt, fun j hj => by rw [Nat.zero_add]; exact f2.cell hj⟩⟩
    obtain ⟨v', hv', htrim⟩ := trim_at _ ys hyg W.drew hLy
    have hdm : val xs / by' = val ys ∧ val xs % by' = r := by
      rw [show zs.length = xs.length from hzl, Nat.sub_self, List.drop_zero, List.drop_zero] at hval
      rw [hval]
      exact ⟨by rw [Nat.mul_add_div h1, Nat.div_eq_of_lt hr]; omega, by rw [Nat.mul_add_mod, Nat.mod_eq_of_lt hr]⟩
    have hc3 := f3.cell
    have hc4 := f4.cell
    have hwr : IntKind.u32.wrap (r : Int) = (r : Int) := IntWalk.u32_in _ (by omega)
    have HX := hid hdm
    clear hdm hval hzl
    go_wp2
    refine wp_region_still_lit hmx (by kernel_rfl) ?_
    still_step
    still_call htrim
    repeat still_step
    refine wpStill_nil ?_
    go_wp2
    refine ⟨by simp, .inl ⟨_, _, rfl, run_takeDeferred (w := W.drew) hK, ?_⟩⟩
    have hk : CellsKept W.drew (W.drew.putObj D (.deferred none)) := CellsKept.putObj _ hK rfl
    refine ⟨_, results_tmp2 rfl _ _ _, v', ret_val (by rw [HX.out.2]; rfl), by rw [HX.out.1]; exact hv'.kept hk (by simp), f6.drew.trans (belowK_b (w := w) (Nat.le_refl _) W.drew D _ _ (by omega) hK rfl rfl)⟩
  case stop =>
    rintro D c pre W _ _ h _
    exact h.elim

theorem div_calls (v : Value) (xs : List Nat) (hg : Grp xs) (by' : Nat) (w : World) (hlen : xs.length ≤ 1000000) (h1 : 0 < by') (h2 : by' < 4294967296) (hL : Lim w v xs) :
    Calls Tryz.prog 26 #[v, .int .u32 by'] w fun e w' => ∃ v', e = .returned (.tuple #[v', .int .u32 (val xs % by' : Nat)]) ∧ Lim w' v' (lim (val xs / by')) ∧ Below w.heap.size w w' := by
  have hL' := hL
  obtain ⟨a, cap, rfl, _⟩ := hL
  exact div_some a cap xs hg by' w hlen h1 h2 hL'
end Go.Proofs.YtdppcpiepippoaaGreatDoor
