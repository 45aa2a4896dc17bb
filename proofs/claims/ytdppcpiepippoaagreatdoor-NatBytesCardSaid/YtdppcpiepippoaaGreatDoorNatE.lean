/- Package nat: compare. -/
import Derived.Test.YtdppcpiepippoaaGreatDoorNatD
import Derived.WalkMore
namespace Go.Proofs.YtdppcpiepippoaaGreatDoor
open Go.RowKit Go.Shelf
attribute [local go_sem] Oper.semAt_some

theorem val_split {xs : List Nat} {i : Nat} (hi : i < xs.length) : val xs = val (xs.take i) + 1000000000 ^ i * (xs[i]?.getD 0 + 1000000000 * val (xs.drop (i + 1))) := by
  have h : xs = xs.take i ++ (xs[i]?.getD 0 :: xs.drop (i + 1)) := by
    rw [List.getElem?_eq_getElem hi, Option.getD_some, ← List.drop_eq_getElem_cons hi, List.take_append_drop]
  have h2 := congrArg val h
  rw [val_append, val, List.length_take, Nat.min_eq_left (by omega)] at h2
  exact h2

theorem val_less {xs ys : List Nat} {i : Nat} (hg : Grp xs) (hi : i < xs.length) (hi' : i < ys.length) (hd : xs.drop (i + 1) = ys.drop (i + 1)) (h : xs[i]?.getD 0 < ys[i]?.getD 0) : val xs < val ys := by
  rw [val_split hi, val_split hi', hd]
  have h1 := val_lt (hg.take i)
  rw [List.length_take, Nat.min_eq_left (by omega)] at h1
  generalize val (ys.drop (i + 1)) = d
  have h2 : 1000000000 ^ i * (xs[i]?.getD 0 + 1000000000 * d + 1) ≤ 1000000000 ^ i * (ys[i]?.getD 0 + 1000000000 * d) := Nat.mul_le_mul_left _ (by omega)
  rw [Nat.mul_succ] at h2
  omega

theorem cmpI_cast {a b c d : Nat} (h1 : a < b ↔ c < d) (h2 : b < a ↔ d < c) : cmpI a b = cmpI c d := by
  unfold cmpI
  have h3 : ((a : Int) < (b : Int)) ↔ ((c : Int) < (d : Int)) := by omega
  have h4 : ((b : Int) < (a : Int)) ↔ ((d : Int) < (c : Int)) := by omega
  simp only [h3, h4]

/-- more limbs are more. -/
theorem lim_more {m n : Nat} (h : (lim m).length < (lim n).length) : m < n := by
  have h1 : m < 1000000000 ^ (lim m).length := lim_len.1 (Nat.le_refl _)
  have h2 : ¬ n < 1000000000 ^ (lim m).length := fun e => by
    have := lim_len.2 e
    omega
  omega

def CmpInv (w : World) (v u : Value) (xs ys : List Nat) (pre : List (Nat × Nat)) (W : World) : Prop :=
  Boxed W w.heap.size 46 v ∧ Boxed W (w.heap.size + 1) 46 u ∧ Boxed W (w.heap.size + 2) 3 (.int .i64 0) ∧ Boxed W (w.heap.size + 3) 46 v ∧ Below w.heap.size w W ∧ w.heap.size + 4 ≤ W.heap.size ∧
    xs.drop (xs.length - pre.length) = ys.drop (xs.length - pre.length)

def CmpOut (w : World) (xs ys : List Nat) (c : Code) (_ : List (Nat × Nat)) (W : World) : Prop :=
  c = .exit 0 ∧ (∃ z : Int, Boxed W (w.heap.size + 2) 3 (.int .i64 z) ∧ z = cmpI (val xs : Nat) (val ys : Nat)) ∧ Below w.heap.size w W ∧ w.heap.size + 4 ≤ W.heap.size

theorem cmpInv_own (w : World) (v u : Value) (xs ys : List Nat) : OwnFrom (w.heap.size + 4) (CmpInv w v u xs ys) :=
  ownFrom_of (fun s W W' ⟨h1, h2, h3, h4, h5, h6, h7⟩ hk hb => ⟨hk.boxed h1, hk.boxed h2, hk.boxed h3, hk.boxed h4, h5.trans (hb.mono (by omega)), Nat.le_trans h6 hb.size, h7⟩) (fun s W h => h.2.2.2.2.2.1)
theorem cmpOut_own (w : World) (xs ys : List Nat) (c : Code) : OwnFrom (w.heap.size + 4) (CmpOut w xs ys c) :=
  ownFrom_of (fun s W W' ⟨h1, ⟨z, h2, h3⟩, h5, h6⟩ hk hb => ⟨h1, ⟨z, hk.boxed h2, h3⟩, h5.trans (hb.mono (by omega)), Nat.le_trans h6 hb.size⟩) (fun s W h => h.2.2.2)

set_option maxRecDepth 100000 in
set_option maxHeartbeats 4000000 in
theorem compare_same (a : Option Addr) (cap : Nat) (b : Option Addr) (cap' : Nat) (xs ys : List Nat) (hgx : Grp xs) (hgy : Grp ys) (hlen : xs.length = ys.length) (hmax : xs.length ≤ 1000000) (w : World)
    (hL : Lim w (.slice a xs.length cap) xs) (hM : Lim w (.slice b xs.length cap') ys) :
    Calls Tryz.prog 39 #[.slice a xs.length cap, .slice b xs.length cap'] w fun e w' => e = .returned (.int .i64 (cmpI (val xs : Nat) (val ys : Nat))) ∧ Below w.heap.size w w' := by
  have hv := hL.own
  have hcmp : ∀ W, Calls Tryz.prog 51 #[.int .i64 xs.length, .int .i64 xs.length] W fun e w' => e = .returned (.int .i64 0) ∧ W = w' := fun W => by
    have h := cmp_int xs.length xs.length W
    rwa [show cmpI xs.length xs.length = 0 by unfold cmpI; rw [if_neg (by omega), if_neg (by omega)]] at h
  refine calls_marks Tryz.func39 rfl ?_
  simp only [Tryz.ntmps39, List.size_toArray, List.length_cons, List.length_nil, Nat.reduceAdd, Nat.reduceSub, Array.replicate_succ, Array.replicate_zero, List.push_toArray, List.append_toArray, List.nil_append, List.cons_append]
  have HL := hid hlen
  clear hlen
  go_wp2
  go_step3
  go_wp2_with fail
  refine (hcmp _).mono ?_
  rintro e w' ⟨rfl, rfl⟩
  go_wp2
  go_step3
  go_wp2_with (go_at_call 47; refine (back_calls _ _ _ _).mono ?_; rintro e w' ⟨rfl, rfl⟩)
  obtain ⟨W0, hW0, hsz0, hI0, hc0, hL0⟩ : ∃ W0, ((((w.alloc (.cells #[.slice a xs.length cap] 46)).alloc (.cells #[.slice b xs.length cap'] 46)).alloc (.cells #[.int .i64 0] 3)).alloc (.cells #[.slice a xs.length cap] 46)) = W0 ∧ W0.heap.size = w.heap.size + 4 ∧ CmpInv w (.slice a xs.length cap) (.slice b xs.length cap') xs ys [] W0 ∧ W0.cell? ⟨w.heap.size + 3, 0, none⟩ = some (.slice a xs.length cap) ∧ Lim W0 (.slice a xs.length cap) xs := by
    have b1 := Boxed.new w 46 (.slice a xs.length cap)
    have b2 := Boxed.new (w.alloc (.cells #[.slice a xs.length cap] 46)) 46 (.slice b xs.length cap')
    have b3 := Boxed.new ((w.alloc (.cells #[.slice a xs.length cap] 46)).alloc (.cells #[.slice b xs.length cap'] 46)) 3 (.int .i64 0)
    have b4 := Boxed.new (((w.alloc (.cells #[.slice a xs.length cap] 46)).alloc (.cells #[.slice b xs.length cap'] 46)).alloc (.cells #[.int .i64 0] 3)) 46 (.slice a xs.length cap)
    have hB : Below w.heap.size w ((((w.alloc (.cells #[.slice a xs.length cap] 46)).alloc (.cells #[.slice b xs.length cap'] 46)).alloc (.cells #[.int .i64 0] 3)).alloc (.cells #[.slice a xs.length cap] 46)) := ((((Below.refl _ w).alloc (Nat.le_refl _) _).alloc (by simp) _).alloc (by simp; omega) _).alloc (by simp; omega) _
    simp only [World.size_alloc, Nat.add_assoc, Nat.reduceAdd] at b2 b3 b4
    refine ⟨_, rfl, by simp, ⟨((b1.alloc _).alloc _).alloc _, (b2.alloc _).alloc _, b3.alloc _, b4, hB, by simp, ?_⟩, b4.cell, hL.below hB⟩
    rw [List.drop_of_length_le (by simp), List.drop_of_length_le (by simp [HL.out])]
  rw [hW0]
  clear hW0
  refine rangeOverP (gf := 64) (lb := #[.pointer (some ⟨w.heap.size + 1 + 1 + 1, 0, none⟩)]) rfl (enters_of Tryz.func64 (by kernel_rfl) rfl)
    (back_iter (w.heap.size + 3) (.slice a xs.length cap) xs W0 hL0 hc0 (by omega)) (Below.refl _ _) (fun _ => rfl)
    (fun A B e => by subst e; exact ⟨Nat.le_refl _, fun _ _ _ h _ => h⟩) (fun h k => h.trans k)
    (fun W l o o' hl h _ _ => KeptAt.putObj W l o' (notKB hv (by omega) (by omega)))
    (ownFrom_pure _ _) (ownFrom_pure _ _)
    (CmpInv w (.slice a xs.length cap) (.slice b xs.length cap') xs ys) (CmpOut w xs ys) (by rw [hsz0]; exact cmpInv_own w _ _ xs ys) (fun c => by rw [hsz0]; exact cmpOut_own w xs ys c) (fun s A B h e => by subst e; exact h) (fun c s A B h e => by subst e; exact h) hI0
    (fun x a' _ => a' = { tmps := #[.slice a xs.length cap, .slice b xs.length cap', .pointer (some ⟨w.heap.size, 0, none⟩), .pointer (some ⟨w.heap.size + 1, 0, none⟩), .int .i64 0, .int .i64 0, .pointer (some ⟨w.heap.size + 1 + 1, 0, none⟩), .int .i64 (x.1 : Nat),
      .slice a xs.length cap, .int .i64 xs.length, .slice b xs.length cap', .int .i64 xs.length, .int .i64 0, .int .i64 0, .bool false, undef, .slice a xs.length cap, .func (.func 64) #[] #[.pointer (some ⟨w.heap.size + 1 + 1 + 1, 0, none⟩)],
      .int .i64 (x.1 : Nat), .int .u32 (x.2 : Nat), undef, undef, undef, undef, undef, undef, undef, undef, undef, undef, undef, undef], defers := [] })
    (fun _ _ _ _ _ _ hs _ _ => hs) ?assign ?body ?done ?stop
  case assign =>
    intro l pre x W K hi hok hK
    unfold encB
    gi_wp2
    exact hK _ _ (KeepsFrom.refl _ _) (KeptAt.refl _ _) hi rfl
  case body =>
    rintro l pre ⟨i, y⟩ a' W hl ⟨f1, f2, f3, f4, f5, f6, hd⟩ rfl ⟨hx1, hx2⟩
    have hmx : Tryz.prog.follows .mixedOrders = true := by kernel_rfl
    have hx1' : i + pre.length + 1 = xs.length := hx1
    have hil : i < xs.length := by omega
    have hil' : i < ys.length := by rw [← HL.out]; omega
    have hLW := hL.below f5
    have hMW := hM.below f5
    obtain ⟨_, _, e1, _, _, h4⟩ := hLW
    cases e1
    obtain ⟨bx, ox, rfl, hbx, hcx⟩ := h4 (by intro e; rw [e] at hil; simp at hil)
    obtain ⟨_, _, e1, _, _, h4⟩ := hMW
    rw [Value.slice.injEq] at e1
    obtain ⟨rfl, _, rfl⟩ := e1
    obtain ⟨by', oy, rfl, hby, hcy⟩ := h4 (by intro e; rw [e] at hil'; simp at hil')
    have hcx' := hcx i hil
    have hcy' := hcy i hil'
    have hc1 := f1.cell
    have hc2 := f2.cell
    have hc3 := f3.cell
    have hz3 := f3.frozen
    obtain ⟨x, hx⟩ : ∃ x, xs[i]?.getD 0 = x := ⟨_, rfl⟩
    obtain ⟨y', hy⟩ : ∃ y, ys[i]?.getD 0 = y := ⟨_, rfl⟩
    rw [hx] at hcx'
    rw [hy] at hcy'
    have hcall := fun W => (cmp_u32 x y' W).mono (R' := fun e w' => e = .returned (.int .i64 (cmpI x y')) ∧ w' = W) (fun e w' ⟨h1, h2⟩ => ⟨h1, h2.symm⟩)
    obtain ⟨z, hz⟩ : ∃ z, cmpI x y' = z := ⟨_, rfl⟩
    rw [hz] at hcall
    have HX := hid (And.intro hd (And.intro hx1' (And.intro hx (And.intro hy hz))))
    clear hd hx1' hx hy hz hx1 hx2 hcx hcy h4
    have ek := KeptAt.setCell (K := KB (w.heap.size + 3) (.slice (some ⟨bx, ox, none⟩) xs.length cap)) W ⟨w.heap.size + 2, 0, none⟩ (.int .i64 z) (notKB hv (by show w.heap.size + 2 ≠ _; omega) (by show _ ≤ w.heap.size + 2; omega))
    have ek' : KeptAt (KB (w.heap.size + 3) (.slice (some ⟨bx, ox, none⟩) xs.length cap)) W (W.setCell ⟨w.heap.size + 2, 0, none⟩ (.int .i64 z)).drew := ek
    have eo := (KeepsOthers.setCell W ⟨w.heap.size + 2, 0, none⟩ (.int .i64 z)).trans (KeepsOthers.drew _)
    have e1 : Boxed (W.setCell ⟨w.heap.size + 2, 0, none⟩ (.int .i64 z)).drew _ _ _ := boxed_other (off := 0) f1 (b := w.heap.size + 2) (by omega) (.int .i64 z)
    have e2 : Boxed (W.setCell ⟨w.heap.size + 2, 0, none⟩ (.int .i64 z)).drew _ _ _ := boxed_other (off := 0) f2 (b := w.heap.size + 2) (by omega) (.int .i64 z)
    have e3 : Boxed (W.setCell ⟨w.heap.size + 2, 0, none⟩ (.int .i64 z)).drew _ _ _ := f3.set (.int .i64 z)
    have e4 : Boxed (W.setCell ⟨w.heap.size + 2, 0, none⟩ (.int .i64 z)).drew _ _ _ := boxed_other (off := 0) f4 (b := w.heap.size + 2) (by omega) (.int .i64 z)
    have e5 : Below w.heap.size w (W.setCell ⟨w.heap.size + 2, 0, none⟩ (.int .i64 z)).drew := (f5.setCell (by show _ ≤ w.heap.size + 2; omega) _).drew
    have HE := hid (And.intro e1 (And.intro e2 (And.intro e3 (And.intro e4 (And.intro e5 (And.intro ek' eo))))))
    clear e1 e2 e3 e4 e5 ek ek' eo
    gi_wp2
    refine regionIn_tail 9 (fun ⟨_, _, h⟩ => h) (by kernel_rfl) hmx (by kernel_rfl) ?_
    simp only [List.take_succ_cons, List.take_zero, List.drop_succ_cons, List.drop_zero]
    iterate 8 still_step
    still_call (hcall _)
    refine wpStill_nil ?_
    go_wp2
    obtain ⟨e1, e2, e3, e4, e5, ek, eo⟩ := HE.out
    clear HE hc1 hc2 hc3 hz3 hcx' hcy'
    generalize (W.setCell ⟨w.heap.size + 2, 0, none⟩ (.int .i64 z)).drew = W3 at *
    have hc3 := e3.cell
    obtain ⟨hd, hx1', hx, hy, hz⟩ := HX.out
    have hsz3 : w.heap.size + 4 ≤ W3.heap.size := Nat.le_trans f6 eo.size
    by_cases h0 : z = 0
    · have hxy : x = y' := by
        rw [h0] at hz
        unfold cmpI at hz
        by_cases h1 : (x : Int) < y'
        · rw [if_pos h1] at hz; omega
        · rw [if_neg h1] at hz
          by_cases h2 : (y' : Int) < x
          · rw [if_pos h2] at hz; omega
          · omega
      subst h0
      have HY := hid (And.intro hd (And.intro hx1' (And.intro hx (And.intro hy hxy))))
      clear hd hx1' hx hy hz hxy HX
      gi_wp2
      obtain ⟨hd, hx1', hx, hy, hxy⟩ := HY.out
      refine ⟨eo.from _, ek, e1, e2, e3, e4, e5, hsz3, ?_⟩
      rw [List.length_append, List.length_singleton, show xs.length - (pre.length + 1) = i from by omega]
      rw [show xs.length - pre.length = i + 1 from by omega] at hd
      rw [List.drop_eq_getElem_cons hil, List.drop_eq_getElem_cons hil', hd]
      rw [List.getElem?_eq_getElem hil, Option.getD_some] at hx
      rw [List.getElem?_eq_getElem hil', Option.getD_some] at hy
      rw [hx, hy, hxy]
    · have hne : (z == 0) = false := by simpa using h0
      have hne' : (z != 0) = true := by simpa using h0
      have hfin : z = cmpI (val xs : Nat) (val ys : Nat) := by
        rw [← hz]
        rw [show xs.length - pre.length = i + 1 from by omega] at hd
        rcases Nat.lt_trichotomy x y' with h | h | h
        · have hlt := val_less hgx hil hil' hd (by omega)
          exact cmpI_cast (by omega) (by omega)
        · subst h
          unfold cmpI at hz
          rw [if_neg (by omega), if_neg (by omega)] at hz
          exact absurd hz.symm h0
        · have hlt := val_less hgy hil' hil hd.symm (by omega)
          exact cmpI_cast (by omega) (by omega)
      have HY := hid hfin
      clear hd hx1' hx hy hz HX hfin
      gi_wp2
      exact ⟨eo.from _, rfl, ⟨z, e3, HY.out⟩, e5, hsz3⟩
  case done =>
    rintro D zs W hD hzl ⟨f1, f2, f3, f4, f5, f6, hd⟩ hK
    have hfin : cmpI (val xs : Nat) (val ys : Nat) = 0 := by
      rw [show zs.length = xs.length from hzl, Nat.sub_self, List.drop_zero, List.drop_zero] at hd
      rw [hd]
      unfold cmpI
      rw [if_neg (by omega), if_neg (by omega)]
    have HF := hid hfin
    have hc3 := f3.cell
    clear hfin hzl hd
    go_wp2
    rw [Exit.noGoto_ret]
    refine ⟨by simp, .inl ⟨_, _, rfl, run_takeDeferred hK, ?_⟩⟩
    refine ⟨_, results_tmp (t := 4) rfl _ _ _, ?_, f5.trans (belowK_b (w := w) (Nat.le_refl _) W D _ _ (by omega) hK rfl rfl)⟩
    exact ret_int HF.out.symm
  case stop =>
    rintro D c pre W hD _ ⟨rfl, ⟨z, f3, hz⟩, f5, f6⟩ hK
    have HF := hid hz
    have hc3 := f3.cell
    clear hz
    go_wp2
    rw [Exit.noGoto_ret]
    refine ⟨by simp, .inl ⟨_, _, rfl, run_takeDeferred hK, ?_⟩⟩
    refine ⟨_, results_tmp (t := 4) rfl _ _ _, ?_, f5.trans (belowK_b (w := w) (Nat.le_refl _) W D _ _ (by omega) hK rfl rfl)⟩
    exact ret_int HF.out

set_option maxRecDepth 100000 in
theorem compare_other (a : Option Addr) (n cap : Nat) (b : Option Addr) (m cap' : Nat) (hne : n ≠ m) (w : World) :
    Calls Tryz.prog 39 #[.slice a n cap, .slice b m cap'] w fun e w' => e = .returned (.int .i64 (cmpI n m)) ∧ Below w.heap.size w w' := by
  have hcmp := fun W => cmp_int n m W
  obtain ⟨z, hz⟩ : ∃ z, cmpI n m = z := ⟨_, rfl⟩
  have hz0 : z ≠ 0 := by
    rw [← hz]
    unfold cmpI
    split
    · omega
    · split <;> omega
  have hz1 : (z != 0) = true := by simpa using hz0
  have hz2 : (z == 0) = false := by simpa using hz0
  rw [hz] at hcmp ⊢
  clear hz hz0 hne
  go_enter Tryz.func39, Tryz.ntmps39
  go_wp2
  go_step3
  go_wp2_with fail
  refine (hcmp _).mono ?_
  rintro e w' ⟨rfl, rfl⟩
  go_wp2
  rw [Exit.noGoto_ret]
  go_ret
  exact ⟨rfl, (below_alloc _ _).trans ((below_alloc _ _).mono (by simp))⟩

/-- compare: as the numbers are. -/
theorem compare_calls (v u : Value) (m n : Nat) (hm : (lim m).length ≤ 1000000) (w : World) (hL : Lim w v (lim m)) (hM : Lim w u (lim n)) :
    Calls Tryz.prog 39 #[v, u] w fun e w' => e = .returned (.int .i64 (cmpI m n)) ∧ Below w.heap.size w w' := by
  have hL' := hL
  have hM' := hM
  obtain ⟨a, cap, rfl, _⟩ := hL
  obtain ⟨b, cap', rfl, _⟩ := hM
  by_cases h : (lim m).length = (lim n).length
  · have := compare_same a cap b cap' (lim m) (lim n) (lim_grp m) (lim_grp n) h hm w hL' (by rw [h]; exact hM')
    rw [val_lim, val_lim] at this
    rw [← h]
    exact this
  · have := compare_other a (lim m).length cap b (lim n).length cap' h w
    have hc : cmpI (lim m).length (lim n).length = cmpI m n := by
      refine cmpI_cast ⟨lim_more, fun h1 => ?_⟩ ⟨lim_more, fun h1 => ?_⟩
      · rcases Nat.lt_or_gt_of_ne h with h2 | h2
        · exact h2
        · have := lim_more h2; omega
      · rcases Nat.lt_or_gt_of_ne h with h2 | h2
        · have := lim_more h2; omega
        · exact h2
    rw [hc] at this
    exact this
end Go.Proofs.YtdppcpiepippoaaGreatDoor
