/- Package nat: add. -/
import Derived.Test.YtdppcpiepippoaaGreatDoorNatG
namespace Go.Proofs.YtdppcpiepippoaaGreatDoor
open Go.RowKit Go.Shelf
attribute [local go_sem] Oper.semAt_some

/-- a block of cells, of a struct. -/
def Cls (W : World) (g : Nat) (t : TypeId) (xs : List Value) : Prop := W.heap[g]? = some (.cells xs.toArray t (0, 0))
theorem Cls.lt {W : World} {g : Nat} {t : TypeId} {xs : List Value} (h : Cls W g t xs) : g < W.heap.size := (Array.getElem?_eq_some_iff.1 h).1
theorem Cls.cell {W : World} {g : Nat} {t : TypeId} {xs : List Value} (h : Cls W g t xs) (j : Nat) {v : Value} (hj : xs[j]? = some v) : W.cell? ⟨g, j, none⟩ = some v := by
  have : W.heap[g]? = some (.cells xs.toArray t (0, 0)) := h
  simp [World.cell?, this, hj]
theorem Cls.frozen {W : World} {g : Nat} {t : TypeId} {xs : List Value} (h : Cls W g t xs) (j : Nat) : W.frozen? ⟨g, j, none⟩ = false := by
  have : W.heap[g]? = some (.cells xs.toArray t (0, 0)) := h
  simp [World.frozen?, this]
theorem Cls.set {W : World} {g : Nat} {t : TypeId} {xs : List Value} (h : Cls W g t xs) (j : Nat) (v : Value) : Cls (W.setCell ⟨g, j, none⟩ v) g t (xs.set j v) := by
  have h' : W.heap[g]? = some (.cells xs.toArray t (0, 0)) := h
  show (W.heap.modify g _)[g]? = _
  rw [Array.getElem?_modify, if_pos rfl, h']
  simp
theorem Cls.other {W : World} {g b off : Nat} {t : TypeId} {xs : List Value} (h : Cls W g t xs) (hne : g ≠ b) (v : Value) : Cls (W.setCell ⟨b, off, none⟩ v) g t xs :=
  (Below.heap_setCell _ _ _ _ hne).trans h
theorem Cls.new (W : World) (t : TypeId) (xs : List Value) : Cls (W.alloc (.cells xs.toArray t)) W.heap.size t xs := World.alloc_heap_new W _
theorem Cls.kept {W W' : World} {row : Option Nat} {g : Nat} {t : TypeId} {xs : List Value} (h : Cls W g t xs) (hg : W.grownBy W' row) (hne : some g ≠ row) : Cls W' g t xs :=
  (hg.block g h.lt (fun e => hne e)).trans h
theorem Cls.alloc {W : World} {g : Nat} {t : TypeId} {xs : List Value} (h : Cls W g t xs) (o : Obj) : Cls (W.alloc o) g t xs := h.kept (World.grownBy_alloc W o none) (by simp)

theorem val_drop (xs : List Nat) (k : Nat) : val (xs.drop k) = xs[k]?.getD 0 + 1000000000 * val (xs.drop (k + 1)) := by
  by_cases h : k < xs.length
  · rw [List.drop_eq_getElem_cons h, val, List.getElem?_eq_getElem h]; rfl
  · rw [List.drop_of_length_le (by omega), List.drop_of_length_le (by omega), List.getElem?_eq_none (by omega)]; rfl

/-- THE PLAIN LAW OF A STEP of add. -/
theorem add_step {xs ys zs : List Nat} {k c : Nat} (hk : zs.length = k) (h : val xs + val ys = val zs + 1000000000 ^ k * (c + val (xs.drop k) + val (ys.drop k))) :
    val xs + val ys = val (zs ++ [(c + (xs[k]?.getD 0 + ys[k]?.getD 0)) % 1000000000]) + 1000000000 ^ (k + 1) * ((c + (xs[k]?.getD 0 + ys[k]?.getD 0)) / 1000000000 + val (xs.drop (k + 1)) + val (ys.drop (k + 1))) := by
  rw [h, val_snoc, hk, val_drop xs k, val_drop ys k, Nat.pow_succ, Nat.mul_assoc, Nat.add_assoc (val zs), ← Nat.mul_add]
  congr 2
  omega

theorem grow_set (W : World) (b off : Nat) (v : Value) : W.grownBy (W.setCell ⟨b, off, none⟩ v) (some b) :=
  ⟨rfl, rfl, rfl, (KeepsWalks.setCell W _ v).size, fun k _ hk => Below.heap_setCell _ _ _ k (fun e => hk (by rw [e]))⟩
theorem setCell_size (w : World) (a : Addr) (v : Value) : (w.setCell a v).heap.size = w.heap.size := by
  show (w.heap.modify a.block _).size = _
  exact Array.size_modify

def lenOf : Value → Nat
  | .slice _ n _ => n
  | _ => 0
theorem lenOf_owns {W : World} {base n : Nat} {e : TypeId} {v : Value} {ys : List Value} (h : W.ownsRow base e 1 v n ys) : lenOf v = n := by
  rcases h.2 with ⟨rfl, h2⟩ | ⟨g, cap, cur, rfl, _⟩
  · have := h.1; simp_all [lenOf]
  · rfl

set_option maxRecDepth 100000 in
set_option maxHeartbeats 4000000 in
theorem add_at (au av : Option Addr) (cu cv : Nat) (xs ys : List Nat) (m : Nat) (hgx : Grp xs) (hgy : Grp ys) (w : World) (hx : Lim w (.slice au xs.length cu) xs) (hy : Lim w (.slice av ys.length cv) ys) (hm : max xs.length ys.length = m) (hml : m ≤ 1000) :
    Calls Tryz.prog 29 #[.slice au xs.length cu, .slice av ys.length cv] w fun e w' => (∃ v' zs, e = .returned v' ∧ Lim w' v' zs ∧ Grp zs ∧ val zs = val xs + val ys ∧ (zs.length = m ∨ zs.length = m + 1 ∧ 1000000000 ^ m ≤ val zs)) ∧ Below w.heap.size w w' := by
  obtain ⟨i0, hi, hz0, hz1, hz2⟩ := info_parts info_u32
  go_enter Tryz.func29, Tryz.ntmps29
  go_wp2
  go_loopw [5] (fun v wr => ∃ (k c : Nat) (zs : List Nat), Cls wr w.heap.size 73 [.int .u64 c, .int .i64 k] ∧ zs.length = k ∧ wr.ownsRow (w.heap.size + 1) 37 1 v k (zs.map fun x => Value.int .u32 (x : Nat)) ∧ Grp zs ∧
      val xs + val ys = val zs + 1000000000 ^ k * (c + val (xs.drop k) + val (ys.drop k)) ∧ c ≤ 1 ∧ Below w.heap.size w wr ∧ (k ≤ m ∨ k = m + 1 ∧ c = 0 ∧ 1000000000 ^ m ≤ val zs)) (fun v _ => m + 2 - lenOf v)
  case atStart => exact ⟨0, 0, [], Cls.new w _ _, rfl, World.ownsRow_nil _ _ _ _, Grp.nil, by simp [val], by omega, below_alloc w _, .inl (Nat.zero_le _)⟩
  case round =>
    obtain ⟨k, c, zs, hC, hzk, hown, hgz, hval, hc1, hB, hkm⟩ := hrel
    have e0 := hC.cell 0 rfl
    have e1 := hC.cell 1 rfl
    have hmx : max (xs.length : Int) (ys.length : Int) = (m : Int) := by omega
    have hprog : Tryz.prog.follows .mixedOrders = true := by kernel_rfl
    by_cases hgo : k < m ∨ 0 < c
    · have HV := hid (And.intro hgz (And.intro hval (And.intro hkm (And.intro hgo hc1))))
      have hL1 := limb_calls _ xs k hgx wr.drew ((hx.below hB).below (Below.refl _ _).drew)
      have hL2 := limb_calls _ ys k hgy wr.drew ((hy.below hB).below (Below.refl _ _).drew)
      have hxk := hgx k
      have hyk := hgy k
      obtain ⟨x, hxe⟩ : ∃ x, xs[k]?.getD 0 = x := ⟨_, rfl⟩
      obtain ⟨y, hye⟩ : ∃ y, ys[k]?.getD 0 = y := ⟨_, rfl⟩
      rw [hxe] at hL1 hxk
      rw [hye] at hL2 hyk
      have HXY := hid (And.intro hxe hye)
      clear hxe hye
      have hL1' := hL1.mono (R' := fun e w' => e = _ ∧ w' = _) (fun _ _ h => ⟨h.1, h.2.symm⟩)
      have hL2' := hL2.mono (R' := fun e w' => e = _ ∧ w' = _) (fun _ _ h => ⟨h.1, h.2.symm⟩)
      have hkb : k ≤ 1002 := by omega
      have fz0 := hC.frozen 0
      have fz1 := hC.frozen 1
      clear hval hgz hkm hL1 hL2 hx hy hgx hgy
      have hwk : IntKind.i64.wrap ((k : Int) + 1) = ((k + 1 : Nat) : Int) := (IntWalk.i64_in _ (by omega)).trans (by omega)
      obtain ⟨n, hn⟩ : ∃ n, c + (x + y) = n := ⟨_, rfl⟩
      obtain ⟨q, hq⟩ : ∃ q, n / 1000000000 = q := ⟨_, rfl⟩
      obtain ⟨r, hr⟩ : ∃ r, n % 1000000000 = r := ⟨_, rfl⟩
      have hn2 : n ≤ 1999999999 := by omega
      have HN := hid (And.intro hn (And.intro hq hr))
      have hlu := lenOf_owns hown
      have ci : ((c : Int) + ((x : Int) + (y : Int))) = (n : Int) := by omega
      have ri : (n : Int) % 1000000000 = (r : Int) := by omega
      have qi : (n : Int) / 1000000000 = (q : Int) := by omega
      have hCS : Cls (wr.drew.setCell ⟨w.heap.size, 0, none⟩ (.int .u64 n)) w.heap.size 73 [.int .u64 n, .int .i64 k] := Cls.set (W := wr.drew) hC 0 _
      have hownS : (wr.drew.setCell ⟨w.heap.size, 0, none⟩ (.int .u64 n)).ownsRow (w.heap.size + 1) 37 1 u5 k (zs.map fun x => Value.int .u32 (x : Nat)) :=
        World.ownsRow.kept (w := wr.drew) hown (grow_set _ _ _ _) (.inr (fun e => by have : w.heap.size + 1 ≤ w.heap.size := (hown.lt _ e).1; omega))
      have hBS : Below w.heap.size w (wr.drew.setCell ⟨w.heap.size, 0, none⟩ (.int .u64 n)) := hB.drew.setCell (Nat.le_refl _) _
      have f1 := hCS.cell 1 rfl
      clear hown hC
      have hm' := hid hm
      have key : ∀ W2 u5' , Cls W2 w.heap.size 73 [.int .u64 q, .int .i64 (k + 1 : Nat)] → W2.ownsRow (w.heap.size + 1) 37 1 u5' (k + 1) ((zs ++ [r]).map fun x => Value.int .u32 (x : Nat)) → Below w.heap.size w W2 →
          (∃ (k c : Nat) (zs : List Nat), Cls W2 w.heap.size 73 [.int .u64 c, .int .i64 k] ∧ zs.length = k ∧ W2.ownsRow (w.heap.size + 1) 37 1 u5' k (zs.map fun x => Value.int .u32 (x : Nat)) ∧ Grp zs ∧
            val xs + val ys = val zs + 1000000000 ^ k * (c + val (xs.drop k) + val (ys.drop k)) ∧ c ≤ 1 ∧ Below w.heap.size w W2 ∧ (k ≤ m ∨ k = m + 1 ∧ c = 0 ∧ 1000000000 ^ m ≤ val zs)) ∧ m + 2 - lenOf u5' < m + 2 - lenOf u5 := by
        intro W2 u5' k1 k2 k3
        obtain ⟨hgz, hval, hkm, hgo, hc1⟩ := HV.out
        obtain ⟨hxe, hye⟩ := HXY.out
        have hst := add_step hzk hval
        rw [hxe, hye, hn, hq, hr] at hst
        refine ⟨⟨k + 1, q, zs ++ [r], k1, by simp [hzk], k2, hgz.append (Grp.cons (by omega) Grp.nil), hst, by omega, k3, ?_⟩, ?_⟩
        · by_cases hkm' : k < m
          · exact .inl hkm'
          · have hm := hm'.out
            have hx0 : x = 0 := by rw [← hxe, List.getElem?_eq_none (by omega)]; rfl
            have hy0 : y = 0 := by rw [← hye, List.getElem?_eq_none (by omega)]; rfl
            have hkm2 : k = m := by omega
            refine .inr ⟨by omega, by omega, ?_⟩
            rw [val_snoc, hzk, hkm2, show r = 1 from by omega, Nat.mul_one]
            omega
        · rw [hlu, lenOf_owns k2]
          omega
      clear HV HXY hn hq hr hm hlu hm'
      have hcase : ((k : Int) < max (xs.length : Int) (ys.length : Int)) ∨ (max (xs.length : Int) (ys.length : Int) ≤ (k : Int) ∧ 0 < c) := by omega
      clear hgo hmx
      rcases hcase with hlt | ⟨hge, hpos⟩
      all_goals (
          go_wp2
          refine wp_region_still_tail 12 hprog (by kernel_rfl) ?_
          simp only [List.take_succ_cons, List.take_zero, List.drop_succ_cons, List.drop_zero]
          repeat still_step
          still_call hL1'
          repeat still_step
          still_call hL2'
          repeat still_step
          refine wpStill_nil ?_
          go_wp2_with (at_builtin; refine wpList_append_own _ rfl _ _ 46 rfl (w.heap.size + 1) 37 i0 (.int .u32 0) 1 4 Tryz.underlying46 hi hz0 hz1 hz2 rfl (by decide) _ _ _ rfl (hownS.alloc _) ⟨_, 0, none⟩ 1 1 [.int .u32 (r : Int)] rfl rfl ?c1 ?c2 ?c3 ?c4 ?c5 ?_)
          case c1 =>
            have := cell_one_new (wr.setCell ⟨w.heap.size, 0, none⟩ (.int .u64 n)) (.int .u32 (r : Int)) 37
            rw [setCell_size] at this
            exact this
          case c2 => simp [Value.oneCell']
          case c3 => simp only [maxLen]; omega
          case c4 => omega
          case c5 => have := hBS.size; simp at this ⊢; omega
          intro v' w1 hown' hgrow _
          have hB1 : Below w.heap.size w w1 := (hBS.alloc hBS.size _).grown hgrow (by have := hBS.size; simp at this ⊢; omega) (fun j e => by have := (hownS.lt j e).1; omega)
          have hC1 := (hCS.alloc (.cells #[.int .u32 (r : Int)] 37)).kept hgrow (fun e => by have : w.heap.size + 1 ≤ w.heap.size := (hownS.lt _ e.symm).1; omega)
          have g0 := hC1.cell 0 rfl
          have g1 := hC1.cell 1 rfl
          have z0 := hC1.frozen 0
          have z1 := hC1.frozen 1
          have hR := hid (show w1.ownsRow (w.heap.size + 1) 37 1 v' (k + 1) ((zs ++ [r]).map fun x => Value.int .u32 (x : Nat)) from by simpa using hown')
          have hC2 := (hC1.set 0 (.int .u64 (q : Nat))).set 1 (.int .i64 ((k + 1 : Nat) : Int))
          have hB2 := (hB1.setCell (p := ⟨w.heap.size, 0, none⟩) (Nat.le_refl _) (.int .u64 (q : Nat))).setCell (p := ⟨w.heap.size, 1, none⟩) (Nat.le_refl _) (.int .i64 ((k + 1 : Nat) : Int))
          have hR2 := hid ((World.ownsRow.kept hR.out (grow_set _ w.heap.size 0 (.int .u64 (q : Nat))) (.inr (fun e => by have : w.heap.size + 1 ≤ w.heap.size := (hR.out.lt _ e).1; omega))).kept (grow_set _ w.heap.size 1 (.int .i64 ((k + 1 : Nat) : Int))) (.inr (fun e => by have : w.heap.size + 1 ≤ w.heap.size := (hR.out.lt _ e).1; omega)))
          clear hown' hgrow hownS hCS hBS e0 e1 fz0 fz1 f1 hL1' hL2' hC1 hR
          go_wp2
          rw [show ((k : Int) + 1) = ((k + 1 : Nat) : Int) from by omega]
          exact key _ _ hC2 hR2.out hB2)
    · have hge : max (xs.length : Int) (ys.length : Int) ≤ (k : Int) := by omega
      obtain rfl : c = 0 := by omega
      have HV := hid (And.intro hgz (And.intro hval (And.intro hkm hgo)))
      clear hgz hval hkm hgo hc1 hmx
      go_wp2
      go_ret
      obtain ⟨hgz, hval, hkm, hgo⟩ := HV.out
      refine ⟨⟨_, rfl, zs, Lim.of_owns (hzk ▸ hown), hgz, ?_, ?_⟩, hB⟩
      · rw [hval, List.drop_of_length_le (by omega), List.drop_of_length_le (by omega)]
        simp [val]
      · rcases hkm with h | ⟨h1, _, h2⟩
        · exact .inl (by omega)
        · exact .inr ⟨by omega, h2⟩

/-- add: of two numbers' limbs the sum's. -/
theorem add_calls (u v : Value) (a b : Nat) (w : World) (hx : Lim w u (lim a)) (hy : Lim w v (lim b)) (ha : (lim a).length ≤ 1000) (hb : (lim b).length ≤ 1000) :
    Calls Tryz.prog 29 #[u, v] w fun e w' => (∃ v', e = .returned v' ∧ Lim w' v' (lim (a + b))) ∧ Below w.heap.size w w' := by
  obtain ⟨au, cu, rfl, _⟩ := id hx
  obtain ⟨av, cv, rfl, _⟩ := id hy
  refine (add_at au av cu cv _ _ _ (lim_grp a) (lim_grp b) w hx hy rfl (by omega)).mono ?_
  rintro e w' ⟨⟨v', zs, he, hz, hg, hv, hl⟩, hB⟩
  refine ⟨⟨v', he, ?_⟩, hB⟩
  rw [val_lim, val_lim] at hv
  rw [← hv, lim_val' hg ?_]
  · exact hz
  · rcases hl with hl | ⟨hl, h2⟩
    · by_cases h0 : zs = []
      · exact .inl h0
      · refine .inr ?_
        have h1 : zs.length ≠ 0 := fun e => h0 (List.length_eq_zero_iff.1 e)
        rw [hv]
        have key : ∀ n, ¬ (lim n).length ≤ zs.length - 1 → 1000000000 ^ (zs.length - 1) ≤ n := fun n h => Nat.le_of_not_lt fun h2 => h (lim_len.2 h2)
        rcases Nat.le_total (lim a).length (lim b).length with h | h
        · have := key b (by omega); omega
        · have := key a (by omega); omega
    · rw [hl]; exact .inr h2
end Go.Proofs.YtdppcpiepippoaaGreatDoor
