/- Package nat: Sub. -/
import Derived.Test.YtdppcpiepippoaaGreatDoorNatN
import Derived.Test.YtdppcpiepippoaaGreatDoorRefP
import Derived.WalkMore
import Derived.ScopeJumps
import Derived.Laws.CopyOwn
namespace Go.Proofs.YtdppcpiepippoaaGreatDoor
open Go.RowKit Go.Shelf
attribute [local go_sem] Oper.semAt_some

theorem take_val (l : List Nat) (i : Nat) : val (l.take (i + 1)) = val (l.take i) + 1000000000 ^ i * l[i]?.getD 0 := by
  by_cases h : i < l.length
  · rw [take_succ_getD l i h, val_snoc, List.length_take, Nat.min_eq_left (by omega)]
  · rw [List.take_of_length_le (by omega), List.take_of_length_le (by omega), List.getElem?_eq_none (by omega)]
    simp

/-- THE PLAIN LAW OF A STEP of Sub. -/
theorem sub_step {xs ys zs : List Nat} {i br br' z : Nat} (hi : i < zs.length) (h : val (zs.take i) + val (ys.take i) = val (xs.take i) + 1000000000 ^ i * br)
    (hz : z + ys[i]?.getD 0 + br = xs[i]?.getD 0 + 1000000000 * br') :
    val ((zs.set i z).take (i + 1)) + val (ys.take (i + 1)) = val (xs.take (i + 1)) + 1000000000 ^ (i + 1) * br' := by
  rw [take_val, take_val ys, take_val xs, List.take_set_of_le (Nat.le_refl i), List.getElem?_set_self hi, Option.getD_some]
  have h1 : 1000000000 ^ i * (z + ys[i]?.getD 0 + br) = 1000000000 ^ i * (xs[i]?.getD 0 + 1000000000 * br') := by rw [hz]
  rw [Nat.mul_add, Nat.mul_add, Nat.mul_add] at h1
  rw [show (1000000000 : Nat) ^ (i + 1) = 1000000000 ^ i * 1000000000 from Nat.pow_succ .., Nat.mul_assoc]
  omega

theorem sub_done {xs ys zs : List Nat} {br : Nat} (hg : Grp zs) (hl : zs.length = xs.length) (hle : val ys ≤ val xs) (hyl : ys.length ≤ xs.length)
    (h : val (zs.take xs.length) + val (ys.take xs.length) = val (xs.take xs.length) + 1000000000 ^ xs.length * br) : val zs = val xs - val ys := by
  rw [List.take_of_length_le (by omega), List.take_of_length_le hyl, List.take_of_length_le (Nat.le_refl _)] at h
  have h2 := val_lt hg
  rw [hl] at h2
  have h3 : br = 0 := by
    cases br with
    | zero => rfl
    | succ b => rw [Nat.mul_succ] at h; omega
  rw [h3] at h
  omega

def subS (s t : ByteArray) : List UInt8 := if both s t && decide (nv (tx t) ≤ nv (tx s)) then Lib.decDigits (nv (tx s) - nv (tx t)) else []
def subE (s t : ByteArray) : Int := if both s t && decide (nv (tx t) ≤ nv (tx s)) then 0 else 10

theorem lim_le {m n : Nat} (h : m ≤ n) : (lim m).length ≤ (lim n).length := lim_len.2 (Nat.lt_of_le_of_lt h (lim_len.1 (Nat.le_refl _)))
theorem cmpI_neg {m n : Nat} (h : m < n) : cmpI (m : Nat) (n : Nat) = -1 := by unfold cmpI; rw [if_pos (by omega)]
theorem cmpI_nonneg {m n : Nat} (h : n ≤ m) : 0 ≤ cmpI (m : Nat) (n : Nat) := by
  unfold cmpI; rw [if_neg (by omega)]; split <;> omega

theorem jump_ret {l : Nat} {J : Act → World → Prop} {Q : Exit → Act → World → Prop} {a : Act} {w : World} : Exit.jump l J Q .ret a w = Q .ret a w := rfl
theorem jump_goto {l l' : Nat} {J : Act → World → Prop} {Q : Exit → Act → World → Prop} {a : Act} {w : World} : Exit.jump l J Q (.goto l') a w = (l' = l ∧ J a w) := rfl

/-- the state at the jump. -/
def Jump (w : World) (a : Act) (w' : World) : Prop := ∃ (u0 u1 u2 u3 u4 u5 u6 u7 u8 u9 u10 u11 u12 u13 u14 u15 u16 u17 u18 u19 u20 u21 u22 u23 u24 u25 u26 u27 u28 u29 u30 u31 u32 u33 u34 u35 u36 u37 u38 u39 u40 u41 u42 u43 u44 u45 u46 u47 u48 u49 u50 u51 u52 u53 u54 u55 u56 u57 u58 u59 u60 u61 u62 u63 u64 u65 u66 u67 u68 u69 u70 u71 u72 u73 : Value), a = { tmps := #[u0, u1, u2, u3, u4, u5, u6, u7, u8, u9, u10, u11, u12, u13, u14, u15, u16, u17, u18, u19, u20, u21, u22, u23, u24, u25, u26, u27, u28, u29, u30, u31, u32, u33, u34, u35, u36, u37, u38, u39, u40, u41, u42, u43, u44, u45, u46, u47, u48, u49, u50, u51, u52, u53, u54, u55, u56, u57, u58, u59, u60, u61, u62, u63, u64, u65, u66, u67, u68, u69, u70, u71, u72, u73], defers := [] } ∧ Below w.heap.size w w'

set_option maxRecDepth 100000 in
set_option maxHeartbeats 4000000 in
theorem natSub_no (s t : ByteArray) (hs : s.size ≤ 140737488355328) (ht : t.size ≤ 140737488355328) (hno : ¬ (both s t = true ∧ nv (tx t) ≤ nv (tx s))) (w : World) (hT : Tabs w) :
    Calls Tryz.prog 19 #[.string s, .string t] w fun e w' => e = .returned (.tuple #[.string ⟨#[]⟩, .int .i64 10]) ∧ Below w.heap.size w w' := by
  have hprog : Tryz.prog.follows .mixedOrders = true := by kernel_rfl
  have hof := of_two s t hs ht w hT
  have Hno := hid hno
  clear hno
  go_enter Tryz.func19, Tryz.ntmps19
  go_wp2
  refine wp_scope_jumps 0 (Jump w) (fun _ _ => 0) rfl ?first ?pass
  case pass =>
    rintro a w' ⟨u0, u1, u2, u3, u4, u5, u6, u7, u8, u9, u10, u11, u12, u13, u14, u15, u16, u17, u18, u19, u20, u21, u22, u23, u24, u25, u26, u27, u28, u29, u30, u31, u32, u33, u34, u35, u36, u37, u38, u39, u40, u41, u42, u43, u44, u45, u46, u47, u48, u49, u50, u51, u52, u53, u54, u55, u56, u57, u58, u59, u60, u61, u62, u63, u64, u65, u66, u67, u68, u69, u70, u71, u72, u73, rfl, hb⟩
    go_wp2
    rw [jump_ret]
    go_ret2
    exact ⟨rfl, hb⟩
  case first =>
    go_wp2_with (go_at_call 25; refine hof.mono ?_; rintro e w1 ⟨hb, ⟨hr, g, cap, v0, v1, rfl, c0, c1, l0, l1⟩ | ⟨hr, rfl⟩⟩)
    · have hlt : nv (tx s) < nv (tx t) := by
        have := Hno.out
        by_cases h : nv (tx t) ≤ nv (tx s)
        · exact absurd ⟨hr, h⟩ this
        · omega
      have hcmp := compare_calls v0 v1 _ _ (by have := rt_lim (both_rt hr).1; omega) w1.drew (l0.below (Below.refl _ _).drew) (l1.below (Below.refl _ _).drew)
      rw [cmpI_neg hlt] at hcmp
      clear hr hof hlt
      go_wp2
      go_still_tail 9, hprog
      go_wp2_with (go_at_call 39; refine hcmp.mono ?_; rintro e w2 ⟨rfl, hb2⟩)
      go_step3
      go_wp2
      exact ⟨rfl, _, _, _, _, _, _, _, _, _, _, _, _, _, _, _, _, _, _, _, _, _, _, _, _, _, _, _, _, _, _, _, _, _, _, _, _, _, _, _, _, _, _, _, _, _, _, _, _, _, _, _, _, _, _, _, _, _, _, _, _, _, _, _, _, _, _, _, _, _, _, _, _, _, _, rfl, hb.drew.trans (hb2.mono hb.drew.size)⟩
    · clear hr hof
      go_wp2
      go_quiet (fail)
      go_wp2
      go_step3
      go_wp2
      exact ⟨rfl, _, _, _, _, _, _, _, _, _, _, _, _, _, _, _, _, _, _, _, _, _, _, _, _, _, _, _, _, _, _, _, _, _, _, _, _, _, _, _, _, _, _, _, _, _, _, _, _, _, _, _, _, _, _, _, _, _, _, _, _, _, _, _, _, _, _, _, _, _, _, _, _, _, _, rfl, below_drewN hb nq⟩

theorem lt_of_cell {w : World} {g o : Nat} {v : Value} (h : w.cell? ⟨g, o, none⟩ = some v) : g < w.heap.size := by
  cases e : w.heap[g]? with
  | none => simp [World.cell?, e] at h
  | some x => exact (Array.getElem?_eq_some_iff.1 e).1
theorem cell_below {w w' : World} {g o : Nat} {v : Value} (h : w.cell? ⟨g, o, none⟩ = some v) (hb : Below w.heap.size w w') : w'.cell? ⟨g, o, none⟩ = some v := (hb.cell (p := ⟨g, o, none⟩) (lt_of_cell h)).trans h

set_option maxRecDepth 100000 in
set_option maxHeartbeats 4000000 in
theorem natSub_yes (s t : ByteArray) (hs : s.size ≤ 140737488355328) (ht : t.size ≤ 140737488355328) (hyes : both s t = true) (hle : nv (tx t) ≤ nv (tx s)) (w : World) (hT : Tabs w) :
    Calls Tryz.prog 19 #[.string s, .string t] w fun e w' => e = .returned (.tuple #[.string ⟨(Lib.decDigits (nv (tx s) - nv (tx t))).toArray⟩, .int .i64 0]) ∧ Below w.heap.size w w' := by
  have hprog : Tryz.prog.follows .mixedOrders = true := by kernel_rfl
  have hof := of_two s t hs ht w hT
  obtain ⟨i0, hi, hz0, hz1, hz2⟩ := info_parts info_u32
  have hx45 := rt_lim (both_rt hyes).1
  have hy45 := rt_lim (both_rt hyes).2
  have hdig : Lib.nDigits (nv (tx s) - nv (tx t)) ≤ 400 := by
    have g := (isRt_iff _).1 (both_rt hyes).1
    have := rdig_up (show nv (tx s) - nv (tx t) ≤ nv (tx s) by omega)
    rw [← Lib.decDigits_length (nv (tx s)), ← g.1] at this
    exact Nat.le_trans this g.2
  have hfit := hid (show fitS (nv (tx s) - nv (tx t)) = Lib.decDigits (nv (tx s) - nv (tx t)) ∧ fitE (nv (tx s) - nv (tx t)) = 0 from ⟨if_pos hdig, if_pos hdig⟩)
  obtain ⟨m, hm⟩ : ∃ m, nv (tx s) = m := ⟨_, rfl⟩
  obtain ⟨n, hn⟩ : ∃ n, nv (tx t) = n := ⟨_, rfl⟩
  rw [hm, hn] at hle hfit hof ⊢
  rw [hm] at hx45
  rw [hn] at hy45
  have hyl : (lim n).length ≤ (lim m).length := lim_le hle
  have hgx := lim_grp m
  have hgy := lim_grp n
  have hvx := val_lim m
  have hvy := val_lim n
  have hcmp0 : ∀ (v u : Value) (W : World), Lim W v (lim m) → Lim W u (lim n) → Calls Tryz.prog 39 #[v, u] W fun e w' => e = .returned (.int .i64 (cmpI m n)) ∧ Below W.heap.size W w' := fun v u W h1 h2 => compare_calls v u m n (by omega) W h1 h2
  have hz := cmpI_nonneg hle
  obtain ⟨z, hze⟩ : ∃ z, cmpI (m : Nat) (n : Nat) = z := ⟨_, rfl⟩
  rw [hze] at hcmp0 hz
  obtain ⟨xs, hxs⟩ : ∃ xs, lim m = xs := ⟨_, rfl⟩
  obtain ⟨ys, hys⟩ : ∃ ys, lim n = ys := ⟨_, rfl⟩
  rw [hxs] at hx45 hyl hgx hvx hcmp0 hof
  rw [hys] at hy45 hyl hgy hvy hcmp0 hof
  have HLM := hid (show (lim m).length ≤ 45 by rw [hxs]; exact hx45)
  have HH := hid (And.intro hyes (And.intro hle (And.intro hvx hvy)))
  clear hyes hle hvx hvy hm hn hze hxs hys hdig
  go_enter Tryz.func19, Tryz.ntmps19
  go_wp2
  refine wp_scope_jumps 0 (fun _ _ => False) (fun _ _ => 0) rfl ?first (fun _ _ h => h.elim)
  case first =>
    go_wp2_with (go_at_call 25; refine hof.mono ?_; rintro e w1 ⟨hb, ⟨hr, g, cap, v0, v1, rfl, c0, c1, l0, l1⟩ | ⟨hr, rfl⟩⟩)
    · have hcmp := hcmp0 v0 v1 w1.drew (l0.below (Below.refl _ _).drew) (l1.below (Below.refl _ _).drew)
      obtain ⟨a, cx, rfl, hcx, hcx2, hax⟩ := id l0
      obtain ⟨L, hL⟩ : ∃ L, xs.length = L := ⟨_, rfl⟩
      rw [hL] at c0 hcmp hcx hx45 hyl hax
      have HL := hid hL
      have hzn : decide (z < 0) = false := decide_eq_false (by omega)
      clear hr hof hcmp0 hL hz
      go_wp2
      go_still_tail 9, hprog
      go_wp2_with (first
        | (go_at_call 39; refine hcmp.mono ?_; rintro e w2 ⟨rfl, hb2⟩; have hb12 : Below w1.heap.size w1 w2 := (Below.refl _ _).drew.trans hb2; have d0 := cell_below c0 hb12; have d1 := cell_below c1 hb12; clear c0 c1 hcmp)
        | (at_make; refine wpList_make_full _ rfl _ _ 46 rfl w2.heap.size 37 i0 (.int .u32 0) 1 Tryz.underlying46 hi hz0 hz1 .i64 .i64 _ _ L rfl rfl ?m1 ?m2 (by rw [hz2]; omega) (by simp only [maxLen]; omega) (by simp) ?_))
      case m1 => simp
      case m2 => simp
      intro w3 hown hgrow
      have hrow : RowN w3 w2.heap.size 37 .u32 (List.replicate L 0) := row_of_owns hown (made_zeros _)
      have hb3 : Below w2.heap.size w2 w3 := (Below.refl _ w2).grown hgrow (Nat.le_refl _) (fun _ e => by cases e)
      have hgl := lt_of_cell d0
      have K1 := hid d1
      have e0 := cell_below d0 hb3
      have e1 := cell_below d1 hb3
      have hb13 : Below w1.heap.size w1 w3 := hb12.trans (hb3.mono hb12.size)
      have m0 := l0.below hb13
      have m1 := l1.below hb13
      have hsz := hrow.lt
      obtain ⟨C0, hC0⟩ : ∃ C0 : List Value, (List.replicate L 0).map (fun x => Value.int .u32 ((x : Nat) : Int)) = C0 := ⟨_, rfl⟩
      obtain ⟨X1, hX1⟩ : ∃ X1 : List Value, xs.map (fun x => Value.int .u32 ((x : Nat) : Int)) = X1 := ⟨_, rfl⟩
      have hC0l : C0.length = L := by rw [← hC0]; simp
      have hX1l : X1.length = L := by rw [← hX1, List.length_map]; exact HL.out
      have hsp : splice C0 0 X1 = X1 := by
        unfold splice
        rw [List.take_zero, List.nil_append, List.drop_of_length_le (by omega), List.append_nil]
      have h1c : ∀ v ∈ X1, v.oneCell' = true := by
        intro v hv
        rw [← hX1] at hv
        obtain ⟨x, _, rfl⟩ := List.mem_map.1 hv
        rfl
      have hsrc : 0 < X1.length → (some (⟨w2.heap.size, 0, none⟩ : Addr)) = some ⟨w2.heap.size, 0, none⟩ ∧ ∃ ad, a = some ad ∧ ∀ j v, X1[j]? = some v → w3.cell? (ad.add j) = some v := by
        intro hp
        refine ⟨rfl, ?_⟩
        obtain ⟨_, _, e1, _, _, h4⟩ := id m0
        cases e1
        obtain ⟨b, off, rfl, _, hc⟩ := h4 (by intro e; rw [e] at hX1; rw [← hX1] at hp; simp at hp)
        refine ⟨_, rfl, fun j v hj => ?_⟩
        have hjl : j < xs.length := by
          have := (List.getElem?_eq_some_iff.1 hj).1
          rw [hX1l, ← HL.out] at this
          exact this
        rw [Lib.add_plain, hc j hjl]
        rw [← hX1, List.getElem?_map, List.getElem?_eq_getElem hjl] at hj
        rw [List.getElem?_eq_getElem hjl]
        exact hj
      have hg0 : w3.heap[w2.heap.size]? = some (.cells C0.toArray 37 (0, 0)) := by rw [← hC0]; exact hrow
      have HC := hid (And.intro hC0l (And.intro hX1l (And.intro hsp hX1)))
      have Hn := hid (show X1.length = Nat.min L L by show X1.length = min L L; rw [Nat.min_self]; exact hX1l)
      have Hs := hid hsrc
      have Hg := hid hg0
      have Hf := hid (show 0 + X1.length ≤ C0.length by omega)
      have H1 := hid h1c
      clear d0 d1 l0 hown hgrow hb2 hC0 hC0l hX1l hsp hX1 h1c hsrc hg0 hrow hax hcx2
      go_wp2_with (with_reducible refine wpList_copy_splice rfl (.tmp 36) (.tmp 39) 46 46 rfl 37 Tryz.underlying46 (by kernel_rfl) (some ⟨w2.heap.size, 0, none⟩) a L L L cx rfl rfl w2.heap.size 0 C0 37 Hg.out X1 Hn.out Hs.out Hf.out H1.out w2.heap.size w3 (Below.refl _ _) (Nat.le_refl _) ?_)
      intro w4 hg4 hb4
      have hR4 : RowN w4 w2.heap.size 37 .u32 xs := by
        have h := hg4.out
        rw [HC.out.2.2.1, ← HC.out.2.2.2] at h
        exact h
      have hb14 : Below w2.heap.size w2 w4 := hb3.trans hb4
      have d1 : w4.cell? ⟨g, 1, none⟩ = some v1 := (hb14.cell (p := ⟨g, 1, none⟩) hgl).trans K1.out
      have hb04 : Below w.heap.size w w4 := hb.trans ((hb12.mono hb.size).trans (hb14.mono (Nat.le_trans hb.size hb12.size)))
      have m1' := l1.below (hb12.trans (hb14.mono hb12.size))
      have HM := hid m1'
      have hT4 := hT.below hb04
      clear e0 e1 m0 m1 m1' hg4 Hg Hs
      have hb12' : Below w1.heap.size w1 w4 := hb12.trans (hb14.mono hb12.size)
      have hGw1 : w1.heap.size ≤ w2.heap.size := hb12.size
      obtain ⟨G, hG⟩ : ∃ G, w2.heap.size = G := ⟨_, rfl⟩
      rw [hG] at hR4 hgl hsz hGw1 ⊢
      have hGw : w.heap.size ≤ G := by rw [← hG]; exact Nat.le_trans hb.size hb12.size
      have HX2 := hid (show ∀ w5, Below G w4 w5 → Lim w5 v1 ys from fun w5 h => l1.below (hb12'.trans (h.mono hGw1)))
      clear hG hb14 hb3 hb4 hb12 hb13 K1 hb12' l1 HM
      go_wp2
      go_loopw [7, 43] (fun b i wr => ∃ (k br : Nat) (zs : List Nat), b = .int .u64 br ∧ i = .int .i64 k ∧ k ≤ L ∧ br ≤ 1 ∧ RowN wr G 37 .u32 zs ∧ zs.length = L ∧ Grp zs ∧ (∀ j : Nat, k ≤ j → zs[j]?.getD 0 = xs[j]?.getD 0) ∧
          val (zs.take k) + val (ys.take k) = val (xs.take k) + 1000000000 ^ k * br ∧ Below w.heap.size w wr ∧ Below G w4 wr) (fun _ i _ => L - (intOf i).toNat)
      case atStart => exact ⟨0, 0, xs, rfl, rfl, Nat.zero_le _, by omega, hR4, HL.out, hgx, fun _ _ => rfl, by simp [val], hb04, Below.refl _ _⟩
      case round =>
        obtain ⟨k, br, zs, rfl, rfl, hkL, hbr, hR, hzl, hgz, hsame, hval, hB, hB4⟩ := hrel
        clear hR4
        have hcv : wr.cell? ⟨g, 1, none⟩ = some v1 := (hB4.cell (p := ⟨g, 1, none⟩) hgl).trans d1
        by_cases hlt : k < L
        · obtain ⟨x, hxe⟩ : ∃ x, xs[k]?.getD 0 = x := ⟨_, rfl⟩
          obtain ⟨y, hye⟩ : ∃ y, ys[k]?.getD 0 = y := ⟨_, rfl⟩
          have hxb := hgx k
          have hyb := hgy k
          have hcz := hR.cell (j := k) (by omega)
          have hfz := hR.frozen k
          rw [hsame k (Nat.le_refl _), hxe] at hcz
          rw [hxe] at hxb
          rw [hye] at hyb
          have hL2 := limb_calls v1 ys k hgy wr.drew ((HX2.out wr hB4).below (Below.refl _ _).drew)
          rw [hye] at hL2
          have hL2' := hL2.mono (R' := fun e w' => e = _ ∧ w' = _) (fun _ _ h => ⟨h.1, h.2.symm⟩)
          obtain ⟨s1, hs1⟩ : ∃ s1 : Nat, 1000000000 + x = s1 := ⟨_, rfl⟩
          obtain ⟨s2, hs2⟩ : ∃ s2 : Nat, s1 - y = s2 := ⟨_, rfl⟩
          obtain ⟨nn, hnn⟩ : ∃ nn : Nat, s2 - br = nn := ⟨_, rfl⟩
          have i1 : (1000000000 : Int) + (x : Int) = (s1 : Int) := by omega
          have i2 : (s1 : Int) - (y : Int) = (s2 : Int) := by omega
          have i3 : (s2 : Int) - (br : Int) = (nn : Int) := by omega
          have w1' : IntKind.u64.wrap (s1 : Int) = (s1 : Int) := IntWalk.u64_in _ (by omega)
          have w2' : IntKind.u64.wrap (s2 : Int) = (s2 : Int) := IntWalk.u64_in _ (by omega)
          have w3' : IntKind.u64.wrap (nn : Int) = (nn : Int) := IntWalk.u64_in _ (by omega)
          have w4' : IntKind.u64.wrap (x : Int) = (x : Int) := IntWalk.u64_in _ (by omega)
          obtain ⟨q, hq⟩ : ∃ q, nn / 1000000000 = q := ⟨_, rfl⟩
          obtain ⟨r, hr⟩ : ∃ r, nn % 1000000000 = r := ⟨_, rfl⟩
          obtain ⟨b', hb'⟩ : ∃ b', 1 - q = b' := ⟨_, rfl⟩
          have hnb : nn ≤ 1999999999 := by omega
          have qi : (nn : Int) / 1000000000 = (q : Int) := by omega
          have ri : (nn : Int) % 1000000000 = (r : Int) := by omega
          have hq1 : q ≤ 1 := by omega
          have bi : (1 : Int) - (q : Int) = (b' : Int) := by omega
          have hrb : r < 1000000000 := by omega
          have hwr : IntKind.u32.wrap (r : Int) = (r : Int) := IntWalk.u32_in _ (by omega)
          have hbr' : b' ≤ 1 := by omega
          have hst := hid (sub_step (z := r) (br' := b') (by omega : k < zs.length) hval (by rw [hxe, hye]; omega))
          have hs2' := hid (show ∀ j : Nat, k + 1 ≤ j → (zs.set k r)[j]?.getD 0 = xs[j]?.getD 0 from fun j hj => by rw [List.getElem?_set_ne (by omega)]; exact hsame j (by omega))
          have hgz' := hid (hgz.set k r hrb)
          have hR2 := hid (hR.set k r)
          have hkL' : (k : Int) < (L : Int) := by omega
          clear hxe hye hs1 hs2 hnn hq hr hb' hval hsame hgz hL2
          go_wp2
          refine wp_region_still_tail 14 hprog (by kernel_rfl) ?_
          simp only [List.take_succ_cons, List.take_zero, List.drop_succ_cons, List.drop_zero]
          repeat still_step
          still_call hL2'
          repeat still_step
          refine wpStill_nil ?_
          go_wp2
          exact ⟨⟨k + 1, b', zs.set k r, rfl, by simp, hlt, hbr', hR2.out, by simpa using hzl, hgz'.out, hs2'.out, hst.out, (hB.setCell hGw _).drew, (hB4.setCell (Nat.le_refl _) _).drew⟩, by simp [intOf]; omega⟩
        · obtain rfl : k = L := by omega
          have hfin : val zs = m - n := by
            have h := sub_done (xs := xs) (ys := ys) (zs := zs) (br := br) hgz (by rw [hzl]; exact HL.out.symm) (by rw [HH.out.2.2.1, HH.out.2.2.2]; exact HH.out.2.1) (by rw [HL.out]; exact hyl) (by rw [HL.out]; exact hval)
            rw [h, HH.out.2.2.1, HH.out.2.2.2]
          have hLz : Lim wr (.slice (some ⟨G, 0, none⟩) k k) zs :=
            ⟨_, _, by rw [hzl], by omega, ⟨by simp only [maxLen]; omega, fun j hj => by simp [Value.ownBlock] at hj; rw [← hj]; exact ⟨_, _, hR⟩⟩, fun _ => ⟨_, 0, rfl, hR.lt, fun j hj => by rw [Nat.zero_add]; exact hR.cell hj⟩⟩
          have hends := ends_calls (.slice (some ⟨G, 0, none⟩) k k) zs hgz (by rw [hfin]; have := lim_le (show m - n ≤ m by omega); have := HLM.out; omega) wr (hT.below hB) hLz
          rw [hfin, hfit.out.1, hfit.out.2] at hends
          clear hfin hval hsame hgz hlt hzl
          go_wp2_with (go_at_call 32; refine hends.mono ?_; rintro e w5 ⟨rfl, hb5⟩)
          rw [jump_ret]
          go_ret2
          exact ⟨rfl, hB.trans (hb5.mono hB.size)⟩
    · exact absurd (HH.out.1.symm.trans hr) (by decide)

theorem natSub_calls (s t : ByteArray) (hs : s.size ≤ 140737488355328) (ht : t.size ≤ 140737488355328) (w : World) (hT : Tabs w) :
    Calls Tryz.prog 19 #[.string s, .string t] w fun e w' => e = .returned (.tuple #[.string ⟨(subS s t).toArray⟩, .int .i64 (subE s t)]) ∧ Below w.heap.size w w' := by
  by_cases h : both s t = true ∧ nv (tx t) ≤ nv (tx s)
  · have := natSub_yes s t hs ht h.1 h.2 w hT
    unfold subS subE
    rw [h.1, decide_eq_true h.2]
    exact this
  · have := natSub_no s t hs ht h w hT
    have hf : (both s t && decide (nv (tx t) ≤ nv (tx s))) = false := by
      cases e : both s t with
      | false => rfl
      | true => rw [Bool.true_and]; exact decide_eq_false (fun h2 => h ⟨e, h2⟩)
    unfold subS subE
    rw [hf]
    exact this
end Go.Proofs.YtdppcpiepippoaaGreatDoor
