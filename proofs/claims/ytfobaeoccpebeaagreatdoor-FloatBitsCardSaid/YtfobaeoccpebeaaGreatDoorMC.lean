/- Package nat: limb, trim, small, the two iterators (groups, slices.Backward), cmp.Compare. -/
import Derived.Test.YtfobaeoccpebeaaGreatDoorMA
import Derived.RangeFuncNested
import Derived.RangeFuncBound
import Derived.RangeFuncCalls
import Derived.RangeFuncLeaves
import Derived.Shelf.Abstract
import Derived.Shelf.RegionOpen
import Derived.OwnWalkIn
import Derived.TacticsInMore
import Derived.LoopNIn
import Derived.LoopIn
import Derived.Maps.AppendAt
import Derived.StillTailTactics
import Derived.OrdersIn
import Derived.WalkMore
import Derived.Deep.RegionWith
import Derived.Deep.QuietTactic
import Derived.BigQuiet
import Derived.Deep.RegionHeld3
namespace Go.Proofs.YtfobaeoccpebeaaGreatDoor
open Go.RowKit Go.Shelf
attribute [local go_sem] Oper.semAt_some

theorem limb_past (a : Option Addr) (n cap : Nat) (i : Int) (w : World) (h : (n : Int) ≤ i) :
    Calls Tryz.prog 82 #[.slice a n cap, .int .i64 i] w fun e w' => e = .returned (.int .u64 0) ∧ w = w' := by
  go_enter Tryz.func82, Tryz.ntmps82
  go_wp2
  go_ret
  exact ⟨rfl, rfl⟩

theorem limb_in (b off n cap i : Nat) (x : Int) (w : World) (h : i < n) (hx0 : 0 ≤ x) (hx : x < 4294967296) (hc : w.cell? ⟨b, off + i, none⟩ = some (.int .u32 x)) :
    Calls Tryz.prog 82 #[.slice (some ⟨b, off, none⟩) n cap, .int .i64 i] w fun e w' => e = .returned (.int .u64 x) ∧ w = w' := by
  go_enter Tryz.func82, Tryz.ntmps82
  go_wp2
  go_ret
  exact ⟨rfl, rfl⟩

/-- a limb of a slice of limbs. -/
theorem limb_calls (v : Value) (xs : List Nat) (i : Nat) (hg : Grp xs) (w : World) (h : Lim w v xs) :
    Calls Tryz.prog 82 #[v, .int .i64 i] w fun e w' => e = .returned (.int .u64 (xs[i]?.getD 0 : Nat)) ∧ w = w' := by
  obtain ⟨a, cap, rfl, h2, h3, h4⟩ := h
  by_cases hi : i < xs.length
  · obtain ⟨b, off, rfl, _, hc⟩ := h4 (by intro e; rw [e] at hi; simp at hi)
    have := hg i
    exact limb_in b off xs.length cap i _ w hi (by omega) (by omega) (hc i hi)
  · have e : xs[i]?.getD 0 = 0 := by rw [List.getElem?_eq_none (by omega)]; rfl
    rw [e]
    exact limb_past a xs.length cap i w (by omega)

theorem trim_some (b off cap : Nat) (xs : List Nat) (w : World) (hb : xs.length ≤ cap) (hm : cap ≤ maxLen)
    (hc : ∀ j, j < xs.length → w.cell? ⟨b, off + j, none⟩ = some (.int .u32 (xs[j]?.getD 0 : Nat))) :
    Calls Tryz.prog 83 #[.slice (some ⟨b, off, none⟩) xs.length cap] w fun e w' => e = .returned (.slice (some ⟨b, off, none⟩) (trimN xs xs.length) (trimN xs xs.length)) ∧ w = w' := by
  unfold maxLen at hm
  go_enter Tryz.func83, Tryz.ntmps83
  go_wp2
  go_loop [3] (fun n => ∃ k : Nat, k ≤ xs.length ∧ n = .int .i64 k ∧ trimN xs k = trimN xs xs.length) (fun n => (intOf n).toNat)
  case atStart => exact ⟨xs.length, Nat.le_refl _, rfl, rfl⟩
  case round =>
    obtain ⟨k, hk, rfl, ht⟩ := hrel
    cases k with
    | zero =>
      have ht' := hid ht
      clear ht hc
      go_wp2
      go_ret
      exact ⟨ret_val (by rw [← ht'.out]; rfl), rfl⟩
    | succ k =>
      have h1 := hc k (by omega)
      clear hc
      by_cases hz : xs[k]?.getD 0 = 0
      · have ht2 : Hid (trimN xs k = trimN xs xs.length) := by rw [← ht, trimN, if_pos hz]; exact rfl
        rw [hz] at h1
        clear ht hz
        go_wp2
        go_round
        case rel => exact ⟨k, by omega, by go_num, ht2.out⟩
        case measure => simp [intOf]
      · have ht2 : Hid (k + 1 = trimN xs xs.length) := by rw [← ht, trimN, if_neg hz]; exact rfl
        have h4 : ((((xs[k]?.getD 0 : Nat) : Int)) == 0) = false := by simp [hz]
        clear ht
        go_wp2
        go_ret
        exact ⟨ret_val (by rw [← ht2.out]; rfl), rfl⟩

theorem trim_none (a : Option Addr) (cap : Nat) (w : World) :
    Calls Tryz.prog 83 #[.slice a 0 cap] w fun e w' => e = .returned (.slice a 0 0) ∧ w = w' := by
  go_enter Tryz.func83, Tryz.ntmps83
  go_wp2
  refine wp_loop_rounds 1 ?_
  rw [rounds_succ]
  go_wp2
  go_ret
  exact ⟨rfl, rfl⟩

/-- trim: the number's own limbs. -/
theorem trim_at (v : Value) (xs : List Nat) (hg : Grp xs) (w : World) (h : Lim w v xs) :
    ∃ v', Lim w v' (lim (val xs)) ∧ Calls Tryz.prog 83 #[v] w fun e w' => e = .returned v' ∧ w' = w := by
  obtain ⟨a, cap, rfl, h2, h3, h4⟩ := h
  by_cases hne : xs = []
  · subst hne
    refine ⟨.slice a 0 0, ?_, (trim_none a cap w).mono fun e w' ⟨he, hw⟩ => ⟨he, hw.symm⟩⟩
    rw [val, lim_zero]
    exact ⟨a, 0, rfl, Nat.le_refl _, ⟨by simp [maxLen], fun k hk => h3.2 k (by rw [ownBlock_slice] at hk ⊢; exact hk)⟩, fun h => absurd rfl h⟩
  · obtain ⟨b, off, rfl, hb, hc⟩ := h4 hne
    refine ⟨_, ?_, (trim_some b off cap xs w h2 h3.1 hc).mono fun e w' ⟨he, hw⟩ => ⟨he, hw.symm⟩⟩
    have ht := trimN_all hg
    have hl := trimN_le xs xs.length
    have hlen : (lim (val xs)).length = trimN xs xs.length := by rw [← ht, List.length_take]; omega
    refine ⟨_, _, by rw [hlen], by rw [hlen]; exact Nat.le_refl _, ⟨by have := h3.1; omega, h3.2⟩, fun _ => ⟨b, off, rfl, hb, fun j hj => ?_⟩⟩
    rw [hc j (by omega), ← ht, List.getElem?_take_of_lt (by omega)]

theorem trim_calls (v : Value) (xs : List Nat) (hg : Grp xs) (w : World) (h : Lim w v xs) :
    Calls Tryz.prog 83 #[v] w fun e w' => (∃ v', e = .returned v' ∧ Lim w v' (lim (val xs))) ∧ w = w' := by
  obtain ⟨v', h1, h2⟩ := trim_at v xs hg w h
  exact h2.mono fun e w' ⟨he, hw⟩ => ⟨⟨v', he, h1⟩, hw.symm⟩

theorem info_u32 : (Tryz.prog.info? 52).map (fun i => (i.zero, i.size, i.bytes)) = some (some (.int .u32 0), 1, 4) := by kernel_rfl

theorem lim_bound {n k : Nat} (h : n < 1000000000 ^ k) : (lim n).length ≤ k := lim_len.2 h

/-- small: a number's limbs. -/
theorem small_calls (n : Nat) (hn : n < 18446744073709551616) (w : World) :
    Calls Tryz.prog 61 #[.int .u64 n] w fun e w' => (∃ v', e = .returned v' ∧ Lim w' v' (lim n)) ∧ Below w.heap.size w w' := by
  obtain ⟨i0, hi, hz0, hz1, hz2⟩ := info_parts info_u32
  go_enter Tryz.func61, Tryz.ntmps61
  go_wp2
  go_loopw [0, 3] (fun m v wr => ∃ (k : Nat) (xs : List Nat), m = .int .u64 k ∧ k ≤ n ∧ xs ++ lim k = lim n ∧ wr.ownsRow w.heap.size 52 1 v xs.length (xs.map fun x => Value.int .u32 (x : Nat)) ∧ Below w.heap.size w wr) (fun m _ _ => (intOf m).toNat)
  case atStart => exact ⟨n, [], rfl, Nat.le_refl _, rfl, World.ownsRow_nil _ _ _ _, Below.refl _ _⟩
  case round =>
    obtain ⟨k, xs, rfl, hk, hx, hown, hb⟩ := hrel
    have hxb : xs.length ≤ 3 := by
      have h1 := congrArg List.length hx
      have h2 := lim_bound (n := n) (k := 3) (by omega)
      rw [List.length_append] at h1
      omega
    have hx' := hid hx
    clear hx
    by_cases h0 : k = 0
    · subst h0
      go_wp2
      go_ret
      have hx := hx'.out
      rw [lim_zero, List.append_nil] at hx
      subst hx
      exact ⟨⟨_, rfl, Lim.of_owns hown⟩, hb⟩
    · have hpos : 0 < k := by omega
      have hpos' : (0 : Int) < (k : Int) := by omega
      clear h0
      go_wp2_with (at_builtin; refine wpList_append_own _ rfl _ _ 85 rfl w.heap.size 52 i0 (.int .u32 0) 1 4 Tryz.underlying85 hi hz0 hz1 hz2 rfl (by decide) _ _ _ rfl (hown.alloc _) ⟨wr.heap.size, 0, none⟩ 1 1 [.int .u32 ((k : Int) % 1000000000)] rfl rfl ?c1 ?c2 ?c3 ?c4 ?c5 ?_)
      case c1 => exact cell_one_new _ _ _
      case c2 => simp [Value.oneCell']
      case c3 => have := hxb; simp only [maxLen]; omega
      case c4 => have := hxb; omega
      case c5 => have := hb.size; simp; omega
      intro v' w1 hown' hgrow _
      have hcast : ((k : Int) % 1000000000) = ((k % 1000000000 : Nat) : Int) := by omega
      have hcast2 : ((k : Int) / 1000000000) = ((k / 1000000000 : Nat) : Int) := by omega
      have hB1 : Below w.heap.size w w1 := (hb.alloc hb.size _).grown hgrow (by have := hb.size; simp; omega) (fun j e => (hown.lt j e).1)
      have hx3 : Hid ((xs ++ [k % 1000000000]) ++ lim (k / 1000000000) = lim n) := by
        have := hx'.out
        rw [lim_pos (by omega)] at this
        show _ = _
        rw [List.append_assoc]; exact this
      have hown3 := hid (show w1.ownsRow w.heap.size 52 1 v' (xs ++ [k % 1000000000]).length ((xs ++ [k % 1000000000]).map fun x => Value.int .u32 (x : Nat)) from by
        rw [hcast] at hown'
        simpa using hown')
      have hcast2' := hid hcast2
      clear hx' hown hown' hcast hcast2 hgrow hb
      go_wp2
      go_roundw
      case rel => exact ⟨k / 1000000000, xs ++ [k % 1000000000], by rw [← hcast2'.out], by omega, hx3.out, hown3.out, hB1⟩
      case measure => simp [intOf]; omega

/-! ### cmp.Compare -/
def cmpI (x y : Int) : Int := if x < y then -1 else if y < x then 1 else 0

end Go.Proofs.YtfobaeoccpebeaaGreatDoor

/- Package nat: slices.Backward at a slice of limbs: the iterator's contract. -/
namespace Go.Proofs.YtfobaeoccpebeaaGreatDoor
open Go.RowKit Go.Shelf
attribute [local go_sem] Oper.semAt_some

set_option maxHeartbeats 1000000 in
theorem back_calls (a : Option Addr) (len cap : Nat) (w : World) :
    Calls Tryz.prog 96 #[.slice a len cap] w fun e w' => e = .returned (.func (.func 115) #[] #[.pointer (some ⟨w.heap.size, 0, none⟩)]) ∧ w.alloc (.cells #[.slice a len cap] 85) = w' := by
  have hmf : ∀ (fn : Fn) (first cap : Array Value) (w : World), (Instr.makeFunc fn first cap).run Tryz.prog w = .ok (.func fn first cap) w := fun _ _ _ _ => rfl
  go_enter Tryz.func96, Tryz.ntmps96
  go_wp2
  go_ret
  exact ⟨rfl, rfl⟩

/-- what the iterator hands over: a place and its limb. -/
def encB (x : Nat × Nat) : Array Value := #[.int .i64 (x.1 : Nat), .int .u32 (x.2 : Nat)]

set_option maxRecDepth 100000 in
set_option maxHeartbeats 2000000 in
theorem back1_some (l Bs b off len cap : Nat) (xs : List Nat) (hm : len ≤ maxLen) (K : Nat → Prop) (hKs : K Bs) (hKb : K b) (J Jx : List (Nat × Nat) → World → Prop)
    (hY : ∀ pre x W1, J pre W1 → (x.1 + pre.length + 1 = len ∧ x.2 = xs[x.1]?.getD 0) → YieldAt Fence.wide 7 Tryz.prog l (encB x) W1 fun e W' =>
      (e = .returned (.bool true) ∧ J (pre ++ [x]) W' ∧ KeptAt K W1 W') ∨ (e = .returned (.bool false) ∧ Jx (pre ++ [x]) W'))
    (W : World) (hBs : W.cell? ⟨Bs, 0, none⟩ = some (.slice (some ⟨b, off, none⟩) len cap)) (hc : ∀ j, j < len → W.cell? ⟨b, off + j, none⟩ = some (.int .u32 (xs[j]?.getD 0 : Nat))) (h0 : J [] W) :
    CallsIn Fence.wide 8 Tryz.prog 115 #[.func (.yield l) #[] #[], .pointer (some ⟨Bs, 0, none⟩)] W fun e W' => (∃ v, e = .returned v) ∧
      ((∃ ys : List (Nat × Nat), ys.length = len ∧ J ys W') ∨ (∃ pre : List (Nat × Nat), pre.length ≤ len ∧ Jx pre W')) := by
  unfold maxLen at hm
  refine callsIn_of_wp Tryz.func115 rfl trivial ?_ rfl
  simp only [Tryz.ntmps115, List.size_toArray, List.length_cons, List.length_nil, Nat.reduceAdd, Nat.reduceSub, Array.replicate_succ, Array.replicate_zero, List.push_toArray, List.append_toArray, List.nil_append, List.cons_append]
  gi_wp2
  gi_loopw [3] (fun i wr => ∃ (m : Nat) (pre : List (Nat × Nat)), pre.length + m = len ∧ i = .int .i64 ((m : Int) - 1) ∧ J pre wr ∧ KeptAt K W wr)
    (fun i _ => (intOf i + 1).toNat)
  case atStart => exact ⟨len, [], by simp, rfl, h0, KeptAt.refl _ _⟩
  case round =>
    obtain ⟨m, pre, hml, rfl, hJs, hk⟩ := hrel
    cases m with
    | zero =>
      have hml' := hid hml
      clear hml
      gi_wp2
      go_end0
      exact ⟨⟨_, rfl⟩, .inl ⟨pre, by have := hml'.out; omega, hJs⟩⟩
    | succ m =>
      rw [show ((m + 1 : Nat) : Int) - 1 = (m : Int) from by omega]
      have hcB := (hk.cell (p := ⟨Bs, 0, none⟩) hKs).trans hBs
      have hcx := (hk.cell (p := ⟨b, off + m, none⟩) hKb).trans (hc m (by omega))
      have hlt : m < len := by omega
      obtain ⟨fn, tmps, assign, body, hy, hR⟩ := hY pre (m, xs[m]?.getD 0) wr hJs ⟨by show m + _ + 1 = _; omega, rfl⟩
      simp only [encB] at hy
      have hml' := hid hml
      clear hml hY
      gi_wp2
      refine hR.mono ?_
      rintro e W3 (⟨rfl, hJ3, hk3⟩ | ⟨rfl, hJx3⟩)
      · gi_wp2
        go_roundw
        case rel => exact ⟨m, pre ++ [(m, xs[m]?.getD 0)], by have := hml'.out; simp; omega, by go_num, hJ3, hk.trans hk3⟩
        case measure => simp [intOf]
      · gi_wp2
        refine bodyPost_ret (results_none rfl _ _ _) rfl ?_
        exact ⟨⟨_, rfl⟩, .inr ⟨_, by have := hml'.out; simp; omega, hJx3⟩⟩

set_option maxRecDepth 100000 in
set_option maxHeartbeats 1000000 in
theorem back1_none (l Bs : Nat) (a : Option Addr) (cap : Nat) (J : List (Nat × Nat) → World → Prop) (W : World) (hBs : W.cell? ⟨Bs, 0, none⟩ = some (.slice a 0 cap)) (h0 : J [] W) :
    CallsIn Fence.wide 8 Tryz.prog 115 #[.func (.yield l) #[] #[], .pointer (some ⟨Bs, 0, none⟩)] W fun e W' => (∃ v, e = .returned v) ∧ J [] W' := by
  refine callsIn_of_wp Tryz.func115 rfl trivial ?_ rfl
  simp only [Tryz.ntmps115, List.size_toArray, List.length_cons, List.length_nil, Nat.reduceAdd, Nat.reduceSub, Array.replicate_succ, Array.replicate_zero, List.push_toArray, List.append_toArray, List.nil_append, List.cons_append]
  gi_wp2
  gi_loopw [3] (fun i wr => i = .int .i64 (-1) ∧ J [] wr) (fun _ _ => 0)
  case atStart => exact ⟨rfl, h0⟩
  case round =>
    obtain ⟨rfl, hJs⟩ := hrel
    gi_wp2
    go_end0
    exact ⟨⟨_, rfl⟩, hJs⟩

/-- the blocks that the iterator reads. -/
def KB (Bs : Nat) (v : Value) (k : Nat) : Prop := k = Bs ∨ v.ownBlock = some k

theorem notKB {Bs k n : Nat} {v : Value} (hv : ∀ k, v.ownBlock = some k → k < n) (h1 : k ≠ Bs) (h2 : n ≤ k) : ¬ KB Bs v k := by
  rintro (e | e)
  · exact h1 e
  · have := hv _ e
    omega

def OkB (xs : List Nat) (pre : List (Nat × Nat)) (x : Nat × Nat) : Prop := x.1 + pre.length + 1 = xs.length ∧ x.2 = xs[x.1]?.getD 0

theorem back_iter (Bs : Nat) (v : Value) (xs : List Nat) (w : World) (hL : Lim w v xs) (hBs : w.cell? ⟨Bs, 0, none⟩ = some v) (hlt : Bs < w.heap.size) :
    IterC Tryz.prog 115 #[.pointer (some ⟨Bs, 0, none⟩)] encB (fun A B => A = B) (KeptAt (KB Bs v)) (OkB xs) (fun ys _ => ys.length = xs.length) (fun pre _ => pre.length ≤ xs.length) w := by
  intro l J Jx W hW _ _ hY h0
  have hBs' := (hW.cell (p := ⟨Bs, 0, none⟩) hlt).trans hBs
  obtain ⟨a, cap, rfl, h2, h3, h4⟩ := hL.below hW
  by_cases hne : xs = []
  · subst hne
    exact (back1_none l Bs a cap J W hBs' h0).mono fun e W' ⟨he, hj⟩ => ⟨he, .inl ⟨[], rfl, hj⟩⟩
  · obtain ⟨b, off, rfl, hb, hc⟩ := h4 hne
    exact back1_some l Bs b off xs.length cap xs (by have := h3.1; omega) _ (.inl rfl) (.inr rfl) J Jx hY W hBs' hc h0

/-! ### text: the digits of limbs, from the greatest one on -/

/-- the digits of the k greatest limbs. -/
def txt (xs : List Nat) (k : Nat) : List UInt8 := if k = 0 then [] else Lib.decDigits (val (xs.drop (xs.length - k)))

theorem txt_step {xs : List Nat} (hg : Grp xs) (htop : ∀ k, xs.length = k + 1 → xs[k]?.getD 0 ≠ 0) {i k : Nat} (h : i + k + 1 = xs.length) :
    txt xs (k + 1) = txt xs k ++ ((if k = 0 then [] else List.replicate (9 - (Lib.decDigits (xs[i]?.getD 0)).length) 48) ++ Lib.decDigits (xs[i]?.getD 0)) := by
  have hi : i < xs.length := by omega
  have hd : xs.drop i = xs[i]?.getD 0 :: xs.drop (i + 1) := by
    rw [List.getElem?_eq_getElem hi, Option.getD_some, List.drop_eq_getElem_cons hi]
  unfold txt
  rw [if_neg (by omega), show xs.length - (k + 1) = i from by omega, hd, val]
  by_cases hk : k = 0
  · subst hk
    rw [if_pos rfl, if_pos rfl, List.drop_of_length_le (by omega)]
    simp [val]
  · rw [if_neg hk, if_neg hk, show xs.length - k = i + 1 from by omega]
    refine dec_limb ?_ (hg i)
    intro e
    have h1 : lim (val (xs.drop (i + 1))) = xs.drop (i + 1) := lim_val (hg.drop _) fun j hj => by
      rw [List.length_drop] at hj
      rw [List.getElem?_drop]
      exact htop _ (by omega)
    rw [e, lim_zero] at h1
    have := congrArg List.length h1
    simp at this
    omega

theorem txt_len {xs : List Nat} (hg : Grp xs) (k : Nat) (hk : k ≤ xs.length) : (txt xs k).length ≤ 9 * xs.length + 1 := by
  unfold txt
  split
  · simp
  · rw [Lib.decDigits_length]
    have h1 := val_lt (hg.drop (xs.length - k))
    rw [List.length_drop] at h1
    have h2 : (1000000000 : Nat) ^ (xs.length - (xs.length - k)) ≤ 10 ^ (9 * xs.length) := by
      rw [show (1000000000 : Nat) = 10 ^ 9 from rfl, ← Nat.pow_mul]
      exact Nat.pow_le_pow_right (by omega) (by omega)
    have h3 := Nat.lt_of_lt_of_le h1 h2
    exact nDigits_le_of_lt h3

def TextInv (w : World) (v : Value) (xs : List Nat) (pre : List (Nat × Nat)) (W : World) : Prop :=
  Boxed W w.heap.size 85 v ∧ Lib.IsBuilderF 123 5 (w.heap.size + 1) (w.heap.size + 1) (Lib.byteCells (txt xs pre.length)) W ∧ Boxed W (w.heap.size + 2) 85 v ∧
    Below w.heap.size w W ∧ w.heap.size + 3 ≤ W.heap.size

theorem textInv_own (w : World) (v : Value) (xs : List Nat) : OwnFrom (w.heap.size + 3) (TextInv w v xs) :=
  ownFrom_of (fun s W W' ⟨h1, h2, h3, h4, h5⟩ hk hb => ⟨hk.boxed h1, hk.builder h2, hk.boxed h3, h4.trans (hb.mono (by omega)), Nat.le_trans h5 hb.size⟩) (fun s W h => h.2.2.2.2)

/-- a round's end. -/
theorem text_end {w W W' : World} {v : Value} {xs : List Nat} {pre : List (Nat × Nat)} {x : Nat × Nat} {bs : List Value} (h : TextInv w v xs pre W) (hv : ∀ k, v.ownBlock = some k → k < w.heap.size)
    (hw : Wrote 5 (w.heap.size + 1) W W') (hB : Lib.IsBuilderF 123 5 (w.heap.size + 1) (w.heap.size + 1) bs W') (hbs : bs = Lib.byteCells (txt xs (pre.length + 1))) :
    (∀ n, KeepsFrom n W W') ∧ KeptAt (KB (w.heap.size + 2) v) W W' ∧ TextInv w v xs (pre ++ [x]) W' := by
  obtain ⟨h1, h2, h3, h4, h5⟩ := h
  obtain ⟨c, hc⟩ := builder_row h2
  refine ⟨fun n => hw.keeps ⟨c, _, _, hc⟩, ?_, hw.boxed h1 (by omega) (by decide), ?_, hw.boxed h3 (by omega) (by decide), h4.trans (hw.below.mono (by omega)), Nat.le_trans h5 hw.below.size⟩
  · rintro k (rfl | hk)
    · exact (hw.boxed h3 (by omega) (by decide)).trans (Eq.symm h3)
    · exact hw.below.block k (by have := hv k hk; omega)
  · rw [List.length_append, List.length_singleton, ← hbs]; exact hB

set_option maxRecDepth 100000 in
set_option maxHeartbeats 4000000 in
theorem text_some (a : Option Addr) (cap : Nat) (xs : List Nat) (hne : xs ≠ []) (hg : Grp xs) (htop : ∀ k, xs.length = k + 1 → xs[k]?.getD 0 ≠ 0) (hmax : xs.length ≤ 1000000) (w : World) (hT : Tabs w) (hL : Lim w (.slice a xs.length cap) xs) :
    Calls Tryz.prog 84 #[.slice a xs.length cap] w fun e w' => e = .returned (.string ⟨(Lib.decDigits (val xs)).toArray⟩) ∧ Below w.heap.size w w' := by
  have hlen' : ((xs.length : Int) == 0) = false := by simpa using hne
  have hlen0 : xs.length ≠ 0 := fun e => hne (List.eq_nil_of_length_eq_zero e)
  have hv : ∀ k, (Value.slice a xs.length cap).ownBlock = some k → k < w.heap.size := hL.own
  refine (callsIn_wide (n := 9)).1 ?_
  refine callsIn_of_wp_marks Tryz.func84 rfl trivial ?_ rfl
  simp only [Tryz.ntmps84, List.size_toArray, List.length_cons, List.length_nil, Nat.reduceAdd, Nat.reduceSub, Array.replicate_succ, Array.replicate_zero, List.push_toArray, List.append_toArray, List.nil_append, List.cons_append]
  gi_wp2_with (refine ⟨trivial, ?_⟩; gi_at_call 96; refine (callsIn_wide.2 (back_calls _ _ _ _)).mono ?_; rintro e w' ⟨rfl, rfl⟩)
  obtain ⟨W0, hW0, hsz0, hI0, hc0, hL0⟩ : ∃ W0, (((w.alloc (.cells #[.slice a xs.length cap] 85)).alloc (.cells #[.pointer none, .slice none 0 0] 123)).alloc (.cells #[.slice a xs.length cap] 85)) = W0 ∧ W0.heap.size = w.heap.size + 3 ∧ TextInv w (.slice a xs.length cap) xs [] W0 ∧ W0.cell? ⟨w.heap.size + 2, 0, none⟩ = some (.slice a xs.length cap) ∧ Lim W0 (.slice a xs.length cap) xs := by
    have b1 := Boxed.new w 85 (.slice a xs.length cap)
    have b2 := builder_new (w.alloc (.cells #[.slice a xs.length cap] 85)) 123 5
    have b3 := Boxed.new ((w.alloc (.cells #[.slice a xs.length cap] 85)).alloc (.cells #[.pointer none, .slice none 0 0] 123)) 85 (.slice a xs.length cap)
    have hB0 : Below w.heap.size w (((w.alloc (.cells #[.slice a xs.length cap] 85)).alloc (.cells #[.pointer none, .slice none 0 0] 123)).alloc (.cells #[.slice a xs.length cap] 85)) :=
      (((Below.refl _ w).alloc (Nat.le_refl _) _).alloc (by simp) _).alloc (by simp; omega) _
    have hk3 : CellsKept ((w.alloc (.cells #[.slice a xs.length cap] 85)).alloc (.cells #[.pointer none, .slice none 0 0] 123)) (((w.alloc (.cells #[.slice a xs.length cap] 85)).alloc (.cells #[.pointer none, .slice none 0 0] 123)).alloc (.cells #[.slice a xs.length cap] 85)) := CellsKept.below (below_alloc _ _)
    simp only [World.size_alloc, Nat.add_assoc, Nat.reduceAdd] at b2 b3
    exact ⟨_, rfl, by simp, ⟨(b1.alloc _).alloc _, hk3.builder b2, b3, hB0, by simp⟩, b3.cell, ((hL.below (below_alloc w _)).below (below_alloc _ _)).below (below_alloc _ _)⟩
  rw [hW0]
  clear hW0
  refine rangeOver (gf := 115) (lb := #[.pointer (some ⟨w.heap.size + 1 + 1, 0, none⟩)]) rfl (enters_of Tryz.func115 (by kernel_rfl) rfl)
    (back_iter (w.heap.size + 2) (.slice a xs.length cap) xs W0 hL0 hc0 (by omega)) (Below.refl _ _) (fun _ => rfl)
    (fun A B e => by subst e; exact ⟨Nat.le_refl _, fun _ _ _ h _ => h⟩) (fun h k => h.trans k)
    (fun W l o o' hl h _ _ => KeptAt.putObj W l o' (notKB hv (by omega) (by omega)))
    (ownFrom_pure _ _) (ownFrom_pure _ _)
    (TextInv w (.slice a xs.length cap) xs) (fun _ _ _ => False) (by rw [hsz0]; exact textInv_own w _ xs) (fun _ _ _ _ _ hs _ _ => hs) (fun s A B h e => by subst e; exact h) (fun _ _ _ _ h _ => h) hI0
    (fun x a' _ => a' = { tmps := #[.slice a xs.length cap, .pointer (some ⟨w.heap.size, 0, none⟩), .string ⟨#[]⟩, .pointer (some ⟨w.heap.size + 1, 0, none⟩), .int .i64 (x.1 : Nat), .int .u32 (x.2 : Nat), undef,
      .slice a xs.length cap, .int .i64 xs.length, .bool false, .slice a xs.length cap, .func (.func 115) #[] #[.pointer (some ⟨w.heap.size + 1 + 1, 0, none⟩)], .int .i64 (x.1 : Nat), .int .u32 (x.2 : Nat), undef, undef, undef, undef, undef, undef, undef, undef, undef, undef, undef, undef, undef, undef, undef, undef], defers := [] })
    (fun _ _ _ _ _ _ hs _ _ => hs) ?assign ?body ?done ?stop
  case assign =>
    intro l pre x W K hi hok hK
    unfold encB
    gi_wp2
    exact hK _ _ (KeepsFrom.refl _ _) (KeptAt.refl _ _) hi rfl
  case body =>
    rintro l pre ⟨i, y⟩ a' W hl hinv rfl ⟨hx1, hx2⟩
    have hxy : y < 1000000000 := by rw [show y = xs[i]?.getD 0 from hx2]; exact hg i
    have hstep := txt_step (i := i) (k := pre.length) hg htop (by simpa using hx1)
    rw [← show y = xs[i]?.getD 0 from hx2] at hstep
    have hlt := txt_len hg pre.length (by simp at hx1; omega)
    have hTW := hT.below hinv.2.2.2.1
    have hsy : (Lib.decDigits y).length ≤ 9 ∧ 1 ≤ (Lib.decDigits y).length := by
      rw [Lib.decDigits_length]
      exact ⟨by have := nDigits_unique_le hxy; omega, Lib.nDigits_pos y⟩
    obtain ⟨sy, hsy1⟩ : ∃ sy : ByteArray, (⟨(Lib.decDigits y).toArray⟩ : ByteArray) = sy := ⟨_, rfl⟩
    have hsz : sy.size = (Lib.decDigits y).length := by rw [← hsy1]; simp [ByteArray.size]
    have hsd : sy.data.toList = Lib.decDigits y := by rw [← hsy1]
    have hF := formatUint y (by omega) W hTW
    rw [hsy1] at hF
    have hend := fun (W' : World) bs => text_end (x := (i, y)) (W' := W') (bs := bs) hinv hv
    obtain ⟨h1, h2, h3, h4, h5⟩ := hinv
    have hc1 := h1.cell
    have hx1' : i + pre.length + 1 = xs.length := hx1
    have hsy9 : sy.size ≤ 9 := by omega
    have hyI : ((y : Nat) : Int) < 4294967296 := by omega
    have HX := hid (And.intro hstep (And.intro hsz (And.intro hsd (And.intro hx1' hend))))
    clear hstep hsz hsd hsy1 hx2 hx1 hsy hend
    by_cases hp : pre.length = 0
    · have hi2 : decide ((i : Int) < (xs.length : Int) - 1) = false := by simp; omega
      have HP := hid hp
      clear hp hx1'
      gi_wp2_with fail
      refine callR hF ?_
      rintro e w1 ⟨rfl, hb1⟩
      have hk1 := CellsKept.below hb1
      have hc1' := (hk1.boxed h1).cell
      have hB1 := hk1.builder h2
      have hsz1 := hb1.size
      gi_wp2_with fail
      refine callR (Tryz.Builder_WriteString_k _ _ _ sy _ hB1 (by rw [Lib.byteCells_length]; omega) (by omega)) ?_
      rintro e w2 ⟨rfl, hB2, hb2, ho2⟩
      gi_wp2
      obtain ⟨hstep, hsz, hsd, hx1, hend⟩ := HX.out
      obtain ⟨f1, f2, f3⟩ := hend w2 _ ((Wrote.of_below hb1 (by omega)).trans ⟨hb2, ho2⟩) (.inr hB2) (by rw [hstep, if_pos HP.out, Lib.byteCells_append, Lib.strCells_eq, hsd]; rfl)
      exact ⟨f1 _, f2, f3⟩
    · have hi2 : ((i : Int) < (xs.length : Int) - 1) := by omega
      have HP := hid hp
      clear hp hx1'
      gi_wp2_with fail
      refine callR hF ?_
      rintro e w1 ⟨rfl, hb1⟩
      have hk1 := CellsKept.below hb1
      have hc1' := (hk1.boxed h1).cell
      have hB1 := hk1.builder h2
      have hsz1 := hb1.size
      gi_wp2_with fail
      rw [show (9 : Int) - (sy.size : Int) = ((9 - sy.size : Nat) : Int) from by omega]
      refine callR (Tryz.strings_Repeat ⟨#[48]⟩ (9 - sy.size) w1 (by omega) (by show 1 * (9 - sy.size) ≤ _; omega)) ?_
      rintro e w2 ⟨rfl, hb2⟩
      have hk2 := CellsKept.below hb2
      have hB2 := hk2.builder hB1
      have hsz2 := hb2.size
      obtain ⟨z, hz1⟩ : ∃ z : ByteArray, (⟨(Lib.repeatL (⟨#[48]⟩ : ByteArray).data.toList (9 - sy.size)).toArray⟩ : ByteArray) = z := ⟨_, rfl⟩
      have hzd : z.data.toList = List.replicate (9 - sy.size) 48 := by rw [← hz1]; simpa using Lib.repeatL_replicate 48 1 (9 - sy.size)
      have hzs : z.size ≤ 9 := by rw [← len_str, hzd, List.length_replicate]; omega
      rw [hz1]
      clear hz1
      have HZ := hid hzd
      clear hzd
      gi_wp2_with fail
      refine callR (Tryz.Builder_WriteString_k _ _ _ z _ hB2 (by rw [Lib.byteCells_length]; omega) (by omega)) ?_
      rintro e w3 ⟨rfl, hB3, hb3, ho3⟩
      have hsz3 := hb3.size
      gi_wp2_with fail
      refine callR (Tryz.Builder_WriteString_k _ _ _ sy _ (.inr hB3) (by rw [List.length_append, Lib.byteCells_length, Lib.strCells_length]; omega) (by omega)) ?_
      rintro e w4 ⟨rfl, hB4, hb4, ho4⟩
      gi_wp2
      obtain ⟨hstep, hsz, hsd, hx1, hend⟩ := HX.out
      obtain ⟨f1, f2, f3⟩ := hend w4 _ ((((Wrote.of_below hb1 (by omega)).trans (Wrote.of_below hb2 (by omega))).trans ⟨hb3, ho3⟩).trans ⟨hb4, ho4⟩) (.inr hB4)
        (by rw [hstep, if_neg HP.out, Lib.byteCells_append, Lib.byteCells_append, Lib.strCells_eq, Lib.strCells_eq, hsd, HZ.out, hsz, List.append_assoc])
      exact ⟨f1 _, f2, f3⟩
  case done =>
    rintro D ys W hD hlen ⟨h1, h2, h3, h4, h5⟩ hK
    have hfin : txt xs ys.length = Lib.decDigits (val xs) := by
      rw [show ys.length = xs.length from hlen]
      unfold txt
      rw [if_neg hlen0, Nat.sub_self]
      rfl
    rw [hfin] at h2
    have hfin' := hid hfin
    clear hfin hlen
    gi_wp2_with fail
    refine callW (Tryz.Builder_String_any_k _ _ _ _ h2 (by omega)) ?_
    rintro e w1 ⟨rfl, hB1, hb1, ho1⟩
    gi_wp2
    have hKD : w1.heap[D]? = some (.deferred (some [])) := ho1 D _ hK (by simp; omega) (fun _ _ e => by cases e)
    refine ⟨by simp, .inl ⟨_, _, rfl, run_takeDeferred hKD, ?_⟩⟩
    exact ⟨_, results_tmp rfl _ _ _, rfl, (h4.trans (hb1.mono (by omega))).trans (belowK_b (w := w) (Nat.le_refl _) w1 D _ _ (by omega) hKD rfl rfl)⟩
  case stop =>
    rintro D c pre W _ _ h _
    exact h.elim
end Go.Proofs.YtfobaeoccpebeaaGreatDoor

/- Package nat: text, ends, compare, div. -/
namespace Go.Proofs.YtfobaeoccpebeaaGreatDoor
open Go.RowKit Go.Shelf
attribute [local go_sem] Oper.semAt_some

set_option maxRecDepth 100000 in
theorem text_nil (a : Option Addr) (cap : Nat) (w : World) :
    Calls Tryz.prog 84 #[.slice a 0 cap] w fun e w' => e = .returned (.string ⟨#[48]⟩) ∧ Below w.heap.size w w' := by
  go_enter Tryz.func84, Tryz.ntmps84
  go_wp2
  go_ret
  exact ⟨rfl, below_alloc _ _⟩

/-- text: the digits of a number's limbs. -/
theorem text_calls (v : Value) (n : Nat) (hmax : (lim n).length ≤ 1000000) (w : World) (hT : Tabs w) (hL : Lim w v (lim n)) :
    Calls Tryz.prog 84 #[v] w fun e w' => e = .returned (.string ⟨(Lib.decDigits n).toArray⟩) ∧ Below w.heap.size w w' := by
  have hL' := hL
  obtain ⟨a, cap, rfl, h2, h3, h4⟩ := hL
  by_cases h0 : n = 0
  · subst h0
    rw [show (lim 0).length = 0 by rw [lim_zero]; rfl, dec_small (by omega)]
    exact text_nil a cap w
  · have h := text_some a cap (lim n) (fun e => h0 (lim_eq_nil.1 e)) (lim_grp n) (fun k hk => lim_last hk) hmax w hT hL'
    rwa [val_lim] at h


set_option maxRecDepth 100000 in
theorem ends_calls (v : Value) (xs : List Nat) (hg : Grp xs) (hmax : (lim (val xs)).length ≤ 1000000) (w : World) (hT : Tabs w) (hL : Lim w v xs) :
    Calls Tryz.prog 62 #[v] w fun e w' => e = .returned (.tuple #[.string ⟨(fitS (val xs)).toArray⟩, .int .i64 (fitE (val xs))]) ∧ Below w.heap.size w w' := by
  obtain ⟨sy, hsy⟩ : ∃ sy : ByteArray, (⟨(Lib.decDigits (val xs)).toArray⟩ : ByteArray) = sy := ⟨_, rfl⟩
  have hsz : sy.size = Lib.nDigits (val xs) := by rw [← hsy, ← Lib.decDigits_length]; simp [ByteArray.size]
  have htext : ∀ v', Lim w v' (lim (val xs)) → Calls Tryz.prog 84 #[v'] w fun e w' => e = .returned (.string sy) ∧ Below w.heap.size w w' := fun v' h => by
    rw [← hsy]; exact text_calls v' (val xs) hmax w hT h
  have htrim := trim_calls v xs hg w hL
  by_cases h : Lib.nDigits (val xs) ≤ 400
  · have hf : Hid (fitS (val xs) = Lib.decDigits (val xs) ∧ fitE (val xs) = 0 ∧ (⟨(Lib.decDigits (val xs)).toArray⟩ : ByteArray) = sy) := ⟨if_pos h, if_pos h, hsy⟩
    have hle : ¬ (400 : Int) < (sy.size : Int) := by omega
    clear hsy hsz h
    go_enter Tryz.func62, Tryz.ntmps62
    go_wp2_with fail
    refine htrim.mono ?_
    rintro e w' ⟨⟨v', rfl, hv'⟩, rfl⟩
    go_wp2_with fail
    refine (htext v' hv').mono ?_
    rintro e w' ⟨rfl, hb⟩
    go_wp2
    go_ret2
    exact ⟨ret_val (by rw [hf.out.1, hf.out.2.1, hf.out.2.2]; rfl), hb⟩
  · have hf : Hid (fitS (val xs) = [] ∧ fitE (val xs) = 11) := ⟨if_neg h, if_neg h⟩
    have hle : (400 : Int) < (sy.size : Int) := by omega
    clear hsy hsz h
    go_enter Tryz.func62, Tryz.ntmps62
    go_wp2_with fail
    refine htrim.mono ?_
    rintro e w' ⟨⟨v', rfl, hv'⟩, rfl⟩
    go_wp2_with fail
    refine (htext v' hv').mono ?_
    rintro e w' ⟨rfl, hb⟩
    go_wp2
    go_ret2
    exact ⟨ret_val (by rw [hf.out.1, hf.out.2]; rfl), hb⟩

end Go.Proofs.YtfobaeoccpebeaaGreatDoor

/- In a round of a range over a function: a region whose operations only read but for a forced tail, walked once, in the order of the text. -/
namespace Go.Proofs.YtfobaeoccpebeaaGreatDoor
open Go Go.RowKit

variable {P : Program} {l n : Nat}

def noDefer (ops : Array Oper) : Bool := ops.all fun o => match o.op with
  | .defer _ => false
  | _ => true

theorem noDefer_spec {ops : Array Oper} (h : noDefer ops = true) {i : Nat} {o : Oper} (hi : ops[i]? = some o) : ∀ c, o.op ≠ .defer c := by
  intro c e
  have := Array.all_eq_true'.1 h o (Array.mem_of_getElem? hi)
  rw [e] at this
  cases this

theorem opIn_of {o : Oper} {a : Act} {w : World} {K : Act → World → Prop} {Q : Exit → Act → World → Prop} (hd : ∀ c, o.op ≠ .defer c) (h : o.wp P a w K Q) : o.wpIn (Fence.wide.inRound l) n P a w K Q := by
  refine ⟨fun _ _ => trivial, ?_⟩
  rw [Oper.semAt_plain _ _ _ hd]
  unfold Oper.wp at h
  generalize (execOp a.eval o).run P w = r at *
  match r, h with
  | .ok (.value v) w', h => exact h
  | .ok .skip w', h => exact h
  | .ok (.defer d) w', h => exact h
  | .ok (.enter f args) w', h => exact ⟨fun e => by simp [Fence.wide] at e, CallsIn.inRound l (callsIn_wide.2 h)⟩
  | .ok (.row row args) w', h => exact ⟨fun e => by simp [Fence.wide] at e, fun c cs _ => let ⟨v, w'', r, s⟩ := h c cs; ⟨v, w'', r, stepsIn_wide.2 s⟩⟩
  | .ok (.round _ _ _ _ _) w', h => exact h.elim
  | .halt (.panic v) w', h => exact h

theorem wpOpIn_of {ops : Array Oper} {Q : Exit → Act → World → Prop} {i : Nat} {K : Act → World → Prop} {a : Act} {w : World} (hQ : ¬ LetsOut Q) (hd : noDefer ops = true) (h : wpOp P ops Q i K a w) : wpOpIn (Fence.wide.inRound l) n P ops Q i K a w := by
  unfold wpOp at h
  unfold wpOpIn
  cases hi : ops[i]? with
  | none => rw [hi] at h; exact h
  | some o =>
    rw [hi] at h
    simp only at h ⊢
    split
    · rename_i hw
      rw [if_pos hw] at h
      rcases h with h | ⟨_, h⟩
      · exact opIn_of (noDefer_spec hd hi) h
      · exact absurd h hQ
    · rename_i hw
      rw [if_neg hw] at h
      exact ⟨fun _ _ => trivial, h⟩

theorem wpAnyIn_of {md : Region.Mode} {ops : Array Oper} {Q : Exit → Act → World → Prop} (hQ : ¬ LetsOut Q) (hd : noDefer ops = true) : ∀ (f : Nat) (listed : Array Bool) (a : Act) (w : World), wpAny P md ops Q f listed a w → wpAnyIn (Fence.wide.inRound l) n P md ops Q f listed a w
  | 0, _, _, _, h => h
  | f + 1, _listed, _a, _w, h => ⟨h.1, fun i hi => wpOpIn_of hQ hd (wpOp_mono (fun a' w' h' => wpAnyIn_of hQ hd f _ a' w' h') (h.2 i hi))⟩

theorem regionIn_tail {id : Nat} {Q : Exit → Act → World → Prop} {a : Act} {w : World} {L : List Oper} (k : Nat) (hQ : ¬ LetsOut Q) (hd : noDefer L.toArray = true) (hm : P.follows .mixedOrders = true) (hB : Region.lexTailB .any L.toArray k = true)
    (h : wpStill P L.toArray w.drew (fun a' => wpList P L.toArray Q (L.drop k) a' w.drew) (L.take k) a) : (Code.region id L.toArray true).wpIn (Fence.wide.inRound l) n P Q a w := by
  simp only [Region.lexTailB, Bool.and_eq_true, decide_eq_true_eq] at hB
  obtain ⟨⟨⟨⟨hsel, hn⟩, hs⟩, hc⟩, hlex⟩ := hB
  have hn' : k < L.length := by simpa using hn
  have htl : (L.take k).length = k := by simp; omega
  have hdl : (L.drop k).length = L.toArray.size - k := by simp
  have inv0 : HeadInv .any L.toArray k (Array.replicate L.toArray.size false) :=
    ⟨by simp, fun j oj _ hl => (by rw [getD_replicate_false] at hl; cases hl), fun t _ ht => getD_in (by simpa using ht) (getD_replicate_false _ _)⟩
  have H := wpAnyL_lex (md := .any) (g := L.toArray.size - k) hsel hs hc hn (L.take k) 0 _ a (fun j hj => by
    have hj' : j < k := by rw [htl] at hj; exact hj
    simp [hj']) (by simpa using htl) inv0 (by rw [htl]; exact hlex) h
  refine wpIn_region_any hm ?_
  have := wpAny_of_head (Q' := Q) (g := L.toArray.size - k) (fun listed a' hL => by
    have := wpAny_of_seq (md := .any) (Q' := Q) (L.drop k) k listed a' w.drew (fun j => by simp [List.getElem?_drop]) (by rw [hdl]; exact hL.1) hL.2
    rwa [hdl] at this) _ _ _ H
  rw [htl, show k + (L.toArray.size - k) = L.toArray.size by omega] at this
  exact wpAnyIn_of hQ hd _ _ _ _ this

/-- a round's body cannot run out of memory. -/
theorem noOut_over {α : Type} {B : Nat} {Kp : World → World → Prop} {I : List α → World → Prop} {Ix : Code → List α → World → Prop} {xs : List α} {W : World} : ¬ LetsOut (overPost B Kp I Ix xs W) := by
  rintro ⟨a, w, h⟩
  exact h
end Go.Proofs.YtfobaeoccpebeaaGreatDoor

/- Package nat: div. -/
namespace Go.Proofs.YtfobaeoccpebeaaGreatDoor
open Go.RowKit Go.Shelf
attribute [local go_sem] Oper.semAt_some

theorem Lim.kept {A B : World} {v : Value} {xs : List Nat} (h : Lim A v xs) (hk : CellsKept A B) (hs : A.heap.size ≤ B.heap.size) : Lim B v xs := by
  obtain ⟨a, cap, h1, h2, h3, h4⟩ := h
  refine ⟨a, cap, h1, h2, ⟨h3.1, fun k hk' => let ⟨c, fz, e⟩ := h3.2 k hk'; ⟨c, fz, hk _ _ _ _ e⟩⟩, fun hne => ?_⟩
  obtain ⟨b, off, e1, e2, e3⟩ := h4 hne
  exact ⟨b, off, e1, Nat.lt_of_lt_of_le e2 hs, fun j hj => hk.cell (e3 j hj)⟩

/-- an append to another slice, of another type, leaves it. -/
theorem Lim.grown {A B : World} {v u : Value} {xs : List Nat} {base : Nat} {e : TypeId} {n : Nat} {ys : List Value} (h : Lim A v xs) (hg : A.grownBy B u.ownBlock) (hu : A.ownsRow base e 1 u n ys) (hne : e ≠ 52) : Lim B v xs := by
  have key : ∀ k, v.ownBlock = some k → B.heap[k]? = A.heap[k]? := fun k hk => by
    obtain ⟨c, fz, e1⟩ := h.typed k hk
    refine hg.block k (Array.getElem?_eq_some_iff.1 e1).1 fun e2 => ?_
    rcases hu.2 with ⟨rfl, _⟩ | ⟨g, cap, cur, rfl, _, hgg, _⟩
    · simp [Value.ownBlock] at e2
    · obtain rfl : k = g := by simpa [Value.ownBlock] using e2
      rw [hgg] at e1
      cases e1
      exact hne rfl
  obtain ⟨a, cap, h1, h2, h3, h4⟩ := h
  refine ⟨a, cap, h1, h2, ⟨h3.1, fun k hk => let ⟨c, fz, e1⟩ := h3.2 k hk; ⟨c, fz, (key k hk).trans e1⟩⟩, fun hne => ?_⟩
  obtain ⟨b, off, e1, e2, e3⟩ := h4 hne
  exact ⟨b, off, e1, Nat.lt_of_lt_of_le e2 hg.size, fun j hj => (World.cell?_of_block (w := A) (key b (by rw [h1, e1]; rfl))).trans (e3 j hj)⟩

theorem made_zeros (n : Nat) : (madeCells #[Value.int .u32 0] n).toList = (List.replicate n 0).map fun x => Value.int .u32 (x : Nat) := by
  apply List.ext_getElem
  · simp [madeCells]
  · intro i h1 h2
    simp [madeCells, Nat.mod_one]

/-- THE PLAIN LAW OF A STEP: from the top, the quotient so far, and the rest. -/
theorem div_step {xs ys : List Nat} {i r by' : Nat} (hi : i < xs.length) (hl : ys.length = xs.length) (_hb : 0 < by') (h : val (xs.drop (i + 1)) = by' * val (ys.drop (i + 1)) + r) :
    val (xs.drop i) = by' * val ((ys.set i ((r * 1000000000 + xs[i]?.getD 0) / by')).drop i) + (r * 1000000000 + xs[i]?.getD 0) % by' := by
  have h1 : xs.drop i = xs[i]?.getD 0 :: xs.drop (i + 1) := by
    rw [List.getElem?_eq_getElem hi, Option.getD_some, List.drop_eq_getElem_cons hi]
  have h2 : ∀ q, (ys.set i q).drop i = q :: ys.drop (i + 1) := fun q => by
    rw [List.drop_eq_getElem_cons (by simpa using hl ▸ hi), List.getElem_set_self, List.drop_set_of_lt (by omega)]
  rw [h1, h2, val, val, h]
  have := Nat.div_add_mod (r * 1000000000 + xs[i]?.getD 0) by'
  generalize (r * 1000000000 + xs[i]?.getD 0) / by' = q at *
  generalize (r * 1000000000 + xs[i]?.getD 0) % by' = r' at *
  generalize val (ys.drop (i + 1)) = v at *
  rw [Nat.mul_add, Nat.mul_add, ← Nat.mul_assoc by' 1000000000 v, Nat.mul_comm by' 1000000000, Nat.mul_assoc]
  omega

theorem div_small {r y by' : Nat} (hb : 0 < by') (hr : r < by') (hy : y < 1000000000) : (r * 1000000000 + y) / by' < 1000000000 := by
  rw [Nat.div_lt_iff_lt_mul hb]
  have : (r + 1) * 1000000000 ≤ by' * 1000000000 := Nat.mul_le_mul_right _ hr
  omega

def DivInv (w : World) (N : Nat) (v : Value) (xs : List Nat) (by' : Nat) (pre : List (Nat × Nat)) (W : World) : Prop :=
  ∃ (ys : List Nat) (r : Nat), Boxed W w.heap.size 52 (.int .u32 by') ∧ RowN W (w.heap.size + 1) 52 .u32 ys ∧ Boxed W N 85 (.slice (some ⟨w.heap.size + 1, 0, none⟩) xs.length xs.length) ∧
    Boxed W (N + 1) 22 (.int .u64 r) ∧ Boxed W (N + 2) 85 v ∧ Below w.heap.size w W ∧ N + 3 ≤ W.heap.size ∧
    ys.length = xs.length ∧ Grp ys ∧ r < by' ∧ val (xs.drop (xs.length - pre.length)) = by' * val (ys.drop (xs.length - pre.length)) + r

theorem divInv_own (w : World) (N : Nat) (hN : w.heap.size + 2 ≤ N) (v : Value) (xs : List Nat) (by' : Nat) : OwnFrom (N + 3) (DivInv w N v xs by') :=
  ownFrom_of (fun s W W' ⟨ys, r, h1, h2, h3, h4, h5, h6, h7, h8⟩ hk hb => ⟨ys, r, hk.boxed h1, hk.row h2, hk.boxed h3, hk.boxed h4, hk.boxed h5, h6.trans (hb.mono (by omega)), Nat.le_trans h7 hb.size, h8⟩) (fun s W ⟨_, _, h⟩ => h.2.2.2.2.2.2.1)

set_option maxRecDepth 100000 in
set_option maxHeartbeats 4000000 in
theorem div_some (a : Option Addr) (cap : Nat) (xs : List Nat) (hg : Grp xs) (by' : Nat) (w : World) (hlen : xs.length ≤ 1000000) (h1 : 0 < by') (h2 : by' < 4294967296) (hL : Lim w (.slice a xs.length cap) xs) :
    Calls Tryz.prog 89 #[.slice a xs.length cap, .int .u32 by'] w fun e w' => ∃ v', e = .returned (.tuple #[v', .int .u32 (val xs % by' : Nat)]) ∧ Lim w' v' (lim (val xs / by')) ∧ Below w.heap.size w w' := by
  obtain ⟨i0, hi, hz0, hz1, hz2⟩ := info_parts info_u32
  have hv : ∀ k, (Value.slice a xs.length cap).ownBlock = some k → k < w.heap.size := hL.own
  refine calls_marks Tryz.func89 rfl ?_
  simp only [Tryz.ntmps89, List.size_toArray, List.length_cons, List.length_nil, Nat.reduceAdd, Nat.reduceSub, Array.replicate_succ, Array.replicate_zero, List.push_toArray, List.append_toArray, List.nil_append, List.cons_append]
  go_wp2_with (at_make; refine wpList_make_full _ rfl (.tmp 11) (.tmp 11) 85 rfl w.heap.size 52 i0 (.int .u32 0) 1 Tryz.underlying85 hi hz0 hz1 .i64 .i64 _ _ xs.length rfl rfl rfl rfl (by rw [hz2]; omega) (by simp only [maxLen]; omega) (by simp) ?_)
  intro w1 hown hgrow
  have hrow : RowN w1 (w.heap.size + 1) 52 .u32 (List.replicate xs.length 0) := row_of_owns hown (made_zeros _)
  have hN : w.heap.size + 2 ≤ w1.heap.size := hrow.lt
  have hB1 : Below w.heap.size w w1 := ((Below.refl _ w).alloc (Nat.le_refl _) _).grown hgrow (by simp) (fun _ e => by cases e)
  have hby : Boxed w1 w.heap.size 52 (.int .u32 by') := (Boxed.new w _ _).kept hgrow (by simp)
  clear hown hgrow hi hz0 hz1 hz2
  go_wp2_with (go_at_call 96; refine (back_calls _ _ _ _).mono ?_; rintro e w' ⟨rfl, rfl⟩)
  obtain ⟨W0, hW0, hsz0, hI0, hc0, hL0⟩ : ∃ W0, (((w1.alloc (.cells #[.slice (some ⟨w.heap.size + 1, 0, none⟩) xs.length xs.length] 85)).alloc (.cells #[.int .u64 0] 22)).alloc (.cells #[.slice a xs.length cap] 85)) = W0 ∧
      W0.heap.size = w1.heap.size + 3 ∧ DivInv w w1.heap.size (.slice a xs.length cap) xs by' [] W0 ∧ W0.cell? ⟨w1.heap.size + 2, 0, none⟩ = some (.slice a xs.length cap) ∧ Lim W0 (.slice a xs.length cap) xs := by
    have b1 := Boxed.new w1 85 (.slice (some ⟨w.heap.size + 1, 0, none⟩) xs.length xs.length)
    have b2 := Boxed.new (w1.alloc (.cells #[.slice (some ⟨w.heap.size + 1, 0, none⟩) xs.length xs.length] 85)) 22 (.int .u64 0)
    have b3 := Boxed.new ((w1.alloc (.cells #[.slice (some ⟨w.heap.size + 1, 0, none⟩) xs.length xs.length] 85)).alloc (.cells #[.int .u64 0] 22)) 85 (.slice a xs.length cap)
    have hB : Below w1.heap.size w1 (((w1.alloc (.cells #[.slice (some ⟨w.heap.size + 1, 0, none⟩) xs.length xs.length] 85)).alloc (.cells #[.int .u64 0] 22)).alloc (.cells #[.slice a xs.length cap] 85)) :=
      (((Below.refl _ w1).alloc (Nat.le_refl _) _).alloc (by simp) _).alloc (by simp; omega) _
    have hk := CellsKept.below hB
    simp only [World.size_alloc, Nat.add_assoc, Nat.reduceAdd] at b2 b3
    refine ⟨_, rfl, by simp, ⟨_, 0, hk.boxed hby, hk.row hrow, (b1.alloc _).alloc _, b2.alloc _, b3, hB1.trans (hB.mono (by omega)), by simp, by simp, Grp.replicate _, h1, ?_⟩, b3.cell, (hL.below hB1).below hB⟩
    rw [List.length_nil, Nat.sub_zero, List.drop_of_length_le (by simp), List.drop_of_length_le (by simp)]
    simp [val]
  rw [hW0]
  clear hW0
  refine rangeOverP (gf := 115) (lb := #[.pointer (some ⟨w1.heap.size + 1 + 1, 0, none⟩)]) rfl (enters_of Tryz.func115 (by kernel_rfl) rfl)
    (back_iter (w1.heap.size + 2) (.slice a xs.length cap) xs W0 hL0 hc0 (by omega)) (Below.refl _ _) (fun _ => rfl)
    (fun A B e => by subst e; exact ⟨Nat.le_refl _, fun _ _ _ h _ => h⟩) (fun h k => h.trans k)
    (fun W l o o' hl h _ _ => KeptAt.putObj W l o' (notKB hv (by omega) (by omega)))
    (ownFrom_pure _ _) (ownFrom_pure _ _)
    (DivInv w w1.heap.size (.slice a xs.length cap) xs by') (fun _ _ _ => False) (by rw [hsz0]; exact divInv_own w _ hN _ xs by') (fun _ _ _ _ _ hs _ _ => hs) (fun s A B h e => by subst e; exact h) (fun _ _ _ _ h _ => h) hI0
    (fun x a' _ => a' = { tmps := #[.slice a xs.length cap, .int .u32 by', undef, .pointer (some ⟨w.heap.size, 0, none⟩), .slice none 0 0, .int .u32 0, .pointer (some ⟨w1.heap.size, 0, none⟩), .pointer (some ⟨w1.heap.size + 1, 0, none⟩),
      .int .i64 (x.1 : Nat), .int .u32 (x.2 : Nat), .slice a xs.length cap, .int .i64 xs.length, .slice (some ⟨w.heap.size + 1, 0, none⟩) xs.length xs.length, .slice a xs.length cap, .func (.func 115) #[] #[.pointer (some ⟨w1.heap.size + 1 + 1, 0, none⟩)],
      .int .i64 (x.1 : Nat), .int .u32 (x.2 : Nat), undef, undef, undef, undef, undef, undef, undef, undef, undef, undef, undef, undef, undef, undef, undef, undef, undef, undef, undef, undef, undef], defers := [] })
    (fun _ _ _ _ _ _ hs _ _ => hs) ?assign ?body ?done ?stop
  case assign =>
    intro l pre x W K hi hok hK
    unfold encB
    gi_wp2
    exact hK _ _ (KeepsFrom.refl _ _) (KeptAt.refl _ _) hi rfl
  case body =>
    rintro l pre ⟨i, y⟩ a' W hl ⟨ys, r, f1, f2, f3, f4, f5, f6, f7, hyl, hyg, hr, hval⟩ rfl ⟨hx1, hx2⟩
    have hmx : Tryz.prog.follows .mixedOrders = true := by kernel_rfl
    have hx1' : i + pre.length + 1 = xs.length := hx1
    have hxy : y < 1000000000 := by rw [show y = xs[i]?.getD 0 from hx2]; exact hg i
    have hq := div_small h1 hr hxy
    have hc1 := f1.cell
    have hc3 := f3.cell
    have hc4 := f4.cell
    have hz4 := f4.frozen
    have hcr := f2.cell (j := i) (by omega)
    have hzr := f2.frozen i
    have hil : i < xs.length := by omega
    have HX := hid (And.intro hval (And.intro hx1' hx2))
    have f7' := f7
    have hyl' := hyl
    have hyg' := hyg
    clear hval hx1' hx2 hx1
    gi_wp2
    rw [show ((r : Int) * 1000000000 + (y : Int)) = ((r * 1000000000 + y : Nat) : Int) from by omega]
    obtain ⟨m, hm⟩ : ∃ m, r * 1000000000 + y = m := ⟨_, rfl⟩
    rw [hm] at hq ⊢
    have g1 := boxed_other (off := 0) f1 (b := w1.heap.size + 1) (by omega) (.int .u64 (m : Nat))
    have g2 := f2.other (off := 0) (b := w1.heap.size + 1) (by omega) (.int .u64 (m : Nat))
    have g3 := boxed_other (off := 0) f3 (b := w1.heap.size + 1) (by omega) (.int .u64 (m : Nat))
    have g4 := f4.set (.int .u64 (m : Nat))
    have g5 := boxed_other (off := 0) f5 (b := w1.heap.size + 1) (by omega) (.int .u64 (m : Nat))
    have g6 : Below w.heap.size w (W.setCell ⟨w1.heap.size + 1, 0, none⟩ (.int .u64 (m : Nat))) := f6.setCell (by show _ ≤ w1.heap.size + 1; omega) _
    have gk := KeptAt.setCell (K := KB (w1.heap.size + 2) (.slice a xs.length cap)) W ⟨w1.heap.size + 1, 0, none⟩ (.int .u64 (m : Nat)) (notKB hv (by show w1.heap.size + 1 ≠ _; omega) (by show _ ≤ w1.heap.size + 1; omega))
    have go := KeepsOthers.setCell W ⟨w1.heap.size + 1, 0, none⟩ (.int .u64 (m : Nat))
    have g7 : w1.heap.size + 3 ≤ (W.setCell ⟨w1.heap.size + 1, 0, none⟩ (.int .u64 (m : Nat))).heap.size := Nat.le_trans f7 go.size
    generalize W.setCell ⟨w1.heap.size + 1, 0, none⟩ (.int .u64 (m : Nat)) = W2 at *
    clear hc1 hc3 hc4 hz4 hcr hzr f1 f2 f3 f4 f5 f6 f7
    have hc1 := g1.cell
    have hc3 := g3.cell
    have hc4 := g4.cell
    have hz4 := g4.frozen
    have hcr := g2.cell (j := i) (by omega)
    have hzr := g2.frozen i
    obtain ⟨q, hqe⟩ : ∃ q, m / by' = q := ⟨_, rfl⟩
    obtain ⟨r', hre⟩ : ∃ r', m % by' = r' := ⟨_, rfl⟩
    obtain ⟨q1, q2, q3⟩ := quo_forms h1 (by omega) hqe
    obtain ⟨q4, q5⟩ := rem_forms hre
    have hr' : r' < 4294967296 := by have := Nat.mod_lt m h1; omega
    rw [hqe] at hq
    have HM := hid (And.intro hm (And.intro hqe hre))
    clear hm hqe hre
    have hwb : IntKind.u64.wrap (by' : Int) = (by' : Int) := IntWalk.u64_in _ (by omega)
    have hwq : IntKind.u32.wrap (q : Int) = (q : Int) := IntWalk.u32_in _ (by omega)
    have hwr : IntKind.u32.wrap (r' : Int) = (r' : Int) := IntWalk.u32_in _ (by omega)
    have HG := hid (And.intro g1 (And.intro g2 (And.intro g3 (And.intro g4 (And.intro g5 (And.intro g6 (And.intro gk go)))))))
    clear g1 g2 g3 g4 g5 g6 gk go hI0 hc0 hL0 hrow hby hB1 hlen hL hl hyl hyg
    refine regionIn_tail 8 (fun ⟨_, _, h⟩ => h) (by kernel_rfl) hmx (by kernel_rfl) ?_
    simp only [List.take_succ_cons, List.take_zero, List.drop_succ_cons, List.drop_zero]
    repeat still_step
    refine wpStill_nil ?_
    go_wp2
    obtain ⟨g1, g2, g3, g4, g5, g6, gk, go⟩ := HG.out
    have e1 := boxed_other (off := i) g1 (b := w.heap.size + 1) (by omega) (.int .u32 (q : Nat))
    have e2 := g2.set i q
    have e3 := boxed_other (off := i) g3 (b := w.heap.size + 1) (by omega) (.int .u32 (q : Nat))
    have e4 := boxed_other (off := i) g4 (b := w.heap.size + 1) (by omega) (.int .u32 (q : Nat))
    have e5 := boxed_other (off := i) g5 (b := w.heap.size + 1) (by omega) (.int .u32 (q : Nat))
    have e6 : Below w.heap.size w (W2.setCell ⟨w.heap.size + 1, i, none⟩ (.int .u32 (q : Nat))).drew := (g6.setCell (by show _ ≤ w.heap.size + 1; omega) _).drew
    have ek := gk.trans (KeptAt.setCell (K := KB (w1.heap.size + 2) (.slice a xs.length cap)) W2 ⟨w.heap.size + 1, i, none⟩ (.int .u32 (q : Nat)) (notKB hv (by show w.heap.size + 1 ≠ _; omega) (by show _ ≤ w.heap.size + 1; omega)))
    have eo := (go.trans (KeepsOthers.setCell W2 ⟨w.heap.size + 1, i, none⟩ (.int .u32 (q : Nat)))).trans (KeepsOthers.drew _)
    replace e1 : Boxed (W2.setCell ⟨w.heap.size + 1, i, none⟩ (.int .u32 (q : Nat))).drew _ _ _ := e1
    replace e2 : RowN (W2.setCell ⟨w.heap.size + 1, i, none⟩ (.int .u32 (q : Nat))).drew _ _ _ _ := e2
    replace e3 : Boxed (W2.setCell ⟨w.heap.size + 1, i, none⟩ (.int .u32 (q : Nat))).drew _ _ _ := e3
    replace e4 : Boxed (W2.setCell ⟨w.heap.size + 1, i, none⟩ (.int .u32 (q : Nat))).drew _ _ _ := e4
    replace e5 : Boxed (W2.setCell ⟨w.heap.size + 1, i, none⟩ (.int .u32 (q : Nat))).drew _ _ _ := e5
    replace ek : KeptAt _ W (W2.setCell ⟨w.heap.size + 1, i, none⟩ (.int .u32 (q : Nat))).drew := ek
    clear hc1 hc3 hc4 hz4 hcr hzr g1 g2 g3 g4 g5 g6 gk go HG
    generalize (W2.setCell ⟨w.heap.size + 1, i, none⟩ (.int .u32 (q : Nat))).drew = W3 at *
    have hc1 := e1.cell
    have hc4 := e4.cell
    have hz4 := e4.frozen
    gi_wp2
    obtain ⟨hval, hx1, hx2⟩ := HX.out
    obtain ⟨hm, hqe, hre⟩ := HM.out
    have hrb : r' < by' := by rw [← hre]; exact Nat.mod_lt m h1
    refine ⟨(eo.trans (KeepsOthers.setCell _ _ _)).from _, ek.trans (KeptAt.setCell _ _ _ (notKB hv (by show w1.heap.size + 1 ≠ _; omega) (by show _ ≤ w1.heap.size + 1; omega))),
      ys.set i q, r', boxed_other e1 (by omega) _, e2.other (by omega) _, boxed_other e3 (by omega) _, e4.set _, boxed_other e5 (by omega) _, e6.setCell (by show _ ≤ w1.heap.size + 1; omega) _, Nat.le_trans f7' (eo.trans (KeepsOthers.setCell _ _ _)).size, by simpa using hyl', hyg'.set i q hq, hrb, ?_⟩
    rw [List.length_append, List.length_singleton, show xs.length - (pre.length + 1) = i from by omega]
    rw [show xs.length - pre.length = i + 1 from by omega] at hval
    have := div_step hil hyl' h1 hval
    rw [← hx2, hm, hqe, hre] at this
    exact this
  case done =>
    rintro D zs W hD hzl ⟨ys, r, f1, f2, f3, f4, f5, f6, f7, hyl, hyg, hr, hval⟩ hK
    have hmx : Tryz.prog.follows .mixedOrders = true := by kernel_rfl
    have hcap : xs.length ≤ maxLen := by simp only [maxLen]; omega
    have hLy : Lim W (.slice (some ⟨w.heap.size + 1, 0, none⟩) xs.length xs.length) ys :=
      ⟨_, _, by rw [hyl], by omega, ⟨hcap, fun k hk => by simp [Value.ownBlock] at hk; rw [← hk]; exact ⟨_, _, f2⟩⟩, fun _ => ⟨_, 0, rfl, f2.lt, fun j hj => by rw [Nat.zero_add]; exact f2.cell hj⟩⟩
    obtain ⟨v', hv', htrim⟩ := trim_at _ ys hyg W.drew hLy
    have hdm : val xs / by' = val ys ∧ val xs % by' = r := by
      rw [show zs.length = xs.length from hzl, Nat.sub_self, List.drop_zero, List.drop_zero] at hval
      rw [hval]
      exact ⟨by rw [Nat.mul_add_div h1, Nat.div_eq_of_lt hr]; omega, by rw [Nat.mul_add_mod, Nat.mod_eq_of_lt hr]⟩
    have hc3 := f3.cell
    have hc4 := f4.cell
    have hwr : IntKind.u32.wrap (r : Int) = (r : Int) := IntWalk.u32_in _ (by omega)
    have HX := hid hdm
    clear hdm hval hzl
    go_wp2
    refine wp_region_still_lit hmx (by kernel_rfl) ?_
    still_step
    still_call htrim
    repeat still_step
    refine wpStill_nil ?_
    go_wp2
    refine ⟨by simp, .inl ⟨_, _, rfl, run_takeDeferred (w := W.drew) hK, ?_⟩⟩
    have hk : CellsKept W.drew (W.drew.putObj D (.deferred none)) := CellsKept.putObj _ hK rfl
    refine ⟨_, results_tmp2 rfl _ _ _, v', ret_val (by rw [HX.out.2]; rfl), by rw [HX.out.1]; exact hv'.kept hk (by simp), f6.drew.trans (belowK_b (w := w) (Nat.le_refl _) W.drew D _ _ (by omega) hK rfl rfl)⟩
  case stop =>
    rintro D c pre W _ _ h _
    exact h.elim

theorem div_calls (v : Value) (xs : List Nat) (hg : Grp xs) (by' : Nat) (w : World) (hlen : xs.length ≤ 1000000) (h1 : 0 < by') (h2 : by' < 4294967296) (hL : Lim w v xs) :
    Calls Tryz.prog 89 #[v, .int .u32 by'] w fun e w' => ∃ v', e = .returned (.tuple #[v', .int .u32 (val xs % by' : Nat)]) ∧ Lim w' v' (lim (val xs / by')) ∧ Below w.heap.size w w' := by
  have hL' := hL
  obtain ⟨a, cap, rfl, _⟩ := hL
  exact div_some a cap xs hg by' w hlen h1 h2 hL'
end Go.Proofs.YtfobaeoccpebeaaGreatDoor

/- Package nat: compare. -/
namespace Go.Proofs.YtfobaeoccpebeaaGreatDoor
open Go.RowKit Go.Shelf
attribute [local go_sem] Oper.semAt_some

theorem val_split {xs : List Nat} {i : Nat} (hi : i < xs.length) : val xs = val (xs.take i) + 1000000000 ^ i * (xs[i]?.getD 0 + 1000000000 * val (xs.drop (i + 1))) := by
  have h : xs = xs.take i ++ (xs[i]?.getD 0 :: xs.drop (i + 1)) := by
    rw [List.getElem?_eq_getElem hi, Option.getD_some, ← List.drop_eq_getElem_cons hi, List.take_append_drop]
  have h2 := congrArg val h
  rw [val_append, val, List.length_take, Nat.min_eq_left (by omega)] at h2
  exact h2

theorem val_less {xs ys : List Nat} {i : Nat} (hg : Grp xs) (hi : i < xs.length) (hi' : i < ys.length) (hd : xs.drop (i + 1) = ys.drop (i + 1)) (h : xs[i]?.getD 0 < ys[i]?.getD 0) : val xs < val ys := by
  rw [val_split hi, val_split hi', hd]
  have h1 := val_lt (hg.take i)
  rw [List.length_take, Nat.min_eq_left (by omega)] at h1
  generalize val (ys.drop (i + 1)) = d
  have h2 : 1000000000 ^ i * (xs[i]?.getD 0 + 1000000000 * d + 1) ≤ 1000000000 ^ i * (ys[i]?.getD 0 + 1000000000 * d) := Nat.mul_le_mul_left _ (by omega)
  rw [Nat.mul_succ] at h2
  omega

theorem cmpI_cast {a b c d : Nat} (h1 : a < b ↔ c < d) (h2 : b < a ↔ d < c) : cmpI a b = cmpI c d := by
  unfold cmpI
  have h3 : ((a : Int) < (b : Int)) ↔ ((c : Int) < (d : Int)) := by omega
  have h4 : ((b : Int) < (a : Int)) ↔ ((d : Int) < (c : Int)) := by omega
  simp only [h3, h4]

/-- more limbs are more. -/
theorem lim_more {m n : Nat} (h : (lim m).length < (lim n).length) : m < n := by
  have h1 : m < 1000000000 ^ (lim m).length := lim_len.1 (Nat.le_refl _)
  have h2 : ¬ n < 1000000000 ^ (lim m).length := fun e => by
    have := lim_len.2 e
    omega
  omega

def CmpInv (w : World) (v u : Value) (xs ys : List Nat) (pre : List (Nat × Nat)) (W : World) : Prop :=
  Boxed W w.heap.size 85 v ∧ Boxed W (w.heap.size + 1) 85 u ∧ Boxed W (w.heap.size + 2) 3 (.int .i64 0) ∧ Boxed W (w.heap.size + 3) 85 v ∧ Below w.heap.size w W ∧ w.heap.size + 4 ≤ W.heap.size ∧
    xs.drop (xs.length - pre.length) = ys.drop (xs.length - pre.length)

def CmpOut (w : World) (xs ys : List Nat) (c : Code) (_ : List (Nat × Nat)) (W : World) : Prop :=
  c = .exit 0 ∧ (∃ z : Int, Boxed W (w.heap.size + 2) 3 (.int .i64 z) ∧ z = cmpI (val xs : Nat) (val ys : Nat)) ∧ Below w.heap.size w W ∧ w.heap.size + 4 ≤ W.heap.size

theorem cmpInv_own (w : World) (v u : Value) (xs ys : List Nat) : OwnFrom (w.heap.size + 4) (CmpInv w v u xs ys) :=
  ownFrom_of (fun s W W' ⟨h1, h2, h3, h4, h5, h6, h7⟩ hk hb => ⟨hk.boxed h1, hk.boxed h2, hk.boxed h3, hk.boxed h4, h5.trans (hb.mono (by omega)), Nat.le_trans h6 hb.size, h7⟩) (fun s W h => h.2.2.2.2.2.1)
theorem cmpOut_own (w : World) (xs ys : List Nat) (c : Code) : OwnFrom (w.heap.size + 4) (CmpOut w xs ys c) :=
  ownFrom_of (fun s W W' ⟨h1, ⟨z, h2, h3⟩, h5, h6⟩ hk hb => ⟨h1, ⟨z, hk.boxed h2, h3⟩, h5.trans (hb.mono (by omega)), Nat.le_trans h6 hb.size⟩) (fun s W h => h.2.2.2)

end Go.Proofs.YtfobaeoccpebeaaGreatDoor

/- Package nat: groups (the iterator), of. -/
namespace Go.Proofs.YtfobaeoccpebeaaGreatDoor
open Go.RowKit Go.Shelf
attribute [local go_sem] Oper.semAt_some

set_option maxHeartbeats 1000000 in
theorem groups_calls (s : ByteArray) (w : World) :
    Calls Tryz.prog 100 #[.string s] w fun e w' => e = .returned (.func (.func 121) #[] #[.pointer (some ⟨w.heap.size, 0, none⟩)]) ∧ w.alloc (.cells #[.string s] 9) = w' := by
  have hmf : ∀ (fn : Fn) (first cap : Array Value) (w : World), (Instr.makeFunc fn first cap).run Tryz.prog w = .ok (.func fn first cap) w := fun _ _ _ _ => rfl
  go_enter Tryz.func100, Tryz.ntmps100
  go_wp2
  go_ret
  exact ⟨rfl, rfl⟩

def OkG (s : List UInt8) (pre : List ByteArray) (x : ByteArray) : Prop := ∃ rest, chunks s = pre.map (·.data.toList) ++ x.data.toList :: rest

set_option maxRecDepth 100000 in
set_option maxHeartbeats 2000000 in
theorem groups1 (l Bs : Nat) (s : ByteArray) (hs : s.size ≤ 1000000) (J Jx : List ByteArray → World → Prop)
    (hJ : ∀ p A u, J p A → J p (A.setCell ⟨Bs, 0, none⟩ u))
    (hY : ∀ pre x W1, J pre W1 → OkG s.data.toList pre x → YieldAt Fence.wide 7 Tryz.prog l #[.string x] W1 fun e W' =>
      (e = .returned (.bool true) ∧ J (pre ++ [x]) W' ∧ KeptAt (fun k => k = Bs) W1 W') ∨ (e = .returned (.bool false) ∧ Jx (pre ++ [x]) W'))
    (W : World) (hBs : Boxed W Bs 9 (.string s)) (h0 : J [] W) :
    CallsIn Fence.wide 8 Tryz.prog 121 #[.func (.yield l) #[] #[], .pointer (some ⟨Bs, 0, none⟩)] W fun e W' => (∃ v, e = .returned v) ∧
      ((∃ ys : List ByteArray, ys.map (·.data.toList) = chunks s.data.toList ∧ J ys W') ∨ (∃ pre : List ByteArray, Jx pre W')) := by
  refine callsIn_of_wp Tryz.func121 rfl trivial ?_ rfl
  simp only [Tryz.ntmps121, List.size_toArray, List.length_cons, List.length_nil, Nat.reduceAdd, Nat.reduceSub, Array.replicate_succ, Array.replicate_zero, List.push_toArray, List.append_toArray, List.nil_append, List.cons_append]
  gi_wp2
  gi_loopw [3] (fun _ wr => ∃ (t : ByteArray) (pre : List ByteArray), t.size ≤ 1000000 ∧ Boxed wr Bs 9 (.string t) ∧ chunks s.data.toList = pre.map (·.data.toList) ++ chunks t.data.toList ∧ J pre wr)
    (fun _ wr => match wr.cell? ⟨Bs, 0, none⟩ with
      | some (.string t) => t.size
      | _ => 0)
  case atStart => exact ⟨s, [], hs, hBs, rfl, h0⟩
  case round =>
    obtain ⟨t, pre, ht, hb, hch, hJs⟩ := hrel
    have hc := hb.cell
    have hz := hb.frozen
    by_cases h0 : t.size = 0
    · obtain ⟨e1, e2⟩ := emp_of t h0
      have e3 : t.toList.isEmpty = true := by rw [e1]; rfl
      rw [e2, chunks_nil, List.append_nil] at hch
      have HC := hid hch
      clear hch e2 h0
      gi_wp2
      go_end0
      exact ⟨⟨_, rfl⟩, .inl ⟨pre, HC.out.symm, hJs⟩⟩
    · obtain ⟨e1, e2⟩ := ne_of t h0
      obtain ⟨q, hq⟩ : ∃ q, t.size - 9 = q := ⟨_, rfl⟩
      have hmx : max (0 : Int) ((t.size : Int) - 9) = (q : Int) := by omega
      have hqt : q < t.size := by omega
      have hne : t.data.toList ≠ [] := fun e => by
        have := len_str t
        rw [e] at this
        simp at this
        omega
      have hx1 : (t.extract q t.size).data.toList = t.data.toList.drop (t.data.toList.length - 9) := by rw [Lib.extract_to_end, len_str, hq]
      have hx2 : (t.extract 0 q).data.toList = t.data.toList.take (t.data.toList.length - 9) := by rw [extract_take, len_str, hq]
      have hcs := chunks_cons hne
      rw [← hx1, ← hx2] at hcs
      rw [hcs] at hch
      obtain ⟨fn, tmps, assign, body, hy, hR⟩ := hY pre (t.extract q t.size) wr hJs ⟨_, hch⟩
      have hsz2 : (t.extract 0 q).size ≤ 1000000 := by rw [ByteArray.size_extract]; omega
      have hszq : (t.extract 0 q).size = q := by rw [ByteArray.size_extract]; omega
      have HC := hid (And.intro hch (And.intro hq hszq))
      clear hch hq hne hx1 hx2 hcs hY h0 hszq
      gi_wp2
      refine hR.mono ?_
      rintro e W3 (⟨rfl, hJ3, hk3⟩ | ⟨rfl, hJx3⟩)
      · have hb3 : Boxed W3 Bs 9 (.string t) := (hk3 Bs rfl).trans hb
        have hc3 := hb3.cell
        have hz3 := hb3.frozen
        gi_wp2
        go_roundw
        case rel => exact ⟨t.extract 0 q, pre ++ [t.extract q t.size], hsz2, hb3.set _, by rw [HC.out.1]; simp, hJ _ _ _ hJ3⟩
        case measure =>
          rw [(hb3.set (.string (t.extract 0 q))).cell, hc]
          show (t.extract 0 q).size < t.size
          rw [HC.out.2.2]; exact hqt
      · gi_wp2
        refine bodyPost_ret (results_none rfl _ _ _) rfl ?_
        exact ⟨⟨_, rfl⟩, .inr ⟨_, hJx3⟩⟩

def encG (x : ByteArray) : Array Value := #[.string x]

theorem groups_iter (Bs : Nat) (s : ByteArray) (hs : s.size ≤ 1000000) (w : World) (hBs : Boxed w Bs 9 (.string s)) :
    IterC Tryz.prog 121 #[.pointer (some ⟨Bs, 0, none⟩)] encG (fun A B => ∃ u, A.setCell ⟨Bs, 0, none⟩ u = B) (KeptAt (fun k => k = Bs)) (OkG s.data.toList) (fun ys _ => ys.map (·.data.toList) = chunks s.data.toList) (fun _ _ => True) w := by
  intro l J Jx W hW hJ _ hY h0
  refine (groups1 l Bs s hs J Jx (fun p A u h => hJ p A _ h ⟨u, rfl⟩) hY W ((hW.block Bs hBs.lt).trans hBs) h0).mono ?_
  rintro e W' ⟨he, ⟨ys, h1, h2⟩ | ⟨pre, h2⟩⟩
  · exact ⟨he, .inl ⟨ys, h1, h2⟩⟩
  · exact ⟨he, .inr ⟨pre, trivial, h2⟩⟩
end Go.Proofs.YtfobaeoccpebeaaGreatDoor

/- Package nat: of: the limbs of texts. -/
namespace Go.Proofs.YtfobaeoccpebeaaGreatDoor
open Go.RowKit Go.Shelf
attribute [local go_sem] Oper.semAt_some

theorem info_limbs : (Tryz.prog.info? 85).map (fun i => (i.zero, i.size, i.bytes)) = some (some (.slice none 0 0), 1, 24) := by kernel_rfl

def mark (D : Nat) : Deferred := { target := .collected D, args := #[] }

/-- WHAT of HANDS BACK: limbs, of texts that are naturals; or an error. -/
def OfPost (w : World) (ss : List ByteArray) (e : Ending) (w' : World) : Prop :=
  Below w.heap.size w w' ∧
    (((∀ s ∈ ss, isRt s.data.toList = true) ∧ ∃ (ov : Value) (vs : List Value), e = .returned (.tuple #[ov, .int .i64 0]) ∧ w'.ownsRow w.heap.size 85 1 ov ss.length vs ∧
        ∀ (j : Nat) (s : ByteArray), ss[j]? = some s → ∃ v, vs[j]? = some v ∧ Lim w' v (lim (nv s.data.toList))) ∨
      ((∃ s ∈ ss, isRt s.data.toList = false) ∧ e = .returned (.tuple #[.slice none 0 0, .int .i64 10])))

theorem leaves_marks {P : Program} {fn : Func} {tmps : Array Value} {R : Ending → World → Prop} {v : Value} {n₀ : Nat} : ∀ (Ds : List Nat) (W : World), Ds.Nodup → (∀ D ∈ Ds, n₀ ≤ D ∧ W.heap[D]? = some (.deferred (some []))) →
    (∀ W', CellsKept W W' → Below n₀ W W' → (results fn tmps).run P W' = .ok v W' ∧ R (.returned v) W') → LeavesInM Fence.wide 9 P fn tmps R (Ds.map mark) .returning W
  | [], W, _, _, h => ⟨v, h W (fun _ _ _ _ h => h) (Below.refl _ _)⟩
  | D :: Ds, W, hn, hD, h => by
    have hd := hD D (by simp)
    have hk : CellsKept W (W.putObj D (.deferred none)) := CellsKept.putObj _ hd.2 rfl
    have hlt := (Array.getElem?_eq_some_iff.1 hd.2).1
    have hb : Below n₀ W (W.putObj D (.deferred none)) := (Below.refl n₀ W).grown (grownBy_putObj' W D _) (by omega) (fun k e => by cases e; exact hd.1)
    refine ⟨by simp, .inl ⟨D, _, rfl, run_takeDeferred hd.2, leaves_marks Ds _ (List.nodup_cons.1 hn).2 (fun E hE => ⟨(hD E (by simp [hE])).1, ?_⟩) fun W' h1 h2 => h W' (hk.trans h1) (hb.trans h2)⟩⟩
    have hne : E ≠ D := fun e => (List.nodup_cons.1 hn).1 (by rw [← e]; exact hE)
    exact (World.putObj_heap_other hne).trans (hD E (by simp [hE])).2

theorem World.ownsRow.cellsKept {A B : World} {base : Nat} {e : TypeId} {size : Nat} {v : Value} {n : Nat} {xs : List Value} (h : A.ownsRow base e size v n xs) (hk : CellsKept A B) : B.ownsRow base e size v n xs := by
  refine ⟨h.1, ?_⟩
  rcases h.2 with hn | ⟨g, cap, cur, rfl, hb, hg, rest⟩
  · exact .inl hn
  · exact .inr ⟨g, cap, cur, rfl, hb, hk _ _ _ _ hg, rest⟩

def OfInv (w1 : World) (pre : List ByteArray) (W : World) : Prop :=
  (∃ v, Boxed W w1.heap.size 85 v ∧ W.ownsRow w1.heap.size 52 1 v pre.length ((pre.map fun x => nv x.data.toList).map fun x => Value.int .u32 (x : Nat))) ∧
    (∃ u, Boxed W (w1.heap.size + 1) 9 u) ∧ Below w1.heap.size w1 W ∧ w1.heap.size + 2 ≤ W.heap.size

theorem ofInv_own (w1 : World) : OwnFrom (w1.heap.size + 2) (OfInv w1) :=
  ownFrom_of (fun s W W' ⟨⟨v, h1, h2⟩, ⟨u, h3⟩, h4, h5⟩ hk hb => ⟨⟨v, hk.boxed h1, World.ownsRow.cellsKept h2 hk⟩, ⟨u, hk.boxed h3⟩, h4.trans (hb.mono (by omega)), Nat.le_trans h5 hb.size⟩) (fun s W h => h.2.2.2)

theorem ofInv_it (w1 : World) : ∀ (s : List ByteArray) (A B : World), OfInv w1 s A → (∃ u, A.setCell ⟨w1.heap.size + 1, 0, none⟩ u = B) → OfInv w1 s B := by
  rintro s A B ⟨⟨v, h1, h2⟩, ⟨u, h3⟩, h4, h5⟩ ⟨u', rfl⟩
  refine ⟨⟨v, boxed_other h1 (by omega) _, ?_⟩, ⟨u', h3.set u'⟩, h4.setCell (by show _ ≤ w1.heap.size + 1; omega) _, Nat.le_trans h5 (KeepsOthers.setCell _ _ _).size⟩
  exact h2.kept (grownBy_setCell' A _ _) (.inr (h3.not_row (by decide) h2).symm)

set_option maxRecDepth 100000 in
set_option maxHeartbeats 4000000 in
theorem of_calls (b off cap : Nat) (ss : List ByteArray) (hmax : ss.length ≤ 1000) (hsz : ∀ s ∈ ss, s.size ≤ 140737488355328) (w : World) (_hT : Tabs w) (hb : b < w.heap.size)
    (hc : ∀ j s, ss[j]? = some s → w.cell? ⟨b, off + j, none⟩ = some (.string s)) :
    Calls Tryz.prog 85 #[.slice (some ⟨b, off, none⟩) ss.length cap] w (OfPost w ss) := by
  obtain ⟨i0, hi, hz0, hz1, hz2⟩ := info_parts info_u32
  obtain ⟨j0, hj, hjz0, hjz1, hjz2⟩ := info_parts info_limbs
  refine calls_marks Tryz.func85 rfl ?_
  simp only [Tryz.ntmps85, List.size_toArray, List.length_cons, List.length_nil, Nat.reduceAdd, Nat.reduceSub, Array.replicate_succ, Array.replicate_zero, List.push_toArray, List.append_toArray, List.nil_append, List.cons_append]
  go_wp2
  refine wp_loop (fun a' wr => ∃ (k : Nat) (ov : Value) (vs : List Value) (Ds : List Nat) (u6 u7 u8 u9 u10 u14 u15 u16 u17 u18 u19 u20 u21 u22 u23 u24 u25 u26 u27 u28 u29 u30 u31 u32 u33 u34 u35 u36 u37 u38 : Value),
      a' = { tmps := #[.slice (some ⟨b, off, none⟩) ss.length cap, undef, .slice none 0 0, .int .i64 0, ov, undef, u6, u7, u8, u9, u10, .slice (some ⟨b, off, none⟩) ss.length cap, .int .i64 ss.length, .int .i64 k,
        u14, u15, u16, u17, u18, u19, u20, u21, u22, u23, u24, u25, u26, u27, u28, u29, u30, u31, u32, u33, u34, u35, u36, u37, u38, undef], defers := Ds.map mark } ∧
      k ≤ ss.length ∧ (∀ j s, j < k → ss[j]? = some s → isRt s.data.toList = true ∧ ∃ v, vs[j]? = some v ∧ Lim wr v (lim (nv s.data.toList))) ∧
      wr.ownsRow w.heap.size 85 1 ov k vs ∧ Below w.heap.size w wr ∧ (Ds.Nodup ∧ ∀ D ∈ Ds, w.heap.size ≤ D ∧ wr.heap[D]? = some (.deferred (some []))))
    (fun a' _ => ss.length - (intOf (a'.tmps.getD 13 undef)).toNat) ?start ?round
  case start =>
    exact ⟨0, .slice none 0 0, [], [], undef, undef, undef, undef, undef, undef, undef, undef, undef, undef, undef, undef, undef, undef, undef, undef, undef, undef, undef, undef, undef, undef, undef, undef, undef, undef, undef, undef, undef, undef, rfl, Nat.zero_le _, fun j s hj => by omega, World.ownsRow_nil _ _ _ _, Below.refl _ _, List.nodup_nil, fun D hD => by cases hD⟩
  case round =>
    rintro a' wr ⟨k, ov, vs, Ds, u6, u7, u8, u9, u10, u14, u15, u16, u17, u18, u19, u20, u21, u22, u23, u24, u25, u26, u27, u28, u29, u30, u31, u32, u33, u34, u35, u36, u37, u38, rfl, hk, hvs, hown, hB, hnd, hDs⟩
    by_cases hlt : k < ss.length
    · obtain ⟨s, hs⟩ : ∃ s, ss[k]? = some s := ⟨_, List.getElem?_eq_getElem hlt⟩
      have hcs := (hB.cell (p := ⟨b, off + k, none⟩) hb).trans (hc k s hs)
      have hss := hsz s (List.mem_of_getElem? hs)
      have hright := right_calls s wr hss
      cases hrt : isRt s.data.toList with
      | false =>
        rw [hrt] at hright
        have hright' := hright
        have HS := hid (And.intro hs hrt)
        have HD := hid (And.intro hnd hDs)
        clear hs hnd hDs hc hvs hsz hright hrt
        go_wp2_with fail
        refine hright'.mono ?_
        rintro e w1 ⟨rfl, hb1⟩
        go_wp2
        obtain ⟨hnd, hDs⟩ := HD.out
        have hB1 : Below w.heap.size w w1 := hB.trans (hb1.mono hB.size)
        refine leaves_marks (v := .tuple #[.slice none 0 0, .int .i64 10]) (n₀ := w.heap.size) Ds w1 hnd (fun D hD => ⟨(hDs D hD).1, (hb1.block D (Array.getElem?_eq_some_iff.1 (hDs D hD).2).1).trans (hDs D hD).2⟩) fun W' h1 h2 => ?_
        exact ⟨results_tmp2 (t := 2) (u := 3) rfl _ _ _, hB1.trans h2, .inr ⟨⟨s, List.mem_of_getElem? HS.out.1, HS.out.2⟩, rfl⟩⟩
      | true =>
        rw [hrt] at hright
        have hright' := hright
        have HS := hid (And.intro hs hrt)
        have HD := hid (And.intro hnd hDs)
        have HV := hid hvs
        clear hs hnd hDs hc hvs hsz hright hrt
        go_wp2_with fail
        refine hright'.mono ?_
        rintro e w1 ⟨rfl, hb1⟩
        go_wp2_with (go_at_call 100; refine (groups_calls _ _).mono ?_; rintro e w' ⟨rfl, rfl⟩)
        have hB1 : Below w.heap.size w w1 := hB.trans (hb1.mono hB.size)
        obtain ⟨W0, hW0, hsz0, hI0, hbS⟩ : ∃ W0, ((w1.alloc (.cells #[.slice none 0 0] 85)).alloc (.cells #[.string s] 9)) = W0 ∧ W0.heap.size = w1.heap.size + 2 ∧ OfInv w1 [] W0 ∧ Boxed W0 (w1.heap.size + 1) 9 (.string s) := by
          have b1 := Boxed.new w1 85 (.slice none 0 0)
          have b2 := Boxed.new (w1.alloc (.cells #[.slice none 0 0] 85)) 9 (.string s)
          simp only [World.size_alloc] at b2
          exact ⟨_, rfl, by simp, ⟨⟨_, b1.alloc _, World.ownsRow_nil _ _ _ _⟩, ⟨_, b2⟩, ((Below.refl _ w1).alloc (Nat.le_refl _) _).alloc (by simp) _, by simp⟩, b2⟩
        rw [hW0]
        clear hW0
        have hrt := (isRt_iff _).1 HS.out.2
        have hs4 : s.size ≤ 400 := by rw [← len_str]; exact hrt.2
        refine rangeOverP (gf := 121) (lb := #[.pointer (some ⟨w1.heap.size + 1, 0, none⟩)]) rfl (enters_of Tryz.func121 (by kernel_rfl) rfl)
          (groups_iter (w1.heap.size + 1) s (by omega) W0 hbS) (Below.refl _ _) (fun _ => rfl)
          (fun A B ⟨u, e⟩ => by subst e; exact ⟨(KeepsOthers.setCell _ _ _).size, fun k o _ hk ho => (KeepsOthers.setCell _ _ _).same k o hk ho⟩) (fun h k => h.trans k)
          (fun W l o o' hl h _ _ => KeptAt.putObj W l o' (by show ¬ l = _; omega))
          (ownFrom_pure _ _) (ownFrom_pure _ _)
          (OfInv w1) (fun _ _ _ => False) (by rw [hsz0]; exact ofInv_own w1) (fun _ _ _ _ _ hs _ _ => hs) (ofInv_it w1) (fun _ _ _ _ h _ => h) hI0
          (fun x a' _ => a' = { tmps := #[.slice (some ⟨b, off, none⟩) ss.length cap, undef, .slice none 0 0, .int .i64 0, ov, undef, .string s, .pointer (some ⟨w1.heap.size, 0, none⟩), .string x, u9, u10, .slice (some ⟨b, off, none⟩) ss.length cap, .int .i64 ss.length, .int .i64 k,
            .bool true, .pointer (some ⟨b, off + k, none⟩), .string s, .string s, .bool true, .bool false, .string s, .func (.func 121) #[] #[.pointer (some ⟨w1.heap.size + 1, 0, none⟩)], .string x, u23, u24, u25, u26, u27, u28, u29, u30, u31, u32, u33, u34, u35, u36, u37, u38, undef], defers := [] })
          (fun _ _ _ _ _ _ hs _ _ => hs) ?assign ?body ?done ?stop
        case assign =>
          intro l pre x W K hi hok hK
          unfold encG
          gi_wp2
          exact hK _ _ (KeepsFrom.refl _ _) (KeptAt.refl _ _) hi rfl
        case body =>
          rintro l pre x a' W hl ⟨⟨v, f1, f2⟩, ⟨u, f3⟩, f4, f5⟩ rfl ⟨rest, hch⟩
          have hmem : x.data.toList ∈ chunks s.data.toList := by rw [hch]; simp
          have hdg : ∀ c ∈ x.data.toList, isDg c = true := fun c hc => by
            have h1 := chunk_mem hmem c hc
            rw [hrt.1] at h1
            exact dec_isDg _ c h1
          have hxl := chunk_length hmem
          have hxn : x.data.toList ≠ [] := fun e => by rw [e] at hxl; simp at hxl
          have hy : nv x.data.toList < 1000000000 := by
            have h1 := nv_lt hdg
            have h2 : (10 : Nat) ^ x.data.toList.length ≤ 10 ^ 9 := Nat.pow_le_pow_right (by omega) hxl.2
            omega
          have hpl : pre.length ≤ 400 := by
            have h1 := congrArg List.length hch
            have h2 := chunks_len s.data.toList
            rw [len_str] at h2
            simp at h1
            omega
          have hparse := Tryz.strconv_ParseUint_10_at32_ok x (by rw [← len_str]; omega) (nv x.data.toList) (parse32 hxn hdg hy) W
          obtain ⟨y, hy'⟩ : ∃ y, nv x.data.toList = y := ⟨_, rfl⟩
          rw [hy'] at hparse hy
          have HY := hid hy'
          clear hy' hch hmem hdg hxl hxn
          gi_wp2_with fail
          refine callR hparse ?_
          rintro e w2 ⟨rfl, hw2⟩
          have hb2 : Below W.heap.size W w2 := by
            rcases hw2 with rfl | rfl
            · exact Below.refl _ _
            · exact Lib.bytesWorld_below W _ x
          clear hw2
          have hk2 := CellsKept.below hb2
          have g1 := hk2.boxed f1
          have g2 := World.ownsRow.cellsKept f2 hk2
          have g3 := hk2.boxed f3
          have g4 : Below w1.heap.size w1 w2 := f4.trans (hb2.mono f4.size)
          have hcv := g1.cell
          have hsz2 := hb2.size
          gi_wp2_with (gi_at_builtin; refine wpListIn_append_own _ rfl _ _ 85 rfl w1.heap.size 52 i0 (.int .u32 0) 1 4 Tryz.underlying85 hi hz0 hz1 hz2 rfl (by decide) _ _ _ rfl (g2.alloc _) ⟨w2.heap.size, 0, none⟩ 1 1 [.int .u32 (y : Nat)] rfl rfl (cell_one_new _ _ _) (by simp [Value.oneCell']) (by simp only [maxLen]; omega) (by omega) (by simp; omega) ?_)
          intro v' w3 hown' hgrow _
          obtain ⟨g', cap', rfl⟩ := ownsRow_succ hown'
          obtain ⟨hv1, hv2, hr2, hko2, hbb2⟩ := g1.appended (by decide) g2 g4.size (Nat.le_refl _) hown' hgrow
          have hc1 := hv1.cell
          have hf1 := hv1.frozen
          have hS3 : Boxed w3 (w1.heap.size + 1) 9 u := (g3.alloc _).kept hgrow (g3.not_row (by decide) g2)
          gi_wp2
          refine ⟨((keeps_below hb2).trans hko2).from _, fun k e => by subst e; exact (boxed_other hS3 (by omega) _).trans (Eq.symm f3), ⟨_, hv2, ?_⟩, ⟨u, boxed_other hS3 (by omega) _⟩, g4.trans hbb2, Nat.le_trans f5 (Nat.le_trans hb2.size hko2.size)⟩
          have := hr2
          rw [← HY.out] at this
          simpa using this
        case done =>
          rintro D ys W hD hys ⟨⟨v, f1, f2⟩, _, f4, f5⟩ hK
          obtain ⟨xs, hxs⟩ : ∃ xs, (ys.map fun x => nv x.data.toList) = xs := ⟨_, rfl⟩
          have hxl : xs.length = ys.length := by rw [← hxs]; simp
          have hxe : xs = (chunks s.data.toList).map nv := by rw [← hxs, ← show ys.map (·.data.toList) = chunks s.data.toList from hys, List.map_map]; rfl
          rw [hxs, ← hxl] at f2
          have hLv := Lim.of_owns f2
          have hdg : ∀ c ∈ s.data.toList, isDg c = true := fun c hc => by rw [hrt.1] at hc; exact dec_isDg _ c hc
          obtain ⟨t, ht1, ht2⟩ := trim_at v xs (by rw [hxe]; exact grp_chunks hdg) W hLv
          rw [hxe, val_chunks] at ht1
          have ht1' := ht1
          obtain ⟨ta, tc, rfl, _⟩ := ht1
          obtain ⟨tn, htn⟩ : ∃ tn, (lim (nv s.data.toList)).length = tn := ⟨_, rfl⟩
          rw [htn] at ht1' ht2
          have ht3 := ht2.mono (R' := fun e w' => e = _ ∧ W = w') (fun _ _ h => ⟨h.1, h.2.symm⟩)
          have hcv := f1.cell
          have hkW := (CellsKept.below hb1).trans (CellsKept.below f4)
          have howW := World.ownsRow.cellsKept hown hkW
          have hBW : Below w.heap.size w W := hB1.trans (f4.mono hB1.size)
          have hszW := hBW.size
          have HX := hid (And.intro hxs (And.intro hxe hys))
          clear hxs hxe hys hxl hdg
          go_wp2_with (first
            | (go_at_call 83; refine ht3.mono ?_; rintro e w' ⟨rfl, rfl⟩)
            | (at_builtin; refine wpList_append_own _ rfl _ _ 110 rfl w.heap.size 85 j0 (.slice none 0 0) 1 24 Tryz.underlying110 hj hjz0 hjz1 hjz2 rfl (by decide) _ _ _ rfl (howW.alloc _) ⟨_, 0, none⟩ 1 1 [.slice ta tn tc] rfl rfl (cell_one_new _ _ _) (by simp [Value.oneCell']) (by simp only [maxLen]; omega) (by omega) (by simp; omega) ?_))
          intro v' w2 hown' hgrow _
          have hB2 : Below w.heap.size w w2 := (hBW.alloc hszW _).grown hgrow (by simp; omega) (fun j e => (howW.lt j e).1)
          have hlim : ∀ v xs, Lim W v xs → Lim w2 v xs := fun v xs h => (h.below (below_alloc W _)).grown hgrow (howW.alloc _) (by decide)
          have hDs2 : Hid ((D :: Ds).Nodup ∧ ∀ E ∈ D :: Ds, w.heap.size ≤ E ∧ w2.heap[E]? = some (.deferred (some []))) := by
            obtain ⟨hnd, hDs⟩ := HD.out
            have hsz1 := hb1.size
            have hszw := hB.size
            have hgr : ∀ E, W.heap[E]? = some (Obj.deferred (some [])) → w2.heap[E]? = some (Obj.deferred (some [])) := fun E hE => by
              refine (hgrow.block E (by have := (Array.getElem?_eq_some_iff.1 hE).1; simp; omega) ?_).trans ((Below.heap_alloc _ _ _ (Array.getElem?_eq_some_iff.1 hE).1).trans hE)
              intro e2
              rcases howW.2 with ⟨rfl, _⟩ | ⟨g, cap, cur, rfl, _, hgg, _⟩
              · simp [Value.ownBlock] at e2
              · obtain rfl : E = g := by simpa [Value.ownBlock] using e2
                rw [hgg] at hE
                cases hE
            refine ⟨List.nodup_cons.2 ⟨fun h => ?_, hnd⟩, fun E hE => ?_⟩
            · have := (Array.getElem?_eq_some_iff.1 (hDs D h).2).1
              omega
            · rcases List.mem_cons.1 hE with rfl | hE
              · exact ⟨by omega, hgr _ hK⟩
              · have h1 := hDs E hE
                have h2 := (Array.getElem?_eq_some_iff.1 h1.2).1
                exact ⟨h1.1, hgr E ((f4.block E (by omega)).trans ((hb1.block E h2).trans h1.2))⟩
          have hvs2 : Hid (∀ (j : Nat) (s' : ByteArray), j < k + 1 → ss[j]? = some s' → isRt s'.data.toList = true ∧ ∃ v, (vs ++ [Value.slice ta tn tc])[j]? = some v ∧ Lim w2 v (lim (nv s'.data.toList))) := by
            intro j s' hj hs'
            have hvl : vs.length = k := by have := howW.1; omega
            by_cases hjk : j < k
            · obtain ⟨h1, v, h2, h3⟩ := HV.out j s' hjk hs'
              exact ⟨h1, v, by rw [List.getElem?_append_left (by omega)]; exact h2, hlim _ _ (h3.kept hkW (Nat.le_trans hb1.size f4.size))⟩
            · obtain rfl : j = k := by omega
              obtain rfl : s' = s := by have := HS.out.1; rw [hs'] at this; exact Option.some.inj this
              exact ⟨HS.out.2, _, by rw [List.getElem?_append_right (by omega), hvl, Nat.sub_self]; rfl, hlim _ _ ht1'⟩
          have hown2 := hid hown'
          clear hown' hgrow howW hlim HV HD hkW hown
          go_wp2
          rw [show ((k : Int) + 1) = ((k + 1 : Nat) : Int) from by omega]
          refine ⟨⟨k + 1, v', vs ++ [Value.slice ta tn tc], D :: Ds, _, _, _, _, _, _, _, _, _, _, _, _, _, _, _, _, _, _, _, _, _, _, _, _, _, _, _, _, _, _, rfl, hlt, hvs2.out, hown2.out, hB2, hDs2.out⟩, ?_⟩
          simp [intOf]
          omega
        case stop =>
          rintro D c pre W _ _ h _
          exact h.elim
    · obtain rfl : k = ss.length := by omega
      have HD := hid (And.intro hnd hDs)
      have HV := hid hvs
      have HO := hid hown
      clear hnd hDs hc hvs hsz hlt hown
      go_wp2
      obtain ⟨hnd, hDs⟩ := HD.out
      refine leaves_marks (v := .tuple #[ov, .int .i64 0]) (n₀ := w.heap.size) Ds wr hnd hDs fun W' h1 h2 => ?_
      refine ⟨results_tmp2 (t := 2) (u := 3) rfl _ _ _, hB.trans h2, .inl ⟨fun s hs => ?_, ov, vs, rfl, World.ownsRow.cellsKept HO.out h1, fun j s hs => ?_⟩⟩
      · obtain ⟨j, hj⟩ := List.getElem?_of_mem hs
        exact (HV.out j s (by have := (List.getElem?_eq_some_iff.1 hj).1; omega) hj).1
      · obtain ⟨_, v, e1, e2⟩ := HV.out j s (by have := (List.getElem?_eq_some_iff.1 hs).1; omega) hs
        exact ⟨v, e1, e2.kept h1 h2.size⟩
end Go.Proofs.YtfobaeoccpebeaaGreatDoor

/- Package nat: add. -/
namespace Go.Proofs.YtfobaeoccpebeaaGreatDoor
open Go.RowKit Go.Shelf
attribute [local go_sem] Oper.semAt_some


theorem val_drop (xs : List Nat) (k : Nat) : val (xs.drop k) = xs[k]?.getD 0 + 1000000000 * val (xs.drop (k + 1)) := by
  by_cases h : k < xs.length
  · rw [List.drop_eq_getElem_cons h, val, List.getElem?_eq_getElem h]; rfl
  · rw [List.drop_of_length_le (by omega), List.drop_of_length_le (by omega), List.getElem?_eq_none (by omega)]; rfl

/-- THE PLAIN LAW OF A STEP of add. -/
theorem add_step {xs ys zs : List Nat} {k c : Nat} (hk : zs.length = k) (h : val xs + val ys = val zs + 1000000000 ^ k * (c + val (xs.drop k) + val (ys.drop k))) :
    val xs + val ys = val (zs ++ [(c + (xs[k]?.getD 0 + ys[k]?.getD 0)) % 1000000000]) + 1000000000 ^ (k + 1) * ((c + (xs[k]?.getD 0 + ys[k]?.getD 0)) / 1000000000 + val (xs.drop (k + 1)) + val (ys.drop (k + 1))) := by
  rw [h, val_snoc, hk, val_drop xs k, val_drop ys k, Nat.pow_succ, Nat.mul_assoc, Nat.add_assoc (val zs), ← Nat.mul_add]
  congr 2
  omega


def lenOf : Value → Nat
  | .slice _ n _ => n
  | _ => 0
theorem lenOf_owns {W : World} {base n : Nat} {e : TypeId} {v : Value} {ys : List Value} (h : W.ownsRow base e 1 v n ys) : lenOf v = n := by
  rcases h.2 with ⟨rfl, h2⟩ | ⟨g, cap, cur, rfl, _⟩
  · have := h.1; simp_all [lenOf]
  · rfl

end Go.Proofs.YtfobaeoccpebeaaGreatDoor

/- Package nat: mul. -/
namespace Go.Proofs.YtfobaeoccpebeaaGreatDoor
open Go.RowKit Go.Shelf
attribute [local go_sem] Oper.semAt_some

theorem val_set {zs : List Nat} {j : Nat} (x : Nat) (hj : j < zs.length) : val (zs.set j x) + 1000000000 ^ j * zs[j]?.getD 0 = val zs + 1000000000 ^ j * x := by
  have h1 : zs.set j x = zs.take j ++ (x :: zs.drop (j + 1)) := by rw [List.set_eq_take_append_cons_drop, if_pos hj]
  have h2 := val_split hj
  rw [h1, val_append, List.length_take, Nat.min_eq_left (by omega), val, h2]
  generalize val (zs.drop (j + 1)) = d
  simp only [Nat.mul_add]
  omega

/-- THE PLAIN LAW OF A STEP of mul. -/
theorem mul_step {zs : List Nat} {i k c n ai y M : Nat} {bt : Nat} (hj : i + k < zs.length) (h : val zs + 1000000000 ^ (i + k) * c = M + 1000000000 ^ i * (ai * bt)) (hn : n = zs[i + k]?.getD 0 + ai * y + c) :
    val (zs.set (i + k) (n % 1000000000)) + 1000000000 ^ (i + (k + 1)) * (n / 1000000000) = M + 1000000000 ^ i * (ai * (bt + 1000000000 ^ k * y)) := by
  have h1 := val_set (n % 1000000000) hj
  have h2 := Nat.mod_add_div n 1000000000
  have h3 : 1000000000 ^ (i + k) * (n % 1000000000) + 1000000000 ^ (i + (k + 1)) * (n / 1000000000) = 1000000000 ^ (i + k) * n := by
    rw [← Nat.add_assoc, Nat.pow_succ, Nat.mul_assoc, ← Nat.mul_add, h2]
  have h4 : 1000000000 ^ (i + k) * n = 1000000000 ^ (i + k) * zs[i + k]?.getD 0 + 1000000000 ^ (i + k) * (ai * y) + 1000000000 ^ (i + k) * c := by
    rw [hn, Nat.mul_add, Nat.mul_add]
  have h5 : 1000000000 ^ (i + k) * (ai * y) = 1000000000 ^ i * (ai * (1000000000 ^ k * y)) := by
    rw [Nat.pow_add, Nat.mul_assoc, Nat.mul_left_comm (1000000000 ^ k) ai y]
  rw [Nat.mul_add ai, Nat.mul_add (1000000000 ^ i)]
  omega

theorem carry_small {z x y c : Nat} (hz : z < 1000000000) (hx : x < 1000000000) (hy : y < 1000000000) (hc : c < 1000000000) : z + x * y + c ≤ 999999999999999999 ∧ (z + x * y + c) / 1000000000 < 1000000000 := by
  have h : x * y ≤ 999999999 * 999999999 := Nat.mul_le_mul (by omega) (by omega)
  omega

set_option maxRecDepth 100000 in
set_option maxHeartbeats 4000000 in
theorem mul_at (au av : Option Addr) (cu cv : Nat) (xs ys : List Nat) (hgx : Grp xs) (hgy : Grp ys) (w : World) (hx : Lim w (.slice au xs.length cu) xs) (hy : Lim w (.slice av ys.length cv) ys) (hxl : xs.length ≤ 1000) (hyl : ys.length ≤ 1000) :
    Calls Tryz.prog 60 #[.slice au xs.length cu, .slice av ys.length cv] w fun e w' => (∃ v', e = .returned v' ∧ Lim w' v' (lim (val xs * val ys))) ∧ Below w.heap.size w w' := by
  obtain ⟨i0, hi, hz0, hz1, hz2⟩ := info_parts info_u32
  go_enter Tryz.func60, Tryz.ntmps60
  go_wp2_with (at_make; refine wpList_make_full _ rfl _ _ 85 rfl w.heap.size 52 i0 (.int .u32 0) 1 Tryz.underlying85 hi hz0 hz1 .i64 .i64 _ _ (xs.length + ys.length) rfl rfl ?m1 ?m2 (by rw [hz2]; omega) (by simp only [maxLen]; omega) (by simp) ?_)
  case m1 => simp
  case m2 => simp
  intro w1 hown hgrow
  have hrow : RowN w1 w.heap.size 52 .u32 (List.replicate (xs.length + ys.length) 0) := row_of_owns hown (made_zeros _)
  have hB0 : Below w.heap.size w w1 := (Below.refl _ w).grown hgrow (Nat.le_refl _) (fun _ e => by cases e)
  have hprog : Tryz.prog.follows .mixedOrders = true := by kernel_rfl
  obtain ⟨L, hL⟩ : ∃ L, xs.length + ys.length = L := ⟨_, rfl⟩
  have hLi : (xs.length : Int) + (ys.length : Int) = (L : Int) := by omega
  rw [hL] at hrow
  clear hown hgrow
  go_wp2
  simp only [hL, hLi]
  go_loopw [18] (fun a wr => ∃ (i : Nat) (zs : List Nat), a = .int .i64 i ∧ i ≤ xs.length ∧ RowN wr w.heap.size 52 .u32 zs ∧ Below w.heap.size w wr ∧ zs.length = L ∧ Grp zs ∧
      val zs = val (xs.take i) * val ys ∧ (∀ j, i + ys.length ≤ j → zs[j]?.getD 0 = 0)) (fun a _ => xs.length - (intOf a).toNat)
  case atStart =>
    refine ⟨0, _, rfl, Nat.zero_le _, hrow, hB0, by simp, Grp.replicate _, by rw [val_replicate]; simp [val], fun j _ => ?_⟩
    rw [List.getElem?_replicate]
    split <;> rfl
  case round =>
    obtain ⟨i, zs, rfl, hil, hR, hB, hzl, hgz, hval, hz⟩ := hrel
    by_cases hlt : i < xs.length
    · obtain ⟨x, hxe⟩ : ∃ x, xs[i]?.getD 0 = x := ⟨_, rfl⟩
      have hxb := hgx i
      rw [hxe] at hxb
      have HV := hid (And.intro hval (And.intro hz (And.intro hxe (And.intro hL hgx))))
      have HX := hid hx
      have HY := hid hy
      clear hval hz hxe hx hy hgx hrow hB0
      go_wp2
      go_loopw [7, 23] (fun b d wr => ∃ (k c : Nat) (zs' : List Nat), d = .int .i64 k ∧ b = .int .u64 c ∧ k ≤ ys.length ∧ c < 1000000000 ∧ RowN wr w.heap.size 52 .u32 zs' ∧ Below w.heap.size w wr ∧ zs'.length = L ∧ Grp zs' ∧
          val zs' + 1000000000 ^ (i + k) * c = val zs + 1000000000 ^ i * (x * val (ys.take k)) ∧ (∀ j, i + ys.length ≤ j → zs'[j]?.getD 0 = 0)) (fun b d _ => ys.length - (intOf d).toNat)
      case atStart => exact ⟨0, 0, zs, rfl, rfl, Nat.zero_le _, by omega, hR, hB, hzl, hgz, by simp [val], HV.out.2.1⟩
      case round =>
        obtain ⟨k, c, zs', rfl, rfl, hkl, hcb, hR', hB', hzl', hgz', hval', hz'⟩ := hrel
        clear hR hB hzl hgz
        by_cases hkt : k < ys.length
        · obtain ⟨y, hye⟩ : ∃ y, ys[k]?.getD 0 = y := ⟨_, rfl⟩
          have hyb := hgy k
          obtain ⟨j, hj⟩ : ∃ j, i + k = j := ⟨_, rfl⟩
          have hki : (i : Int) + (k : Int) = (j : Int) := by omega
          have hjl : j < L := by omega
          have hwj : IntKind.i64.wrap (j : Int) = (j : Int) := IntWalk.i64_in _ (by omega)
          obtain ⟨z, hze⟩ : ∃ z, zs'[j]?.getD 0 = z := ⟨_, rfl⟩
          have hzb := hgz' j
          have hcz := hR'.cell (j := j) (by omega)
          have hfz := hR'.frozen j
          have hL1 := limb_calls _ xs i HV.out.2.2.2.2 wr.drew ((HX.out.below hB').below (Below.refl _ _).drew)
          have hL2 := limb_calls _ ys k hgy wr.drew ((HY.out.below hB').below (Below.refl _ _).drew)
          rw [HV.out.2.2.1] at hL1
          rw [hye] at hyb hL2
          rw [hze] at hzb hcz
          have hL1' := hL1.mono (R' := fun e w' => e = _ ∧ w' = _) (fun _ _ h => ⟨h.1, h.2.symm⟩)
          have hL2' := hL2.mono (R' := fun e w' => e = _ ∧ w' = _) (fun _ _ h => ⟨h.1, h.2.symm⟩)
          obtain ⟨hn1, hn2⟩ := carry_small hzb hxb hyb hcb
          obtain ⟨p, hp⟩ : ∃ p, x * y = p := ⟨_, rfl⟩
          rw [hp] at hn1 hn2
          have hpi : (x : Int) * (y : Int) = (p : Int) := by rw [← hp]; simp
          obtain ⟨n, hn⟩ : ∃ n, z + p + c = n := ⟨_, rfl⟩
          rw [hn] at hn1 hn2
          obtain ⟨s, hs⟩ : ∃ s, z + p = s := ⟨_, rfl⟩
          have hsi : (z : Int) + (p : Int) = (s : Int) := by omega
          have hws : IntKind.u64.wrap (s : Int) = (s : Int) := IntWalk.u64_in _ (by omega)
          have hni : (s : Int) + (c : Int) = (n : Int) := by omega
          have hwz : IntKind.u64.wrap (z : Int) = (z : Int) := IntWalk.u64_in _ (by omega)
          have hwp : IntKind.u64.wrap (p : Int) = (p : Int) := IntWalk.u64_in _ (by omega)
          have hwn : IntKind.u64.wrap (n : Int) = (n : Int) := IntWalk.u64_in _ (by omega)
          obtain ⟨q, hq⟩ : ∃ q, n / 1000000000 = q := ⟨_, rfl⟩
          obtain ⟨r, hr⟩ : ∃ r, n % 1000000000 = r := ⟨_, rfl⟩
          rw [hq] at hn2
          have hrb : r < 1000000000 := by omega
          have hwr : IntKind.u32.wrap (r : Int) = (r : Int) := IntWalk.u32_in _ (by omega)
          have hqi : (n : Int) / 1000000000 = (q : Int) := by omega
          have hri : (n : Int) % 1000000000 = (r : Int) := by omega
          have hstep : Hid (val (zs'.set j r) + 1000000000 ^ (i + (k + 1)) * q = val zs + 1000000000 ^ i * (x * val (ys.take (k + 1)))) := by
            have h := mul_step (y := y) (n := n) (by omega : i + k < zs'.length) hval' (by rw [hj, hze, hp, hn])
            rw [hq, hr, hj] at h
            show _ = _
            rw [h, take_succ_getD ys k hkt, val_snoc, List.length_take, Nat.min_eq_left (by omega), hye]
          have hz2 : Hid (∀ j', i + ys.length ≤ j' → (zs'.set j r)[j']?.getD 0 = 0) := fun j' hj' => by
            rw [List.getElem?_set_ne (by omega)]; exact hz' j' hj'
          have hg2 : Hid (Grp (zs'.set j r)) := hgz'.set _ _ hrb
          have HE := hid (And.intro hj (And.intro hye (And.intro hze (And.intro hp (And.intro hn (And.intro hq hr))))))
          clear hs hj hye hze hp hn hq hr hval' hz' hgz' hL1 hL2 hgy
          go_wp2
          refine wp_region_still_tail 17 hprog (by kernel_rfl) ?_
          simp only [List.take_succ_cons, List.take_zero, List.drop_succ_cons, List.drop_zero]
          repeat still_step
          still_call hL1'
          repeat still_step
          still_call hL2'
          repeat still_step
          refine wpStill_nil ?_
          go_wp2
          go_roundw
          case rel => exact ⟨k + 1, q, _, by simp, by simp, hkt, hn2, hR'.set j r, (hB'.setCell (Nat.le_refl _) _).drew, by simpa using hzl', hg2.out, hstep.out, hz2.out⟩
          case measure => simp [intOf]; omega
        · obtain rfl : k = ys.length := by omega
          obtain ⟨j, hj⟩ : ∃ j, i + ys.length = j := ⟨_, rfl⟩
          have hki : (i : Int) + (ys.length : Int) = (j : Int) := by omega
          have hjl : j < L := by omega
          have hz0' : zs'[j]?.getD 0 = 0 := hz' _ (by omega)
          have hcz := hR'.cell (j := j) (by omega)
          have hfz := hR'.frozen j
          rw [hz0'] at hcz
          have hwc : IntKind.u32.wrap (c : Int) = (c : Int) := IntWalk.u32_in _ (by omega)
          have HE := hid (And.intro hval' (And.intro hz' hgz'))
          clear hval' hz' hgz'
          go_wp2
          obtain ⟨hval', hz', hgz'⟩ := HE.out
          obtain ⟨hval, hz, hxe, _, _⟩ := HV.out
          refine ⟨⟨i + 1, zs'.set j c, by simp, hlt, hR'.set j c, hB'.setCell (Nat.le_refl _) _, by simpa using hzl', hgz'.set j c hcb, ?_, fun j' hj' => ?_⟩, by simp [intOf]; omega⟩
          · have h1 := val_set c (by omega : j < zs'.length)
            rw [hz0', Nat.mul_zero, Nat.add_zero] at h1
            rw [h1, ← hj, hval', List.take_length, hval, take_succ_getD xs i hlt, val_snoc, List.length_take, Nat.min_eq_left hil, hxe, Nat.add_mul, Nat.mul_assoc]
          · rw [List.getElem?_set_ne (by omega)]
            exact hz' j' (by omega)
    · obtain rfl : i = xs.length := by omega
      have HV := hid (And.intro hval (And.intro hz hgz))
      have hLz : Lim wr (.slice (some ⟨w.heap.size, 0, none⟩) L L) zs :=
        ⟨_, _, by rw [hzl], by omega, ⟨by simp only [maxLen]; omega, fun k hk => by simp [Value.ownBlock] at hk; rw [← hk]; exact ⟨_, _, hR⟩⟩, fun _ => ⟨_, 0, rfl, hR.lt, fun j hj => by rw [Nat.zero_add]; exact hR.cell hj⟩⟩
      have htrim := trim_calls _ zs hgz wr hLz
      clear hval hz hgz hlt hil
      go_wp2_with (go_at_call 83; refine htrim.mono ?_; rintro e w' ⟨⟨v', rfl, hv'⟩, rfl⟩)
      go_ret
      refine ⟨⟨_, rfl, ?_⟩, hB⟩
      rw [HV.out.1, List.take_length] at hv'
      exact hv'

theorem mul_calls (u v : Value) (a b : Nat) (w : World) (hx : Lim w u (lim a)) (hy : Lim w v (lim b)) (ha : (lim a).length ≤ 1000) (hb : (lim b).length ≤ 1000) :
    Calls Tryz.prog 60 #[u, v] w fun e w' => (∃ v', e = .returned v' ∧ Lim w' v' (lim (a * b))) ∧ Below w.heap.size w w' := by
  obtain ⟨au, cu, rfl, _⟩ := id hx
  obtain ⟨av, cv, rfl, _⟩ := id hy
  have h := mul_at au av cu cv _ _ (lim_grp a) (lim_grp b) w hx hy ha hb
  rwa [val_lim, val_lim] at h
end Go.Proofs.YtfobaeoccpebeaaGreatDoor

/- Package nat: Compare, Add, Mul: of texts. -/
namespace Go.Proofs.YtfobaeoccpebeaaGreatDoor
open Go.RowKit Go.Shelf
attribute [local go_sem] Oper.semAt_some

/-- a text of letters. -/
def st (l : List UInt8) : Value := .string ⟨l.toArray⟩

theorem lt_of_dig {n d k : Nat} (h1 : n < 10 ^ d) (h2 : d ≤ 9 * k) : n < 1000000000 ^ k := by
  rw [show (1000000000 : Nat) = 10 ^ 9 from rfl, ← Nat.pow_mul]
  exact Nat.lt_of_lt_of_le h1 (Nat.pow_le_pow_right (by decide) h2)

theorem rt_lim {s : List UInt8} (h : isRt s = true) : (lim (nv s)).length ≤ 45 := by
  have h1 := (isRt_iff _).1 h
  have h2 : nv s < 10 ^ s.length := nv_lt (fun c hc => by rw [h1.1] at hc; exact dec_isDg _ c hc)
  exact lim_len.2 (lt_of_dig h2 (by omega))

theorem lim_add_len {a b : Nat} (ha : (lim a).length ≤ 45) (hb : (lim b).length ≤ 45) : (lim (a + b)).length ≤ 46 := by
  have h1 := lim_len.1 ha
  have h2 := lim_len.1 hb
  refine lim_len.2 ?_
  have : (1000000000 : Nat) ^ 46 = 1000000000 ^ 45 * 1000000000 := Nat.pow_succ ..
  rw [this]
  generalize (1000000000 : Nat) ^ 45 = P at *
  omega

theorem lim_mul_len {a b k l : Nat} (ha : (lim a).length ≤ k) (hb : (lim b).length ≤ l) : (lim (a * b)).length ≤ k + l := by
  have h1 := lim_len.1 ha
  have h2 := lim_len.1 hb
  refine lim_len.2 ?_
  rw [Nat.pow_add]
  exact Nat.mul_lt_mul_of_lt_of_le h1 (Nat.le_of_lt h2) (Nat.pow_pos (by omega))



/-- of, of two texts. -/
theorem of_two (s t : ByteArray) (hs : s.size ≤ 140737488355328) (ht : t.size ≤ 140737488355328) (w : World) (hT : Tabs w) :
    Calls Tryz.prog 85 #[.slice (some ⟨w.heap.size, 0, none⟩) 2 2] (w.alloc (.cells #[.string s, .string t] 9)) fun e w' => Below w.heap.size w w' ∧
      (((isRt (tx s) && isRt (tx t)) = true ∧ ∃ g cap v0 v1, e = .returned (.tuple #[.slice (some ⟨g, 0, none⟩) 2 cap, .int .i64 0]) ∧ w'.cell? ⟨g, 0, none⟩ = some v0 ∧ w'.cell? ⟨g, 1, none⟩ = some v1 ∧ Lim w' v0 (lim (nv (tx s))) ∧ Lim w' v1 (lim (nv (tx t)))) ∨
        ((isRt (tx s) && isRt (tx t)) = false ∧ e = .returned (.tuple #[.slice none 0 0, .int .i64 10]))) := by
  refine (of_calls w.heap.size 0 2 [s, t] (by simp) (fun x hx => ?_) _ (hT.alloc _) (by simp) (fun j x hj => ?_)).mono ?_
  · rcases List.mem_cons.1 hx with rfl | hx
    · exact hs
    · rw [List.mem_singleton.1 hx]; exact ht
  · match j, hj with
    | 0, hj => cases hj; exact (Cls.new w _ [.string s, .string t]).cell 0 rfl
    | 1, hj => cases hj; exact (Cls.new w _ [.string s, .string t]).cell 1 rfl
    | j + 2, hj => simp at hj
  · rintro e w' ⟨hb, h⟩
    refine ⟨(below_alloc w _).trans (hb.mono (by simp)), ?_⟩
    rcases h with ⟨hr, ov, vs, he, ho, hl⟩ | ⟨⟨x, hx, hr⟩, he⟩
    · refine .inl ⟨by rw [show isRt (tx s) = true from hr s (by simp), show isRt (tx t) = true from hr t (by simp)]; rfl, ?_⟩
      obtain ⟨v0, e0, l0⟩ := hl 0 s rfl
      obtain ⟨v1, e1, l1⟩ := hl 1 t rfl
      rcases ho.2 with ⟨_, h2⟩ | ⟨g, cap, cur, hov, h1, h2, h3, h4, h5, h6⟩
      · simp at h2
      · refine ⟨g, cap, v0, v1, by rw [he, hov]; rfl, ?_, ?_, l0, l1⟩
        · exact cells_cell h2 (take_get h6 e0)
        · exact cells_cell h2 (take_get h6 e1)
    · refine .inr ⟨?_, he⟩
      rcases List.mem_cons.1 hx with rfl | hx
      · rw [show isRt (tx x) = false from hr]; rfl
      · rw [List.mem_singleton.1 hx] at hr; rw [show isRt (tx t) = false from hr]; exact Bool.and_false _

/-- of, of one text. -/
theorem of_one (s : ByteArray) (hs : s.size ≤ 140737488355328) (w : World) (hT : Tabs w) :
    Calls Tryz.prog 85 #[.slice (some ⟨w.heap.size, 0, none⟩) 1 1] (w.alloc (.cells #[.string s] 9)) fun e w' => Below w.heap.size w w' ∧
      ((isRt (tx s) = true ∧ ∃ g cap v0, e = .returned (.tuple #[.slice (some ⟨g, 0, none⟩) 1 cap, .int .i64 0]) ∧ w'.cell? ⟨g, 0, none⟩ = some v0 ∧ Lim w' v0 (lim (nv (tx s)))) ∨
        (isRt (tx s) = false ∧ e = .returned (.tuple #[.slice none 0 0, .int .i64 10]))) := by
  refine (of_calls w.heap.size 0 1 [s] (by simp) (fun x hx => ?_) _ (hT.alloc _) (by simp) (fun j x hj => ?_)).mono ?_
  · rw [List.mem_singleton.1 hx]; exact hs
  · match j, hj with
    | 0, hj => cases hj; exact (Cls.new w _ [.string s]).cell 0 rfl
    | j + 1, hj => simp at hj
  · rintro e w' ⟨hb, h⟩
    refine ⟨(below_alloc w _).trans (hb.mono (by simp)), ?_⟩
    rcases h with ⟨hr, ov, vs, he, ho, hl⟩ | ⟨⟨x, hx, hr⟩, he⟩
    · refine .inl ⟨hr s (by simp), ?_⟩
      obtain ⟨v0, e0, l0⟩ := hl 0 s rfl
      rcases ho.2 with ⟨_, h2⟩ | ⟨g, cap, cur, hov, h1, h2, h3, h4, h5, h6⟩
      · simp at h2
      · exact ⟨g, cap, v0, by rw [he, hov]; rfl, cells_cell h2 (take_get h6 e0), l0⟩
    · refine .inr ⟨?_, he⟩
      rw [List.mem_singleton.1 hx] at hr
      exact hr

def both (s t : ByteArray) : Bool := isRt (tx s) && isRt (tx t)
theorem both_rt {s t : ByteArray} (h : both s t = true) : isRt (tx s) = true ∧ isRt (tx t) = true := (Bool.and_eq_true _ _).mp h
def addS (s t : ByteArray) : List UInt8 := if both s t then fitS (nv (tx s) + nv (tx t)) else []
def addE (s t : ByteArray) : Int := if both s t then fitE (nv (tx s) + nv (tx t)) else 10
def mulS (s t : ByteArray) : List UInt8 := if both s t then fitS (nv (tx s) * nv (tx t)) else []
def mulE (s t : ByteArray) : Int := if both s t then fitE (nv (tx s) * nv (tx t)) else 10
def cmpR (s t : ByteArray) : Int := if both s t then cmpI (nv (tx s) : Nat) (nv (tx t) : Nat) else 0
def cmpE (s t : ByteArray) : Int := if both s t then 0 else 10

theorem ends_at (v : Value) (n : Nat) (hmax : (lim n).length ≤ 1000000) (w : World) (hT : Tabs w) (hL : Lim w v (lim n)) :
    Calls Tryz.prog 62 #[v] w fun e w' => e = .returned (.tuple #[.string ⟨(fitS n).toArray⟩, .int .i64 (fitE n)]) ∧ Below w.heap.size w w' := by
  have h := ends_calls v (lim n) (lim_grp n) (by rwa [val_lim]) w hT hL
  rwa [val_lim] at h

set_option maxRecDepth 100000 in
set_option maxHeartbeats 4000000 in
theorem natMul_calls (s t : ByteArray) (hs : s.size ≤ 140737488355328) (ht : t.size ≤ 140737488355328) (w : World) (hT : Tabs w) :
    Calls Tryz.prog 63 #[.string s, .string t] w fun e w' => e = .returned (.tuple #[.string ⟨(mulS s t).toArray⟩, .int .i64 (mulE s t)]) ∧ Below w.heap.size w w' := by
  have hprog : Tryz.prog.follows .mixedOrders = true := by kernel_rfl
  have hof := of_two s t hs ht w hT
  go_enter Tryz.func63, Tryz.ntmps63
  go_wp2_with (go_at_call 85; refine hof.mono ?_; rintro e w1 ⟨hb, ⟨hr, g, cap, v0, v1, rfl, c0, c1, l0, l1⟩ | ⟨hr, rfl⟩⟩)
  · have hadd := mul_calls v0 v1 _ _ w1.drew (l0.below (Below.refl _ _).drew) (l1.below (Below.refl _ _).drew) (by have := rt_lim (both_rt hr).1; omega) (by have := rt_lim (both_rt hr).2; omega)
    have hlen := lim_mul_len (rt_lim (both_rt hr).1) (rt_lim (both_rt hr).2)
    have hS : Hid (fitS (nv (tx s) * nv (tx t)) = mulS s t) := (if_pos hr).symm
    have hE : Hid (fitE (nv (tx s) * nv (tx t)) = mulE s t) := (if_pos hr).symm
    obtain ⟨n, hn⟩ : ∃ n, nv (tx s) * nv (tx t) = n := ⟨_, rfl⟩
    rw [hn] at hadd hlen hS hE
    clear hr hof hn
    go_wp2
    go_region_with (first
      | (go_at_call 60; refine hadd.mono ?_; rintro e w2 ⟨⟨v', rfl, hv'⟩, hb2⟩)
      | (go_at_call 62; refine (ends_at _ n (by omega) _ ((hT.below hb).drew.below hb2) hv').mono ?_; rintro e w3 ⟨rfl, hb3⟩))
    all_goals (
      go_wp2
      go_ret2
      refine ⟨by rw [← hS.out, ← hE.out]; rfl, ?_⟩
      exact hb.drew.trans ((hb2.mono hb.drew.size).trans (hb3.mono (Nat.le_trans hb.drew.size hb2.size))))
  · have hS : Hid ([] = mulS s t) := (if_neg (by rw [show both s t = false from hr]; decide)).symm
    have hE : Hid ((10 : Int) = mulE s t) := (if_neg (by rw [show both s t = false from hr]; decide)).symm
    go_wp2
    go_ret2
    exact ⟨by rw [← hS.out, ← hE.out]; rfl, hb⟩

def divQ (s : ByteArray) (b : Nat) : List UInt8 := if isRt (tx s) && decide (b ≠ 0) then Lib.decDigits (nv (tx s) / b) else []
def divR (s : ByteArray) (b : Nat) : Nat := if isRt (tx s) && decide (b ≠ 0) then nv (tx s) % b else 0
def divE (s : ByteArray) (b : Nat) : Int := if isRt (tx s) && decide (b ≠ 0) then 0 else 10

set_option maxRecDepth 100000 in
set_option maxHeartbeats 4000000 in
theorem natDiv_calls (s : ByteArray) (b : Nat) (hb32 : b < 4294967296) (hs : s.size ≤ 140737488355328) (w : World) (hT : Tabs w) :
    Calls Tryz.prog 67 #[.string s, .int .u32 b] w fun e w' => e = .returned (.tuple #[.string ⟨(divQ s b).toArray⟩, .int .u32 (divR s b), .int .i64 (divE s b)]) ∧ Below w.heap.size w w' := by
  have hprog : Tryz.prog.follows .mixedOrders = true := by kernel_rfl
  have hof := of_one s hs w hT
  by_cases hb0 : b = 0
  · subst hb0
    have hS : Hid (([] : List UInt8) = divQ s 0 ∧ (0 : Nat) = divR s 0 ∧ (10 : Int) = divE s 0) := by unfold divQ divR divE; rw [decide_eq_false (by simp), Bool.and_false]; exact ⟨rfl, rfl, rfl⟩
    go_enter Tryz.func67, Tryz.ntmps67
    go_wp2_with (go_at_call 85; refine hof.mono ?_; rintro e w1 ⟨hb, ⟨hr, g, cap, v0, rfl, c0, l0⟩ | ⟨hr, rfl⟩⟩)
    all_goals (
      go_ret3
      exact ⟨by rw [← hS.out.1, ← hS.out.2.1, ← hS.out.2.2]; rfl, hb⟩)
  have hbi : ((b : Int) == 0) = false := by simp [hb0]
  have hbp : (0 : Int) < (b : Int) := by omega
  go_enter Tryz.func67, Tryz.ntmps67
  go_wp2_with (go_at_call 85; refine hof.mono ?_; rintro e w1 ⟨hb, ⟨hr, g, cap, v0, rfl, c0, l0⟩ | ⟨hr, rfl⟩⟩)
  · have hS : Hid (Lib.decDigits (nv (tx s) / b) = divQ s b ∧ nv (tx s) % b = divR s b ∧ (0 : Int) = divE s b) := by unfold divQ divR divE; rw [hr, decide_eq_true hb0]; exact ⟨rfl, rfl, rfl⟩
    have hlen := rt_lim hr
    have hdiv := div_calls v0 _ (lim_grp _) b w1 (by omega) (by omega) hb32 l0
    rw [val_lim] at hdiv
    have hql : (lim (nv (tx s) / b)).length ≤ 1000000 := by
      have h1 := lim_len.1 hlen
      have h2 := Nat.div_le_self (nv (tx s)) b
      have := lim_len.2 (Nat.lt_of_le_of_lt h2 h1)
      omega
    obtain ⟨q, hq⟩ : ∃ q, nv (tx s) / b = q := ⟨_, rfl⟩
    obtain ⟨r, hr'⟩ : ∃ r, nv (tx s) % b = r := ⟨_, rfl⟩
    rw [hq, hr'] at hdiv hS
    rw [hq] at hql
    clear hr hq hr' hlen hof
    go_wp2_with (go_at_call 89; refine hdiv.mono ?_; rintro e w2 ⟨v', rfl, hv', hb2⟩)
    have htxt := text_calls v' q hql w2 ((hT.below hb).below hb2) hv'
    refine htxt.mono ?_
    rintro e w3 ⟨rfl, hb3⟩
    go_wp2
    go_ret3
    exact ⟨by rw [← hS.out.1, ← hS.out.2.1, ← hS.out.2.2]; rfl, hb.trans ((hb2.mono hb.size).trans (hb3.mono (Nat.le_trans hb.size hb2.size)))⟩
  · have hS : Hid (([] : List UInt8) = divQ s b ∧ (0 : Nat) = divR s b ∧ (10 : Int) = divE s b) := by unfold divQ divR divE; rw [hr]; exact ⟨rfl, rfl, rfl⟩
    go_ret3
    exact ⟨by rw [← hS.out.1, ← hS.out.2.1, ← hS.out.2.2]; rfl, hb⟩
end Go.Proofs.YtfobaeoccpebeaaGreatDoor

/- Package nat: Power, Of, To. -/
namespace Go.Proofs.YtfobaeoccpebeaaGreatDoor
open Go.RowKit Go.Shelf
attribute [local go_sem] Oper.semAt_some

theorem dg_lt (n : Nat) : n < 10 ^ Lib.nDigits n := by
  have h := nv_lt (dec_isDg n)
  rwa [nv_dec, Lib.decDigits_length] at h

/-- more than 45 limbs are more than 400 digits. -/
theorem long_of_lim {n : Nat} (h : 45 < (lim n).length) : ¬ Lib.nDigits n ≤ 400 := by
  intro h2
  have h1 : n < 1000000000 ^ 45 := lt_of_dig (dg_lt n) (by omega)
  have := lim_len.2 h1
  omega
theorem fit_long {n : Nat} (h : 45 < (lim n).length) : fitS n = [] ∧ fitE n = 11 := ⟨if_neg (long_of_lim h), if_neg (long_of_lim h)⟩
theorem lim_mono {a b : Nat} (h : a ≤ b) : (lim a).length ≤ (lim b).length :=
  lim_len.2 (Nat.lt_of_le_of_lt h (lim_len.1 (Nat.le_refl _)))

theorem lim_one : lim 1 = [1] := by rw [lim_pos (by decide)]; rw [show 1 / 1000000000 = 0 from rfl, lim_zero]

theorem pow_up {b k n : Nat} (hk : k ≤ n) (h : 45 < (lim (b ^ k)).length) : 45 < (lim (b ^ n)).length := by
  by_cases hb : b = 0
  · subst hb
    cases k with
    | zero => rw [Nat.pow_zero, lim_one] at h; simp at h
    | succ k => rw [Nat.pow_succ, Nat.mul_zero, lim_zero] at h; simp at h
  · have := lim_mono (Nat.pow_le_pow_right (n := b) (by omega) hk)
    omega

set_option maxRecDepth 100000 in
set_option maxHeartbeats 4000000 in
theorem natPower_in (b n : Nat) (hb32 : b < 4294967296) (hn : n ≤ 400) (w : World) (hT : Tabs w) :
    Calls Tryz.prog 33 #[.int .u32 b, .int .i64 n] w fun e w' => e = .returned (.tuple #[.string ⟨(fitS (b ^ n)).toArray⟩, .int .i64 (fitE (b ^ n))]) ∧ Below w.heap.size w w' := by
  have hsm : (lim b).length ≤ 2 := lim_len.2 (by omega)
  have hwb : IntKind.u64.wrap (b : Int) = (b : Int) := IntWalk.u64_in _ (by omega)
  go_enter Tryz.func33, Tryz.ntmps33
  go_wp2
  go_loopw [6, 15] (fun v i wr => ∃ (k : Nat), i = .int .i64 k ∧ k ≤ n ∧ Lim wr v (lim (b ^ k)) ∧ (lim (b ^ k)).length ≤ 45 ∧ Below w.heap.size w wr) (fun _ i _ => n - (intOf i).toNat)
  case atStart =>
    refine ⟨0, rfl, Nat.zero_le _, ?_, ?_, below_alloc w _⟩
    · rw [Nat.pow_zero, lim_one]
      have h := Cls.new w 52 [.int .u32 1]
      exact ⟨_, 1, rfl, Nat.le_refl _, ⟨by simp [maxLen], fun k hk => by simp [Value.ownBlock] at hk; rw [← hk]; exact ⟨_, _, h⟩⟩, fun _ => ⟨w.heap.size, 0, rfl, h.lt, fun j hj => by
        match j, hj with
        | 0, _ => exact h.cell 0 rfl⟩⟩
    · rw [Nat.pow_zero, lim_one]; simp
  case round =>
    obtain ⟨k, rfl, hk, hL, hlen, hB⟩ := hrel
    by_cases hlt : k < n
    · have hlt' : (k : Int) < (n : Int) := by omega
      have hsmall := small_calls b (by omega) wr
      have hlen2 : (lim (b ^ (k + 1))).length ≤ 47 := by rw [Nat.pow_succ]; exact lim_mul_len hlen hsm
      have hmul : ∀ w2 v', Below wr.heap.size wr w2 → Lim w2 v' (lim b) → Calls Tryz.prog 60 #[u6, v'] w2 fun e w' => (∃ v'', e = .returned v'' ∧ Lim w' v'' (lim (b ^ (k + 1)))) ∧ Below w2.heap.size w2 w' := fun w2 v' h1 h2 => by
        have h := mul_calls u6 v' _ _ w2 (hL.below h1) h2 (by omega) (by omega)
        rwa [← Nat.pow_succ] at h
      obtain ⟨c, hc⟩ : ∃ c, (lim (b ^ (k + 1))).length = c := ⟨_, rfl⟩
      have HC := hid hc
      rw [hc] at hlen2
      have htest : (c : Int) ≤ 45 ∨ (45 : Int) < (c : Int) := by omega
      clear hc
      rcases htest with htest | htest
      · go_wp2_with (first
          | (go_at_call 61; refine hsmall.mono ?_; rintro e w2 ⟨⟨v', rfl, hv'⟩, hb2⟩)
          | (go_at_call 60; refine (hmul _ _ hb2 hv').mono ?_; rintro e w3 ⟨⟨v'', rfl, hv''⟩, hb3⟩; obtain ⟨a'', c'', rfl, _⟩ := id hv''; rw [HC.out]))
        rw [HC.out] at hv''
        exact ⟨⟨k + 1, by simp, hlt, hv'', by rw [HC.out]; omega, hB.trans ((hb2.mono hB.size).trans (hb3.mono (Nat.le_trans hB.size hb2.size)))⟩, by simp [intOf]; omega⟩
      · go_wp2_with (first
          | (go_at_call 61; refine hsmall.mono ?_; rintro e w2 ⟨⟨v', rfl, hv'⟩, hb2⟩)
          | (go_at_call 60; refine (hmul _ _ hb2 hv').mono ?_; rintro e w3 ⟨⟨v'', rfl, hv''⟩, hb3⟩; obtain ⟨a'', c'', rfl, _⟩ := id hv''; rw [HC.out]))
        go_ret2
        have hl := fit_long (pow_up (b := b) (show k + 1 ≤ n from hlt) (by rw [HC.out]; omega))
        exact ⟨by rw [hl.1, hl.2]; rfl, hB.trans ((hb2.mono hB.size).trans (hb3.mono (Nat.le_trans hB.size hb2.size)))⟩
    · obtain rfl : k = n := by omega
      have hends := ends_at u6 _ (by omega) wr (hT.below hB) hL
      go_wp2_with (go_at_call 62; refine hends.mono ?_; rintro e w2 ⟨rfl, hb2⟩)
      go_ret2
      exact ⟨rfl, hB.trans (hb2.mono hB.size)⟩

set_option maxRecDepth 100000 in
theorem natPower_calls (b : Nat) (x : Int) (hb32 : b < 4294967296) (w : World) (hT : Tabs w) :
    Calls Tryz.prog 33 #[.int .u32 b, .int .i64 x] w fun e w' => e = .returned (.tuple #[.string ⟨(powS b x).toArray⟩, .int .i64 (powE b x)]) ∧ Below w.heap.size w w' := by
  by_cases h : 0 ≤ x ∧ x ≤ 400
  · have h2 := natPower_in b x.toNat hb32 (by omega) w hT
    rw [show ((x.toNat : Nat) : Int) = x from by omega] at h2
    unfold powS powE
    rw [if_pos h, if_pos h]
    exact h2
  · have hS : Hid ([] = powS b x ∧ (10 : Int) = powE b x) := ⟨(if_neg h).symm, (if_neg h).symm⟩
    by_cases hx : x < 0
    · clear h
      go_enter Tryz.func33, Tryz.ntmps33
      go_wp2
      go_ret2
      exact ⟨by rw [← hS.out.1, ← hS.out.2]; rfl, Below.refl _ _⟩
    · have hx0 : 0 ≤ x := by omega
      have hx4 : 400 < x := by omega
      clear h hx
      go_enter Tryz.func33, Tryz.ntmps33
      go_wp2
      go_ret2
      exact ⟨by rw [← hS.out.1, ← hS.out.2]; rfl, Below.refl _ _⟩
end Go.Proofs.YtfobaeoccpebeaaGreatDoor

