/- Package nat: slices.Backward at a slice of limbs: the iterator's contract. -/
import Derived.Test.YtdppcpiepippoaaGreatDoorNatA
import Derived.Test.YtdppcpiepippoaaGreatDoorRange
namespace Go.Proofs.YtdppcpiepippoaaGreatDoor
open Go.RowKit Go.Shelf
attribute [local go_sem] Oper.semAt_some

set_option maxHeartbeats 1000000 in
theorem back_calls (a : Option Addr) (len cap : Nat) (w : World) :
    Calls Tryz.prog 47 #[.slice a len cap] w fun e w' => e = .returned (.func (.func 64) #[] #[.pointer (some ⟨w.heap.size, 0, none⟩)]) ∧ w.alloc (.cells #[.slice a len cap] 46) = w' := by
  have hmf : ∀ (fn : Fn) (first cap : Array Value) (w : World), (Instr.makeFunc fn first cap).run Tryz.prog w = .ok (.func fn first cap) w := fun _ _ _ _ => rfl
  go_enter Tryz.func47, Tryz.ntmps47
  go_wp2
  go_ret
  exact ⟨rfl, rfl⟩

/-- what the iterator hands over: a place and its limb. -/
def encB (x : Nat × Nat) : Array Value := #[.int .i64 (x.1 : Nat), .int .u32 (x.2 : Nat)]

set_option maxRecDepth 100000 in
set_option maxHeartbeats 2000000 in
theorem back1_some (l Bs b off len cap : Nat) (xs : List Nat) (hm : len ≤ maxLen) (K : Nat → Prop) (hKs : K Bs) (hKb : K b) (J Jx : List (Nat × Nat) → World → Prop)
    (hY : ∀ pre x W1, J pre W1 → (x.1 + pre.length + 1 = len ∧ x.2 = xs[x.1]?.getD 0) → YieldAt Fence.wide 7 Tryz.prog l (encB x) W1 fun e W' =>
      (e = .returned (.bool true) ∧ J (pre ++ [x]) W' ∧ KeptAt K W1 W') ∨ (e = .returned (.bool false) ∧ Jx (pre ++ [x]) W'))
    (W : World) (hBs : W.cell? ⟨Bs, 0, none⟩ = some (.slice (some ⟨b, off, none⟩) len cap)) (hc : ∀ j, j < len → W.cell? ⟨b, off + j, none⟩ = some (.int .u32 (xs[j]?.getD 0 : Nat))) (h0 : J [] W) :
    CallsIn Fence.wide 8 Tryz.prog 64 #[.func (.yield l) #[] #[], .pointer (some ⟨Bs, 0, none⟩)] W fun e W' => (∃ v, e = .returned v) ∧
      ((∃ ys : List (Nat × Nat), ys.length = len ∧ J ys W') ∨ (∃ pre : List (Nat × Nat), pre.length ≤ len ∧ Jx pre W')) := by
  unfold maxLen at hm
  refine callsIn_of_wp Tryz.func64 rfl trivial ?_ rfl
  simp only [Tryz.ntmps64, List.size_toArray, List.length_cons, List.length_nil, Nat.reduceAdd, Nat.reduceSub, Array.replicate_succ, Array.replicate_zero, List.push_toArray, List.append_toArray, List.nil_append, List.cons_append]
  gi_wp2
  gi_loopw [3] (fun i wr => ∃ (m : Nat) (pre : List (Nat × Nat)), pre.length + m = len ∧ i = .int .i64 ((m : Int) - 1) ∧ J pre wr ∧ KeptAt K W wr)
    (fun i _ => (intOf i + 1).toNat)
  case atStart => exact ⟨len, [], by simp, rfl, h0, KeptAt.refl _ _⟩
  case round =>
    obtain ⟨m, pre, hml, rfl, hJs, hk⟩ := hrel
    cases m with
    | zero =>
      have hml' := hid hml
      clear hml
      gi_wp2
      go_end0
      exact ⟨⟨_, rfl⟩, .inl ⟨pre, by have := hml'.out; omega, hJs⟩⟩
    | succ m =>
      rw [show ((m + 1 : Nat) : Int) - 1 = (m : Int) from by omega]
      have hcB := (hk.cell (p := ⟨Bs, 0, none⟩) hKs).trans hBs
      have hcx := (hk.cell (p := ⟨b, off + m, none⟩) hKb).trans (hc m (by omega))
      have hlt : m < len := by omega
      obtain ⟨fn, tmps, assign, body, hy, hR⟩ := hY pre (m, xs[m]?.getD 0) wr hJs ⟨by show m + _ + 1 = _; omega, rfl⟩
      simp only [encB] at hy
      have hml' := hid hml
      clear hml hY
      gi_wp2
      refine hR.mono ?_
      rintro e W3 (⟨rfl, hJ3, hk3⟩ | ⟨rfl, hJx3⟩)
      · gi_wp2
        go_roundw
        case rel => exact ⟨m, pre ++ [(m, xs[m]?.getD 0)], by have := hml'.out; simp; omega, by go_num, hJ3, hk.trans hk3⟩
        case measure => simp [intOf]
      · gi_wp2
        refine bodyPost_ret (results_none rfl _ _ _) rfl ?_
        exact ⟨⟨_, rfl⟩, .inr ⟨_, by have := hml'.out; simp; omega, hJx3⟩⟩

set_option maxRecDepth 100000 in
set_option maxHeartbeats 1000000 in
theorem back1_none (l Bs : Nat) (a : Option Addr) (cap : Nat) (J : List (Nat × Nat) → World → Prop) (W : World) (hBs : W.cell? ⟨Bs, 0, none⟩ = some (.slice a 0 cap)) (h0 : J [] W) :
    CallsIn Fence.wide 8 Tryz.prog 64 #[.func (.yield l) #[] #[], .pointer (some ⟨Bs, 0, none⟩)] W fun e W' => (∃ v, e = .returned v) ∧ J [] W' := by
  refine callsIn_of_wp Tryz.func64 rfl trivial ?_ rfl
  simp only [Tryz.ntmps64, List.size_toArray, List.length_cons, List.length_nil, Nat.reduceAdd, Nat.reduceSub, Array.replicate_succ, Array.replicate_zero, List.push_toArray, List.append_toArray, List.nil_append, List.cons_append]
  gi_wp2
  gi_loopw [3] (fun i wr => i = .int .i64 (-1) ∧ J [] wr) (fun _ _ => 0)
  case atStart => exact ⟨rfl, h0⟩
  case round =>
    obtain ⟨rfl, hJs⟩ := hrel
    gi_wp2
    go_end0
    exact ⟨⟨_, rfl⟩, hJs⟩

/-- the blocks that the iterator reads. -/
def KB (Bs : Nat) (v : Value) (k : Nat) : Prop := k = Bs ∨ v.ownBlock = some k

theorem notKB {Bs k n : Nat} {v : Value} (hv : ∀ k, v.ownBlock = some k → k < n) (h1 : k ≠ Bs) (h2 : n ≤ k) : ¬ KB Bs v k := by
  rintro (e | e)
  · exact h1 e
  · have := hv _ e
    omega

def OkB (xs : List Nat) (pre : List (Nat × Nat)) (x : Nat × Nat) : Prop := x.1 + pre.length + 1 = xs.length ∧ x.2 = xs[x.1]?.getD 0

theorem back_iter (Bs : Nat) (v : Value) (xs : List Nat) (w : World) (hL : Lim w v xs) (hBs : w.cell? ⟨Bs, 0, none⟩ = some v) (hlt : Bs < w.heap.size) :
    IterC Tryz.prog 64 #[.pointer (some ⟨Bs, 0, none⟩)] encB (fun A B => A = B) (KeptAt (KB Bs v)) (OkB xs) (fun ys _ => ys.length = xs.length) (fun pre _ => pre.length ≤ xs.length) w := by
  intro l J Jx W hW _ _ hY h0
  have hBs' := (hW.cell (p := ⟨Bs, 0, none⟩) hlt).trans hBs
  obtain ⟨a, cap, rfl, h2, h3, h4⟩ := hL.below hW
  by_cases hne : xs = []
  · subst hne
    exact (back1_none l Bs a cap J W hBs' h0).mono fun e W' ⟨he, hj⟩ => ⟨he, .inl ⟨[], rfl, hj⟩⟩
  · obtain ⟨b, off, rfl, hb, hc⟩ := h4 hne
    exact back1_some l Bs b off xs.length cap xs (by have := h3.1; omega) _ (.inl rfl) (.inr rfl) J Jx hY W hBs' hc h0

/-! ### text: the digits of limbs, from the greatest one on -/

/-- the digits of the k greatest limbs. -/
def txt (xs : List Nat) (k : Nat) : List UInt8 := if k = 0 then [] else Lib.decDigits (val (xs.drop (xs.length - k)))

theorem txt_step {xs : List Nat} (hg : Grp xs) (htop : ∀ k, xs.length = k + 1 → xs[k]?.getD 0 ≠ 0) {i k : Nat} (h : i + k + 1 = xs.length) :
    txt xs (k + 1) = txt xs k ++ ((if k = 0 then [] else List.replicate (9 - (Lib.decDigits (xs[i]?.getD 0)).length) 48) ++ Lib.decDigits (xs[i]?.getD 0)) := by
  have hi : i < xs.length := by omega
  have hd : xs.drop i = xs[i]?.getD 0 :: xs.drop (i + 1) := by
    rw [List.getElem?_eq_getElem hi, Option.getD_some, List.drop_eq_getElem_cons hi]
  unfold txt
  rw [if_neg (by omega), show xs.length - (k + 1) = i from by omega, hd, val]
  by_cases hk : k = 0
  · subst hk
    rw [if_pos rfl, if_pos rfl, List.drop_of_length_le (by omega)]
    simp [val]
  · rw [if_neg hk, if_neg hk, show xs.length - k = i + 1 from by omega]
    refine dec_limb ?_ (hg i)
    intro e
    have h1 : lim (val (xs.drop (i + 1))) = xs.drop (i + 1) := lim_val (hg.drop _) fun j hj => by
      rw [List.length_drop] at hj
      rw [List.getElem?_drop]
      exact htop _ (by omega)
    rw [e, lim_zero] at h1
    have := congrArg List.length h1
    simp at this
    omega

theorem txt_len {xs : List Nat} (hg : Grp xs) (k : Nat) (hk : k ≤ xs.length) : (txt xs k).length ≤ 9 * xs.length + 1 := by
  unfold txt
  split
  · simp
  · rw [Lib.decDigits_length]
    have h1 := val_lt (hg.drop (xs.length - k))
    rw [List.length_drop] at h1
    have h2 : (1000000000 : Nat) ^ (xs.length - (xs.length - k)) ≤ 10 ^ (9 * xs.length) := by
      rw [show (1000000000 : Nat) = 10 ^ 9 from rfl, ← Nat.pow_mul]
      exact Nat.pow_le_pow_right (by omega) (by omega)
    have h3 := Nat.lt_of_lt_of_le h1 h2
    exact nDigits_le_of_lt h3

def TextInv (w : World) (v : Value) (xs : List Nat) (pre : List (Nat × Nat)) (W : World) : Prop :=
  Boxed W w.heap.size 46 v ∧ Lib.IsBuilderF 87 5 (w.heap.size + 1) (w.heap.size + 1) (Lib.byteCells (txt xs pre.length)) W ∧ Boxed W (w.heap.size + 2) 46 v ∧
    Below w.heap.size w W ∧ w.heap.size + 3 ≤ W.heap.size

theorem textInv_own (w : World) (v : Value) (xs : List Nat) : OwnFrom (w.heap.size + 3) (TextInv w v xs) :=
  ownFrom_of (fun s W W' ⟨h1, h2, h3, h4, h5⟩ hk hb => ⟨hk.boxed h1, hk.builder h2, hk.boxed h3, h4.trans (hb.mono (by omega)), Nat.le_trans h5 hb.size⟩) (fun s W h => h.2.2.2.2)

/-- a round's end. -/
theorem text_end {w W W' : World} {v : Value} {xs : List Nat} {pre : List (Nat × Nat)} {x : Nat × Nat} {bs : List Value} (h : TextInv w v xs pre W) (hv : ∀ k, v.ownBlock = some k → k < w.heap.size)
    (hw : Wrote 5 (w.heap.size + 1) W W') (hB : Lib.IsBuilderF 87 5 (w.heap.size + 1) (w.heap.size + 1) bs W') (hbs : bs = Lib.byteCells (txt xs (pre.length + 1))) :
    (∀ n, KeepsFrom n W W') ∧ KeptAt (KB (w.heap.size + 2) v) W W' ∧ TextInv w v xs (pre ++ [x]) W' := by
  obtain ⟨h1, h2, h3, h4, h5⟩ := h
  obtain ⟨c, hc⟩ := builder_row h2
  refine ⟨fun n => hw.keeps ⟨c, _, _, hc⟩, ?_, hw.boxed h1 (by omega) (by decide), ?_, hw.boxed h3 (by omega) (by decide), h4.trans (hw.below.mono (by omega)), Nat.le_trans h5 hw.below.size⟩
  · rintro k (rfl | hk)
    · exact (hw.boxed h3 (by omega) (by decide)).trans (Eq.symm h3)
    · exact hw.below.block k (by have := hv k hk; omega)
  · rw [List.length_append, List.length_singleton, ← hbs]; exact hB

set_option maxRecDepth 100000 in
set_option maxHeartbeats 4000000 in
theorem text_some (a : Option Addr) (cap : Nat) (xs : List Nat) (hne : xs ≠ []) (hg : Grp xs) (htop : ∀ k, xs.length = k + 1 → xs[k]?.getD 0 ≠ 0) (hmax : xs.length ≤ 1000000) (w : World) (hT : Tabs w) (hL : Lim w (.slice a xs.length cap) xs) :
    Calls Tryz.prog 44 #[.slice a xs.length cap] w fun e w' => e = .returned (.string ⟨(Lib.decDigits (val xs)).toArray⟩) ∧ Below w.heap.size w w' := by
  have hlen' : ((xs.length : Int) == 0) = false := by simpa using hne
  have hlen0 : xs.length ≠ 0 := fun e => hne (List.eq_nil_of_length_eq_zero e)
  have hv : ∀ k, (Value.slice a xs.length cap).ownBlock = some k → k < w.heap.size := hL.own
  refine (callsIn_wide (n := 9)).1 ?_
  refine callsIn_of_wp_marks Tryz.func44 rfl trivial ?_ rfl
  simp only [Tryz.ntmps44, List.size_toArray, List.length_cons, List.length_nil, Nat.reduceAdd, Nat.reduceSub, Array.replicate_succ, Array.replicate_zero, List.push_toArray, List.append_toArray, List.nil_append, List.cons_append]
  gi_wp2_with (refine ⟨trivial, ?_⟩; gi_at_call 47; refine (callsIn_wide.2 (back_calls _ _ _ _)).mono ?_; rintro e w' ⟨rfl, rfl⟩)
  obtain ⟨W0, hW0, hsz0, hI0, hc0, hL0⟩ : ∃ W0, (((w.alloc (.cells #[.slice a xs.length cap] 46)).alloc (.cells #[.pointer none, .slice none 0 0] 87)).alloc (.cells #[.slice a xs.length cap] 46)) = W0 ∧ W0.heap.size = w.heap.size + 3 ∧ TextInv w (.slice a xs.length cap) xs [] W0 ∧ W0.cell? ⟨w.heap.size + 2, 0, none⟩ = some (.slice a xs.length cap) ∧ Lim W0 (.slice a xs.length cap) xs := by
    have b1 := Boxed.new w 46 (.slice a xs.length cap)
    have b2 := builder_new (w.alloc (.cells #[.slice a xs.length cap] 46)) 87 5
    have b3 := Boxed.new ((w.alloc (.cells #[.slice a xs.length cap] 46)).alloc (.cells #[.pointer none, .slice none 0 0] 87)) 46 (.slice a xs.length cap)
    have hB0 : Below w.heap.size w (((w.alloc (.cells #[.slice a xs.length cap] 46)).alloc (.cells #[.pointer none, .slice none 0 0] 87)).alloc (.cells #[.slice a xs.length cap] 46)) :=
      (((Below.refl _ w).alloc (Nat.le_refl _) _).alloc (by simp) _).alloc (by simp; omega) _
    have hk3 : CellsKept ((w.alloc (.cells #[.slice a xs.length cap] 46)).alloc (.cells #[.pointer none, .slice none 0 0] 87)) (((w.alloc (.cells #[.slice a xs.length cap] 46)).alloc (.cells #[.pointer none, .slice none 0 0] 87)).alloc (.cells #[.slice a xs.length cap] 46)) := CellsKept.below (below_alloc _ _)
    simp only [World.size_alloc, Nat.add_assoc, Nat.reduceAdd] at b2 b3
    exact ⟨_, rfl, by simp, ⟨(b1.alloc _).alloc _, hk3.builder b2, b3, hB0, by simp⟩, b3.cell, ((hL.below (below_alloc w _)).below (below_alloc _ _)).below (below_alloc _ _)⟩
  rw [hW0]
  clear hW0
  refine rangeOver (gf := 64) (lb := #[.pointer (some ⟨w.heap.size + 1 + 1, 0, none⟩)]) rfl (enters_of Tryz.func64 (by kernel_rfl) rfl)
    (back_iter (w.heap.size + 2) (.slice a xs.length cap) xs W0 hL0 hc0 (by omega)) (Below.refl _ _) (fun _ => rfl)
    (fun A B e => by subst e; exact ⟨Nat.le_refl _, fun _ _ _ h _ => h⟩) (fun h k => h.trans k)
    (fun W l o o' hl h _ _ => KeptAt.putObj W l o' (notKB hv (by omega) (by omega)))
    (ownFrom_pure _ _) (ownFrom_pure _ _)
    (TextInv w (.slice a xs.length cap) xs) (fun _ _ _ => False) (by rw [hsz0]; exact textInv_own w _ xs) (fun _ _ _ _ _ hs _ _ => hs) (fun s A B h e => by subst e; exact h) (fun _ _ _ _ h _ => h) hI0
    (fun x a' _ => a' = { tmps := #[.slice a xs.length cap, .pointer (some ⟨w.heap.size, 0, none⟩), .string ⟨#[]⟩, .pointer (some ⟨w.heap.size + 1, 0, none⟩), .int .i64 (x.1 : Nat), .int .u32 (x.2 : Nat), undef,
      .slice a xs.length cap, .int .i64 xs.length, .bool false, .slice a xs.length cap, .func (.func 64) #[] #[.pointer (some ⟨w.heap.size + 1 + 1, 0, none⟩)], .int .i64 (x.1 : Nat), .int .u32 (x.2 : Nat), undef, undef, undef, undef, undef, undef, undef, undef, undef, undef, undef, undef, undef, undef, undef, undef], defers := [] })
    (fun _ _ _ _ _ _ hs _ _ => hs) ?assign ?body ?done ?stop
  case assign =>
    intro l pre x W K hi hok hK
    unfold encB
    gi_wp2
    exact hK _ _ (KeepsFrom.refl _ _) (KeptAt.refl _ _) hi rfl
  case body =>
    rintro l pre ⟨i, y⟩ a' W hl hinv rfl ⟨hx1, hx2⟩
    have hxy : y < 1000000000 := by rw [show y = xs[i]?.getD 0 from hx2]; exact hg i
    have hstep := txt_step (i := i) (k := pre.length) hg htop (by simpa using hx1)
    rw [← show y = xs[i]?.getD 0 from hx2] at hstep
    have hlt := txt_len hg pre.length (by simp at hx1; omega)
    have hTW := hT.below hinv.2.2.2.1
    have hsy : (Lib.decDigits y).length ≤ 9 ∧ 1 ≤ (Lib.decDigits y).length := by
      rw [Lib.decDigits_length]
      exact ⟨by have := nDigits_unique_le hxy; omega, Lib.nDigits_pos y⟩
    obtain ⟨sy, hsy1⟩ : ∃ sy : ByteArray, (⟨(Lib.decDigits y).toArray⟩ : ByteArray) = sy := ⟨_, rfl⟩
    have hsz : sy.size = (Lib.decDigits y).length := by rw [← hsy1]; simp [ByteArray.size]
    have hsd : sy.data.toList = Lib.decDigits y := by rw [← hsy1]
    have hF := formatUint y (by omega) W hTW
    rw [hsy1] at hF
    have hend := fun (W' : World) bs => text_end (x := (i, y)) (W' := W') (bs := bs) hinv hv
    obtain ⟨h1, h2, h3, h4, h5⟩ := hinv
    have hc1 := h1.cell
    have hx1' : i + pre.length + 1 = xs.length := hx1
    have hsy9 : sy.size ≤ 9 := by omega
    have hyI : ((y : Nat) : Int) < 4294967296 := by omega
    have HX := hid (And.intro hstep (And.intro hsz (And.intro hsd (And.intro hx1' hend))))
    clear hstep hsz hsd hsy1 hx2 hx1 hsy hend
    by_cases hp : pre.length = 0
    · have hi2 : decide ((i : Int) < (xs.length : Int) - 1) = false := by simp; omega
      have HP := hid hp
      clear hp hx1'
      gi_wp2_with fail
      refine callR hF ?_
      rintro e w1 ⟨rfl, hb1⟩
      have hk1 := CellsKept.below hb1
      have hc1' := (hk1.boxed h1).cell
      have hB1 := hk1.builder h2
      have hsz1 := hb1.size
      gi_wp2_with fail
      refine callR (Tryz.Builder_WriteString_k _ _ _ sy _ hB1 (by rw [Lib.byteCells_length]; omega) (by omega)) ?_
      rintro e w2 ⟨rfl, hB2, hb2, ho2⟩
      gi_wp2
      obtain ⟨hstep, hsz, hsd, hx1, hend⟩ := HX.out
      obtain ⟨f1, f2, f3⟩ := hend w2 _ ((Wrote.of_below hb1 (by omega)).trans ⟨hb2, ho2⟩) (.inr hB2) (by rw [hstep, if_pos HP.out, Lib.byteCells_append, Lib.strCells_eq, hsd]; rfl)
      exact ⟨f1 _, f2, f3⟩
    · have hi2 : ((i : Int) < (xs.length : Int) - 1) := by omega
      have HP := hid hp
      clear hp hx1'
      gi_wp2_with fail
      refine callR hF ?_
      rintro e w1 ⟨rfl, hb1⟩
      have hk1 := CellsKept.below hb1
      have hc1' := (hk1.boxed h1).cell
      have hB1 := hk1.builder h2
      have hsz1 := hb1.size
      gi_wp2_with fail
      rw [show (9 : Int) - (sy.size : Int) = ((9 - sy.size : Nat) : Int) from by omega]
      refine callR (Tryz.strings_Repeat ⟨#[48]⟩ (9 - sy.size) w1 (by omega) (by show 1 * (9 - sy.size) ≤ _; omega)) ?_
      rintro e w2 ⟨rfl, hb2⟩
      have hk2 := CellsKept.below hb2
      have hB2 := hk2.builder hB1
      have hsz2 := hb2.size
      obtain ⟨z, hz1⟩ : ∃ z : ByteArray, (⟨(Lib.repeatL (⟨#[48]⟩ : ByteArray).data.toList (9 - sy.size)).toArray⟩ : ByteArray) = z := ⟨_, rfl⟩
      have hzd : z.data.toList = List.replicate (9 - sy.size) 48 := by rw [← hz1]; simpa using Lib.repeatL_replicate 48 1 (9 - sy.size)
      have hzs : z.size ≤ 9 := by rw [← len_str, hzd, List.length_replicate]; omega
      rw [hz1]
      clear hz1
      have HZ := hid hzd
      clear hzd
      gi_wp2_with fail
      refine callR (Tryz.Builder_WriteString_k _ _ _ z _ hB2 (by rw [Lib.byteCells_length]; omega) (by omega)) ?_
      rintro e w3 ⟨rfl, hB3, hb3, ho3⟩
      have hsz3 := hb3.size
      gi_wp2_with fail
      refine callR (Tryz.Builder_WriteString_k _ _ _ sy _ (.inr hB3) (by rw [List.length_append, Lib.byteCells_length, Lib.strCells_length]; omega) (by omega)) ?_
      rintro e w4 ⟨rfl, hB4, hb4, ho4⟩
      gi_wp2
      obtain ⟨hstep, hsz, hsd, hx1, hend⟩ := HX.out
      obtain ⟨f1, f2, f3⟩ := hend w4 _ ((((Wrote.of_below hb1 (by omega)).trans (Wrote.of_below hb2 (by omega))).trans ⟨hb3, ho3⟩).trans ⟨hb4, ho4⟩) (.inr hB4)
        (by rw [hstep, if_neg HP.out, Lib.byteCells_append, Lib.byteCells_append, Lib.strCells_eq, Lib.strCells_eq, hsd, HZ.out, hsz, List.append_assoc])
      exact ⟨f1 _, f2, f3⟩
  case done =>
    rintro D ys W hD hlen ⟨h1, h2, h3, h4, h5⟩ hK
    have hfin : txt xs ys.length = Lib.decDigits (val xs) := by
      rw [show ys.length = xs.length from hlen]
      unfold txt
      rw [if_neg hlen0, Nat.sub_self]
      rfl
    rw [hfin] at h2
    have hfin' := hid hfin
    clear hfin hlen
    gi_wp2_with fail
    refine callW (Tryz.Builder_String_any_k _ _ _ _ h2 (by omega)) ?_
    rintro e w1 ⟨rfl, hB1, hb1, ho1⟩
    gi_wp2
    have hKD : w1.heap[D]? = some (.deferred (some [])) := ho1 D _ hK (by simp; omega) (fun _ _ e => by cases e)
    refine ⟨by simp, .inl ⟨_, _, rfl, run_takeDeferred hKD, ?_⟩⟩
    exact ⟨_, results_tmp rfl _ _ _, rfl, (h4.trans (hb1.mono (by omega))).trans (belowK_b (w := w) (Nat.le_refl _) w1 D _ _ (by omega) hKD rfl rfl)⟩
  case stop =>
    rintro D c pre W _ _ h _
    exact h.elim
end Go.Proofs.YtdppcpiepippoaaGreatDoor
