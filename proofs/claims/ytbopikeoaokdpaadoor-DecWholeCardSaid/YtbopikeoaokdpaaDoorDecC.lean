/- Package dec: the reader: isNext, digits: walked. -/
import Derived.Test.YtbopikeoaokdpaaDoorDecB
import Derived.Lib.OthersKept
import Derived.Lib.TrimU
import Derived.StillTailTactics
import Derived.RangeFuncNested
import Derived.RangeFuncBound
import Derived.RangeFuncCalls
import Derived.RangeFuncLeaves
import Derived.Shelf.Abstract
import Derived.Shelf.RegionOpen
import Derived.OwnWalkIn
import Derived.TacticsInMore
import Derived.LoopNIn
import Derived.LoopIn
import Derived.Maps.AppendAt
namespace Go.Proofs.YtbopikeoaokdpaaDoor
open Go.RowKit
attribute [local go_sem] Oper.semAt_some

/-- is the first letter one of some? what is left then. -/
def nxB (cs : List UInt8) (l : List UInt8) : Bool := match l with
  | [] => false
  | c :: _ => cs.contains c
def nxR (cs : List UInt8) (l : List UInt8) : List UInt8 := if nxB cs l then l.tail else l
theorem nxB_nil (cs : List UInt8) : nxB cs [] = false := rfl
theorem nxB_cons (cs : List UInt8) (c : UInt8) (r : List UInt8) : nxB cs (c :: r) = cs.contains c := rfl

theorem tx_head {t : ByteArray} (h : 0 < t.size) : tx t = t[0] :: (tx t).tail := by
  have h1 := head_of t h
  rw [show t.data.toList = tx t from rfl] at h1
  match hm : tx t, h1 with
  | c :: r, h1 => rw [List.head?_cons] at h1; rw [Option.some.inj h1]; rfl
theorem tx_tail (t : ByteArray) : tx (t.extract 1 t.size) = (tx t).tail := by
  unfold tx
  rw [Lib.extract_data, List.take_of_length_le (by rw [List.length_drop, len_str]; omega), List.drop_one]

set_option maxRecDepth 100000 in
set_option maxHeartbeats 2000000 in
theorem isNext_calls (b g cap : Nat) (t : ByteArray) (hts : t.size ≤ 140737488355328) (cs : List UInt8) (hcl : cs.length ≤ 1000) (w : World) (hB : Boxed w b 49 (.string t))
    (hc : ∀ j : Nat, j < cs.length → w.cell? ⟨g, j, none⟩ = some (.int .u8 ((cs[j]?.getD 0).toNat : Nat))) :
    Calls Tryd.prog 20 #[.pointer (some ⟨b, 0, none⟩), .slice (some ⟨g, 0, none⟩) cs.length cap] w fun e w' => e = .returned (.bool (nxB cs (tx t))) ∧ Boxed w' b 49 (.string (B (nxR cs (tx t)))) ∧ Below b w w' := by
  have c0 := hB.cell
  have z0 := hB.frozen
  by_cases h0 : t.size = 0
  · obtain ⟨q1, q2⟩ := emp_of t h0
    have q3 : t.toList.isEmpty = true := by rw [q1]; rfl
    have HR := hid (show nxB cs (tx t) = false ∧ B (nxR cs (tx t)) = t by
      rw [show tx t = [] from q2]
      refine ⟨rfl, ?_⟩
      unfold nxR
      rw [nxB_nil, if_neg (by decide), ← show tx t = [] from q2, B_tx])
    clear q2 h0
    go_enter Tryd.func20, Tryd.ntmps20
    go_wp2
    go_loop [9] (fun i => ∃ k : Nat, i = .int .i64 k ∧ k ≤ cs.length) (fun i => cs.length - (intOf i).toNat)
    case atStart => exact ⟨0, rfl, Nat.zero_le _⟩
    case round =>
      obtain ⟨k, rfl, hk⟩ := hrel
      by_cases hlt : k < cs.length
      · have hck := hc k hlt
        have HC := hid hc
        clear hc
        go_wp2
        go_round
        case rel => exact ⟨k + 1, by simp, hlt⟩
        case measure => simp [intOf]; omega
      · clear hc
        go_wp2
        go_ret
        exact ⟨ret_bool HR.out.1.symm, by rw [HR.out.2]; exact hB, Below.refl _ _⟩
  · obtain ⟨q1, q2⟩ := ne_of t h0
    have hpos : 0 < t.size := by omega
    obtain ⟨ch, hch⟩ : ∃ ch, t[0] = ch := ⟨_, rfl⟩
    have hth := tx_head hpos
    rw [hch] at hth
    have hT := hid hth
    clear hth h0
    go_enter Tryd.func20, Tryd.ntmps20
    go_wp2
    go_loop [9] (fun i => ∃ k : Nat, i = .int .i64 k ∧ k ≤ cs.length ∧ ∀ d ∈ cs.take k, d ≠ ch) (fun i => cs.length - (intOf i).toNat)
    case atStart => exact ⟨0, rfl, Nat.zero_le _, fun d hd => by simp at hd⟩
    case round =>
      obtain ⟨k, rfl, hk, hno⟩ := hrel
      by_cases hlt : k < cs.length
      · have hck := hc k hlt
        obtain ⟨d, hd⟩ : ∃ d, cs[k]?.getD 0 = d := ⟨_, rfl⟩
        rw [hd] at hck
        rw [List.getElem?_eq_getElem hlt, Option.getD_some] at hd
        have hmem : d ∈ cs := by rw [← hd]; exact List.getElem_mem hlt
        have htk : cs.take (k + 1) = cs.take k ++ [d] := by rw [List.take_succ_eq_append_getElem hlt, hd]
        by_cases he : d = ch
        · have hb1 : (((ch.toNat : Nat) : Int) == ((d.toNat : Nat) : Int)) = true := by rw [he]; simp
          have HR := hid (show nxB cs (tx t) = true ∧ nxR cs (tx t) = (tx t).tail by
            have : nxB cs (tx t) = true := by rw [hT.out, nxB_cons, ← he]; exact List.contains_iff_mem.2 hmem
            exact ⟨this, by unfold nxR; rw [this]; rfl⟩)
          have hset := hB.set (.string (t.extract 1 t.size))
          have hbl : Below b w (w.setCell ⟨b, 0, none⟩ (.string (t.extract 1 t.size))) := (Below.refl b w).setCell (p := ⟨b, 0, none⟩) (Nat.le_refl b) _
          have HE := hid (And.intro hset hbl)
          clear hc hno htk hmem he hset hbl
          go_wp2
          go_ret
          exact ⟨ret_bool HR.out.1.symm, by rw [HR.out.2, ← tx_tail, B_tx]; exact HE.out.1, HE.out.2⟩
        · have hb1 : (((ch.toNat : Nat) : Int) == ((d.toNat : Nat) : Int)) = false := by
            rw [beq_eq_false_iff_ne]; intro e; exact he (UInt8.toNat_inj.1 (by omega))
          have HN := hid (show ∀ d' ∈ cs.take (k + 1), d' ≠ ch by
            intro d' hd'
            rw [htk] at hd'
            rcases List.mem_append.1 hd' with h | h
            · exact hno d' h
            · rw [List.mem_singleton.1 h]; exact he)
          have HC := hid hc
          clear hc hno htk hmem he
          go_wp2
          go_round
          case rel => exact ⟨k + 1, by simp, hlt, HN.out⟩
          case measure => simp [intOf]; omega
      · have HR := hid (show nxB cs (tx t) = false ∧ B (nxR cs (tx t)) = t by
          rw [List.take_of_length_le (by omega)] at hno
          have : nxB cs (tx t) = false := by
            rw [hT.out, nxB_cons]
            cases e : cs.contains ch with
            | false => rfl
            | true => exact absurd rfl (hno ch (List.contains_iff_mem.1 e))
          exact ⟨this, by unfold nxR; rw [this, if_neg (by decide), B_tx]⟩)
        clear hc hno
        go_wp2
        go_ret
        exact ⟨ret_bool HR.out.1.symm, by rw [HR.out.2]; exact hB, Below.refl _ _⟩

/-- digits that a text begins with. -/
def dgp (l : List UInt8) : List UInt8 := l.takeWhile isDg
theorem dgp_le (l : List UInt8) : (dgp l).length ≤ l.length := (List.takeWhile_prefix (p := isDg)).length_le
theorem dgp_drop (l : List UInt8) : l = dgp l ++ l.drop (dgp l).length := by
  have := List.takeWhile_append_dropWhile (p := isDg) (l := l)
  unfold dgp
  generalize hh : l.takeWhile isDg = a at *
  rw [← this]
  simp
theorem dgp_take (l : List UInt8) : l.take (dgp l).length = dgp l := by
  have h := dgp_drop l
  have h2 := congrArg (List.take (dgp l).length) h
  rw [List.take_left'] at h2
  · exact h2
  · rfl
theorem dgp_dgs (l : List UInt8) : Dgs (dgp l) := fun c hc => by
  unfold dgp at hc
  induction l with
  | nil => cases hc
  | cons x r ih =>
    rw [List.takeWhile_cons] at hc
    by_cases h : isDg x = true
    · rw [if_pos h] at hc
      rcases List.mem_cons.1 hc with rfl | hc
      · exact h
      · exact ih hc
    · rw [if_neg h] at hc; cases hc
theorem dgp_at_lt (l : List UInt8) {k : Nat} (h1 : k ≤ (dgp l).length) (h2 : k < l.length) : isDg (l[k]) = true ↔ k < (dgp l).length := by
  unfold dgp at *
  induction l generalizing k with
  | nil => simp at h2
  | cons x r ih =>
    rw [List.takeWhile_cons] at h1 ⊢
    by_cases h : isDg x = true
    · rw [if_pos h] at h1 ⊢
      cases k with
      | zero => simp [h]
      | succ k =>
        simp only [List.getElem_cons_succ, List.length_cons, Nat.add_lt_add_iff_right]
        exact ih (by simpa using h1) (by simpa using h2)
    · rw [if_neg h] at h1 ⊢
      simp only [List.length_nil, Nat.le_zero] at h1
      subst h1
      simp [h]

set_option maxHeartbeats 1000000 in
theorem runes_calls (s : ByteArray) (w : World) :
    Calls Tryd.prog 64 #[.string s] w fun e w' => e = .returned (.func (.func 80) #[] #[.pointer (some ⟨w.heap.size, 0, none⟩)]) ∧ w.alloc (.cells #[.string s] 9) = w' := by
  have hmf : ∀ (fn : Fn) (first cap : Array Value) (w : World), (Instr.makeFunc fn first cap).run Tryd.prog w = .ok (.func fn first cap) w := fun _ _ _ _ => rfl
  go_enter Tryd.func64, Tryd.ntmps64
  go_wp2
  go_ret
  exact ⟨rfl, rfl⟩

theorem noGoto_normal {Q : Exit → Act → World → Prop} {a : Act} {w : World} : Exit.noGoto Q .normal a w = Q .normal a w := rfl
theorem wide_scope_label {P : Program} {n l : Nat} {c : Code} {a : Act} {w : World} {Q : Exit → Act → World → Prop} (h : c.wpIn Fence.wide n P (Exit.noGoto Q) a w) : (Code.scope ((Code.label l).seq c)).wpIn Fence.wide n P Q a w :=
  wpIn_wide.2 (wp_scope_straight (wp_seq (wp_label (wpIn_wide.1 h))))

def encN (x : Nat) : Array Value := #[.int .i32 x]

set_option maxRecDepth 100000 in
set_option maxHeartbeats 2000000 in
theorem runes1 (l Bs base : Nat) (s : ByteArray) (_hs : s.size ≤ 140737488355328) (J Jx : List Nat → World → Prop)
    (hJ : ∀ p A B, J p A → (∃ o, A.alloc o = B) → J p B) (hJi0 : ∀ p A k pos pos', base ≤ k → J p A → A.heap[k]? = some (.stringIter s pos) → J p (A.iterAt k s pos'))
    (hY : ∀ pre x W1, J pre W1 → (x ≤ 57 ∧ pre.length < s.size) → YieldAt Fence.wide 7 Tryd.prog l (encN x) W1 fun e W' =>
      (e = .returned (.bool true) ∧ J (pre ++ [x]) W' ∧ KeepsWalks W1 W') ∨ (e = .returned (.bool false) ∧ Jx (pre ++ [x]) W'))
    (W : World) (hbase : base ≤ W.heap.size) (hBs : Boxed W Bs 9 (.string s)) (h0 : J [] W) :
    CallsIn Fence.wide 8 Tryd.prog 80 #[.func (.yield l) #[] #[], .pointer (some ⟨Bs, 0, none⟩)] W fun e W' => (∃ v, e = .returned v) ∧
      ((∃ ys : List Nat, ys.length = (dgp (tx s)).length ∧ J ys W') ∨ (∃ pre : List Nat, Jx pre W')) := by
  have hc := hBs.cell
  refine callsIn_of_wp Tryd.func80 rfl trivial ?_ rfl
  simp only [Tryd.ntmps80, List.size_toArray, List.length_cons, List.length_nil, Nat.reduceAdd, Nat.reduceSub, Array.replicate_succ, Array.replicate_zero, List.push_toArray, List.append_toArray, List.nil_append, List.cons_append]
  refine wide_scope_label ?_
  gi_wp2
  obtain ⟨W0, hW0⟩ : ∃ W0, W.iter s 0 = W0 := ⟨_, rfl⟩
  have hit0 : W0.heap[W.heap.size]? = some (.stringIter s 0) := by rw [← hW0]; exact World.iter_heap W s 0
  have hJ0 : J [] W0 := by rw [← hW0]; exact hJ _ _ _ h0 ⟨_, rfl⟩
  rw [hW0]
  clear hW0 h0 hc hBs hJ
  obtain ⟨G, hG⟩ : ∃ G, W.heap.size = G := ⟨_, rfl⟩
  rw [hG] at hit0 hbase ⊢
  have hJi : ∀ p A k pos pos', k = G → J p A → A.heap[k]? = some (.stringIter s pos) → J p (A.iterAt k s pos') := fun p A k pos pos' e h1 h2 => hJi0 p A k pos pos' (by omega) h1 h2
  clear hG hJi0 hbase
  have hl := txs_len s
  have HL := hid hl
  clear hl
  gi_loopw [] (fun wr => ∃ (k : Nat) (pre : List Nat), wr.heap[G]? = some (.stringIter s k) ∧ k ≤ (dgp (tx s)).length ∧ pre.length = k ∧ J pre wr) (fun wr => s.size - wr.iterPos G)
  case atStart => exact ⟨0, [], hit0, Nat.zero_le _, rfl, hJ0⟩
  case round =>
    obtain ⟨k, pre, hit, hk, hpl, hJs⟩ := hrel
    have hdl := dgp_le (tx s)
    rw [HL.out] at hdl
    by_cases hks : k < s.size
    · by_cases hkd : k < (dgp (tx s)).length
      · obtain ⟨ch, hch⟩ : ∃ ch, s[k] = ch := ⟨_, rfl⟩
        have hdg := (dgp_at_lt (tx s) hk (by rw [HL.out]; exact hks)).2 hkd
        rw [txs_at s hks, hch] at hdg
        have hb := dg_bounds hdg
        have hnx : ∀ ty, (Instr.next (.pointer (some ⟨G, 0, none⟩)) true ty).run Tryd.prog wr = _ := fun ty => Lib.run_next_ascii_at wr G s k ty hit hks (by rw [hch]; omega)
        rw [hch] at hnx
        have hit2 := Lib.iterAt_heap wr G s k (k + 1) hit
        have hJ2 := hJi pre wr G k (k + 1) rfl hJs hit
        obtain ⟨W2, hW2⟩ : ∃ W2, wr.iterAt G s (k + 1) = W2 := ⟨_, rfl⟩
        rw [hW2] at hit2 hJ2 hnx
        obtain ⟨x, hx⟩ : ∃ x : Nat, ch.toNat = x := ⟨_, rfl⟩
        rw [hx] at hnx hb
        have hD := same_symm (isDigit_calls x (by omega) W2)
        rw [show dgN x = true by rw [← hx, dgN_isDg]; exact hdg] at hD
        obtain ⟨fn, tmps, assign, body, hy, hR⟩ := hY pre x W2 hJ2 ⟨by omega, by omega⟩
        simp only [encN] at hy
        have HK := hid (And.intro hpl (And.intro hkd hks))
        have HI := hid hit2
        have HN := hid hit
        clear hY hJi hdg hch hW2 hx hpl hkd hks hdl hk hit hit2 hJs hJ2
        gi_wp2
        refine callW hD ?_
        rintro e w1 ⟨rfl, rfl⟩
        gi_wp2
        refine hR.mono ?_
        rintro e W3 (⟨rfl, hJ3, hk3⟩ | ⟨rfl, hJx3⟩)
        · have hit3 := hk3.same _ _ HI.out rfl
          have hJ3' := hid hJ3
          clear hJ3 hk3
          gi_wp2
          go_roundw
          case rel => exact ⟨k + 1, pre ++ [x], hit3, by have := HK.out.2.1; omega, by rw [List.length_append, HK.out.1]; rfl, hJ3'.out⟩
          case measure =>
            simp only [World.iterPos, hit3, HN.out]
            have := HK.out.2.2
            omega
        · gi_wp2
          rw [noGoto_normal]
          go_end0
          exact ⟨⟨_, rfl⟩, .inr ⟨_, hJx3⟩⟩
      · have hke : k = (dgp (tx s)).length := by omega
        have hnx : ∀ ty, (Instr.next (.pointer (some ⟨G, 0, none⟩)) true ty).run Tryd.prog wr = _ := fun ty => Lib.run_next_any_at wr G s k ty hit hks
        have hdl2 := decode_le s k
        have hxm : (Utf8.decode s k).1 ≤ 1114111 ∧ dgN (Utf8.decode s k).1 = false := by
          by_cases ha : (s[k]'hks).toNat < 128
          · rw [decode_ascii s k hks ha]
            refine ⟨by show (s[k]'hks).toNat ≤ _; omega, ?_⟩
            show dgN (s[k]'hks).toNat = false
            rw [dgN_isDg]
            cases e : isDg (s[k]'hks) with
            | false => rfl
            | true => exact absurd ((dgp_at_lt (tx s) hk (by rw [HL.out]; exact hks)).1 e) hkd
          · have hh := decode_high s k hks (by omega)
            exact ⟨Lib.rune_le s k, by unfold dgN; rw [decide_eq_false (p := (Utf8.decode s k).1 ≤ 57) (by have := hh.1; omega), Bool.and_false]⟩
        have hJ2 := hJi pre wr G k (k + (Utf8.decode s k).2) rfl hJs hit
        obtain ⟨x, hx⟩ : ∃ x : Nat, (Utf8.decode s k).1 = x := ⟨_, rfl⟩
        rw [hx] at hnx hxm
        obtain ⟨W2, hW2⟩ : ∃ W2, wr.iterAt G s (k + (Utf8.decode s k).2) = W2 := ⟨_, rfl⟩
        rw [hW2] at hJ2 hnx
        have hD := same_symm (isDigit_calls x hxm.1 W2)
        rw [hxm.2] at hD
        have HK := hid (And.intro hpl hke)
        have HJ := hid hJ2
        clear hY hJi hx hW2 hpl hke hkd hks hdl hk hit hJs hJ2 hxm hdl2
        gi_wp2
        refine callW hD ?_
        rintro e w1 ⟨rfl, rfl⟩
        gi_wp2
        all_goals (
          refine ⟨(fun _ h => by cases h), ?_⟩
          gi_wp2
          rw [noGoto_normal]
          go_end0
          exact ⟨⟨_, rfl⟩, .inl ⟨pre, by rw [HK.out.1, HK.out.2], HJ.out⟩⟩)
    · have hnx : ∀ ty, (Instr.next (.pointer (some ⟨G, 0, none⟩)) true ty).run Tryd.prog wr = _ := fun ty => Lib.run_next_end_at wr G s k ty hit hks
      have hke := hid (show k = (dgp (tx s)).length by omega)
      have HJ := hid hJs
      have HP := hid hpl
      clear hY hJi hpl hks hdl hk hit hJs
      gi_wp2
      rw [noGoto_normal]
      go_end0
      exact ⟨⟨_, rfl⟩, .inl ⟨pre, by rw [HP.out, hke.out], HJ.out⟩⟩

/-- what the iterator may turn: it lays blocks, and moves its own place on. -/
def ItR (base : Nat) (A B : World) : Prop := (∃ o, A.alloc o = B) ∨ ∃ k t pos pos', base ≤ k ∧ A.heap[k]? = some (.stringIter t pos) ∧ A.iterAt k t pos' = B

theorem runes_iter (Bs : Nat) (s : ByteArray) (hs : s.size ≤ 140737488355328) (w : World) (hBs : Boxed w Bs 9 (.string s)) :
    IterC Tryd.prog 80 #[.pointer (some ⟨Bs, 0, none⟩)] encN (ItR w.heap.size) KeepsWalks (fun pre x => x ≤ 57 ∧ pre.length < s.size) (fun ys _ => ys.length = (dgp (tx s)).length) (fun _ _ => True) w := by
  intro l J Jx W hW hJ _ hY h0
  refine (runes1 l Bs w.heap.size s hs J Jx (fun p A B h ho => hJ p A B h (.inl ho)) (fun p A k pos pos' hk h1 h2 => hJ p A _ h1 (.inr ⟨k, s, pos, pos', hk, h2, rfl⟩)) hY W hW.size ((hW.block Bs hBs.lt).trans hBs) h0).mono ?_
  rintro e W' ⟨he, ⟨ys, h1, h2⟩ | ⟨pre, h2⟩⟩
  · exact ⟨he, .inl ⟨ys, h1, h2⟩⟩
  · exact ⟨he, .inr ⟨pre, trivial, h2⟩⟩

theorem ItR.keeps {base : Nat} {A B : World} (h : ItR base A B) : A.heap.size ≤ B.heap.size ∧ ∀ (k : Nat) (o : Obj), A.heap[k]? = some o → o.isWalk = false → B.heap[k]? = some o := by
  rcases h with ⟨o, rfl⟩ | ⟨k, t, pos, pos', _, hk, rfl⟩
  · exact ⟨by simp, fun k o' hk _ => (Below.heap_alloc _ _ _ (Array.getElem?_eq_some_iff.1 hk).1).trans hk⟩
  · refine ⟨by rw [Lib.iterAt_size]; exact Nat.le_refl _, fun j o hj ho => ?_⟩
    rw [Lib.iterAt_other _ _ _ _ _ (fun e => by subst e; rw [hk] at hj; cases hj; cases ho)]
    exact hj
theorem ItR.cells {base : Nat} {A B : World} (h : ItR base A B) : CellsKept A B := fun k _c _t _fz hk => h.keeps.2 k _ hk rfl
theorem ItR.below {base b : Nat} {W A B : World} (h : ItR base A B) (hb : Below b W A) (hbb : b ≤ base) (hbs : b ≤ A.heap.size) : Below b W B := by
  rcases h with ⟨o, rfl⟩ | ⟨k, t, pos, pos', hk, _, rfl⟩
  · exact hb.alloc hbs _
  · exact Lib.below_iterAt hb (by omega) _ _

def DigI (w : World) (b : Nat) (t : ByteArray) (pre : List Nat) (W : World) : Prop := Boxed W w.heap.size 3 (.int .i64 pre.length) ∧ Boxed W b 49 (.string t) ∧ Below b w W ∧ w.heap.size + 2 ≤ W.heap.size

set_option maxRecDepth 100000 in
set_option maxHeartbeats 4000000 in
theorem digits_calls (b : Nat) (t : ByteArray) (hts : t.size ≤ 140737488355328) (w : World) (hB : Boxed w b 49 (.string t)) :
    Calls Tryd.prog 42 #[.pointer (some ⟨b, 0, none⟩)] w fun e w' => e = .returned (.string (B (dgp (tx t)))) ∧ Boxed w' b 49 (.string (B ((tx t).drop (dgp (tx t)).length))) ∧ Below b w w' := by
  have hprog : Tryd.prog.follows .mixedOrders = true := by kernel_rfl
  have hlt := hB.lt
  have c0 := hB.cell
  refine calls_marks Tryd.func42 rfl ?_
  simp only [Tryd.ntmps42, List.size_toArray, List.length_cons, List.length_nil, Nat.reduceAdd, Nat.reduceSub, Array.replicate_succ, Array.replicate_zero, List.push_toArray, List.append_toArray, List.nil_append, List.cons_append]
  go_wp2_with (go_at_call 64; refine (runes_calls _ _).mono ?_; rintro e w' ⟨rfl, rfl⟩)
  obtain ⟨W0, hW0, hsz0, hI0, hS0⟩ : ∃ W0, ((w.alloc (.cells #[.int .i64 0] 3)).alloc (.cells #[.string t] 9)) = W0 ∧ W0.heap.size = w.heap.size + 2 ∧ DigI w b t [] W0 ∧ Boxed W0 (w.heap.size + 1) 9 (.string t) := by
    have b1 := Boxed.new w 3 (.int .i64 0)
    have b2 := Boxed.new (w.alloc (.cells #[.int .i64 0] 3)) 9 (.string t)
    have hA := (below_alloc w (.cells #[.int .i64 0] 3)).alloc (by simp) (.cells #[.string t] 9)
    rw [World.size_alloc] at b2
    exact ⟨_, rfl, by simp, ⟨b1.alloc _, (hB.alloc _).alloc _, hA.mono (by omega), by simp⟩, b2⟩
  rw [hW0]
  clear hW0 c0
  refine rangeOverGP (gf := 80) (lb := #[.pointer (some ⟨w.heap.size + 1, 0, none⟩)]) rfl (enters_of Tryd.func80 (by kernel_rfl) rfl)
    (runes_iter (w.heap.size + 1) t hts W0 hS0) (Below.refl _ _) (fun _ => rfl)
    (fun A B h => ⟨h.keeps.1, fun k o _ h1 _ h2 => h.keeps.2 k o h1 h2⟩) (fun h k => h.trans k) (fun W l o o' hl h hc hw => KeepsWalks.putObj o' h hw)
    (ownFrom_pure _ _) (ownFrom_pure _ _)
    (DigI w b t) (fun _ _ _ => False) ?hI (fun _ => ?hIx) ?hII (fun _ _ _ _ h _ => h) hI0
    (fun x a' _ => a' = { tmps := #[.pointer (some ⟨b, 0, none⟩), undef, .string ⟨#[]⟩, .pointer (some ⟨w.heap.size, 0, none⟩), undef, .pointer (some ⟨b, 0, none⟩), .pointer (some ⟨b, 0, none⟩), .pointer (some ⟨b, 0, none⟩), .pointer (some ⟨b, 0, none⟩), .string t, .func (.func 80) #[] #[.pointer (some ⟨w.heap.size + 1, 0, none⟩)], .int .i32 (x : Nat),
      undef, undef, undef, undef, undef, undef, undef, undef, undef, undef, undef, undef, undef, undef, undef, undef, undef, undef, undef, undef, undef], defers := [] })
    (fun _ _ _ _ _ _ hs _ _ => hs) ?assign ?body ?done ?stop
  case hI => exact ownFrom_of (fun s W W' ⟨h1, h2, h3, h4⟩ hk hb => ⟨hk.boxed h1, hk.boxed h2, h3.trans (hb.mono (by omega)), Nat.le_trans h4 hb.size⟩) (fun s W h => by rw [hsz0]; exact h.2.2.2)
  case hIx => exact fun _ _ _ _ h _ _ => h
  case hII => exact fun s A B ⟨h1, h2, h3, h4⟩ h => ⟨h.cells.boxed h1, h.cells.boxed h2, h.below h3 (by omega) (by omega), Nat.le_trans h4 h.keeps.1⟩
  case assign =>
    intro l pre x W K hi hok hK
    unfold encN
    gi_wp2
    exact hK _ _ (KeepsFrom.refl _ _) (KeepsWalks.refl _) hi rfl
  case body =>
    rintro l pre x a' W hl ⟨f1, f2, f3, f4⟩ rfl ⟨_, hpl⟩
    have e0 := f1.cell
    have z0 := f1.frozen
    obtain ⟨m, hm⟩ : ∃ m, pre.length = m := ⟨_, rfl⟩
    rw [hm] at e0 hpl
    have HM := hid hm
    have hmb : (m : Int) ≤ 140737488355328 := by omega
    have g1 := f1.set (.int .i64 ((m : Int) + 1))
    have g2 := boxed_other (off := 0) f2 (b := w.heap.size) (by omega) (.int .i64 ((m : Int) + 1))
    have g3 : Below b w (W.setCell ⟨w.heap.size, 0, none⟩ (.int .i64 ((m : Int) + 1))) := f3.setCell (p := ⟨w.heap.size, 0, none⟩) (by show b ≤ w.heap.size; omega) _
    have g4 : w.heap.size + 2 ≤ (W.setCell ⟨w.heap.size, 0, none⟩ (.int .i64 ((m : Int) + 1))).heap.size := by rw [setCell_size]; exact f4
    have k1 := (KeepsOthers.setCell W ⟨w.heap.size, 0, none⟩ (.int .i64 ((m : Int) + 1))).from W0.heap.size
    have k2 := KeepsWalks.setCell W ⟨w.heap.size, 0, none⟩ (.int .i64 ((m : Int) + 1))
    have HG := hid (And.intro g1 (And.intro g2 (And.intro g3 (And.intro g4 (And.intro k1 k2)))))
    clear g1 g2 g3 g4 k1 k2 hm
    gi_wp2
    obtain ⟨g1, g2, g3, g4, k1, k2⟩ := HG.out
    refine ⟨k1, k2, ?_, g2, g3, g4⟩
    rw [List.length_append, HM.out]
    exact g1
  case done =>
    rintro D zs W hD hzl ⟨f1, f2, f3, f4⟩ hK
    obtain ⟨m, hm⟩ : ∃ m, (dgp (tx t)).length = m := ⟨_, rfl⟩
    have hmt : m ≤ t.size := by rw [← hm, ← txs_len]; exact dgp_le _
    rw [hm] at hzl
    rw [hzl] at f1
    have e0 := f1.cell
    have z0 := f1.frozen
    have e1 := f2.cell
    have z1 := f2.frozen
    have hx1 : t.extract 0 m = B (dgp (tx t)) := by
      rw [← B_tx (t.extract 0 m)]
      congr 1
      rw [show tx (t.extract 0 m) = (tx t).take m from extract_take t m, ← hm]
      exact dgp_take (tx t)
    have hx2 : t.extract m t.size = B ((tx t).drop m) := by
      rw [← B_tx (t.extract m t.size)]
      congr 1
      unfold tx
      rw [Lib.extract_data, List.take_of_length_le (by rw [List.length_drop, len_str]; omega)]
    have hmi : (m : Int) ≤ (t.size : Int) := by omega
    have HX := hid (And.intro hx1 (And.intro hx2 hm))
    clear hx1 hx2 hm hzl
    go_wp2
    go_quiet (fail)
    go_wp2
    have f2' : Boxed (W.drewN nq) b 49 (.string t) := f2
    have f3' := belowN f3 nq
    have f1' : Boxed (W.drewN nq) w.heap.size 3 (.int .i64 m) := f1
    have hK' : (W.drewN nq).heap[D]? = some (Obj.deferred (some [])) := hK
    have f4' : w.heap.size + 2 ≤ (W.drewN nq).heap.size := f4
    clear e0 z0 e1 z1 f1 f2 f3 hK f4
    generalize W.drewN nq = W5 at *
    have e0 := f1'.cell
    have e1 := f2'.cell
    have z1 := f2'.frozen
    have g2 := f2'.set (.string (t.extract m t.size))
    have g3 : Below b w (W5.setCell ⟨b, 0, none⟩ (.string (t.extract m t.size))).drew := (f3'.setCell (p := ⟨b, 0, none⟩) (Nat.le_refl b) _).drew
    have gK : (W5.setCell ⟨b, 0, none⟩ (.string (t.extract m t.size))).drew.heap[D]? = some (Obj.deferred (some [])) := (Below.heap_setCell _ _ _ _ (by show D ≠ b; omega)).trans hK'
    have HG := hid (And.intro g2 (And.intro g3 gK))
    clear g2 g3 gK
    go_still_tail 11, hprog
    go_wp2
    obtain ⟨g2, g3, gK⟩ := HG.out
    refine ⟨by simp, .inl ⟨_, _, rfl, run_takeDeferred gK, ?_⟩⟩
    refine ⟨_, results_tmp (t := 2) rfl _ _ _, ?_, ?_, g3.trans ((belowK_b (w := w) (Nat.le_refl _) _ D _ _ (by omega) gK rfl rfl).mono (by omega))⟩
    · exact ret_str HX.out.1
    · rw [HX.out.2.2, ← HX.out.2.1]
      exact (World.putObj_heap_other (by omega)).trans g2
  case stop => exact fun D c pre W hD _ h _ => h.elim
end Go.Proofs.YtbopikeoaokdpaaDoor
