/- PK: DecC DecD DecE DecF DecQ DecR RDecA RDecB NatA RefV RDecE. -/
import Derived.Test.YtpjlepkdiaohiaaGreatDoorPB
import Derived.Lib.OthersKept
import Derived.Lib.TrimU
import Derived.StillTailTactics
import Derived.RangeFuncNested
import Derived.RangeFuncBound
import Derived.RangeFuncCalls
import Derived.RangeFuncLeaves
import Derived.Shelf.Abstract
import Derived.Shelf.RegionOpen
import Derived.OwnWalkIn
import Derived.TacticsInMore
import Derived.LoopNIn
import Derived.LoopIn
import Derived.Maps.AppendAt
import Derived.Lib.SmallJoins
import Derived.RegionTactic
import Derived.BigRegion
import Derived.Test.YtpjlepkdiaohiaaGreatDoorPA
/- Package dec: the reader: isNext, digits: walked. -/
namespace Go.Proofs.YtpjlepkdiaohiaaGreatDoor
open Go.RowKit
attribute [local go_sem] Oper.semAt_some

/-- is the first letter one of some? what is left then. -/
def nxB (cs : List UInt8) (l : List UInt8) : Bool := match l with
  | [] => false
  | c :: _ => cs.contains c
def nxR (cs : List UInt8) (l : List UInt8) : List UInt8 := if nxB cs l then l.tail else l
/-- digits that a text begins with. -/
def dgp (l : List UInt8) : List UInt8 := l.takeWhile isDg
def encN (x : Nat) : Array Value := #[.int .i32 x]

/-- what the iterator may turn: it lays blocks, and moves its own place on. -/
def ItR (base : Nat) (A B : World) : Prop := (∃ o, A.alloc o = B) ∨ ∃ k t pos pos', base ≤ k ∧ A.heap[k]? = some (.stringIter t pos) ∧ A.iterAt k t pos' = B

theorem ItR.keeps {base : Nat} {A B : World} (h : ItR base A B) : A.heap.size ≤ B.heap.size ∧ ∀ (k : Nat) (o : Obj), A.heap[k]? = some o → o.isWalk = false → B.heap[k]? = some o := by
  rcases h with ⟨o, rfl⟩ | ⟨k, t, pos, pos', _, hk, rfl⟩
  · exact ⟨by simp, fun k o' hk _ => (Below.heap_alloc _ _ _ (Array.getElem?_eq_some_iff.1 hk).1).trans hk⟩
  · refine ⟨by rw [Lib.iterAt_size]; exact Nat.le_refl _, fun j o hj ho => ?_⟩
    rw [Lib.iterAt_other _ _ _ _ _ (fun e => by subst e; rw [hk] at hj; cases hj; cases ho)]
    exact hj
theorem ItR.cells {base : Nat} {A B : World} (h : ItR base A B) : CellsKept A B := fun k _c _t _fz hk => h.keeps.2 k _ hk rfl
theorem ItR.below {base b : Nat} {W A B : World} (h : ItR base A B) (hb : Below b W A) (hbb : b ≤ base) (hbs : b ≤ A.heap.size) : Below b W B := by
  rcases h with ⟨o, rfl⟩ | ⟨k, t, pos, pos', hk, _, rfl⟩
  · exact hb.alloc hbs _
  · exact Lib.below_iterAt hb (by omega) _ _

end Go.Proofs.YtpjlepkdiaohiaaGreatDoor

/- Package dec: the reader: whole, part, power: walked. -/
namespace Go.Proofs.YtpjlepkdiaohiaaGreatDoor
open Go.RowKit
attribute [local go_sem] Oper.semAt_some

/-- is the first letter c? what stands behind it. -/
def hdB (c : UInt8) (l : List UInt8) : Bool := l.head? == some c
def wholeS (l : List UInt8) : List UInt8 := if hdB 48 l then [48] else dgp l
def wholeR (l : List UInt8) : List UInt8 := if hdB 48 l then l.tail else l.drop (dgp l).length
def partB (l : List UInt8) : Bool := hdB 46 l && decide (dgp l.tail ≠ [])
def partS (l : List UInt8) : List UInt8 := if partB l then dgp l.tail else []
def partR (l : List UInt8) : List UInt8 := if partB l then l.tail.drop (dgp l.tail).length else l

end Go.Proofs.YtpjlepkdiaohiaaGreatDoor

/- Package dec: strconv.Atoi at digits; the reader: power: walked. -/
namespace Go.Proofs.YtpjlepkdiaohiaaGreatDoor
open Go.RowKit
attribute [local go_sem] Oper.semAt_some

def expB (l : List UInt8) : Bool := hdB 101 l || hdB 69 l
def powL (l : List UInt8) : List UInt8 := if hdB 45 l.tail || hdB 43 l.tail then l.tail.tail else l.tail
def powD (l : List UInt8) : List UInt8 := dgp (powL l)
def powC (l : List UInt8) : Bool := expB l && decide (powD l ≠ [])
def powOk (l : List UInt8) : Bool := !powC l || decide ((powD l).length ≤ 4)
def powV (l : List UInt8) : Int := if powC l then (if hdB 45 l.tail then -(nv (powD l) : Nat) else (nv (powD l) : Nat)) else 0
def powR (l : List UInt8) : List UInt8 := if powC l then (powL l).drop (powD l).length else l

end Go.Proofs.YtpjlepkdiaohiaaGreatDoor

/- Package dec: Parse: walked. -/
namespace Go.Proofs.YtpjlepkdiaohiaaGreatDoor
open Go.RowKit
attribute [local go_sem] Oper.semAt_some

/-- what a written number is read as: in steps. -/
def pr1 (l : List UInt8) : List UInt8 := if hdB 45 l then l.tail else l
def pr2 (l : List UInt8) : List UInt8 := wholeR (pr1 l)
def pr3 (l : List UInt8) : List UInt8 := partR (pr2 l)
def prW (l : List UInt8) : List UInt8 := wholeS (pr1 l)
def prP (l : List UInt8) : List UInt8 := partS (pr2 l)
def prM (l : List UInt8) : D × Int := mk (hdB 45 l) (prW l ++ prP l) (powV (pr3 l) - (prP l).length)
def prB (l : List UInt8) : Bool := decide (prW l ≠ []) && powOk (pr3 l)
def parseD (l : List UInt8) : D := if prB l && (prM l).2 == 0 then (prM l).1 else D0
def parseR (l : List UInt8) : List UInt8 := if prB l && (prM l).2 == 0 then powR (pr3 l) else l
def parseE (l : List UInt8) : Int := if prB l && (prM l).2 == 0 then 0 else 40

end Go.Proofs.YtpjlepkdiaohiaaGreatDoor

/- Plain: written numbers, and what they are read as. -/
namespace Go.Proofs.YtpjlepkdiaohiaaGreatDoor
open Go Go.RowKit

/-- a written number, in its parts. -/
structure Shape (W P X rest : List UInt8) (v : Int) : Prop where
  hW : W ≠ []
  hWd : Dgs W
  hW0 : W.head? = some 48 → W = [48]
  hP : Dgs P
  hr : ∀ c, rest.head? = some c → c = 44
  hX : (X = [] ∧ v = 0) ∨ ∃ c g D, X = c :: (g ++ D) ∧ (c = 101 ∨ c = 69) ∧ Dgs D ∧ D ≠ [] ∧ D.length ≤ 4 ∧ ((g = [] ∧ v = (nv D : Nat)) ∨ (g = [45] ∧ v = -(nv D : Nat)))
def wr (n : Bool) (W P X rest : List UInt8) : List UInt8 := (if n then [45] else []) ++ (W ++ ((if P = [] then [] else 46 :: P) ++ (X ++ rest)))

theorem drop_zeros (a : Nat) (l : List UInt8) (hl : l.head? ≠ some 48) : stripL (List.replicate a 48 ++ l) = l := by
  unfold stripL
  induction a with
  | zero =>
    cases l with
    | nil => rfl
    | cons c r =>
      rw [show List.replicate 0 (48 : UInt8) ++ c :: r = c :: r from rfl, List.dropWhile_cons_of_neg]
      intro e
      exact hl (by rw [List.head?_cons, beq_iff_eq.1 e])
  | succ a ih => exact ih
theorem strip_zeros (b : Nat) (l : List UInt8) (hl : l.getLast? ≠ some 48) : stripR (l ++ List.replicate b 48) = l := by
  unfold stripR
  rw [List.reverse_append, List.reverse_replicate]
  have := drop_zeros b l.reverse (by rw [List.head?_reverse]; exact hl)
  unfold stripL at this
  rw [this, List.reverse_reverse]

theorem decR_parts {d : D} (h : decR d = true) (h0 : d.dg ≠ [48]) : isRt d.dg = true ∧ d.dg.length ≤ 100 ∧ -100 ≤ d.ex ∧ d.ex ≤ 100 ∧ d.dg.getLast? ≠ some 48 ∧ d.dg.head? ≠ some 48 := by
  unfold decR at h
  rw [if_neg h0, Bool.and_eq_true, Bool.and_eq_true, Bool.and_eq_true, Bool.and_eq_true, decide_eq_true_eq, decide_eq_true_eq, decide_eq_true_eq, Bool.not_eq_true'] at h
  obtain ⟨h1, h2, ⟨h3, h4⟩, h5⟩ := h
  refine ⟨h1, h2, h3, h4, (fun e => by rw [e] at h5; cases h5), fun e => ?_⟩
  by_cases hl : 1 < d.dg.length
  · rw [isRt_zero hl e] at h1; cases h1
  · cases hd : d.dg with
    | nil => rw [hd] at e; cases e
    | cons c r =>
      rw [hd] at hl e
      cases r with
      | nil => rw [hd] at h0; cases e; exact h0 rfl
      | cons c' r' => simp at hl

theorem rt_dgs {l : List UInt8} (h : isRt l = true) : Dgs l := fun c hc => by
  have g := (isRt_iff l).1 h
  exact dec_isDg (nv l) c (by rw [← g.1]; exact hc)

/-- zeros ahead and behind make no difference. -/
theorem mk_zeros (d : D) (a b : Nat) (h : decR d = true) (hlen : a + d.dg.length + b ≤ 400) (hx : -1000 ≤ d.ex - b ∧ d.ex - b ≤ 1000) :
    mk d.neg (List.replicate a 48 ++ d.dg ++ List.replicate b 48) (d.ex - b) = (d, 0) := by
  have hz : ∀ k, Dgs (List.replicate k (48 : UInt8)) := fun k c hc => by rw [(List.mem_replicate.1 hc).2]; rfl
  have hbd := decR_bounds h
  have hok : Dgs d.dg → mkOk (List.replicate a 48 ++ d.dg ++ List.replicate b 48) (d.ex - b) = true := fun hd => by
    unfold mkOk
    rw [decide_eq_true (by intro e; have := congrArg List.length e; rw [List.length_append, List.length_append, List.length_nil] at this; omega), decide_eq_true (by rw [List.length_append, List.length_append, List.length_replicate, List.length_replicate]; omega), decide_eq_true hx.1, decide_eq_true hx.2]
    have hall : (List.replicate a (48 : UInt8) ++ d.dg ++ List.replicate b 48).all isDg = true := by
      rw [List.all_eq_true]
      intro c hc
      rcases List.mem_append.1 hc with hc | hc
      · rcases List.mem_append.1 hc with hc | hc
        · exact hz a c hc
        · exact hd c hc
      · exact hz b c hc
    rw [hall]
    rfl
  by_cases h0 : d.dg = [48]
  · have hd : d = Dz := by
      unfold decR at h
      rw [if_pos h0, Bool.and_eq_true, decide_eq_true_eq, Bool.not_eq_true'] at h
      exact D.ext' h.2 h0 h.1
    unfold mk
    rw [hok (by rw [h0]; intro c hc; rw [List.mem_singleton.1 hc]; rfl), if_pos rfl, if_pos, hd]
    rw [h0, List.append_assoc, show [48] ++ List.replicate b (48 : UInt8) = List.replicate (b + 1) 48 from rfl]
    unfold stripL
    rw [List.replicate_append_replicate]
    have : ∀ k, List.dropWhile (· == (48 : UInt8)) (List.replicate k 48) = [] := fun k => by
      induction k with
      | zero => rfl
      | succ k ih => exact ih
    exact this _
  · obtain ⟨h1, h2, h3, h4, h5, h6⟩ := decR_parts h h0
    have hne : d.dg ≠ [] := by intro e; rw [e] at hbd; simp at hbd
    have hs1 : stripL (List.replicate a 48 ++ d.dg ++ List.replicate b 48) = d.dg ++ List.replicate b 48 := by
      rw [List.append_assoc]
      exact drop_zeros a _ (by rw [head_app hne]; exact h6)
    have hs2 : stripR (d.dg ++ List.replicate b 48) = d.dg := strip_zeros b _ h5
    have hmd : mkD d.neg (List.replicate a 48 ++ d.dg ++ List.replicate b 48) (d.ex - b) = d := by
      unfold mkD
      rw [hs1, hs2]
      exact D.ext' rfl rfl (by show d.ex - b + _ - _ = d.ex; rw [List.length_append, List.length_replicate]; omega)
    unfold mk
    rw [hok (rt_dgs h1), if_pos rfl, if_neg, hmd, h, if_pos rfl]
    rw [hs1]
    intro e
    exact hne (List.append_eq_nil_iff.1 e).1

end Go.Proofs.YtpjlepkdiaohiaaGreatDoor

/- Plain: zeros behind; a whole number's decimal. -/
namespace Go.Proofs.YtpjlepkdiaohiaaGreatDoor
open Go Go.RowKit

theorem stripR_snoc (l : List UInt8) : stripR (l ++ [48]) = stripR l := by
  unfold stripR
  rw [List.reverse_append]; rfl
theorem stripR_other {l : List UInt8} (h : l.getLast? ≠ some 48) : stripR l = l := by
  have := strip_zeros 0 l h
  rw [List.replicate_zero, List.append_nil] at this
  exact this
theorem stripL_head (l : List UInt8) : (stripL l).head? ≠ some 48 := by
  unfold stripL
  induction l with
  | nil => intro e; cases e
  | cons c r ih =>
    by_cases h : c = 48
    · subst h; exact ih
    · rw [List.dropWhile_cons_of_neg (by rw [beq_iff_eq]; exact h)]
      intro e; cases e; exact h rfl

theorem strip_split (l : List UInt8) : l = stripR l ++ List.replicate (l.length - (stripR l).length) 48 := by
  have h1 : l.reverse = l.reverse.takeWhile (· == 48) ++ l.reverse.dropWhile (· == 48) := (List.takeWhile_append_dropWhile).symm
  have h2 : ∀ m : List UInt8, m.takeWhile (· == 48) = List.replicate (m.takeWhile (· == 48)).length 48 := fun m => by
    rw [List.eq_replicate_iff]
    exact ⟨rfl, fun c hc => by
      have := List.all_takeWhile (l := m) (p := (· == 48))
      rw [List.all_eq_true] at this
      exact beq_iff_eq.1 (this c hc)⟩
  have h3 := congrArg List.reverse h1
  rw [List.reverse_reverse, List.reverse_append] at h3
  have h4 : l = stripR l ++ (l.reverse.takeWhile (· == 48)).reverse := h3
  have h5 := congrArg List.length h4
  rw [List.length_append, List.length_reverse] at h5
  rw [h2, List.reverse_replicate] at h4
  rw [show l.length - (stripR l).length = (l.reverse.takeWhile (· == 48)).length by omega]
  exact h4
theorem stripR_last (l : List UInt8) : (stripR l).getLast? ≠ some 48 := by
  unfold stripR
  rw [List.getLast?_reverse]
  exact stripL_head l.reverse
theorem stripL_id {l : List UInt8} (h : l.head? ≠ some 48) : stripL l = l := by
  have := drop_zeros 0 l h
  exact this
theorem dec_head1 {n : Nat} (h : 0 < n) : (Lib.decDigits n).head? ≠ some 48 := by
  by_cases h10 : n < 10
  · rw [dec_small h10, List.head?_cons]
    intro e
    have := congrArg UInt8.toNat (Option.some.inj e)
    rw [byte_toNat (by omega)] at this
    have h48 : (48 : UInt8).toNat = 48 := rfl
    omega
  · exact dec_head (by omega)

/-- a whole number's decimal. -/
theorem whole_plain (neg : Bool) (n : Nat) (hn : n < 18446744073709551616) (d : D) (hd : (mk neg (Lib.decDigits n) 0).1 = d) :
    decR d = true ∧ 0 ≤ d.ex ∧ d.ex ≤ 20 ∧ d.dg ++ List.replicate d.ex.toNat 48 = Lib.decDigits n ∧ d.neg = (neg && decide (0 < n)) := by
  subst hd
  rcases Nat.eq_zero_or_pos n with h0 | h0
  · subst h0
    rw [show Lib.decDigits 0 = [48] from by rw [dec_small (by omega)]; rfl]
    cases neg <;> exact ⟨rfl, by decide, by decide, rfl, rfl⟩
  · have hh := dec_head1 h0
    have hne := dec_ne_nil n
    have hdg := dec_isDg n
    have hlen : (Lib.decDigits n).length ≤ 20 := by rw [Lib.decDigits_length]; exact rdig_lt 19 n (by omega)
    obtain ⟨l, hl⟩ : ∃ l, Lib.decDigits n = l := ⟨_, rfl⟩
    rw [hl] at hh hne hdg hlen ⊢
    have hsL := stripL_id hh
    have hsp := strip_split l
    have hle := stripR_le l
    have hsn := stripR_ne hne hh
    have hsl := List.length_pos_iff.2 hsn
    have hok : mkOk l 0 = true := by
      unfold mkOk
      rw [decide_eq_true hne, decide_eq_true (show l.length ≤ 400 by omega), show l.all isDg = true from List.all_eq_true.2 hdg]
      rfl
    have hhd : (stripR l).head? = l.head? := by
      conv => rhs; rw [hsp]
      rw [head_app hsn]
    have hR : decR (mkD neg l 0) = true := by
      unfold mkD decR
      rw [hsL]
      have hn48 : ¬ stripR l = [48] := by intro e; rw [e] at hhd; exact hh (by rw [← hhd]; rfl)
      show (if stripR l = [48] then _ else _) = true
      rw [if_neg hn48]
      show (isRt (stripR l) && (decide ((stripR l).length ≤ 100) && (decide (-100 ≤ (0 : Int) + l.length - (stripR l).length) && decide ((0 : Int) + l.length - (stripR l).length ≤ 100) && !((stripR l).getLast? == some 48)))) = true
      rw [isRt_main (by omega) (by omega) (by rw [hhd]; exact fun h => hh h.2), show (stripR l).all isDg = true from List.all_eq_true.2 (fun c hc => hdg c (by rw [hsp]; exact List.mem_append_left _ hc)), decide_eq_true (show (stripR l).length ≤ 100 by omega), decide_eq_true (show (-100 : Int) ≤ (0 : Int) + l.length - (stripR l).length by omega), decide_eq_true (show (0 : Int) + l.length - (stripR l).length ≤ 100 by omega), show ((stripR l).getLast? == some 48) = false from beq_eq_false_iff_ne.2 (stripR_last l)]
      rfl
    have hm : mk neg l 0 = (mkD neg l 0, 0) := by
      unfold mk
      rw [if_pos hok, if_neg (by rw [hsL]; exact hne), if_pos hR]
    rw [hm]
    refine ⟨hR, ?_, ?_, ?_, ?_⟩
    · show (0 : Int) ≤ 0 + (stripL l).length - (stripR (stripL l)).length
      rw [hsL]; omega
    · show (0 : Int) + (stripL l).length - (stripR (stripL l)).length ≤ 20
      rw [hsL]; omega
    · show stripR (stripL l) ++ List.replicate ((0 : Int) + (stripL l).length - (stripR (stripL l)).length).toNat 48 = l
      rw [hsL, show ((0 : Int) + l.length - (stripR l).length).toNat = l.length - (stripR l).length by omega]
      exact hsp.symm
    · show neg = _
      rw [decide_eq_true h0, Bool.and_true]

end Go.Proofs.YtpjlepkdiaohiaaGreatDoor

/- The document's own decimals (targumref04): Right, digits, zeros, Num: walked. -/
namespace Go.Proofs.YtpjlepkdiaohiaaGreatDoor
open Go.RowKit
attribute [local go_sem] Oper.semAt_some

theorem isDg_le {c : UInt8} (h : isDg c = true) : 48 ≤ c.toNat ∧ c.toNat ≤ 57 := by
  unfold isDg at h
  rw [Bool.and_eq_true, decide_eq_true_eq, decide_eq_true_eq] at h
  exact h
theorem isDg_out {c : UInt8} (h : isDg c = false) : (c.toNat : Int) < 48 ∨ (48 ≤ (c.toNat : Int) ∧ 57 < (c.toNat : Int)) := by
  unfold isDg at h
  rw [Bool.and_eq_false_iff, decide_eq_false_iff_not, decide_eq_false_iff_not] at h
  omega

set_option maxRecDepth 100000 in
theorem rzeros_calls (n : Int) (hn : n ≤ 1000) (hn2 : -1000 ≤ n) (w : World) :
    Calls Tryz.prog 76 #[.int .i64 n] w fun e w' => e = .returned (.string (B (List.replicate n.toNat 48))) ∧ w = w' := by
  have HB : ∀ k : Nat, B (List.replicate k 48) ++ ⟨#[48]⟩ = B (List.replicate (k + 1) 48) := fun k => by
    rw [← B_tx (B (List.replicate k 48) ++ ⟨#[48]⟩), tx_app, tx_B, List.replicate_succ']; rfl
  have HB := hid HB
  go_enter Tryz.func76, Tryz.ntmps76
  go_wp2
  go_loop [3, 4] (fun v d => ∃ k : Nat, v = .string (B (List.replicate k 48)) ∧ d = .int .i64 k ∧ (k : Int) ≤ max n 0) (fun _ d => n.toNat - (intOf d).toNat)
  case atStart => exact ⟨0, rfl, rfl, by omega⟩
  case round =>
    obtain ⟨k, rfl, rfl, hk⟩ := hrel
    by_cases hlt : (k : Int) < n
    · have hsz : (B (List.replicate k (48 : UInt8))).size ≤ 1000 := by rw [size_B, List.length_replicate]; omega
      go_wp2
      go_round
      case rel => exact ⟨k + 1, by first | rfl | rw [HB.out], by simp, by omega⟩
      case measure => simp [intOf]; omega
    · have HK := hid (show n.toNat = k by omega)
      go_wp2
      go_ret
      exact ⟨by rw [HK.out] <;> rfl, rfl⟩

theorem decR_main (n : Bool) (s : ByteArray) (x : Int) (h1 : isRt (tx s) = true) (h2 : s.size ≤ 100) (h0 : tx s ≠ [48]) (h3 : -100 ≤ x) (h4 : x ≤ 100) (hp : 0 < s.size) (c : UInt8) (hc : s[s.size - 1] = c) : decR ⟨n, tx s, x⟩ = !(c == 48) := by
  unfold decR
  have hl := txs_len s
  have hne : tx s ≠ [] := by intro e; rw [e] at hl; simp at hl; omega
  have hg : (tx s).getLast? = some c := by
    rw [List.getLast?_eq_getElem?, hl, ← hc]
    exact List.getElem?_eq_getElem _
  rw [if_neg h0]
  show (isRt (tx s) && (decide ((tx s).length ≤ 100) && (decide (-100 ≤ x) && decide (x ≤ 100) && !((tx s).getLast? == some 48)))) = _
  rw [h1, hl, decide_eq_true h2, decide_eq_true h3, decide_eq_true h4, hg]
  rfl

set_option maxRecDepth 100000 in
set_option maxHeartbeats 2000000 in
theorem rdecRight_calls (n : Bool) (s : ByteArray) (x : Int) (hs : s.size ≤ 140737488355328) (w : World) :
    Calls Tryz.prog 49 #[.agg #[.bool n, .string s, .int .i64 x]] w fun e w' => e = .returned (.bool (decR ⟨n, tx s, x⟩)) ∧ Below w.heap.size w w' := by
  have hC := Cls.new w 23 [.bool n, .string s, .int .i64 x]
  have hA := below_alloc w (.cells #[.bool n, .string s, .int .i64 x] 23)
  have hright := fun W => same_symm (rRight_calls s hs W)
  have c0 := hC.cell 0 rfl
  have c1 := hC.cell 1 rfl
  have c2 := hC.cell 2 rfl
  have hl := txs_len s
  cases h1 : isRt (tx s) with
  | false =>
    have HR := hid (show decR ⟨n, tx s, x⟩ = false by
      unfold decR
      rw [if_neg (show ¬ (tx s = [48]) from fun e => by rw [e] at h1; exact absurd h1 (by decide))]
      show (isRt (tx s) && _) = false
      rw [h1]; rfl)
    rw [h1] at hright
    clear h1 hl
    go_enter Tryz.func49, Tryz.ntmps49
    go_wp2_with (go_at_call 77; refine (hright _).mono ?_; rintro e w1 ⟨rfl, rfl⟩)
    go_ret
    exact ⟨ret_bool HR.out.symm, hA⟩
  | true =>
    rw [h1] at hright
    by_cases h2 : s.size ≤ 100
    · have h2i : ¬ (100 : Int) < (s.size : Int) := by omega
      by_cases h0 : tx s = [48]
      · have hb : (s.toList == [48]) = true := by rw [beq_iff_eq, Lib.toList_data]; exact h0
        have HR := hid (show decR ⟨n, tx s, x⟩ = (decide (x = 0) && !n) by unfold decR; rw [if_pos h0])
        clear h1 hl h0 h2
        by_cases hx : x = 0
        · subst hx
          cases n
          all_goals (
            go_enter Tryz.func49, Tryz.ntmps49
            go_wp2_with (go_at_call 77; refine (hright _).mono ?_; rintro e w1 ⟨rfl, rfl⟩)
            go_ret
            exact ⟨ret_bool HR.out.symm, hA⟩)
        · have hxb : (x == 0) = false := by rw [beq_eq_false_iff_ne]; exact hx
          have HX := hid (decide_eq_false hx)
          clear hx
          go_enter Tryz.func49, Tryz.ntmps49
          go_wp2_with (go_at_call 77; refine (hright _).mono ?_; rintro e w1 ⟨rfl, rfl⟩)
          go_ret
          exact ⟨ret_bool (by rw [HR.out, HX.out]; rfl), hA⟩
      · have hb : (s.toList == [48]) = false := by rw [beq_eq_false_iff_ne, Lib.toList_data]; exact h0
        have hp : 0 < s.size := by have := (rt_len h1).1; omega
        by_cases h3 : -100 ≤ x
        · by_cases h4 : x ≤ 100
          · obtain ⟨c, hc⟩ : ∃ c, s[s.size - 1] = c := ⟨_, rfl⟩
            have HR := hid (decR_main n s x h1 h2 h0 h3 h4 hp c hc)
            have hi : ((s.size : Int) - 1).toNat = s.size - 1 := by omega
            obtain ⟨j, hj⟩ : ∃ j : Nat, s.size - 1 = j := ⟨_, rfl⟩
            have hjs : j < s.size := by omega
            have hji : (s.size : Int) - 1 = (j : Int) := by omega
            have hc' : s[j] = c := by subst hj; exact hc
            have hcb : (c == 48) = ((c.toNat : Int) == 48) := by rw [Bool.eq_iff_iff, beq_iff_eq, beq_iff_eq]; exact byte48 c
            rw [hcb] at HR
            obtain ⟨b, hbb⟩ : ∃ b, ((c.toNat : Int) == 48) = b := ⟨_, rfl⟩
            rw [hbb] at HR
            have hbn : ((c.toNat : Int) != 48) = !b := by rw [bne, hbb]
            clear h1 hl h0 h2 hc hi hj hcb
            go_enter Tryz.func49, Tryz.ntmps49
            go_wp2_with (go_at_call 77; refine (hright _).mono ?_; rintro e w1 ⟨rfl, rfl⟩)
            go_ret
            exact ⟨ret_bool HR.out.symm, hA⟩
          · have HR := hid (show decR ⟨n, tx s, x⟩ = false by
              unfold decR
              rw [if_neg h0]
              show (isRt (tx s) && (_ && (_ && decide (x ≤ 100) && _))) = false
              rw [decide_eq_false h4]; simp)
            clear h1 hl h0 h2
            go_enter Tryz.func49, Tryz.ntmps49
            go_wp2_with (go_at_call 77; refine (hright _).mono ?_; rintro e w1 ⟨rfl, rfl⟩)
            go_ret
            exact ⟨ret_bool HR.out.symm, hA⟩
        · have HR := hid (show decR ⟨n, tx s, x⟩ = false by
            unfold decR
            rw [if_neg h0]
            show (isRt (tx s) && (_ && (decide (-100 ≤ x) && _ && _))) = false
            rw [decide_eq_false h3]; simp)
          clear h1 hl h0 h2
          go_enter Tryz.func49, Tryz.ntmps49
          go_wp2_with (go_at_call 77; refine (hright _).mono ?_; rintro e w1 ⟨rfl, rfl⟩)
          go_ret
          exact ⟨ret_bool HR.out.symm, hA⟩
    · have h2i : (100 : Int) < (s.size : Int) := by omega
      have HR := hid (show decR ⟨n, tx s, x⟩ = false by
        unfold decR
        rw [if_neg (show ¬ (tx s = [48]) from fun e => by rw [e] at hl; simp at hl; omega)]
        show (isRt (tx s) && (decide ((tx s).length ≤ 100) && _)) = false
        rw [hl, decide_eq_false h2]; simp)
      clear h1 hl h2
      go_enter Tryz.func49, Tryz.ntmps49
      go_wp2_with (go_at_call 77; refine (hright _).mono ?_; rintro e w1 ⟨rfl, rfl⟩)
      go_ret
      exact ⟨ret_bool HR.out.symm, hA⟩
end Go.Proofs.YtpjlepkdiaohiaaGreatDoor

/- The document's own decimals (targumref04): Make: walked. -/
namespace Go.Proofs.YtpjlepkdiaohiaaGreatDoor
open Go.RowKit
attribute [local go_sem] Oper.semAt_some

theorem trim_strip : ∀ (l : List UInt8), l ≠ [] → trimL l = if stripL l = [] then [48] else stripL l
  | [], h => absurd rfl h
  | [c], _ => by
    rw [trimL_one]
    unfold stripL
    by_cases h : c = 48
    · subst h; rfl
    · rw [List.dropWhile_cons_of_neg (by rw [beq_iff_eq]; exact h), if_neg (by simp)]
  | c :: d :: r, _ => by
    by_cases h : c = 48
    · subst h
      rw [trimL_zero, trim_strip (d :: r) (by simp)]
      rfl
    · rw [trimL_other h]
      unfold stripL
      rw [List.dropWhile_cons_of_neg (by rw [beq_iff_eq]; exact h), if_neg (by simp)]
theorem dgs_not {l : List UInt8} {k : Nat} (hk : k < l.length) (h : isDg l[k] = false) : l.all isDg = false := by
  cases e : l.all isDg with
  | false => rfl
  | true => rw [List.all_eq_true.1 e _ (List.getElem_mem hk)] at h; cases h

set_option maxRecDepth 100000 in
set_option maxHeartbeats 2000000 in
theorem rmake_pre (n : Bool) (s : ByteArray) (x : Int) (_hx : -9223372036854775808 ≤ x ∧ x ≤ 9223372036854775807) (_hs : s.size ≤ 140737488355328) (w : World)
    (hno : (s.size : Int) < 1 ∨ (¬ (s.size : Int) < 1 ∧ (400 : Int) < s.size) ∨ (¬ (s.size : Int) < 1 ∧ ¬ (400 : Int) < s.size ∧ x < -1000) ∨ (¬ (s.size : Int) < 1 ∧ ¬ (400 : Int) < s.size ∧ ¬ x < -1000 ∧ 1000 < x)) :
    Calls Tryz.prog 34 #[.bool n, .string s, .int .i64 x] w fun e w' => e = .returned (.tuple #[.agg #[.bool false, .string ⟨#[]⟩, .int .i64 0], .int .i64 40]) ∧ Below w.heap.size w w' := by
  have hC := Cls.new w 23 [.bool false, .string ⟨#[]⟩, .int .i64 0]
  have hA := below_alloc w (.cells #[.bool false, .string ⟨#[]⟩, .int .i64 0] 23)
  have c0 := hC.cell 0 rfl
  have z0 := hC.frozen 0
  have c1 := hC.cell 1 rfl
  have z1 := hC.frozen 1
  have c2 := hC.cell 2 rfl
  have z2 := hC.frozen 2
  rcases hno with h1 | ⟨h1, h2⟩ | ⟨h1, h2, h3⟩ | ⟨h1, h2, h3, h4⟩
  all_goals (
    go_enter Tryz.func34, Tryz.ntmps34
    go_wp2
    have hF := Cls.new w 23 [.bool false, .string ⟨#[]⟩, .int .i64 0]
    have f0 := hF.cell 0 rfl
    have f1 := hF.cell 1 rfl
    have f2 := hF.cell 2 rfl
    exact bodyPost_ret (v := .tuple #[.agg #[.bool false, .string ⟨#[]⟩, .int .i64 0], .int .i64 40]) (by simp [results, Tryz.results34, go_sem, f0, f1, f2]) rfl ⟨rfl, below_alloc w _⟩)

set_option maxRecDepth 100000 in
set_option maxHeartbeats 4000000 in
theorem rmake_in (n : Bool) (s : ByteArray) (x : Int) (h1 : ¬ (s.size : Int) < 1) (h2 : ¬ (400 : Int) < s.size) (h3 : ¬ x < -1000) (h4 : ¬ 1000 < x) (w : World) :
    Calls Tryz.prog 34 #[.bool n, .string s, .int .i64 x] w fun e w' => e = .returned (.tuple #[(mk n (tx s) x).1.val, .int .i64 (mk n (tx s) x).2]) ∧ Below w.heap.size w w' := by
  have hC := Cls.new w 23 [.bool false, .string ⟨#[]⟩, .int .i64 0]
  have hA := below_alloc w (.cells #[.bool false, .string ⟨#[]⟩, .int .i64 0] 23)
  have c0 := hC.cell 0 rfl
  have z0 := hC.frozen 0
  have c1 := hC.cell 1 rfl
  have z1 := hC.frozen 1
  have c2 := hC.cell 2 rfl
  have z2 := hC.frozen 2
  have hl := txs_len s
  have hne : tx s ≠ [] := by intro e; rw [e] at hl; simp at hl; omega
  have htrim := fun W => same_symm (rTrim_calls s (by omega) W)
  obtain ⟨q, hq⟩ : ∃ q : ByteArray, (⟨(trimL (tx s)).toArray⟩ : ByteArray) = q := ⟨_, rfl⟩
  have hqx : tx q = if stripL (tx s) = [] then [48] else stripL (tx s) := by rw [← hq, ← trim_strip _ hne]; exact tx_B _
  rw [hq] at htrim
  have hok : (tx s).all isDg = true → mkOk (tx s) x = true := fun h => by
    unfold mkOk
    rw [h, decide_eq_true hne, hl, decide_eq_true (show s.size ≤ 400 by omega), decide_eq_true (show -1000 ≤ x by omega), decide_eq_true (show x ≤ 1000 by omega)]; rfl
  have hbad : (tx s).all isDg = false → mk n (tx s) x = (D0, 40) := fun h => by
    unfold mk mkOk
    rw [h]; simp
  have HH := hid (And.intro hok (And.intro hbad (And.intro hqx (And.intro hl hne))))
  have hs4 : s.size ≤ 400 := by omega
  clear hok hbad hqx hl hne hq
  go_enter Tryz.func34, Tryz.ntmps34
  go_wp2
  go_loopw [8] (fun v wr => ∃ k : Nat, v = .int .i64 k ∧ k ≤ s.size ∧ Dgs ((tx s).take k) ∧ wr = w.alloc (.cells #[.bool false, .string ⟨#[]⟩, .int .i64 0] 23)) (fun v _ => s.size - (intOf v).toNat)
  case atStart => exact ⟨0, rfl, Nat.zero_le _, by rw [List.take_zero]; exact Dgs.nil, rfl⟩
  case round =>
    obtain ⟨k, rfl, hk, hD, rfl⟩ := hrel
    by_cases hlt : k < s.size
    · obtain ⟨c, hc⟩ : ∃ c, s[k] = c := ⟨_, rfl⟩
      have hc2 : (tx s)[k]'(by rw [txs_len]; exact hlt) = c := hc
      cases hdg : isDg c with
      | true =>
        obtain ⟨hd1, hd2⟩ := isDg_le hdg
        have hd3 : ¬ (c.toNat : Int) < 48 := by omega
        have hd4 : ¬ (57 : Int) < (c.toNat : Int) := by omega
        have hn : Dgs ((tx s).take (k + 1)) := by rw [txs_take s hlt, hc]; exact Dgs.append hD (Dgs.cons hdg Dgs.nil)
        have HN := hid hn
        clear hn hD hc2 hdg
        go_wp2
        go_roundw
        case rel => exact ⟨k + 1, by simp, hlt, HN.out, by first | rfl | trivial⟩
        case measure => simp [intOf]; omega
      | false =>
        have hd := isDg_out hdg
        have HR := hid (HH.out.2.1 (dgs_not (k := k) (by rw [txs_len]; exact hlt) (by rw [hc2]; exact hdg)))
        clear hD hc2 hdg
        rcases hd with e1 | ⟨e1, e2⟩
        all_goals (
          go_wp2
          have hF := Cls.new w 23 [.bool false, .string ⟨#[]⟩, .int .i64 0]
          have f0 := hF.cell 0 rfl
          have f1 := hF.cell 1 rfl
          have f2 := hF.cell 2 rfl
          exact bodyPost_ret (v := .tuple #[.agg #[.bool false, .string ⟨#[]⟩, .int .i64 0], .int .i64 40]) (by simp [results, Tryz.results34, go_sem, f0, f1, f2]) rfl ⟨by rw [HR.out]; rfl, below_alloc w _⟩)
    · have hall : (tx s).all isDg = true := by
        rw [List.all_eq_true]
        rw [List.take_of_length_le (by rw [txs_len]; omega)] at hD
        exact hD
      have hOK := HH.out.1 hall
      have hqx := HH.out.2.2.1
      by_cases ht0 : stripL (tx s) = []
      · rw [if_pos ht0] at hqx
        have HR := hid (show mk n (tx s) x = (Dz, 0) by unfold mk; rw [if_pos hOK, if_pos ht0])
        have hb : (q.toList == [48]) = true := by rw [beq_iff_eq, Lib.toList_data]; exact hqx
        clear hqx ht0 hall hOK hD
        go_wp2_with (go_at_call 48; refine (htrim _).mono ?_; rintro e w1 ⟨rfl, rfl⟩)
        have hF := Cls.new w 23 [.bool false, .string ⟨#[48]⟩, .int .i64 0]
        have f0 := hF.cell 0 rfl
        have f1 := hF.cell 1 rfl
        have f2 := hF.cell 2 rfl
        exact bodyPost_ret (v := .tuple #[.agg #[.bool false, .string ⟨#[48]⟩, .int .i64 0], .int .i64 0]) (by simp [results, Tryz.results34, go_sem, f0, f1, f2]) rfl ⟨by rw [HR.out]; rfl, below_alloc w _⟩
      · rw [if_neg ht0] at hqx
        have hhd := stripL_head (tx s)
        rw [← hqx] at hhd
        have hne48 : tx q ≠ [48] := by intro e; rw [e] at hhd; exact hhd rfl
        have hb : (q.toList == [48]) = false := by rw [beq_eq_false_iff_ne, Lib.toList_data]; exact hne48
        have hql := txs_len q
        have hq0 : 0 < q.size := by
          rcases Nat.eq_zero_or_pos q.size with e | e
          · exact absurd (hqx.symm.trans (List.eq_nil_of_length_eq_zero (by rw [hql]; exact e))) ht0
          · exact e
        have hq4 : q.size ≤ 400 := by
          have := stripL_le (tx s); rw [← hqx, hql, txs_len] at this; omega
        have HQ := hid (And.intro hqx (And.intro ht0 (And.intro hOK hhd)))
        clear hqx ht0 hall hOK hD hhd hne48 hql
        go_wp2_with (go_at_call 48; refine (htrim _).mono ?_; rintro e w1 ⟨rfl, rfl⟩)
        go_loopw [1, 2] (fun v d wr => ∃ (t : ByteArray) (y : Int), v = .string t ∧ d = .int .i64 y ∧ 0 < t.size ∧ t.size ≤ q.size ∧ y + t.size = x + q.size ∧ stripR (tx t) = stripR (tx q) ∧ (tx t).head? = (tx q).head? ∧ wr = w.alloc (.cells #[.bool false, .string ⟨#[]⟩, .int .i64 0] 23)) (fun v _ _ => sizeV v)
        case atStart => exact ⟨q, x, rfl, rfl, hq0, Nat.le_refl _, rfl, rfl, rfl, rfl⟩
        case round =>
          obtain ⟨t, y, rfl, rfl, ht0, htq, hy, hst, hth, rfl⟩ := hrel
          have htl := txs_len t
          obtain ⟨j, hj⟩ : ∃ j : Nat, t.size - 1 = j := ⟨_, rfl⟩
          have hjs : j < t.size := by omega
          have hji : (t.size : Int) - 1 = (j : Int) := by omega
          obtain ⟨c, hc⟩ : ∃ c, t[j] = c := ⟨_, rfl⟩
          have hsp : tx t = (tx t).take j ++ [c] := by
            have := txs_take t hjs
            rw [List.take_of_length_le (by omega), hc] at this
            exact this
          have hlast : (tx t).getLast? = some c := by rw [hsp, List.getLast?_concat]
          have hyb : -2000 ≤ y ∧ y ≤ 2000 := by omega
          obtain ⟨hy1, hy2⟩ := hyb
          have HY := hid hy
          clear hy
          by_cases h48 : c = 48
          · have hcb : ((c.toNat : Int) == 48) = true := by rw [beq_iff_eq]; exact (byte48 c).1 h48
            have hj0 : 0 < j := by
              rcases Nat.eq_zero_or_pos j with e | e
              · exfalso
                rw [e, List.take_zero, List.nil_append, h48] at hsp
                rw [hsp] at hth
                exact HQ.out.2.2.2 hth.symm
              · exact e
            have htx2 : tx (t.extract 0 j) = (tx t).take j := extract_take t j
            have hts2 : (t.extract 0 j).size = j := by rw [← txs_len, htx2, List.length_take, htl]; omega
            have hst2 : stripR (tx (t.extract 0 j)) = stripR (tx q) := by
              rw [htx2, ← hst]
              conv => rhs; rw [hsp, h48]
              rw [stripR_snoc]
            have hth2 : (tx (t.extract 0 j)).head? = (tx q).head? := by
              rw [htx2, List.head?_take, if_neg (by omega), hth]
            obtain ⟨t', ht'⟩ : ∃ t', t.extract 0 j = t' := ⟨_, rfl⟩
            rw [ht'] at hts2 hst2 hth2
            have HS := hid (And.intro hts2 (And.intro hst2 hth2))
            have hji2 : (j : Int) ≤ (t.size : Int) := by omega
            clear hsp hlast htx2 hts2 hst2 hth2 hst hth hj htl h48
            go_wp2
            go_roundw
            case rel => exact ⟨t', y + 1, rfl, rfl, by rw [HS.out.1]; exact hj0, by rw [HS.out.1]; omega, by rw [HS.out.1, ← HY.out]; omega, HS.out.2.1, HS.out.2.2, by first | rfl | trivial⟩
            case measure => simp only [sizeV]; rw [HS.out.1]; omega
          · have hcb : ((c.toNat : Int) == 48) = false := by rw [beq_eq_false_iff_ne]; intro e; exact h48 ((byte48 c).2 e)
            have hSR : stripR (tx q) = tx t := by rw [← hst]; exact stripR_other (by rw [hlast]; intro e; exact h48 (Option.some.inj e))
            have hmk : mkD n (tx s) x = ⟨n, tx t, y⟩ := by
              unfold mkD
              rw [← HQ.out.1, hSR]
              exact D.ext' rfl rfl (by show x + ((tx q).length : Nat) - ((tx t).length : Nat) = y; rw [txs_len, txs_len, ← HY.out]; omega)
            have hR : mk n (tx s) x = if decR ⟨n, tx t, y⟩ then (⟨n, tx t, y⟩, 0) else (D0, 40) := by
              unfold mk
              rw [if_pos HQ.out.2.2.1, if_neg HQ.out.2.1, hmk]
            have hright := fun W => rdecRight_calls n t y (by omega) W
            obtain ⟨bR, hbR⟩ : ∃ bR, decR ⟨n, tx t, y⟩ = bR := ⟨_, rfl⟩
            rw [hbR] at hright hR
            have hBt := hid (B_tx t)
            have hE := Cls.new (w.alloc (.cells #[.bool false, .string ⟨#[]⟩, .int .i64 0] 23)) 23 [.bool n, .string t, .int .i64 y]
            have hC2 := hC.alloc (.cells #[.bool n, .string t, .int .i64 y] 23)
            have hA2 := hA.alloc hA.size (.cells #[.bool n, .string t, .int .i64 y] 23)
            rw [World.size_alloc] at hE
            clear hsp hlast hst hth hj htl h48 hSR hmk hbR
            clear c0 c1 c2 z0 z1 z2
            have c0 := hC2.cell 0 rfl
            have z0 := hC2.frozen 0
            have c1 := hC2.cell 1 rfl
            have z1 := hC2.frozen 1
            have c2 := hC2.cell 2 rfl
            have z2 := hC2.frozen 2
            have k0 := hE.cell 0 rfl
            have y0 := hE.frozen 0
            have k1 := hE.cell 1 rfl
            have y1 := hE.frozen 1
            have k2 := hE.cell 2 rfl
            have y2 := hE.frozen 2
            have hzz : w.heap.size < w.heap.size + 1 := by omega
            cases bR
            · have HR := hid (show mk n (tx s) x = (D0, 40) by rw [hR]; rfl)
              clear hR
              go_wp2_with (go_at_call 49; refine (hright _).mono ?_; rintro e w6 ⟨rfl, hb6⟩; have hC6 := hC2.below hb6; have hE6 := hE.below hb6; have HB6 := hid (hA2.trans (hb6.mono hA2.size)); have c0 := hC6.cell 0 rfl; have c1 := hC6.cell 1 rfl; have c2 := hC6.cell 2 rfl; have z0 := hC6.frozen 0; have z1 := hC6.frozen 1; have z2 := hC6.frozen 2; have m0 := hE6.cell 0 rfl; have m1 := hE6.cell 1 rfl; have m2 := hE6.cell 2 rfl)
              have hF := ((hC6.set 0 (.bool false)).set 1 (.string ⟨#[]⟩)).set 2 (.int .i64 0)
              have f0 := hF.cell 0 rfl
              have f1 := hF.cell 1 rfl
              have f2 := hF.cell 2 rfl
              have hbF := ((HB6.out.setCell (p := ⟨w.heap.size, 0, none⟩) (Nat.le_refl _) (.bool false)).setCell (p := ⟨w.heap.size, 1, none⟩) (Nat.le_refl _) (.string ⟨#[]⟩)).setCell (p := ⟨w.heap.size, 2, none⟩) (Nat.le_refl _) (.int .i64 0)
              exact bodyPost_ret (v := .tuple #[.agg #[.bool false, .string ⟨#[]⟩, .int .i64 0], .int .i64 40]) (by simp [results, Tryz.results34, go_sem, f0, f1, f2]) rfl ⟨by rw [HR.out]; rfl, hbF⟩
            · have HR := hid (show mk n (tx s) x = (⟨n, tx t, y⟩, 0) by rw [hR]; rfl)
              clear hR
              go_wp2_with (go_at_call 49; refine (hright _).mono ?_; rintro e w6 ⟨rfl, hb6⟩; have hC6 := hC2.below hb6; have hE6 := hE.below hb6; have HB6 := hid (hA2.trans (hb6.mono hA2.size)); have c0 := hC6.cell 0 rfl; have c1 := hC6.cell 1 rfl; have c2 := hC6.cell 2 rfl; have z0 := hC6.frozen 0; have z1 := hC6.frozen 1; have z2 := hC6.frozen 2; have m0 := hE6.cell 0 rfl; have m1 := hE6.cell 1 rfl; have m2 := hE6.cell 2 rfl)
              have hF := ((hC6.set 0 (.bool n)).set 1 (.string t)).set 2 (.int .i64 y)
              have f0 := hF.cell 0 rfl
              have f1 := hF.cell 1 rfl
              have f2 := hF.cell 2 rfl
              have hbF := ((HB6.out.setCell (p := ⟨w.heap.size, 0, none⟩) (Nat.le_refl _) (.bool n)).setCell (p := ⟨w.heap.size, 1, none⟩) (Nat.le_refl _) (.string t)).setCell (p := ⟨w.heap.size, 2, none⟩) (Nat.le_refl _) (.int .i64 y)
              exact bodyPost_ret (v := .tuple #[.agg #[.bool n, .string t, .int .i64 y], .int .i64 0]) (by simp [results, Tryz.results34, go_sem, f0, f1, f2]) rfl ⟨by rw [HR.out]; unfold D.val; rw [hBt.out]; rfl, hbF⟩

theorem rMake_calls (n : Bool) (s : ByteArray) (x : Int) (hx : -9223372036854775808 ≤ x ∧ x ≤ 9223372036854775807) (hs : s.size ≤ 140737488355328) (w : World) :
    Calls Tryz.prog 34 #[.bool n, .string s, .int .i64 x] w fun e w' => e = .returned (.tuple #[(mk n (tx s) x).1.val, .int .i64 (mk n (tx s) x).2]) ∧ Below w.heap.size w w' := by
  by_cases h : ¬ (s.size : Int) < 1 ∧ ¬ (400 : Int) < s.size ∧ ¬ x < -1000 ∧ ¬ 1000 < x
  · exact rmake_in n s x h.1 h.2.1 h.2.2.1 h.2.2.2 w
  · have hm : mk n (tx s) x = (D0, 40) := by
      unfold mk
      rw [if_neg]
      unfold mkOk
      rw [Bool.and_eq_true, Bool.and_eq_true, Bool.and_eq_true, Bool.and_eq_true, decide_eq_true_eq, decide_eq_true_eq, decide_eq_true_eq, decide_eq_true_eq, txs_len]
      rintro ⟨g1, g2, ⟨g3, g4⟩, _⟩
      have := txs_len s
      exact h ⟨fun e => g1 (List.eq_nil_of_length_eq_zero (by omega)), by omega, by omega, by omega⟩
    rw [hm]
    exact rmake_pre n s x hx hs w (by omega)
end Go.Proofs.YtpjlepkdiaohiaaGreatDoor

/- Package nat: limb, trim, small, the two iterators (groups, slices.Backward), cmp.Compare. -/
namespace Go.Proofs.YtpjlepkdiaohiaaGreatDoor
open Go.RowKit Go.Shelf
attribute [local go_sem] Oper.semAt_some

/-! ### cmp.Compare -/
def cmpI (x y : Int) : Int := if x < y then -1 else if y < x then 1 else 0

end Go.Proofs.YtpjlepkdiaohiaaGreatDoor

/- The document's own naturals (targumref01): compare, To (apart from the rest). -/
namespace Go.Proofs.YtpjlepkdiaohiaaGreatDoor
open Go.RowKit
attribute [local go_sem] Oper.semAt_some

theorem cmpI_lt {m n : Nat} (h : m < n) : cmpI (m : Nat) (n : Nat) = -1 := by unfold cmpI; rw [if_pos (by omega)]
theorem cmpI_gt {m n : Nat} (h : n < m) : cmpI (m : Nat) (n : Nat) = 1 := by unfold cmpI; rw [if_neg (by omega), if_pos (by omega)]
theorem cmpI_eq {m n : Nat} (h : m = n) : cmpI (m : Nat) (n : Nat) = 0 := by unfold cmpI; rw [if_neg (by omega), if_neg (by omega)]

set_option maxRecDepth 100000 in
set_option maxHeartbeats 2000000 in
theorem rcompare_calls (s t : ByteArray) (hs : isRt (tx s) = true) (ht : isRt (tx t) = true) (w : World) :
    Calls Tryz.prog 123 #[.string s, .string t] w fun e w' => e = .returned (.int .i64 (cmpI (nv (tx s)) (nv (tx t)))) ∧ Below w.heap.size w w' := by
  have ls := rt_len hs
  have lt := rt_len ht
  rw [txs_len] at ls lt
  have ds := Dgs.rt hs
  have dt := Dgs.rt ht
  by_cases hl : s.size = t.size
  · have hbe : ((s.size : Int) != (t.size : Int)) = false := by rw [bne_eq_false_iff_eq]; omega
    have hll : (tx s).length = (tx t).length := by rw [txs_len, txs_len]; exact hl
    have HL := hid (And.intro hl (And.intro hs ht))
    have HLL := hid hll
    have hle : t.size ≤ s.size ∧ s.size ≤ t.size := ⟨by omega, by omega⟩
    obtain ⟨hle1, hle2⟩ := hle
    clear hl hs ht hll
    go_enter Tryz.func123, Tryz.ntmps123
    go_wp2
    go_loopw [5] (fun i wr => ∃ k : Nat, i = .int .i64 k ∧ k ≤ s.size ∧ (tx s).take k = (tx t).take k ∧ Below w.heap.size w wr) (fun i _ => s.size - (intOf i).toNat)
    case atStart => exact ⟨0, rfl, Nat.zero_le _, by rw [List.take_zero, List.take_zero], Below.refl _ _⟩
    case round =>
      obtain ⟨k, rfl, hk, hT, hB⟩ := hrel
      by_cases hlt : k < s.size
      · have hlt2 : k < t.size := by omega
        have h1 := txs_take s hlt
        have h2 := txs_take t hlt2
        obtain ⟨c, hc⟩ : ∃ c, s[k] = c := ⟨_, rfl⟩
        obtain ⟨d, hd⟩ : ∃ d, t[k] = d := ⟨_, rfl⟩
        rw [hc] at h1
        rw [hd] at h2
        have hx : (tx s)[k]'(by rw [txs_len]; exact hlt) = c := hc
        have hy : (tx t)[k]'(by rw [txs_len]; exact hlt2) = d := hd
        rcases Nat.lt_trichotomy c.toNat d.toNat with hcd | hcd | hcd
        · have HR := hid (cmpI_lt (nv_less ds dt HLL.out (by rw [txs_len]; exact hlt) hT (by rw [hx, hy]; exact hcd)))
          have hi1 : (c.toNat : Int) < (d.toNat : Int) := by omega
          clear h1 h2 hT hx hy hcd ds dt
          go_wp2
          go_quiet (fail)
          go_wp2
          go_ret
          exact ⟨ret_int HR.out.symm, belowN hB _⟩
        · have hcd' : c = d := UInt8.toNat_inj.1 hcd
          have HR := hid (show (tx s).take (k + 1) = (tx t).take (k + 1) by rw [h1, h2, hT, hcd'])
          subst hcd'
          clear h1 h2 hT hx hy hcd ds dt
          go_wp2
          go_quiet (fail)
          go_wp2
          go_quiet (fail)
          go_wp2
          go_roundw
          case rel => exact ⟨k + 1, by simp, hlt, HR.out, by first | exact belowN hB _ | exact belowN (belowN hB _) _⟩
          case measure => simp [intOf]; omega
        · have HR := hid (cmpI_gt (nv_less dt ds HLL.out.symm (by rw [txs_len]; exact hlt2) hT.symm (by rw [hx, hy]; exact hcd)))
          have hi1 : (d.toNat : Int) < (c.toNat : Int) := by omega
          clear h1 h2 hT hx hy hcd ds dt
          go_wp2
          go_quiet (fail)
          go_wp2
          go_quiet (fail)
          go_wp2
          go_ret
          exact ⟨ret_int HR.out.symm, by first | exact belowN hB _ | exact belowN (belowN hB _) _⟩
      · have hse : tx s = tx t := by
          rw [List.take_of_length_le (by rw [txs_len]; omega), List.take_of_length_le (by rw [txs_len]; omega)] at hT
          exact hT
        have HR := hid (cmpI_eq (congrArg nv hse))
        clear hse hT ds dt
        go_wp2
        go_ret
        exact ⟨ret_int HR.out.symm, hB⟩
  · have hbe : ((s.size : Int) != (t.size : Int)) = true := by rw [bne_iff_ne]; omega
    rcases Nat.lt_or_gt_of_ne hl with h | h
    · have HR := hid (cmpI_lt (nv_shorter hs ht (by rw [txs_len, txs_len]; exact h)))
      clear hs ht hl ds dt
      go_enter Tryz.func123, Tryz.ntmps123
      go_wp2
      go_ret
      exact ⟨ret_int HR.out.symm, Below.refl _ _⟩
    · have HR := hid (cmpI_gt (nv_shorter ht hs (by rw [txs_len, txs_len]; exact h)))
      clear hs ht hl ds dt
      go_enter Tryz.func123, Tryz.ntmps123
      go_wp2
      go_ret
      exact ⟨ret_int HR.out.symm, Below.refl _ _⟩

/-- the greatest number of 64 bits, as a text. -/
def big64 : ByteArray := ⟨#[49, 56, 52, 52, 54, 55, 52, 52, 48, 55, 51, 55, 48, 57, 53, 53, 49, 54, 49, 53]⟩
theorem big64_val : nv (tx big64) = 18446744073709551615 := by decide +kernel
theorem big64_rt : isRt (tx big64) = true := by decide +kernel
def M64 : Nat := 18446744073709551615

theorem nv_take_le (l : List UInt8) (k : Nat) : nv (l.take k) ≤ nv l := by
  have h := congrArg nv (List.take_append_drop k l)
  rw [nv_append] at h
  have : nv (l.take k) * 1 ≤ nv (l.take k) * 10 ^ (l.drop k).length := Nat.mul_le_mul_left _ (Nat.pow_pos (by omega))
  omega

theorem wrapM {n : Nat} (h : n ≤ M64) : IntKind.u64.wrap (n : Int) = (n : Int) := IntWalk.u64_in _ (by unfold M64 at h; omega)

set_option maxRecDepth 100000 in
set_option maxHeartbeats 4000000 in
theorem rTo_calls (s : ByteArray) (hs : s.size ≤ 140737488355328) (w : World) :
    Calls Tryz.prog 75 #[.string s] w fun e w' => e = .returned (.tuple #[.int .u64 (toN s), .bool (toB s)]) ∧ Below w.heap.size w w' := by
  cases h1 : isRt (tx s) with
  | false =>
    have HR := hid (show toN s = 0 ∧ toB s = false by unfold toN toB; rw [h1]; exact ⟨rfl, rfl⟩)
    go_enter Tryz.func75, Tryz.ntmps75
    go_wp2_with (go_at_call 77; refine (same_symm (rRight_calls _ (by assumption) _)).mono ?_; rintro e w1 ⟨rfl, rfl⟩)
    go_ret2
    exact ⟨by rw [HR.out.1, HR.out.2]; rfl, Below.refl _ _⟩
  | true =>
    have hc := rcompare_calls s big64 h1 big64_rt
    rw [big64_val] at hc
    have ds := Dgs.rt h1
    have ls := rt_len h1
    rw [txs_len] at ls
    by_cases hle : nv (tx s) < 18446744073709551616
    · have HR := hid (show toN s = nv (tx s) ∧ toB s = true by unfold toN toB; rw [h1, decide_eq_true hle]; exact ⟨rfl, rfl⟩)
      have hz : cmpI (nv (tx s) : Nat) (18446744073709551615 : Nat) ≤ 0 := by
        unfold cmpI
        split
        · omega
        · rw [if_neg (by omega)]; exact Int.le_refl _
      obtain ⟨z, hze⟩ : ∃ z, cmpI (nv (tx s) : Nat) (18446744073709551615 : Nat) = z := ⟨_, rfl⟩
      change ∀ w, Calls _ _ _ _ fun e w' => e = .returned (.int .i64 (cmpI (nv (tx s) : Nat) (18446744073709551615 : Nat))) ∧ _ at hc
      rw [hze] at hc hz
      have hM : nv (tx s) ≤ M64 := by unfold M64; omega
      have HM := hid hM
      clear hze hle hM
      change ∀ w, Calls _ _ #[_, .string ⟨#[49, 56, 52, 52, 54, 55, 52, 52, 48, 55, 51, 55, 48, 57, 53, 53, 49, 54, 49, 53]⟩] _ _ at hc
      go_enter Tryz.func75, Tryz.ntmps75
      go_wp2_with (first
        | (go_at_call 77; refine (same_symm (rRight_calls _ (by assumption) _)).mono ?_; rintro e w1 ⟨rfl, rfl⟩)
        | (go_at_call 123; refine (hc _).mono ?_; rintro e w1 ⟨rfl, hb⟩))
      go_loopw [4, 5] (fun v d wr => ∃ (k n : Nat), v = .int .u64 n ∧ d = .int .i64 k ∧ k ≤ s.size ∧ nv ((tx s).take k) = n ∧ Below w.heap.size w wr) (fun _ d _ => s.size - (intOf d).toNat)
      case atStart => exact ⟨0, 0, rfl, rfl, Nat.zero_le _, by rw [List.take_zero, nv_nil], hb⟩
      case round =>
        obtain ⟨k, n, rfl, rfl, hk, hv, hB⟩ := hrel
        by_cases hlt : k < s.size
        · obtain ⟨ch, hch⟩ : ∃ ch, s[k] = ch := ⟨_, rfl⟩
          have hcb := ds.at (k := k) (by rw [txs_len]; exact hlt)
          rw [txs_at s hlt, hch] at hcb
          have htk := txs_take s hlt
          rw [hch] at htk
          have hst : nv ((tx s).take (k + 1)) = n * 10 + (ch.toNat - 48) := by rw [htk, nv_snoc, hv]
          have hle2 := Nat.le_trans (nv_take_le (tx s) (k + 1)) HM.out
          rw [hst] at hle2
          obtain ⟨p, hp⟩ : ∃ p, n * 10 = p := ⟨_, rfl⟩
          rw [hp] at hle2 hst
          obtain ⟨n', hn'⟩ : ∃ n', p + (ch.toNat - 48) = n' := ⟨_, rfl⟩
          have hwp := wrapM (show p ≤ M64 by omega)
          rw [hn'] at hle2 hst
          have hwn := wrapM hle2
          have hpi : 10 * (n : Int) = (p : Int) := by omega
          obtain ⟨c1, c2⟩ := hcb
          have e1 : (48 : Int) ≤ (ch.toNat : Int) := by omega
          have e2 : (ch.toNat : Int) ≤ 57 := by omega
          have hni : (p : Int) + ((ch.toNat : Int) - 48) = (n' : Int) := by omega
          have HS := hid hst
          clear hst hle2 hp hn' htk hv ds
          go_wp2
          go_roundw
          case rel => exact ⟨k + 1, n', by simp, by simp, hlt, HS.out, hB⟩
          case measure => simp [intOf]; omega
        · obtain rfl : k = s.size := by omega
          rw [List.take_of_length_le (by rw [txs_len]; exact Nat.le_refl _)] at hv
          have HV := hid hv
          clear hv ds
          go_wp2
          go_ret2
          exact ⟨by rw [HR.out.1, HR.out.2, HV.out]; rfl, hB⟩
    · have HR := hid (show toN s = 0 ∧ toB s = false by unfold toN toB; rw [h1, decide_eq_false hle]; exact ⟨rfl, rfl⟩)
      rw [show cmpI (nv (tx s) : Nat) (18446744073709551615 : Nat) = 1 from cmpI_gt (by omega)] at hc
      change ∀ w, Calls _ _ #[_, .string ⟨#[49, 56, 52, 52, 54, 55, 52, 52, 48, 55, 51, 55, 48, 57, 53, 53, 49, 54, 49, 53]⟩] _ _ at hc
      clear hle ds ls
      go_enter Tryz.func75, Tryz.ntmps75
      go_wp2_with (first
        | (go_at_call 77; refine (same_symm (rRight_calls _ (by assumption) _)).mono ?_; rintro e w1 ⟨rfl, rfl⟩)
        | (go_at_call 123; refine (hc _).mono ?_; rintro e w1 ⟨rfl, hb⟩))
      go_ret2
      exact ⟨by rw [HR.out.1, HR.out.2]; rfl, hb⟩
end Go.Proofs.YtpjlepkdiaohiaaGreatDoor

/- The document's own decimals (targumref04): Format, OfInt, ToInt: walked. -/
namespace Go.Proofs.YtpjlepkdiaohiaaGreatDoor
open Go.RowKit
attribute [local go_sem] Oper.semAt_some

set_option maxRecDepth 100000 in
set_option maxHeartbeats 4000000 in
theorem rofInt_calls (neg : Bool) (n : Nat) (hn : n < 18446744073709551616) (w : World) :
    Calls Tryz.prog 21 #[.bool neg, .int .u64 n] w fun e w' => e = .returned (mk neg (Lib.decDigits n) 0).1.val ∧ Below w.heap.size w w' := by
  have hof := fun W => rOf_calls n hn W
  obtain ⟨q, hq⟩ : ∃ q : ByteArray, (⟨(Lib.decDigits n).toArray⟩ : ByteArray) = q := ⟨_, rfl⟩
  have hqx : tx q = Lib.decDigits n := by rw [← hq]; exact tx_B _
  have hqs : q.size ≤ 20 := by rw [← txs_len, hqx, Lib.decDigits_length]; exact rdig_lt 19 n (by omega)
  rw [hq] at hof
  have hmake := fun W => rMake_calls neg q 0 ⟨by omega, by omega⟩ (by omega) W
  rw [hqx] at hmake
  obtain ⟨dn, dd, dx, hd⟩ : ∃ dn dd dx, (mk neg (Lib.decDigits n) 0).1 = ⟨dn, dd, dx⟩ := ⟨_, _, _, rfl⟩
  obtain ⟨er, her⟩ : ∃ er, (mk neg (Lib.decDigits n) 0).2 = er := ⟨_, rfl⟩
  obtain ⟨ds, hds⟩ : ∃ ds, B dd = ds := ⟨_, rfl⟩
  rw [hd, her] at hmake
  have hmake' : ∀ W, Calls Tryz.prog 34 #[.bool neg, .string q, .int .i64 0] W fun e w' => e = .returned (.tuple #[.agg #[.bool dn, .string ds, .int .i64 dx], .int .i64 er]) ∧ Below W.heap.size W w' := by rw [← hds]; exact hmake
  have HR := hid (show (mk neg (Lib.decDigits n) 0).1.val = .agg #[.bool dn, .string ds, .int .i64 dx] by rw [hd, ← hds]; rfl)
  have hC := Cls.new w 23 [.bool false, .string ⟨#[]⟩, .int .i64 0]
  have hA := below_alloc w (.cells #[.bool false, .string ⟨#[]⟩, .int .i64 0] 23)
  clear hmake hd her hds hq hqx hn
  go_enter Tryz.func21, Tryz.ntmps21
  go_wp2_with fail
  refine (hof _).mono ?_
  rintro e w1 ⟨rfl, hb1⟩
  have hW1 := hA.trans (hb1.mono hA.size)
  have hC1 := hC.below hb1
  go_wp2_with fail
  refine (hmake' _).mono ?_
  rintro e w2 ⟨rfl, hb2⟩
  have hW2 := hW1.trans (hb2.mono hW1.size)
  have hC2 := hC1.below hb2
  have hlt : w.heap.size < w2.heap.size := hC2.lt
  have hE := Cls.new w2 23 [.bool dn, .string ds, .int .i64 dx]
  have c0 := hC2.cell 0 rfl
  have c1 := hC2.cell 1 rfl
  have c2 := hC2.cell 2 rfl
  have z0 := hC2.frozen 0
  have z1 := hC2.frozen 1
  have z2 := hC2.frozen 2
  have d0 := hE.cell 0 rfl
  have d1 := hE.cell 1 rfl
  have d2 := hE.cell 2 rfl
  go_wp2
  have hF := (((hC2.set 0 (.bool dn)).set 1 (.string ds)).set 2 (.int .i64 dx)).alloc (.cells #[.bool dn, .string ds, .int .i64 dx] 23)
  have f0 := hF.cell 0 rfl
  have f1 := hF.cell 1 rfl
  have f2 := hF.cell 2 rfl
  have hbG := ((hW2.setCell (p := ⟨w.heap.size, 0, none⟩) (Nat.le_refl _) (.bool dn)).setCell (p := ⟨w.heap.size, 1, none⟩) (Nat.le_refl _) (.string ds)).setCell (p := ⟨w.heap.size, 2, none⟩) (Nat.le_refl _) (.int .i64 dx)
  have hbF := hbG.alloc hbG.size (.cells #[.bool dn, .string ds, .int .i64 dx] 23)
  exact bodyPost_ret (v := .agg #[.bool dn, .string ds, .int .i64 dx]) (by simp [results, Tryz.results21, go_sem, f0, f1, f2]) rfl ⟨by rw [HR.out], hbF⟩

set_option maxRecDepth 100000 in
set_option maxHeartbeats 4000000 in
theorem rtoInt_calls (n : Bool) (s : ByteArray) (x : Int) (hs : s.size ≤ 140737488355328) (w : World) :
    Calls Tryz.prog 43 #[.agg #[.bool n, .string s, .int .i64 x]] w fun e w' => e = .returned (.tuple #[.bool (tiB ⟨n, tx s, x⟩ && n), .int .u64 (tiN ⟨n, tx s, x⟩), .bool (tiB ⟨n, tx s, x⟩)]) ∧ Below w.heap.size w w' := by
  have hC := Cls.new w 23 [.bool n, .string s, .int .i64 x]
  have hA := below_alloc w (.cells #[.bool n, .string s, .int .i64 x] 23)
  have hright := fun W => rdecRight_calls n s x hs W
  cases hG : tiG ⟨n, tx s, x⟩ with
  | false =>
    have HR := hid (show tiB ⟨n, tx s, x⟩ = false ∧ tiN ⟨n, tx s, x⟩ = 0 by unfold tiB tiN; rw [hG]; exact ⟨rfl, rfl⟩)
    cases hr : decR ⟨n, tx s, x⟩ with
    | false =>
      rw [hr] at hright
      clear hr hG
      go_enter Tryz.func43, Tryz.ntmps43
      go_wp2_with (go_at_call 49; refine (hright _).mono ?_; rintro e w1 ⟨rfl, hb1⟩)
      go_ret3
      exact ⟨by rw [HR.out.1, HR.out.2]; rfl, hA.trans (hb1.mono hA.size)⟩
    | true =>
      rw [hr] at hright
      have hcase : x < 0 ∨ (¬ x < 0 ∧ 20 < x) := by
        unfold tiG at hG
        rw [hr, Bool.true_and, Bool.and_eq_false_iff, decide_eq_false_iff_not, decide_eq_false_iff_not] at hG
        change ¬ 0 ≤ x ∨ ¬ x ≤ 20 at hG
        omega
      clear hr hG
      rcases hcase with h1 | ⟨h1, h2⟩
      all_goals (
        go_enter Tryz.func43, Tryz.ntmps43
        go_wp2_with (go_at_call 49; refine (hright _).mono ?_; rintro e w1 ⟨rfl, hb1⟩; have hC1 := hC.below hb1; have c2 := hC1.cell 2 rfl)
        go_ret3
        exact ⟨by rw [HR.out.1, HR.out.2]; rfl, hA.trans (hb1.mono hA.size)⟩)
  | true =>
    have hG' := hG
    unfold tiG at hG'
    rw [Bool.and_eq_true, Bool.and_eq_true, decide_eq_true_eq, decide_eq_true_eq] at hG'
    obtain ⟨hr, hx0, hx2⟩ := hG'
    change 0 ≤ x at hx0
    change x ≤ 20 at hx2
    rw [hr] at hright
    have hbd := (decR_bounds hr).1
    rw [txs_len] at hbd
    obtain ⟨c, rfl⟩ := Int.eq_ofNat_of_zero_le hx0
    have hit := fun W => rzeros_calls c (by omega) (by omega) W
    obtain ⟨q, hq⟩ : ∃ q, B (List.replicate c (48 : UInt8)) = q := ⟨_, rfl⟩
    have hqs : q.size ≤ 20 := by rw [← hq, size_B, List.length_replicate]; omega
    change ∀ W, Calls _ _ _ _ fun e w' => e = .returned (.string (B (List.replicate c (48 : UInt8)))) ∧ _ at hit
    rw [hq] at hit
    have hsq : tiT ⟨n, tx s, (c : Int)⟩ = s ++ q := by
      rw [← B_tx (s ++ q), tx_app, ← hq, tx_B]; rfl
    have hsqs : (s ++ q).size ≤ 120 := by rw [size_app]; omega
    have hto := fun W => rTo_calls (s ++ q) (by omega) W
    have hB : tiB ⟨n, tx s, (c : Int)⟩ = toB (s ++ q) := by unfold tiB; rw [hG, hsq]; rfl
    have hN : tiN ⟨n, tx s, (c : Int)⟩ = toN (s ++ q) := by unfold tiN; rw [hG, hsq]; rfl
    obtain ⟨tb, htb⟩ : ∃ tb, toB (s ++ q) = tb := ⟨_, rfl⟩
    obtain ⟨tn, htn⟩ : ∃ tn, toN (s ++ q) = tn := ⟨_, rfl⟩
    rw [htb, htn] at hto
    rw [htb] at hB
    rw [htn] at hN
    have HR := hid (And.intro hB hN)
    have HZ := hid (show tb = false → tn = 0 by rw [← htb, ← htn]; unfold toB toN; intro e; rw [e]; rfl)
    have hl1 := hC.lt
    have h1 : ¬ (c : Int) < 0 := by omega
    have h2 : ¬ (20 : Int) < (c : Int) := by omega
    clear hr hG hq hsq hB hN htb htn hsqs
    cases tb
    all_goals (
      go_enter Tryz.func43, Tryz.ntmps43
      go_wp2_with fail
      refine (hright _).mono ?_
      rintro e w1 ⟨rfl, hb1⟩
      have hC1 := hC.below hb1
      have hW1 := hA.trans (hb1.mono hA.size)
      have c0 := hC1.cell 0 rfl
      have c1 := hC1.cell 1 rfl
      have c2 := hC1.cell 2 rfl
      go_wp2
      go_region_with (first
        | (go_at_call 76; refine (hit _).mono ?_; rintro e w4 ⟨rfl, rfl⟩)
        | (go_at_call 75; refine (hto _).mono ?_; rintro e w5 ⟨rfl, hb5⟩; have hC5 : Cls w5 w.heap.size 23 _ := (hb5.block w.heap.size hC1.lt).trans hC1; have k0 := hC5.cell 0 rfl))
      all_goals (
        go_wp2
        go_ret3
        exact ⟨by first | (rw [HR.out.1, HR.out.2, HZ.out (by trivial)]; rfl) | (rw [HR.out.1, HR.out.2]; rfl), hW1.drew.trans (hb5.mono hW1.drew.size)⟩))
end Go.Proofs.YtpjlepkdiaohiaaGreatDoor

