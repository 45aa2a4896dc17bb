/- What all walks share: facts kept from the walk; slices of limbs as they read; worlds. -/
import Derived.Test.YtbopikeoaokdpaaDoorProg
import Derived.Test.YtbopikeoaokdpaaDoorLim
import Derived.Test.YtbopikeoaokdpaaDoorShelf
import Derived.WalkKit
import Derived.WalkSpells
import Derived.WalkLawsBesides
import Derived.Outline
import Derived.Deep.DeepFit
import Derived.Deep.DeepMust
import Derived.Deep.QuietTactic
import Derived.Deep.RegionHeld3
import Derived.BigQuiet
import Derived.BigRegion
namespace Go.Proofs.YtbopikeoaokdpaaDoor
open Go.RowKit

theorem hid {p : Prop} (h : p) : Hid p := h

theorem ret_bool {a b : Bool} (h : a = b) : Ending.returned (.bool a) = .returned (.bool b) := by rw [h]
theorem ret_int {k : IntKind} {a b : Int} (h : a = b) : Ending.returned (.int k a) = .returned (.int k b) := by rw [h]
theorem ret_str {a b : ByteArray} (h : a = b) : Ending.returned (.string a) = .returned (.string b) := by rw [h]
theorem ret_val {a b : Value} (h : a = b) : Ending.returned a = .returned b := by rw [h]

/-! ### division by a number that is not known: the quotient and the rest, in each form that the walk may show -/
theorem quo_forms {m b q : Nat} (hb : 0 < b) (hm : m < 18446744073709551616) (hq : m / b = q) : IntKind.u64.wrap ((m : Int).tdiv (b : Int)) = (q : Int) ∧ IntKind.u64.wrap ((m : Int) / (b : Int)) = (q : Int) ∧ ¬ b = 0 := by
  have h := IntWalk.u64_quo (m : Int) (b : Int) ⟨by omega, by omega, by omega⟩
  rw [show (m : Int) / (b : Int) = ((m / b : Nat) : Int) from rfl, hq] at h
  refine ⟨h, ?_, by omega⟩
  rw [Int.tdiv_eq_ediv_of_nonneg (by omega)] at h
  exact h
theorem rem_forms {m b r : Nat} (hr : m % b = r) : (m : Int).tmod (b : Int) = (r : Int) ∧ (m : Int) % (b : Int) = (r : Int) := by
  rw [Int.tmod_eq_emod_of_nonneg (by omega), ← hr]
  exact ⟨rfl, rfl⟩

/-- the digits, as a text. -/
def digs : ByteArray := ⟨#[48, 49, 50, 51, 52, 53, 54, 55, 56, 57]⟩

theorem str_eq (s : ByteArray) : (⟨s.data.toList.toArray⟩ : ByteArray) = s := by cases s; simp
theorem extract_take (s : ByteArray) (k : Nat) : (s.extract 0 k).data.toList = s.data.toList.take k := by
  rw [Lib.extract_data, List.drop_zero, Nat.sub_zero]
/-- a text's own letters; a text of letters. -/
def tx (s : ByteArray) : List UInt8 := s.data.toList
def B (l : List UInt8) : ByteArray := ⟨l.toArray⟩
theorem tx_B (l : List UInt8) : tx (B l) = l := by simp [tx, B]
theorem size_B (l : List UInt8) : (B l).size = l.length := by simp [B, ByteArray.size]
theorem B_tx (s : ByteArray) : B (tx s) = s := str_eq s
theorem len_str (s : ByteArray) : s.data.toList.length = s.size := by cases s; rfl

/-- THE TABLES THAT THE LIBRARY READS, AS THEY ARE LAID. -/
structure Tabs (w : World) : Prop where
  pow10 : Lib.TabIs Tryd.prog w "internal/strconv.uint64pow10" .u64 Lib.pow10Tab
  range : ∃ tp p, w.var? Tryd.prog "strconv.ErrRange" = some #[.iface tp p]
  synt : ∃ tp p, w.var? Tryd.prog "strconv.ErrSyntax" = some #[.iface tp p]

theorem pow10_glob : Tryd.prog.globalNamed "internal/strconv.uint64pow10" = some 2 := by kernel_rfl
theorem range_glob : Tryd.prog.globalNamed "strconv.ErrRange" = some 1 := by kernel_rfl

theorem synt_glob : Tryd.prog.globalNamed "strconv.ErrSyntax" = some 0 := by kernel_rfl

theorem lt_of_var {w : World} {name : String} {g : Nat} {r : Array Value} (hg : Tryd.prog.globalNamed name = some g) (h : w.var? Tryd.prog name = some r) : g < w.heap.size := by
  unfold World.var? at h
  simp only [hg, Option.bind_some] at h
  cases e : w.heap[g]? with
  | none => rw [e] at h; cases h
  | some o => exact (Array.getElem?_eq_some_iff.1 e).1

theorem var_kept {w w' : World} {name : String} {g : Nat} {r : Array Value} (hg : Tryd.prog.globalNamed name = some g) (h : w.var? Tryd.prog name = some r) (hb : Below w.heap.size w w') : w'.var? Tryd.prog name = some r :=
  var?_below hb hg (lt_of_var hg h) h

theorem Tabs.below {w w' : World} (h : Tabs w) (hb : Below w.heap.size w w') : Tabs w' :=
  ⟨var_kept pow10_glob h.pow10 hb, let ⟨tp, p, e⟩ := h.range; ⟨tp, p, var_kept range_glob e hb⟩, let ⟨tp, p, e⟩ := h.synt; ⟨tp, p, var_kept synt_glob e hb⟩⟩

theorem belowN {B : Nat} {a w : World} (h : Below B a w) (n : Nat) : Below B a (w.drewN n) := ⟨h.os, h.tape, h.output, h.size, h.block⟩
theorem below_alloc (w : World) (o : Obj) : Below w.heap.size w (w.alloc o) := (Below.refl _ _).alloc (Nat.le_refl _) o
theorem Tabs.alloc {w : World} (h : Tabs w) (o : Obj) : Tabs (w.alloc o) := h.below (below_alloc w o)
theorem Tabs.drew {w : World} (h : Tabs w) : Tabs w.drew := h.below (Below.refl _ _).drew

theorem ownBlock_slice (a : Option Addr) (n c : Nat) : (Value.slice a n c).ownBlock = a.map (·.block) := by cases a <;> rfl

/-! ### a slice of limbs, as it reads -/

/-- the slice value v reads as the limbs xs, each in a cell of kind u32. -/
def Lim (w : World) (v : Value) (xs : List Nat) : Prop :=
  ∃ a cap, v = .slice a xs.length cap ∧ xs.length ≤ cap ∧ (cap ≤ maxLen ∧ ∀ k, v.ownBlock = some k → ∃ c fz, w.heap[k]? = some (.cells c 97 fz)) ∧
    (xs ≠ [] → ∃ b off, a = some ⟨b, off, none⟩ ∧ b < w.heap.size ∧ ∀ j, j < xs.length → w.cell? ⟨b, off + j, none⟩ = some (.int .u32 (xs[j]?.getD 0 : Nat)))

theorem Lim.below {w w' : World} {v : Value} {xs : List Nat} (h : Lim w v xs) (hb : Below w.heap.size w w') : Lim w' v xs := by
  obtain ⟨a, cap, h1, h2, h3, h4⟩ := h
  refine ⟨a, cap, h1, h2, ⟨h3.1, fun k hk => let ⟨c, fz, e⟩ := h3.2 k hk; ⟨c, fz, (hb.block k (Array.getElem?_eq_some_iff.1 e).1).trans e⟩⟩, fun hne => ?_⟩
  obtain ⟨b, off, e1, e2, e3⟩ := h4 hne
  exact ⟨b, off, e1, Nat.lt_of_lt_of_le e2 hb.size, fun j hj => (hb.cell (p := ⟨b, off + j, none⟩) e2).trans (e3 j hj)⟩

theorem Lim.own {w : World} {v : Value} {xs : List Nat} (h : Lim w v xs) : ∀ k, v.ownBlock = some k → k < w.heap.size := let ⟨_, _, _, _, h3, _⟩ := h; fun k hk => let ⟨_, _, e⟩ := h3.2 k hk; (Array.getElem?_eq_some_iff.1 e).1
theorem Lim.typed {w : World} {v : Value} {xs : List Nat} (h : Lim w v xs) : ∀ k, v.ownBlock = some k → ∃ c fz, w.heap[k]? = some (.cells c 97 fz) := let ⟨_, _, _, _, h3, _⟩ := h; h3.2

theorem Lim.nil (w : World) : Lim w (.slice none 0 0) [] := ⟨none, 0, rfl, Nat.le_refl _, ⟨by simp [maxLen], fun k hk => by simp [Value.ownBlock] at hk⟩, fun h => absurd rfl h⟩

/-- a row that the call itself has made reads so. -/
theorem Lim.of_owns {w : World} {base : Nat} {v : Value} {xs : List Nat} (h : w.ownsRow base 97 1 v xs.length (xs.map fun x => Value.int .u32 (x : Nat))) : Lim w v xs := by
  rcases h.2 with ⟨rfl, h0⟩ | ⟨g, cap, cur, rfl, _, hg, hle, hcap, hsz, htake⟩
  · obtain rfl : xs = [] := List.eq_nil_of_length_eq_zero h0
    exact Lim.nil w
  · refine ⟨_, cap, rfl, hle, ⟨hcap, fun k hk => by simp [Value.ownBlock] at hk; rw [← hk]; exact ⟨_, _, hg⟩⟩, fun _ => ⟨g, 0, rfl, (Array.getElem?_eq_some_iff.1 hg).1, fun j hj => ?_⟩⟩
    have := h.cells (g := g) rfl j (.int .u32 (xs[j]?.getD 0 : Nat)) (by simp [hj])
    rwa [Lib.add_plain] at this
end Go.Proofs.YtbopikeoaokdpaaDoor
