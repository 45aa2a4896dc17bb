/- PT: MqE RgW MqF MqD. -/
import Derived.Test.YtpjlepkdiaohiaaGreatDoorPR
import Derived.OrdersIn
import Derived.RegionIn
import Derived.Laws.OwnMore
import Derived.Maps.AppendAt
import Derived.Test.YtpjlepkdiaohiaaGreatDoorPA
import Derived.Test.YtpjlepkdiaohiaaGreatDoorPL
import Derived.LoopIn
/- Package mpr: one more node behind a list of the call's own, the operations in whatever order: an invariant. -/
namespace Go.Proofs.YtpjlepkdiaohiaaGreatDoor
open Go.RowKit
attribute [local go_sem] Oper.semAt_some

theorem wpAnyIn_inv {F : Fence} {n : Nat} {P : Program} {md : Region.Mode} {ops : Array Oper} {Q : Exit → Act → World → Prop} (I : Array Bool → Act → World → Prop)
    (hstep : ∀ listed a w i, I listed a w → i ∈ Region.ready md ops listed → wpOpIn F n P ops Q i (I (listed.setIfInBounds i true)) a w)
    (hend : ∀ listed a w, I listed a w → Region.ready md ops listed = [] → Q .normal a w) :
    ∀ fuel listed a w, I listed a w → (unl ops listed).length ≤ fuel → wpAnyIn F n P md ops Q fuel listed a w
  | 0, listed, a, w, h, hl => by
    have hr : Region.ready md ops listed = [] := by
      cases e : Region.ready md ops listed with
      | nil => rfl
      | cons i r =>
        have := ready_unl (md := md) (ops := ops) (listed := listed) (i := i) (by rw [e]; exact List.mem_cons_self ..)
        rw [List.eq_nil_of_length_eq_zero (Nat.le_zero.1 hl)] at this
        cases this
    exact ⟨hr, hend _ _ _ h hr⟩
  | fuel + 1, listed, a, w, h, hl => ⟨fun hr => hend _ _ _ h hr, fun i hi => wpOpIn_mono (fun a' w' h' => wpAnyIn_inv I hstep hend fuel _ a' w' h' (by
      have := unl_set (ready_unl hi)
      omega)) (hstep _ _ _ _ h hi)⟩
theorem wpOpIn_ofK {F : Fence} {n : Nat} {P : Program} {ops : Array Oper} {Q : Exit → Act → World → Prop} {i : Nat} {o : Oper} {K : Act → World → Prop} {a : Act} {w : World} (hi : ops[i]? = some o) (hw : Region.wanted o (yielded ops a.tmps) = true) (h : ∀ K' : Act → World → Prop, Hid (∀ a w, K a w → K' a w) → o.wpIn F n P a w K' Q) : wpOpIn F n P ops Q i K a w := by
  unfold wpOpIn
  simp only [hi, hw, if_true]
  exact h K (hid fun _ _ h => h)

theorem append_opIn {l n : Nat} {P : Program} {o : Oper} {a : Act} {w : World} {K : Act → World → Prop} {Q : Exit → Act → World → Prop} (s x : Operand) (t : TypeId) (ho : o.op = .call { callee := .builtin .append, args := #[s, x], argTypes := #[t, t] })
    {vs vx v' : Value} {w' : World} (hs : a.eval s = vs) (hx : a.eval x = vx) (hr : (Builtin.append_ #[t, t] o.type #[vs, vx]).run P w = .ok v' w') (h : K (a.put o.dst v') w') : o.wpIn (Fence.wide.inRound l) n P a w K Q := by
  refine ⟨fun _ _ => trivial, ?_⟩
  rw [show (Fence.wide.inRound l).round = some l from rfl, Oper.semAt_some l _ _ (fun c e => by rw [ho] at e; cases e)]
  unfold execOp
  simp only [ho, resolve, invoke, builtin, Sem.run_bind, Sem.run_pure, Result.andThen_ok, List.map_toArray, List.map_cons, List.map_nil, hs, hx, hr]
  exact h

/-- what is kept while one more is put behind the list v of out (block bo). -/
structure ApK (bo : Nat) (v : Value) (w W : World) : Prop where
  os : W.os = w.os
  tape : W.tape = w.tape
  output : W.output = w.output
  size : w.heap.size ≤ W.heap.size
  blk : ∀ i, i < w.heap.size → i ≠ bo → some i ≠ v.ownBlock → W.heap[i]? = w.heap[i]?
theorem ApK.below {bo : Nat} {v : Value} {w W : World} (h : ApK bo v w W) {n : Nat} (hn : n ≤ w.heap.size) (hb : n ≤ bo) (hv : ∀ i, v.ownBlock = some i → n ≤ i) : Below n w W :=
  ⟨h.os, h.tape, h.output, h.size, fun i hi => h.blk i (by omega) (by omega) fun e => by have := hv i e.symm; omega⟩
theorem ApK.set {bo : Nat} {v : Value} {w W : World} (h : ApK bo v w W) (g j : Nat) (u : Value) (hg : g = bo ∨ some g = v.ownBlock ∨ w.heap.size ≤ g) : ApK bo v w (W.setCell ⟨g, j, none⟩ u) :=
  ⟨h.os, h.tape, h.output, by rw [setCell_size]; exact h.size, fun i h1 h2 h3 => (Below.heap_setCell _ _ _ _ (by
    rintro rfl
    rcases hg with e | e | e
    · exact h2 e
    · exact h3 e
    · have e' : w.heap.size ≤ i := e
      omega)).trans (h.blk i h1 h2 h3)⟩
theorem ApK.putN {bo : Nat} {v : Value} {w W : World} (h : ApK bo v w W) (g o : Nat) (p : Pay) (s : Value) (hg : g = bo ∨ some g = v.ownBlock ∨ w.heap.size ≤ g) : ApK bo v w (Go.Proofs.YtpjlepkdiaohiaaGreatDoor.putN W g o p s) := by
  unfold Go.Proofs.YtpjlepkdiaohiaaGreatDoor.putN
  exact ((((((((h.set g o _ hg).set g _ _ hg).set g _ _ hg).set g _ _ hg).set g _ _ hg).set g _ _ hg).set g _ _ hg).set g _ _ hg).set g _ _ hg
theorem nine_set (xs : List Value) (p q : Pay) (s u : Value) (o : Nat) (ho : xs.length = o) :
    (((((((((xs ++ ndL p s).set o (.int .i64 q.k)).set (o + 1) (.bool q.b)).set (o + 2) (.bool q.n)).set (o + 3) (.string q.dg)).set (o + 4) (.int .i64 q.ex)).set (o + 5) (.int .u64 q.u)).set (o + 6) (.int .i64 q.w)).set (o + 7) (.string q.s)).set (o + 8) u = xs ++ ndL q u := by
  subst ho
  rw [show xs.length = xs.length + 0 by omega]
  simp [ndL]
theorem owns_putN {W : World} {base g c n : Nat} {xs : List Value} {p q : Pay} {s u : Value} (h : W.ownsRow base 27 9 (.slice (some ⟨g, 0, none⟩) (n + 1) c) (n + 1) (xs ++ ndL p s)) (hx : xs.length = n * 9) :
    (putN W g (n * 9) q u).ownsRow base 27 9 (.slice (some ⟨g, 0, none⟩) (n + 1) c) (n + 1) (xs ++ ndL q u) := by
  rw [← nine_set xs p q s u (n * 9) hx]
  unfold putN
  exact (((((((((h.stored _ _).1.stored _ _).1.stored _ _).1.stored _ _).1.stored _ _).1.stored _ _).1.stored _ _).1.stored _ _).1.stored _ _).1
/-- what is known while one more is put behind. -/
structure ApI (k : Int) (bo base : Nat) (v : Value) (zs : List (Value × Tr)) (p : Pay) (s : Value) (w : World) (listed : Array Bool) (g : Nat → Value) (W : World) : Prop where
  sz : listed.size = 10
  v0 : listed.getD 0 false = true → g 31 = .pointer (some ⟨bo, 8, none⟩)
  v1 : listed.getD 1 false = true → g 32 = v
  v2 : listed.getD 2 false = true → g 33 = ndV p s
  v3 : listed.getD 3 false = true → g 34 = .int .i64 (zs.length : Nat)
  v8 : listed.getD 8 false = true → g 38 = .pointer (some ⟨bo, 8, none⟩)
  v4 : listed.getD 4 false = true → listed.getD 5 false = false → ∃ bb, g 35 = .slice (some ⟨bb, 0, none⟩) 1 1 ∧ Cls W bb 27 (ndL Pay.z (.slice none 0 0))
  v6 : listed.getD 6 false = true → ∃ gb c, g 36 = .slice (some ⟨gb, 0, none⟩) (zs.length + 1) c ∧ g 37 = .pointer (some ⟨gb, zs.length * 9, none⟩)
  d5 : listed.getD 5 false = true → listed.getD 4 false = true
  d6 : listed.getD 6 false = true → listed.getD 5 false = true
  d51 : listed.getD 5 false = true → listed.getD 1 false = true
  early : listed.getD 5 false = false → Below w.heap.size w W ∧ listed.getD 7 false = false ∧ listed.getD 9 false = false
  late : listed.getD 5 false = true → ∃ gb c, g 36 = .slice (some ⟨gb, 0, none⟩) (zs.length + 1) c ∧ W.ownsRow base 27 9 (.slice (some ⟨gb, 0, none⟩) (zs.length + 1) c) (zs.length + 1) (zsC zs ++ ndL (if listed.getD 7 false then p else Pay.z) (if listed.getD 7 false then s else (.slice none 0 0))) ∧
    Cls W bo 27 (ndL (kP k) (if listed.getD 9 false then .slice (some ⟨gb, 0, none⟩) (zs.length + 1) c else v)) ∧ (some gb = v.ownBlock ∨ w.heap.size ≤ gb) ∧ ApK bo v w W
theorem ap_set {listed : Array Bool} {i : Nat} (h : listed.size = 10) (hi : i < 10) : (listed.setIfInBounds i true).getD i false = true := by
  simp [h, hi]
theorem ApI.ini {k : Int} {bo base : Nat} {v : Value} {zs : List (Value × Tr)} {p : Pay} {s : Value} {w W : World} {m : Nat} {g : Nat → Value} (hm : m = 10) (hB : Below w.heap.size w W) : ApI k bo base v zs p s w (Array.replicate m false) g W := by
  subst hm
  have hl : ∀ j, (Array.replicate 10 false).getD j false = false := fun j => by
    rw [Array.getD_eq_getD_getElem?, Array.getElem?_replicate]
    split <;> rfl
  have no : ∀ j, ¬ (Array.replicate 10 false).getD j false = true := fun j e => by rw [hl] at e; cases e
  exact ⟨rfl, fun e => absurd e (no _), fun e => absurd e (no _), fun e => absurd e (no _), fun e => absurd e (no _), fun e => absurd e (no _), fun e => absurd e (no _), fun e => absurd e (no _), fun e => absurd e (no _), fun e => absurd e (no _), fun e => absurd e (no _), fun _ => ⟨hB, hl _, hl _⟩, fun e => absurd e (no _)⟩
theorem ApI.s0 {k : Int} {bo base : Nat} {v : Value} {zs : List (Value × Tr)} {p : Pay} {s : Value} {w W : World} {listed : Array Bool} {g : Nat → Value} (h : ApI k bo base v zs p s w listed g W) : ApI k bo base v zs p s w (listed.setIfInBounds 0 true) (upd g 31 (.pointer (some ⟨bo, 8, none⟩))) W :=
  ⟨by simpa using h.sz,
    fun _ => rfl,
    fun e => (by rw [set_ne (show 0 ≠ 1 by decide)] at e; exact h.v1 e),
    fun e => (by rw [set_ne (show 0 ≠ 2 by decide)] at e; exact h.v2 e),
    fun e => (by rw [set_ne (show 0 ≠ 3 by decide)] at e; exact h.v3 e),
    fun e => (by rw [set_ne (show 0 ≠ 8 by decide)] at e; exact h.v8 e),
    fun e e5 => (by rw [set_ne (show 0 ≠ 4 by decide)] at e; rw [set_ne (show 0 ≠ 5 by decide)] at e5; exact h.v4 e e5),
    fun e => (by rw [set_ne (show 0 ≠ 6 by decide)] at e; exact h.v6 e),
    fun e => (by rw [set_ne (show 0 ≠ 5 by decide)] at e; rw [set_ne (show 0 ≠ 4 by decide)]; exact h.d5 e),
    fun e => (by rw [set_ne (show 0 ≠ 6 by decide)] at e; rw [set_ne (show 0 ≠ 5 by decide)]; exact h.d6 e),
    fun e => (by rw [set_ne (show 0 ≠ 5 by decide)] at e; rw [set_ne (show 0 ≠ 1 by decide)]; exact h.d51 e),
    fun e => (by rw [set_ne (show 0 ≠ 5 by decide)] at e; rw [set_ne (show 0 ≠ 7 by decide), set_ne (show 0 ≠ 9 by decide)]; exact h.early e),
    fun e => (by rw [set_ne (show 0 ≠ 5 by decide)] at e; rw [set_ne (show 0 ≠ 7 by decide), set_ne (show 0 ≠ 9 by decide)]; exact h.late e)⟩
theorem ApI.s1 {k : Int} {bo base : Nat} {v : Value} {zs : List (Value × Tr)} {p : Pay} {s : Value} {w W : World} {listed : Array Bool} {g : Nat → Value} (h : ApI k bo base v zs p s w listed g W) : ApI k bo base v zs p s w (listed.setIfInBounds 1 true) (upd g 32 (v)) W :=
  ⟨by simpa using h.sz,
    fun e => (by rw [set_ne (show 1 ≠ 0 by decide)] at e; exact h.v0 e),
    fun _ => rfl,
    fun e => (by rw [set_ne (show 1 ≠ 2 by decide)] at e; exact h.v2 e),
    fun e => (by rw [set_ne (show 1 ≠ 3 by decide)] at e; exact h.v3 e),
    fun e => (by rw [set_ne (show 1 ≠ 8 by decide)] at e; exact h.v8 e),
    fun e e5 => (by rw [set_ne (show 1 ≠ 4 by decide)] at e; rw [set_ne (show 1 ≠ 5 by decide)] at e5; exact h.v4 e e5),
    fun e => (by rw [set_ne (show 1 ≠ 6 by decide)] at e; exact h.v6 e),
    fun e => (by rw [set_ne (show 1 ≠ 5 by decide)] at e; rw [set_ne (show 1 ≠ 4 by decide)]; exact h.d5 e),
    fun e => (by rw [set_ne (show 1 ≠ 6 by decide)] at e; rw [set_ne (show 1 ≠ 5 by decide)]; exact h.d6 e),
    fun _ => (by exact ap_set h.sz (by decide)),
    fun e => (by rw [set_ne (show 1 ≠ 5 by decide)] at e; rw [set_ne (show 1 ≠ 7 by decide), set_ne (show 1 ≠ 9 by decide)]; exact h.early e),
    fun e => (by rw [set_ne (show 1 ≠ 5 by decide)] at e; rw [set_ne (show 1 ≠ 7 by decide), set_ne (show 1 ≠ 9 by decide)]; exact h.late e)⟩
theorem ApI.s2 {k : Int} {bo base : Nat} {v : Value} {zs : List (Value × Tr)} {p : Pay} {s : Value} {w W : World} {listed : Array Bool} {g : Nat → Value} (h : ApI k bo base v zs p s w listed g W) : ApI k bo base v zs p s w (listed.setIfInBounds 2 true) (upd g 33 (ndV p s)) W :=
  ⟨by simpa using h.sz,
    fun e => (by rw [set_ne (show 2 ≠ 0 by decide)] at e; exact h.v0 e),
    fun e => (by rw [set_ne (show 2 ≠ 1 by decide)] at e; exact h.v1 e),
    fun _ => rfl,
    fun e => (by rw [set_ne (show 2 ≠ 3 by decide)] at e; exact h.v3 e),
    fun e => (by rw [set_ne (show 2 ≠ 8 by decide)] at e; exact h.v8 e),
    fun e e5 => (by rw [set_ne (show 2 ≠ 4 by decide)] at e; rw [set_ne (show 2 ≠ 5 by decide)] at e5; exact h.v4 e e5),
    fun e => (by rw [set_ne (show 2 ≠ 6 by decide)] at e; exact h.v6 e),
    fun e => (by rw [set_ne (show 2 ≠ 5 by decide)] at e; rw [set_ne (show 2 ≠ 4 by decide)]; exact h.d5 e),
    fun e => (by rw [set_ne (show 2 ≠ 6 by decide)] at e; rw [set_ne (show 2 ≠ 5 by decide)]; exact h.d6 e),
    fun e => (by rw [set_ne (show 2 ≠ 5 by decide)] at e; rw [set_ne (show 2 ≠ 1 by decide)]; exact h.d51 e),
    fun e => (by rw [set_ne (show 2 ≠ 5 by decide)] at e; rw [set_ne (show 2 ≠ 7 by decide), set_ne (show 2 ≠ 9 by decide)]; exact h.early e),
    fun e => (by rw [set_ne (show 2 ≠ 5 by decide)] at e; rw [set_ne (show 2 ≠ 7 by decide), set_ne (show 2 ≠ 9 by decide)]; exact h.late e)⟩
theorem ApI.s3 {k : Int} {bo base : Nat} {v : Value} {zs : List (Value × Tr)} {p : Pay} {s : Value} {w W : World} {listed : Array Bool} {g : Nat → Value} (h : ApI k bo base v zs p s w listed g W) : ApI k bo base v zs p s w (listed.setIfInBounds 3 true) (upd g 34 (.int .i64 (zs.length : Nat))) W :=
  ⟨by simpa using h.sz,
    fun e => (by rw [set_ne (show 3 ≠ 0 by decide)] at e; exact h.v0 e),
    fun e => (by rw [set_ne (show 3 ≠ 1 by decide)] at e; exact h.v1 e),
    fun e => (by rw [set_ne (show 3 ≠ 2 by decide)] at e; exact h.v2 e),
    fun _ => rfl,
    fun e => (by rw [set_ne (show 3 ≠ 8 by decide)] at e; exact h.v8 e),
    fun e e5 => (by rw [set_ne (show 3 ≠ 4 by decide)] at e; rw [set_ne (show 3 ≠ 5 by decide)] at e5; exact h.v4 e e5),
    fun e => (by rw [set_ne (show 3 ≠ 6 by decide)] at e; exact h.v6 e),
    fun e => (by rw [set_ne (show 3 ≠ 5 by decide)] at e; rw [set_ne (show 3 ≠ 4 by decide)]; exact h.d5 e),
    fun e => (by rw [set_ne (show 3 ≠ 6 by decide)] at e; rw [set_ne (show 3 ≠ 5 by decide)]; exact h.d6 e),
    fun e => (by rw [set_ne (show 3 ≠ 5 by decide)] at e; rw [set_ne (show 3 ≠ 1 by decide)]; exact h.d51 e),
    fun e => (by rw [set_ne (show 3 ≠ 5 by decide)] at e; rw [set_ne (show 3 ≠ 7 by decide), set_ne (show 3 ≠ 9 by decide)]; exact h.early e),
    fun e => (by rw [set_ne (show 3 ≠ 5 by decide)] at e; rw [set_ne (show 3 ≠ 7 by decide), set_ne (show 3 ≠ 9 by decide)]; exact h.late e)⟩
theorem ApI.s8 {k : Int} {bo base : Nat} {v : Value} {zs : List (Value × Tr)} {p : Pay} {s : Value} {w W : World} {listed : Array Bool} {g : Nat → Value} (h : ApI k bo base v zs p s w listed g W) : ApI k bo base v zs p s w (listed.setIfInBounds 8 true) (upd g 38 (.pointer (some ⟨bo, 8, none⟩))) W :=
  ⟨by simpa using h.sz,
    fun e => (by rw [set_ne (show 8 ≠ 0 by decide)] at e; exact h.v0 e),
    fun e => (by rw [set_ne (show 8 ≠ 1 by decide)] at e; exact h.v1 e),
    fun e => (by rw [set_ne (show 8 ≠ 2 by decide)] at e; exact h.v2 e),
    fun e => (by rw [set_ne (show 8 ≠ 3 by decide)] at e; exact h.v3 e),
    fun _ => rfl,
    fun e e5 => (by rw [set_ne (show 8 ≠ 4 by decide)] at e; rw [set_ne (show 8 ≠ 5 by decide)] at e5; exact h.v4 e e5),
    fun e => (by rw [set_ne (show 8 ≠ 6 by decide)] at e; exact h.v6 e),
    fun e => (by rw [set_ne (show 8 ≠ 5 by decide)] at e; rw [set_ne (show 8 ≠ 4 by decide)]; exact h.d5 e),
    fun e => (by rw [set_ne (show 8 ≠ 6 by decide)] at e; rw [set_ne (show 8 ≠ 5 by decide)]; exact h.d6 e),
    fun e => (by rw [set_ne (show 8 ≠ 5 by decide)] at e; rw [set_ne (show 8 ≠ 1 by decide)]; exact h.d51 e),
    fun e => (by rw [set_ne (show 8 ≠ 5 by decide)] at e; rw [set_ne (show 8 ≠ 7 by decide), set_ne (show 8 ≠ 9 by decide)]; exact h.early e),
    fun e => (by rw [set_ne (show 8 ≠ 5 by decide)] at e; rw [set_ne (show 8 ≠ 7 by decide), set_ne (show 8 ≠ 9 by decide)]; exact h.late e)⟩
theorem ApI.s4 {k : Int} {bo base : Nat} {v : Value} {zs : List (Value × Tr)} {p : Pay} {s : Value} {w W : World} {listed : Array Bool} {g : Nat → Value} (h : ApI k bo base v zs p s w listed g W) (h5 : listed.getD 5 false = false) : ApI k bo base v zs p s w (listed.setIfInBounds 4 true) (upd g 35 (.slice (some ⟨W.heap.size, 0, none⟩) 1 1)) (W.alloc (.cells (ndL Pay.z (.slice none 0 0)).toArray 27)) := by
  obtain ⟨hB, h7, h9⟩ := h.early h5
  exact ⟨by simpa using h.sz,
    fun e => (by rw [set_ne (show 4 ≠ 0 by decide)] at e; exact h.v0 e),
    fun e => (by rw [set_ne (show 4 ≠ 1 by decide)] at e; exact h.v1 e),
    fun e => (by rw [set_ne (show 4 ≠ 2 by decide)] at e; exact h.v2 e),
    fun e => (by rw [set_ne (show 4 ≠ 3 by decide)] at e; exact h.v3 e),
    fun e => (by rw [set_ne (show 4 ≠ 8 by decide)] at e; exact h.v8 e),
    fun _ _ => ⟨W.heap.size, rfl, Cls.new W _ _⟩,
    fun e => (by rw [set_ne (show 4 ≠ 6 by decide)] at e; exact h.v6 e),
    fun _ => ap_set h.sz (by decide),
    fun e => (by rw [set_ne (show 4 ≠ 6 by decide)] at e; rw [set_ne (show 4 ≠ 5 by decide)]; exact h.d6 e),
    fun e => (by rw [set_ne (show 4 ≠ 5 by decide)] at e; rw [set_ne (show 4 ≠ 1 by decide)]; exact h.d51 e),
    fun e => (by rw [set_ne (show 4 ≠ 7 by decide), set_ne (show 4 ≠ 9 by decide)]; exact ⟨hB.alloc hB.size _, h7, h9⟩),
    fun e => (by rw [set_ne (show 4 ≠ 5 by decide), h5] at e; cases e)⟩
theorem ApI.s6 {k : Int} {bo base : Nat} {v : Value} {zs : List (Value × Tr)} {p : Pay} {s : Value} {w W : World} {listed : Array Bool} {g : Nat → Value} (h : ApI k bo base v zs p s w listed g W) {gb c : Nat} (e36 : g 36 = .slice (some ⟨gb, 0, none⟩) (zs.length + 1) c) (h5 : listed.getD 5 false = true) : ApI k bo base v zs p s w (listed.setIfInBounds 6 true) (upd g 37 (.pointer (some ⟨gb, zs.length * 9, none⟩))) W :=
  ⟨by simpa using h.sz,
    fun e => (by rw [set_ne (show 6 ≠ 0 by decide)] at e; exact h.v0 e),
    fun e => (by rw [set_ne (show 6 ≠ 1 by decide)] at e; exact h.v1 e),
    fun e => (by rw [set_ne (show 6 ≠ 2 by decide)] at e; exact h.v2 e),
    fun e => (by rw [set_ne (show 6 ≠ 3 by decide)] at e; exact h.v3 e),
    fun e => (by rw [set_ne (show 6 ≠ 8 by decide)] at e; exact h.v8 e),
    fun e e5 => (by rw [set_ne (show 6 ≠ 4 by decide)] at e; rw [set_ne (show 6 ≠ 5 by decide)] at e5; exact h.v4 e e5),
    fun _ => ⟨gb, c, e36, rfl⟩,
    fun e => (by rw [set_ne (show 6 ≠ 5 by decide)] at e; rw [set_ne (show 6 ≠ 4 by decide)]; exact h.d5 e),
    fun _ => (by rw [set_ne (show 6 ≠ 5 by decide)]; exact h5),
    fun e => (by rw [set_ne (show 6 ≠ 5 by decide)] at e; rw [set_ne (show 6 ≠ 1 by decide)]; exact h.d51 e),
    fun e => (by rw [set_ne (show 6 ≠ 5 by decide)] at e; rw [set_ne (show 6 ≠ 7 by decide), set_ne (show 6 ≠ 9 by decide)]; exact h.early e),
    fun e => (by rw [set_ne (show 6 ≠ 5 by decide)] at e; rw [set_ne (show 6 ≠ 7 by decide), set_ne (show 6 ≠ 9 by decide)]; exact h.late e)⟩
theorem ApI.s5 {k : Int} {bo base : Nat} {v : Value} {zs : List (Value × Tr)} {p : Pay} {s : Value} {w W : World} {listed : Array Bool} {g : Nat → Value} (h : ApI k bo base v zs p s w listed g W) (h5 : listed.getD 5 false = false) (h4 : listed.getD 4 false = true) (h1 : listed.getD 1 false = true) {v' : Value} {W' : World} (hlt : ∀ i, v.ownBlock = some i → base ≤ i) (hbo : bo < base) (_hbw : base ≤ w.heap.size) (hO : Cls w bo 27 (ndL (kP k) v))
    (hown : W'.ownsRow base 27 9 v' (zs.length + 1) (zsC zs ++ ndL Pay.z (.slice none 0 0))) (hg : W.grownBy W' v.ownBlock) (hloc : v'.ownBlock = v.ownBlock ∨ v'.ownBlock = some W.heap.size) : ApI k bo base v zs p s w (listed.setIfInBounds 5 true) (upd g 36 v') W' := by
  obtain ⟨hB, h7, h9⟩ := h.early h5
  have n6 : listed.getD 6 false = false := by
    cases e : listed.getD 6 false with
    | false => rfl
    | true => rw [h.d6 e] at h5; cases h5
  have hne : some bo ≠ v.ownBlock := fun e => by have := hlt bo e.symm; omega
  have hO' : Cls W' bo 27 (ndL (kP k) v) := (hO.below hB).kept hg hne
  have hK : ApK bo v w W' := ⟨hg.os.trans hB.os, hg.tape.trans hB.tape, hg.output.trans hB.output, Nat.le_trans hB.size hg.size, fun i h1 h2 h3 => (hg.block i (Nat.lt_of_lt_of_le h1 hB.size) h3).trans (hB.block i h1)⟩
  obtain ⟨gb, c, rfl⟩ : ∃ gb c, v' = .slice (some ⟨gb, 0, none⟩) (zs.length + 1) c := by
    rcases hown.2 with ⟨_, h0⟩ | ⟨gb, c, cur, e, _⟩
    · omega
    · exact ⟨gb, c, e⟩
  exact ⟨by simpa using h.sz,
    fun e => (by rw [set_ne (show 5 ≠ 0 by decide)] at e; exact h.v0 e),
    fun e => (by rw [set_ne (show 5 ≠ 1 by decide)] at e; exact h.v1 e),
    fun e => (by rw [set_ne (show 5 ≠ 2 by decide)] at e; exact h.v2 e),
    fun e => (by rw [set_ne (show 5 ≠ 3 by decide)] at e; exact h.v3 e),
    fun e => (by rw [set_ne (show 5 ≠ 8 by decide)] at e; exact h.v8 e),
    fun _ e5 => (by rw [ap_set h.sz (by decide)] at e5; cases e5),
    fun e => (by rw [set_ne (show 5 ≠ 6 by decide), n6] at e; cases e),
    fun _ => (by rw [set_ne (show 5 ≠ 4 by decide)]; exact h4),
    fun e => (by rw [set_ne (show 5 ≠ 6 by decide), n6] at e; cases e),
    fun _ => (by rw [set_ne (show 5 ≠ 1 by decide)]; exact h1),
    fun e => (by rw [ap_set h.sz (by decide)] at e; cases e),
    fun _ => ⟨gb, c, rfl, by rw [set_ne (show 5 ≠ 7 by decide), h7]; exact hown, by rw [set_ne (show 5 ≠ 9 by decide), h9]; exact hO', hloc.imp id (fun e => by have := hB.size; have e2 := Option.some.inj e; simp only at e2; omega), hK⟩⟩
theorem ApI.s7 {k : Int} {bo base : Nat} {v : Value} {zs : List (Value × Tr)} {p : Pay} {s : Value} {w W : World} {listed : Array Bool} {g : Nat → Value} (h : ApI k bo base v zs p s w listed g W) {gb c : Nat} (e36 : g 36 = .slice (some ⟨gb, 0, none⟩) (zs.length + 1) c) (h5 : listed.getD 5 false = true) (hbo : bo < base) : ApI k bo base v zs p s w (listed.setIfInBounds 7 true) g (putN W gb (zs.length * 9) p s) := by
  obtain ⟨gb', c', e36', hown, hO, hloc, hK⟩ := h.late h5
  obtain ⟨rfl, rfl⟩ : gb = gb' ∧ c = c' := by
    rw [e36] at e36'
    simp only [Value.slice.injEq, Option.some.injEq, Addr.mk.injEq, and_true, true_and] at e36'
    exact e36'
  have hge : base ≤ gb := (hown.lt gb rfl).1
  exact ⟨by simpa using h.sz,
    fun e => (by rw [set_ne (show 7 ≠ 0 by decide)] at e; exact h.v0 e),
    fun e => (by rw [set_ne (show 7 ≠ 1 by decide)] at e; exact h.v1 e),
    fun e => (by rw [set_ne (show 7 ≠ 2 by decide)] at e; exact h.v2 e),
    fun e => (by rw [set_ne (show 7 ≠ 3 by decide)] at e; exact h.v3 e),
    fun e => (by rw [set_ne (show 7 ≠ 8 by decide)] at e; exact h.v8 e),
    fun e e5 => (by rw [set_ne (show 7 ≠ 5 by decide), h5] at e5; cases e5),
    fun e => (by rw [set_ne (show 7 ≠ 6 by decide)] at e; exact h.v6 e),
    fun e => (by rw [set_ne (show 7 ≠ 5 by decide)] at e; rw [set_ne (show 7 ≠ 4 by decide)]; exact h.d5 e),
    fun e => (by rw [set_ne (show 7 ≠ 6 by decide)] at e; rw [set_ne (show 7 ≠ 5 by decide)]; exact h.d6 e),
    fun e => (by rw [set_ne (show 7 ≠ 5 by decide)] at e; rw [set_ne (show 7 ≠ 1 by decide)]; exact h.d51 e),
    fun e => (by rw [set_ne (show 7 ≠ 5 by decide), h5] at e; cases e),
    fun _ => ⟨gb, c, e36, by rw [ap_set h.sz (by decide)]; exact owns_putN hown (zsC_len zs), by rw [set_ne (show 7 ≠ 9 by decide)]; exact hO.putN_other (by omega), hloc, hK.putN _ _ _ _ (.inr hloc)⟩⟩
theorem ApI.s9 {k : Int} {bo base : Nat} {v : Value} {zs : List (Value × Tr)} {p : Pay} {s : Value} {w W : World} {listed : Array Bool} {g : Nat → Value} (h : ApI k bo base v zs p s w listed g W) {gb c : Nat} (e36 : g 36 = .slice (some ⟨gb, 0, none⟩) (zs.length + 1) c) (h5 : listed.getD 5 false = true) (hbo : bo < base) : ApI k bo base v zs p s w (listed.setIfInBounds 9 true) g (W.setCell ⟨bo, 8, none⟩ (.slice (some ⟨gb, 0, none⟩) (zs.length + 1) c)) := by
  obtain ⟨gb', c', e36', hown, hO, hloc, hK⟩ := h.late h5
  obtain ⟨rfl, rfl⟩ : gb = gb' ∧ c = c' := by
    rw [e36] at e36'
    simp only [Value.slice.injEq, Option.some.injEq, Addr.mk.injEq, and_true, true_and] at e36'
    exact e36'
  have hge : base ≤ gb := (hown.lt gb rfl).1
  have hg : W.grownBy (W.setCell ⟨bo, 8, none⟩ (.slice (some ⟨gb, 0, none⟩) (zs.length + 1) c)) (some bo) := ⟨rfl, rfl, rfl, by rw [setCell_size]; exact Nat.le_refl _, fun i _ hi => Below.heap_setCell _ _ _ _ (fun e => hi (by rw [e]))⟩
  exact ⟨by simpa using h.sz,
    fun e => (by rw [set_ne (show 9 ≠ 0 by decide)] at e; exact h.v0 e),
    fun e => (by rw [set_ne (show 9 ≠ 1 by decide)] at e; exact h.v1 e),
    fun e => (by rw [set_ne (show 9 ≠ 2 by decide)] at e; exact h.v2 e),
    fun e => (by rw [set_ne (show 9 ≠ 3 by decide)] at e; exact h.v3 e),
    fun e => (by rw [set_ne (show 9 ≠ 8 by decide)] at e; exact h.v8 e),
    fun e e5 => (by rw [set_ne (show 9 ≠ 5 by decide), h5] at e5; cases e5),
    fun e => (by rw [set_ne (show 9 ≠ 6 by decide)] at e; exact h.v6 e),
    fun e => (by rw [set_ne (show 9 ≠ 5 by decide)] at e; rw [set_ne (show 9 ≠ 4 by decide)]; exact h.d5 e),
    fun e => (by rw [set_ne (show 9 ≠ 6 by decide)] at e; rw [set_ne (show 9 ≠ 5 by decide)]; exact h.d6 e),
    fun e => (by rw [set_ne (show 9 ≠ 5 by decide)] at e; rw [set_ne (show 9 ≠ 1 by decide)]; exact h.d51 e),
    fun e => (by rw [set_ne (show 9 ≠ 5 by decide), h5] at e; cases e),
    fun _ => ⟨gb, c, e36, by rw [set_ne (show 9 ≠ 7 by decide)]; exact hown.kept hg (.inr (fun e => by have := Option.some.inj e; simp only at this; omega)), by rw [ap_set h.sz (by decide)]; exact hO.set 8 _, hloc, hK.set _ _ _ (.inl rfl)⟩⟩
theorem row_nine {W : World} {base g c n : Nat} {xs : List Value} {p : Pay} {s : Value} (h : W.ownsRow base 27 9 (.slice (some ⟨g, 0, none⟩) (n + 1) c) (n + 1) (xs ++ ndL p s)) (hx : xs.length = n * 9) : AtN W g (n * 9) p s := fun j x hj => by
  have hj9 := nine hj
  rw [h.cellAt (n * 9 + j) (by omega), List.getElem?_append_right (by omega), show n * 9 + j - xs.length = j by omega]
  exact hj
end Go.Proofs.YtpjlepkdiaohiaaGreatDoor

/- A range over a function whose iterator hands out what lies in memory: over any program. -/
namespace Go.Proofs.YtpjlepkdiaohiaaGreatDoor
open Go Go.RowKit

variable {P : Program}

/-- THE CONTRACT OF AN ITERATOR: It: what it may turn between two rounds; Kp: what a round that goes on keeps; Ok: what is known of what comes. -/
def IterW {α : Type} (P : Program) (g : Nat) (lb : Array Value) (encs : α → Array Value) (It Kp : World → World → Prop) (Okp : List α → α → Prop) (Ok : List α → α → World → World → Prop) (S Sp : List α → World → Prop) (w : World) : Prop :=
  ∀ (l : Nat) (J Jx : List α → World → Prop) (W : World), Below w.heap.size w W → (∀ s A B, J s A → It A B → J s B) →
    (∀ pre x A W1, J pre A → It A W1 → Okp pre x → Ok pre x A W1 → YieldAt Fence.wide 7 P l (encs x) W1 fun e W' =>
      (e = .returned (.bool true) ∧ J (pre ++ [x]) W' ∧ Kp W1 W') ∨ (e = .returned (.bool false) ∧ Jx (pre ++ [x]) W')) →
    J [] W →
    CallsIn Fence.wide 8 P g (#[.func (.yield l) #[] #[]] ++ lb) W fun e W' => (∃ v, e = .returned v) ∧ ((∃ xs, S xs W' ∧ J xs W') ∨ (∃ pre, Sp pre W' ∧ Jx pre W'))

/-- THE LAW OF THE STATEMENT. -/
theorem rangeOverW {α : Type} {g : Operand} {ps : Array Tmp} {assign body : Code} {Q : Exit → Act → World → Prop} {a : Act} {w : World}
    {gf : Nat} {lb : Array Value} (hg : a.eval g = .func (.func gf) #[] lb) (eg : ∀ args w, (callFunc gf args).run P w = .ok (.enter gf args) w)
    {encs : α → Array Value} {It Kp : World → World → Prop} {Okp : List α → α → Prop} {Ok : List α → α → World → World → Prop} {S Sp : List α → World → Prop} {w0 : World} (hseq : IterW P gf lb encs It Kp Okp Ok S Sp w0)
    (hb0 : Below w0.heap.size w0 w) (hps : ∀ x, (encs x).size = ps.size)
    (hIt : ∀ (A B : World), It A B → A.heap.size ≤ B.heap.size ∧ ∀ (k : Nat) (o : Obj), w.heap.size ≤ k → A.heap[k]? = some o → o.isCells = false → o.isWalk = false → B.heap[k]? = some o)
    (hKt : ∀ {A B C : World}, Kp A B → Kp B C → Kp A C) (hKb : ∀ (W : World) (l : Nat) (o o' : Obj), w.heap.size ≤ l → W.heap[l]? = some o → o.isCells = false → o.isWalk = false → Kp W (W.putObj l o'))
    (hS : OwnFrom w.heap.size S) (hSp : OwnFrom w.heap.size Sp)
    (I : List α → World → Prop) (Ix : Code → List α → World → Prop) (hI : OwnFrom w.heap.size I) (hIx : ∀ c, OwnFrom w.heap.size (Ix c))
    (hII : ∀ s A B, I s A → It A B → I s B) (h0 : I [] w)
    (Ax : α → Act → World → Prop) (hAx : ∀ x a', OwnFrom w.heap.size (fun (_ : Unit) W => Ax x a' W))
    (hassign : ∀ (l : Nat) (pre : List α) (x : α) (A W : World) (K : Act → World → Prop), I pre A → It A W → I pre W → Okp pre x → Ok pre x A W → (∀ a' W', KeepsFrom w.heap.size W W' → Kp W W' → I pre W' → Ax x a' W' → K a' W') →
      assign.wpIn (Fence.wide.inRound l) 7 P (Exit.then K (fun _ _ _ => False)) { tmps := (ps.zip (encs x)).foldl (fun t (p, v) => t.setIfInBounds p v) a.tmps, defers := [] } W)
    (hbody : ∀ (l : Nat) (pre : List α) (x : α) (a' : Act) (W : World), w.heap.size ≤ l → I pre W → Ax x a' W → Okp pre x → body.wpIn (Fence.wide.inRound l) 7 P (overPost w.heap.size Kp I Ix (pre ++ [x]) W) a' W)
    (hdone : ∀ (D : Nat) (xs : List α) (W : World), w.heap.size ≤ D → S xs W → I xs W → W.heap[D]? = some (.deferred (some [])) → Q .normal { a with defers := { target := .collected D, args := #[] } :: a.defers } W)
    (hstop : ∀ (D : Nat) (c : Code) (pre : List α) (W : World), w.heap.size ≤ D → Sp pre W → Ix c pre W → W.heap[D]? = some (.deferred (some [])) → c.wpIn Fence.wide 9 P Q { a with defers := { target := .collected D, args := #[] } :: a.defers } W) :
    (Code.rangeFunc g ps assign body).wpIn Fence.wide 9 P Q a w := by
  refine wpIn_rangeFunc ?_
  intro fn hfn
  rw [show Fence.wide.round = none from rfl]
  -- the record, in each of its states
  obtain ⟨rec, hrec⟩ : ∃ rec : LoopState → Option Code → Loop, rec = fun st pe => { state := st, pending := pe, fn, tmps := a.tmps, params := ps, assign, body, defers := w.heap.size } := ⟨_, rfl⟩
  have hst : ∀ st pe st' pe', ({ rec st pe with state := st', pending := pe' } : Loop) = rec st' pe' := fun _ _ _ _ => by rw [hrec]
  have hst1 : ∀ st pe st', ({ rec st pe with state := st' } : Loop) = rec st' pe := fun _ _ _ => by rw [hrec]
  have hs0 : ∀ st pe, (rec st pe).state = st := fun _ _ => by rw [hrec]
  have hs1 : ∀ st pe, (rec st pe).pending = pe := fun _ _ => by rw [hrec]
  have hs2 : ∀ st pe, (rec st pe).params = ps := fun _ _ => by rw [hrec]
  obtain ⟨W1, hW1⟩ : ∃ W1, (w.alloc (.deferred (some []))).alloc (.loop (rec .ready none)) = W1 := ⟨_, rfl⟩
  have hsz : W1.heap.size = w.heap.size + 2 := by rw [← hW1]; simp
  -- the law's book-keeping
  have book : ∀ (W : World) (st : LoopState) (pe : Option Code), W.heap[w.heap.size + 1]? = some (.loop (rec st pe)) → w.heap.size + 1 < W.heap.size := fun W st pe h => (Array.getElem?_eq_some_iff.1 h).1
  refine ⟨w.heap.size + 1, [{ target := .collected w.heap.size, args := #[] }], W1, { target := .fn (.func gf) lb, args := #[.func (.yield (w.heap.size + 1)) #[] #[]] }, W1, gf,
    #[.func (.yield (w.heap.size + 1)) #[] #[]] ++ lb, W1, ?_, ?_, fun _ _ => trivial, ?_, fun h => by simp [Fence.wide] at h, ?_⟩
  · rw [← hW1, hrec]; exact run_enterLoop_outer _ _ _ _ _
  · simp only [resolve, hg]
    simp [go_sem]
  · simp [invoke, go_sem, eg]
  have hL1 : W1.heap[w.heap.size + 1]? = some (.loop (rec .ready none)) := by
    rw [← hW1]
    have := World.alloc_heap_new (w.alloc (.deferred (some []))) (.loop (rec .ready none))
    rwa [World.size_alloc] at this
  have hD1 : W1.heap[w.heap.size]? = some (.deferred (some [])) := by
    rw [← hW1]; exact (Below.heap_alloc _ _ _ (by simp)).trans (World.alloc_heap_new w _)
  have hI1 : I [] W1 := by rw [← hW1]; exact hI.alloc _ (hI.alloc _ h0)
  have hb1 : Below w0.heap.size w0 W1 := by
    rw [← hW1]; exact hb0.trans ((((Below.refl _ w).alloc (Nat.le_refl _) _).alloc (by simp) _).mono hb0.size)
  refine CallsIn.mono (R := fun e W' => (∃ v, e = .returned v) ∧ ((∃ xs, S xs W' ∧ (I xs W' ∧ W'.heap[w.heap.size + 1]? = some (.loop (rec .ready none)) ∧ W'.heap[w.heap.size]? = some (.deferred (some [])))) ∨
      (∃ pre, Sp pre W' ∧ ∃ c, Ix c pre W' ∧ W'.heap[w.heap.size + 1]? = some (.loop (rec .done (some c))) ∧ W'.heap[w.heap.size]? = some (.deferred (some []))))) ?_ ?_
  · refine hseq (w.heap.size + 1)
      (fun pre W => I pre W ∧ W.heap[w.heap.size + 1]? = some (.loop (rec .ready none)) ∧ W.heap[w.heap.size]? = some (.deferred (some [])))
      (fun pre W => ∃ c, Ix c pre W ∧ W.heap[w.heap.size + 1]? = some (.loop (rec .done (some c))) ∧ W.heap[w.heap.size]? = some (.deferred (some []))) W1 hb1
      (fun s A B ⟨hi, hl, hd⟩ hit => ⟨hII s A B hi hit, (hIt A B hit).2 _ _ (by omega) hl rfl rfl, (hIt A B hit).2 _ _ (Nat.le_refl _) hd rfl rfl⟩)
      ?_ ⟨hI1, hL1, hD1⟩
    rintro pre x A W ⟨hiA, hlA, hdA⟩ hit hokp hok
    have hi := hII pre A W hiA hit
    have hl := (hIt A W hit).2 _ _ (by omega) hlA rfl rfl
    have hd := (hIt A W hit).2 _ _ (Nat.le_refl _) hdA rfl rfl
    have hy := run_yield (P := P) (args := encs x) hl (by rw [hs2]; exact hps x)
    rw [hrec] at hy
    refine ⟨fn, _, assign, body, hy, roundIn_of_wpIn hfn (hassign _ pre x A W _ hiA hit hi hokp hok ?_)⟩
    clear hy
    intro a' Wa hkf hkp hia hax
    have hla := hkf.same _ _ (by omega) hl rfl
    have hda := hkf.same _ _ (Nat.le_refl _) hd rfl
    have hlta := book _ _ _ hla
    have hlb : (Wa.putObj (w.heap.size + 1) (.loop (rec .busy none))).heap[w.heap.size + 1]? = some (.loop (rec .busy none)) := World.putObj_heap_same hlta
    have hdb : (Wa.putObj (w.heap.size + 1) (.loop (rec .busy none))).heap[w.heap.size]? = some (.deferred (some [])) := (World.putObj_heap_other (by omega)).trans hda
    refine ⟨Wa.putObj (w.heap.size + 1) (.loop (rec .busy none)), by rw [run_beginRound hla (by rw [hs0]), hst1], ?_⟩
    refine wpIn_mono (hbody _ pre x a' _ (by omega) (hI.putObj _ hia (by omega) hla rfl) ((hAx x a').putObj (s := ()) _ hax (by omega) hla rfl) hokp) ?_
    have hkb : Kp Wa (Wa.putObj (w.heap.size + 1) (.loop (rec .busy none))) := hKb _ _ _ _ (by omega) hla rfl rfl
    -- the round's end, jump or none
    have fin : ∀ (jump : Option Code) (W3 : World), KeepsFrom w.heap.size (Wa.putObj (w.heap.size + 1) (.loop (rec .busy none))) W3 →
        W3.heap[w.heap.size + 1]? = some (.loop (rec .busy none)) ∧
        (Instr.endRound (w.heap.size + 1) jump).run P W3 = .ok (.bool jump.isNone) (W3.putObj (w.heap.size + 1) (.loop (rec (if jump.isNone then .ready else .done) jump))) ∧
        (W3.putObj (w.heap.size + 1) (.loop (rec (if jump.isNone then .ready else .done) jump))).heap[w.heap.size + 1]? = some (.loop (rec (if jump.isNone then .ready else .done) jump)) ∧
        (W3.putObj (w.heap.size + 1) (.loop (rec (if jump.isNone then .ready else .done) jump))).heap[w.heap.size]? = some (.deferred (some [])) := fun jump W3 hk3 => by
      have hl3 := hk3.same _ _ (by omega) hlb rfl
      refine ⟨hl3, by rw [run_endRound jump hl3, hst], World.putObj_heap_same (book _ _ _ hl3), (World.putObj_heap_other (by omega)).trans (hk3.same _ _ (Nat.le_refl _) hdb rfl)⟩
    rintro e a3 W3 hp
    cases e with
    | normal =>
      obtain ⟨hk3, hkp3, hi3⟩ := hp
      obtain ⟨hl3, hr, hl4, hd4⟩ := fin none W3 hk3
      exact ⟨_, _, hr, .inl ⟨rfl, ⟨hI.putObj _ hi3 (by omega) hl3 rfl, hl4, hd4⟩, hKt hkp (hKt (hKt hkb hkp3) (hKb _ _ _ _ (by omega) hl3 rfl rfl))⟩⟩
    | ret =>
      obtain ⟨hk3, hi3⟩ := hp
      obtain ⟨hl3, hr, hl4, hd4⟩ := fin (some .ret) W3 hk3
      exact ⟨_, _, hr, .inr ⟨rfl, .ret, (hIx _).putObj _ hi3 (by omega) hl3 rfl, hl4, hd4⟩⟩
    | exit id =>
      obtain ⟨hk3, hi3⟩ := hp
      obtain ⟨hl3, hr, hl4, hd4⟩ := fin (some (.exit id)) W3 hk3
      exact ⟨_, _, hr, .inr ⟨rfl, .exit id, (hIx _).putObj _ hi3 (by omega) hl3 rfl, hl4, hd4⟩⟩
    | goto t =>
      obtain ⟨hk3, hi3⟩ := hp
      obtain ⟨hl3, hr, hl4, hd4⟩ := fin (some (.goto t)) W3 hk3
      exact ⟨_, _, hr, .inr ⟨rfl, .goto t, (hIx _).putObj _ hi3 (by omega) hl3 rfl, hl4, hd4⟩⟩
    | panic ch => exact hp.elim
    | outgrown => exact hp.elim
  · rintro e W2 ⟨⟨v, rfl⟩, ⟨xs, hs, hi, hl, hd⟩ | ⟨pre, hsp, c, hi, hl, hd⟩⟩
    · refine ⟨none, W2.putObj (w.heap.size + 1) (.loop (rec .exhausted none)), ?_, hdone _ xs _ (Nat.le_refl _) (hS.putObj _ hs (by omega) hl rfl) (hI.putObj _ hi (by omega) hl rfl) ((World.putObj_heap_other (by omega)).trans hd)⟩
      rw [run_endLoop hl (by rw [hs0]; simp), hs1, hst]
    · refine ⟨some c, W2.putObj (w.heap.size + 1) (.loop (rec .exhausted (some c))), ?_, hstop _ c pre _ (Nat.le_refl _) (hSp.putObj _ hsp (by omega) hl rfl) ((hIx c).putObj _ hi (by omega) hl rfl) ((World.putObj_heap_other (by omega)).trans hd)⟩
      rw [run_endLoop hl (by rw [hs0]; simp), hs1, hst]

/-- .. in a plain walk. -/
theorem rangeOverWP {α : Type} {g : Operand} {ps : Array Tmp} {assign body : Code} {Q : Exit → Act → World → Prop} {a : Act} {w : World}
    {gf : Nat} {lb : Array Value} (hg : a.eval g = .func (.func gf) #[] lb) (eg : ∀ args w, (callFunc gf args).run P w = .ok (.enter gf args) w)
    {encs : α → Array Value} {It Kp : World → World → Prop} {Okp : List α → α → Prop} {Ok : List α → α → World → World → Prop} {S Sp : List α → World → Prop} {w0 : World} (hseq : IterW P gf lb encs It Kp Okp Ok S Sp w0)
    (hb0 : Below w0.heap.size w0 w) (hps : ∀ x, (encs x).size = ps.size)
    (hIt : ∀ (A B : World), It A B → A.heap.size ≤ B.heap.size ∧ ∀ (k : Nat) (o : Obj), w.heap.size ≤ k → A.heap[k]? = some o → o.isCells = false → o.isWalk = false → B.heap[k]? = some o)
    (hKt : ∀ {A B C : World}, Kp A B → Kp B C → Kp A C) (hKb : ∀ (W : World) (l : Nat) (o o' : Obj), w.heap.size ≤ l → W.heap[l]? = some o → o.isCells = false → o.isWalk = false → Kp W (W.putObj l o'))
    (hS : OwnFrom w.heap.size S) (hSp : OwnFrom w.heap.size Sp)
    (I : List α → World → Prop) (Ix : Code → List α → World → Prop) (hI : OwnFrom w.heap.size I) (hIx : ∀ c, OwnFrom w.heap.size (Ix c))
    (hII : ∀ s A B, I s A → It A B → I s B) (h0 : I [] w)
    (Ax : α → Act → World → Prop) (hAx : ∀ x a', OwnFrom w.heap.size (fun (_ : Unit) W => Ax x a' W))
    (hassign : ∀ (l : Nat) (pre : List α) (x : α) (A W : World) (K : Act → World → Prop), I pre A → It A W → I pre W → Okp pre x → Ok pre x A W → (∀ a' W', KeepsFrom w.heap.size W W' → Kp W W' → I pre W' → Ax x a' W' → K a' W') →
      assign.wpIn (Fence.wide.inRound l) 7 P (Exit.then K (fun _ _ _ => False)) { tmps := (ps.zip (encs x)).foldl (fun t (p, v) => t.setIfInBounds p v) a.tmps, defers := [] } W)
    (hbody : ∀ (l : Nat) (pre : List α) (x : α) (a' : Act) (W : World), w.heap.size ≤ l → I pre W → Ax x a' W → Okp pre x → body.wpIn (Fence.wide.inRound l) 7 P (overPost w.heap.size Kp I Ix (pre ++ [x]) W) a' W)
    (hdone : ∀ (D : Nat) (xs : List α) (W : World), w.heap.size ≤ D → S xs W → I xs W → W.heap[D]? = some (.deferred (some [])) → Q .normal { a with defers := { target := .collected D, args := #[] } :: a.defers } W)
    (hstop : ∀ (D : Nat) (c : Code) (pre : List α) (W : World), w.heap.size ≤ D → Sp pre W → Ix c pre W → W.heap[D]? = some (.deferred (some [])) → c.wp P Q { a with defers := { target := .collected D, args := #[] } :: a.defers } W) :
    (Code.rangeFunc g ps assign body).wp P Q a w :=
  wpIn_wide.1 (rangeOverW hg eg hseq hb0 hps hIt hKt hKb hS hSp I Ix hI hIx hII h0 Ax hAx hassign hbody hdone (fun D c pre W h1 h2 h3 h4 => wpIn_wide.2 (hstop D c pre W h1 h2 h3 h4)))
end Go.Proofs.YtpjlepkdiaohiaaGreatDoor

/- Package mpr: the reader's items: the iterator: walked. -/
namespace Go.Proofs.YtpjlepkdiaohiaaGreatDoor
open Go.RowKit
attribute [local go_sem] Oper.semAt_some

/-- what an iteration brings: a node, or an error; and what is left. -/
inductive El where
  | ok (t : Tr) (a : Option Addr) (n c : Nat) (q : ByteArray)
  | er (i : Nat) (p : Pay) (a : Option Addr) (n c : Nat) (q : ByteArray)
def El.out : El → RR
  | .ok t _ _ _ q => .ok t (tx q)
  | .er i _ _ _ _ _ => .er i
def El.q : El → ByteArray
  | .ok _ _ _ _ q => q
  | .er _ _ _ _ _ q => q
def El.p : El → Pay
  | .ok t _ _ _ _ => t.p
  | .er _ p _ _ _ _ => p
def El.a : El → Option Addr
  | .ok _ a _ _ _ => a
  | .er _ _ a _ _ _ => a
def El.n : El → Nat
  | .ok _ _ n _ _ => n
  | .er _ _ _ n _ _ => n
def El.c : El → Nat
  | .ok _ _ _ c _ => c
  | .er _ _ _ _ c _ => c
def El.ev (em ep et : Addr) : El → Value
  | .ok _ _ _ _ _ => .nilIface
  | .er i _ _ _ _ _ => errV em ep et i
def encE (em ep et : Addr) (x : El) : Array Value := #[ndV x.p (.slice x.a x.n x.c), x.ev em ep et]
def restE (s : List UInt8) (pre : List El) : List UInt8 := match pre.getLast? with | none => s | some x => tx x.q
theorem restE_snoc (s : List UInt8) (pre : List El) (x : El) : restE s (pre ++ [x]) = tx x.q := by unfold restE; rw [List.getLast?_append]; rfl
/-- what the iterator turns: the reader and the number of those that are left. -/
structure ItQ (b bn : Nat) (A B : World) : Prop where
  below : Below b A B
  blk : ∀ k, k < A.heap.size → k ≠ b → k ≠ bn → B.heap[k]? = A.heap[k]?
theorem ItQ.of_rdk {b bn : Nat} {A B : World} (h : RdK b A B) : ItQ b bn A B := ⟨h.below, fun k h1 h2 _ => h.blk k h1 h2⟩
theorem ItQ.set {b bn : Nat} (A : World) (hb : b < bn) (v : Value) : ItQ b bn A (A.setCell ⟨bn, 0, none⟩ v) :=
  ⟨(Below.refl b A).setCell (p := ⟨bn, 0, none⟩) (Nat.le_of_lt hb) v, fun _k _ _ h => Below.heap_setCell _ _ _ _ h⟩
/-- what a round keeps. -/
structure KpR (b bn rc : Nat) (A B : World) : Prop where
  below : Below (b + 1) A B
  c1 : B.heap[bn]? = A.heap[bn]?
  c2 : B.heap[rc]? = A.heap[rc]?
theorem KpR.trans {b bn rc : Nat} {A B C : World} (h : KpR b bn rc A B) (k : KpR b bn rc B C) : KpR b bn rc A C := ⟨h.below.trans k.below, k.c1.trans h.c1, k.c2.trans h.c2⟩
theorem KpR.putObj {b bn rc B : Nat} (h1 : b < B) (h2 : bn < B) (h3 : rc < B) (W : World) (l : Nat) (o' : Obj) (hl : B ≤ l) : KpR b bn rc W (W.putObj l o') :=
  ⟨⟨rfl, rfl, rfl, by rw [World.putObj_size]; exact Nat.le_refl _, fun k hk => World.putObj_heap_other (by omega)⟩, World.putObj_heap_other (by omega), World.putObj_heap_other (by omega)⟩
/-- what the function that reads an item says, so many lists deep at most. -/
def ItemC (j : Nat) : Prop := ∀ (em ep et : Addr) (b d : Nat) (s : ByteArray), d + j = 16 → s.size ≤ 1000000 → ∀ w : World, Rd w b s d → Env em ep et b w →
  Calls Tryz.prog 38 #[.pointer (some ⟨b, 0, none⟩)] w fun e w' => Ans em ep et b d w (rd j (tx s)) e w'
def cntOf : Option Value → Nat
  | some (.int _ z) => z.toNat
  | _ => 0
theorem rd_shorter {j : Nat} {s : List UInt8} {t : Tr} {r : List UInt8} (h : rd j s = .ok t r) : r.length + 1 ≤ s.length := by
  obtain ⟨q, rfl, h1⟩ := (good_rd j).sf _ _ _ h
  rw [List.length_append]
  omega

set_option maxRecDepth 100000 in
set_option maxHeartbeats 4000000 in
theorem items_iter (j : Nat) (ih : ItemC j) (em ep et : Addr) (b d : Nat) (hd : d + j = 16) (s : ByteArray) (hs : s.size ≤ 1000000) (n : Nat) (hn : n < 18446744073709551616) (bn rc : Nat) (w : World) (hR : Rd w b s d) (hE : Env em ep et b w)
    (h1 : Boxed w rc 77 (.pointer (some ⟨b, 0, none⟩))) (h2 : Boxed w bn 24 (.int .u64 n)) (hb1 : b < bn) (hb2 : b < rc) (hb3 : rc ≠ bn) :
    IterW Tryz.prog 185 #[.pointer (some ⟨bn, 0, none⟩), .pointer (some ⟨rc, 0, none⟩)] (encE em ep et) (ItQ b bn) (KpR b bn rc)
      (fun pre x => pre.length < n ∧ rd j (restE (tx s) pre) = x.out)
      (fun _ x A W => Rd W b x.q d ∧ x.q.size ≤ 1000000 ∧ ∀ t a n c q, x = .ok t a n c q → InB (fun k => A.heap.size ≤ k) W (ndV t.p (.slice a n c)) t)
      (fun xs W => xs.length = n ∧ w.heap.size ≤ W.heap.size ∧ ∃ q, Rd W b q d ∧ tx q = restE (tx s) xs) (fun _ _ => True) w := by
  intro l J Jx W hbw hJ hY h0
  refine callsIn_of_wp Tryz.func185 rfl trivial ?_ rfl
  simp only [Tryz.ntmps185, List.size_toArray, List.length_cons, List.length_nil, Nat.reduceAdd, Nat.reduceSub, Array.replicate_succ, Array.replicate_zero, List.push_toArray, List.append_toArray, List.nil_append, List.cons_append]
  have hRW : Rd W b s d := (hbw.block b (Cls.lt hR)).trans hR
  have hEW : Env em ep et b W := hE.rdk (hbw.mono (Nat.le_of_lt (Cls.lt hR)))
  have h1W : Boxed W rc 77 (.pointer (some ⟨b, 0, none⟩)) := (hbw.block rc (Cls.lt (xs := [_]) h1)).trans h1
  have h2W : Boxed W bn 24 (.int .u64 n) := (hbw.block bn (Cls.lt (xs := [_]) h2)).trans h2
  have HX := hid (And.intro hJ (And.intro hY ih))
  have HW := hid (And.intro h0 (And.intro hRW (And.intro hEW (And.intro h1W (And.intro h2W hbw.size)))))
  clear hJ hY ih h0 hRW hEW h1W h2W hbw hR hE h1 h2
  gi_wp2
  gi_loopw [] (fun wr => ∃ (pre : List El) (q : ByteArray), J pre wr ∧ pre.length ≤ n ∧ Rd wr b q d ∧ tx q = restE (tx s) pre ∧ q.size ≤ 1000000 ∧ Env em ep et b wr ∧ Boxed wr rc 77 (.pointer (some ⟨b, 0, none⟩)) ∧ Boxed wr bn 24 (.int .u64 ((n - pre.length : Nat) : Int)) ∧ w.heap.size ≤ wr.heap.size) (fun wr => cntOf (wr.cell? ⟨bn, 0, none⟩))
  case atStart => exact ⟨[], s, HW.out.1, Nat.zero_le _, HW.out.2.1, rfl, hs, HW.out.2.2.1, HW.out.2.2.2.1, HW.out.2.2.2.2.1, HW.out.2.2.2.2.2⟩
  case round =>
    obtain ⟨pre, q, hJ, hpl, hR, hq, hqs, hE, hB1, hB2, hsw⟩ := hrel
    have c1 := hB1.cell
    have c2 := hB2.cell
    by_cases hlt : pre.length < n
    · have hlz : (0 : Int) < ((n - pre.length : Nat) : Int) := by omega
      have hcall := HX.out.2.2 em ep et b d q hd hqs wr hR hE
      have lrc : rc < wr.heap.size := Cls.lt (xs := [_]) hB1
      have lbn : bn < wr.heap.size := Cls.lt (xs := [_]) hB2
      have HY := hid (And.intro hJ (And.intro hR (And.intro hq (And.intro hqs (And.intro hE (And.intro hB1 (And.intro hB2 (And.intro lrc (And.intro lbn hlt)))))))))
      obtain ⟨m, hm⟩ : ∃ m, n - pre.length = m := ⟨_, rfl⟩
      rw [hm] at c2 hlz
      have HM := hid (And.intro hm c2)
      clear hJ hR hq hqs hE hB1 hB2 lrc lbn hlt hpl hm
      gi_wp2
      refine callW hcall ?_
      rintro e w1 hA
      obtain ⟨x, hxs, he, hx, hr1, hin⟩ : ∃ x : El, x.q.size ≤ 1000000 ∧ e = .returned (.tuple (encE em ep et x)) ∧ rd j (tx q) = x.out ∧ Rd w1 b x.q d ∧ ∀ t a n c q, x = .ok t a n c q → InB (fun k => wr.heap.size ≤ k) w1 (ndV t.p (.slice a n c)) t := by
        rcases hA.2 with ⟨t, q', a, n', c, hx, he, hB, hr⟩ | ⟨i, p, a, n', c, q', hx, he, hr, hq'⟩
        · exact ⟨.ok t a n' c q', (by
            have h3 := rd_shorter hx
            rw [txs_len, txs_len] at h3
            show q'.size ≤ _
            have := HY.out.2.2.2.1
            omega), he, hx, hr, fun _ _ _ _ _ e => by cases e; exact hB⟩
        · exact ⟨.er i p a n' c q', hq', he, hx, hr, fun _ _ _ _ _ e => by cases e⟩
      have hk := hA.1
      obtain ⟨hJ, hR, hq, hqs, hE, hB1, hB2, lrc, lbn, hlt⟩ := HY.out
      rw [hq] at hx
      obtain ⟨fn, tmps, assign, body, hy, hRd⟩ := HX.out.2.1 pre x wr w1 hJ (.of_rdk hk) ⟨hlt, hx⟩ ⟨hr1, hxs, hin⟩
      have hB1' : Boxed w1 rc 77 (.pointer (some ⟨b, 0, none⟩)) := (hk.blk rc lrc (by omega)).trans hB1
      have hB2' : Boxed w1 bn 24 (.int .u64 ((n - pre.length : Nat) : Int)) := (hk.blk bn lbn (by omega)).trans hB2
      have hE1 := hE.rdk hk.below
      obtain ⟨vx, ev, hen⟩ : ∃ vx ev, encE em ep et x = #[vx, ev] := ⟨_, _, rfl⟩
      rw [hen] at he hy
      subst he
      have HK := hid (And.intro hr1 (And.intro hxs (And.intro hB1' (And.intro hB2' (And.intro hE1 (And.intro hlt (And.intro hx (Nat.le_trans hsw hk.below.size))))))))
      clear hsw hJ hR hq hqs hE hB1 hB2 lrc lbn hlt hA hx hr1 hin hk hxs hB1' hB2' hE1 hcall hen
      gi_wp2
      refine hRd.mono ?_
      rintro e W3 (⟨rfl, hJ3, hk3⟩ | ⟨rfl, hJx3⟩)
      · obtain ⟨hr1, hxs, hB1', hB2', hE1, hlt, hx, -⟩ := HK.out
        have hB1 : Boxed W3 rc 77 (.pointer (some ⟨b, 0, none⟩)) := hk3.c2.trans hB1'
        have hB2 : Boxed W3 bn 24 (.int .u64 ((n - pre.length : Nat) : Int)) := hk3.c1.trans hB2'
        have hr3 : Rd W3 b x.q d := (hk3.below.block b (by omega)).trans hr1
        have hE3 := hE1.rdk (hk3.below.mono (by omega))
        have c3 := hB2.cell
        have f3 := hB2.frozen
        rw [HM.out.1] at c3
        have hwp : IntKind.u64.wrap ((m : Int) - 1) = ((m - 1 : Nat) : Int) := by rw [IntWalk.u64_in _ (by have := HM.out.1; omega)]; omega
        have HL := hid (And.intro hJ3 (And.intro hB1 (And.intro hB2 (And.intro hr3 (And.intro hE3 hk3.below.size)))))
        clear hk3 hJ3 hB1 hB2 hr3 hE3 hr1 hxs hB1' hB2' hE1 hlt hx
        gi_wp2
        go_roundw
        case rel =>
          obtain ⟨hJ3, hB1, hB2, hr3, hE3, hs3⟩ := HL.out
          obtain ⟨hr1, hxs, hB1', hB2', hE1, hlt, hx, -⟩ := HK.out
          refine ⟨pre ++ [x], x.q, HX.out.1 _ _ _ hJ3 (.set _ hb1 _), by rw [List.length_append, List.length_singleton]; omega, Cls.other hr3 (by omega) _, (restE_snoc _ _ _).symm, hxs, hE3.rdk ((Below.refl _ _).setCell (p := ⟨bn, 0, none⟩) (Nat.le_of_lt hb1) _), boxed_other hB1 hb3 _, ?_, by rw [setCell_size]; exact Nat.le_trans HK.out.2.2.2.2.2.2.2 hs3⟩
          have h5 := hB2.set (.int .u64 ((m - 1 : Nat) : Int))
          rw [List.length_append, List.length_singleton, show n - (pre.length + 1) = m - 1 by have := HM.out.1; omega]
          exact h5
        case measure =>
          have h5 := (HL.out.2.2.1.set (.int .u64 ((m - 1 : Nat) : Int))).cell
          rw [h5, HM.out.2]
          simp only [cntOf]
          omega
      · gi_wp2
        refine bodyPost_ret (results_none rfl _ _ _) rfl ?_
        exact ⟨⟨_, rfl⟩, .inr ⟨_, trivial, hJx3⟩⟩
    · have hpe : pre.length = n := by omega
      rw [show n - pre.length = 0 by omega] at c2
      have HZ := hid (And.intro hJ (And.intro hpe (And.intro hR hq)))
      clear hJ hR hq hqs hE hB1 hB2 hpl hlt hpe
      gi_wp2
      go_end0
      exact ⟨⟨_, rfl⟩, .inl ⟨pre, ⟨HZ.out.2.1, hsw, q, HZ.out.2.2⟩, HZ.out.1⟩⟩
end Go.Proofs.YtpjlepkdiaohiaaGreatDoor

/- Package mpr: (*reader).signed: walked. -/
namespace Go.Proofs.YtpjlepkdiaohiaaGreatDoor
open Go.RowKit
attribute [local go_sem] Oper.semAt_some

set_option maxRecDepth 100000 in
set_option maxHeartbeats 4000000 in
theorem rsigned1 (em ep et : Addr) (b d : Nat) (s : ByteArray) (hs : s.size ≤ 1000000) (n : Nat) (hn : n < 256) (w : World) (hR : Rd w b s d) (hE : Env em ep et b w) : Calls Tryz.prog 61 #[.pointer (some ⟨b, 0, none⟩), .int .u64 n, .int .i64 (1 : Nat)] w fun e w' => Ans em ep et b d w (.ok (.nd (intP 1 n) []) (tx s)) e w' := by
  have hblt := Cls.lt hR
  have hb1 := below_alloc w (.cells (ndL Pay.z (.slice none 0 0)).toArray 27)
  have hC0 := Cls.new w 27 (ndL Pay.z (.slice none 0 0))
  have hK0 : RdK b w (w.alloc (.cells (ndL Pay.z (.slice none 0 0)).toArray 27)) := .of_below hb1 (Nat.le_of_lt hblt)
  have h2 : (256 : Nat) ^ 1 / 2 = 128 := by decide
  have HX := hid (And.intro hK0 (And.intro (Nat.le_refl w.heap.size) (And.intro hC0 hblt)))
  by_cases hlt : n < 128
  · have hp : intP 1 n = plusP n := by unfold intP; rw [h2, if_pos hlt]; rfl
    have hcall := rplus_calls (fun _ => .er 0) d em ep et b s n 1 (by omega) (fun e => absurd e (by decide)) (fun e => absurd e (by decide)) (fun e => absurd e (by decide)) hs _ (hR.up hb1) (hE.rdk (hb1.mono (Nat.le_of_lt hblt)))
    change Calls _ _ _ _ fun e w' => Ans _ _ _ _ _ _ (.ok (.nd (plusP n) []) (tx s)) e w' at hcall
    rw [hp]
    obtain ⟨x, hx⟩ : ∃ x, RR.ok (.nd (plusP n) []) (tx s) = x := ⟨_, rfl⟩
    rw [hx] at hcall ⊢
    clear hK0 hC0 hx hE hR hb1 hp h2
    simp only [ndL, Pay.z] at hcall
    have hlz : decide ((n : Int) < 0) = false := decide_eq_false (by omega)
    go_enter Tryz.func61, Tryz.ntmps61
    go_wp2_with fail
    refine (hcall).mono ?_
    rintro e w1 hA
    obtain ⟨p1, a1, n1, c1, ev, rfl, hC1, hC5, hA5⟩ := Ans.fwd HX.out.1 HX.out.2.1 HX.out.2.2.1 HX.out.2.2.2 hA
    obtain ⟨y0, y1, y2, y3, y4, y5, y6, y7, y8⟩ := hC1.nine
    obtain ⟨v0, v1, v2, v3, v4, v5, v6, v7, v8⟩ := hC1.frozens
    have HY := hid (And.intro hC5 hA5)
    clear hA hC1 hC5 hA5 hcall
    simp only [ndV, ndL]
    go_wp2
    obtain ⟨W5, hW5, hC5, hA5⟩ : ∃ W5, putN w1 w.heap.size 0 p1 (.slice a1 n1 c1) = W5 ∧ Cls W5 w.heap.size 27 (ndL p1 (.slice a1 n1 c1)) ∧ Ans em ep et b d w x (.returned (.tuple #[ndV p1 (.slice a1 n1 c1), ev])) W5 := ⟨_, rfl, HY.out.1, HY.out.2⟩
    unfold putN at hW5
    simp only [Nat.zero_add] at hW5
    rw [hW5]
    obtain ⟨f0, f1, f2, f3, f4, f5, f6, f7, f8⟩ := hC5.nine
    exact bodyPost_ret (v := .tuple #[ndV p1 (.slice a1 n1 c1), ev]) (by simp [results, Tryz.results61, go_sem, f0, f1, f2, f3, f4, f5, f6, f7, f8, ndV, ndL]) rfl hA5

  · have hR0 := hR.up hb1
    have hcall := ofInt_calls true (256 - n) (by omega) _ (hE.tabs.below hb1)
    obtain ⟨DD, hD⟩ : ∃ DD, (mk true (Lib.decDigits (256 - n)) 0).1 = DD := ⟨_, rfl⟩
    have h3 : (256 : Nat) ^ 1 = 256 := by decide
    have hp : intP 1 n = ⟨3, false, DD.neg, B DD.dg, DD.ex, 0, 0, ⟨#[]⟩⟩ := by unfold intP; rw [h2, if_neg hlt, h3]; unfold decP; rw [hD]; rfl
    rw [hD] at hcall
    rw [hp]
    have HZ := hid hR0
    clear hK0 hC0 hE hR hb1 hR0 hD hp h2 h3
    have hw1 : wrap64 ((n : Int) * 72057594037927936) = ((n : Int) - 256) * 72057594037927936 := by unfold wrap64; omega
    have hv : (((n : Int) - 256) * 72057594037927936) / 72057594037927936 = (n : Int) - 256 := by omega
    have hu1 : IntKind.u64.wrap ((n : Int) - 256) = (n : Int) - 256 + 18446744073709551616 := by simp [IntKind.wrap, IntKind.bits, IntKind.signed]; omega
    have hu2 : IntKind.u64.wrap (-((n : Int) - 256 + 18446744073709551616)) = ((256 - n : Nat) : Int) := by simp [IntKind.wrap, IntKind.bits, IntKind.signed]; omega
    have hlz : (n : Int) - 256 < 0 := by omega
    simp only [ndL, Pay.z] at hcall
    go_enter Tryz.func61, Tryz.ntmps61
    go_wp2_with fail
    refine hcall.mono ?_
    rintro e w1 ⟨rfl, hb2⟩
    have hk : RdK b _ w1 := .of_below hb2 (by have := HX.out.2.2.2; rw [World.size_alloc]; omega)
    have hr := HZ.out.up hb2
    simp only [D.val, DV]
    have hA : Ans em ep et b d (w.alloc (.cells (ndL Pay.z (.slice none 0 0)).toArray 27)) (.ok (.nd ⟨3, false, DD.neg, B DD.dg, DD.ex, 0, 0, ⟨#[]⟩⟩ []) (tx s)) (.returned (.tuple #[ndV (⟨3, false, DD.neg, B DD.dg, DD.ex, 0, 0, ⟨#[]⟩⟩) (.slice none 0 0), .nilIface])) w1 := Ans.leaf rfl hk hr
    obtain ⟨hC1, hC5, hA5⟩ := Ans.put HX.out.1 HX.out.2.1 HX.out.2.2.1 HX.out.2.2.2 hA (⟨3, false, DD.neg, B DD.dg, DD.ex, 0, 0, ⟨#[]⟩⟩) (.slice none 0 0)
    obtain ⟨y0, y1, y2, y3, y4, y5, y6, y7, y8⟩ := hC1.nine
    obtain ⟨v0, v1, v2, v3, v4, v5, v6, v7, v8⟩ := hC1.frozens
    have HY := hid (And.intro hC5 hA5)
    clear hA hC1 hC5 hA5 hk hr hb2 hcall HZ
    go_wp2
    obtain ⟨W5, hW5, hC5, hA5⟩ : ∃ W5, putN w1 w.heap.size 0 (⟨3, false, DD.neg, B DD.dg, DD.ex, 0, 0, ⟨#[]⟩⟩) (.slice none 0 0) = W5 ∧ Cls W5 w.heap.size 27 (ndL (⟨3, false, DD.neg, B DD.dg, DD.ex, 0, 0, ⟨#[]⟩⟩) (.slice none 0 0)) ∧ Ans em ep et b d w (.ok (.nd ⟨3, false, DD.neg, B DD.dg, DD.ex, 0, 0, ⟨#[]⟩⟩ []) (tx s)) (.returned (.tuple #[ndV (⟨3, false, DD.neg, B DD.dg, DD.ex, 0, 0, ⟨#[]⟩⟩) (.slice none 0 0), .nilIface])) W5 := ⟨_, rfl, HY.out.1, HY.out.2⟩
    refine bp_at (W' := W5) ?_ hW5.symm
    obtain ⟨f0, f1, f2, f3, f4, f5, f6, f7, f8⟩ := hC5.nine
    exact bodyPost_ret (v := .tuple #[ndV (⟨3, false, DD.neg, B DD.dg, DD.ex, 0, 0, ⟨#[]⟩⟩) (.slice none 0 0), .nilIface]) (by simp [results, Tryz.results61, go_sem, f0, f1, f2, f3, f4, f5, f6, f7, f8, ndV, ndL]) rfl hA5

set_option maxRecDepth 100000 in
set_option maxHeartbeats 4000000 in
theorem rsigned2 (em ep et : Addr) (b d : Nat) (s : ByteArray) (hs : s.size ≤ 1000000) (n : Nat) (hn : n < 65536) (w : World) (hR : Rd w b s d) (hE : Env em ep et b w) : Calls Tryz.prog 61 #[.pointer (some ⟨b, 0, none⟩), .int .u64 n, .int .i64 (2 : Nat)] w fun e w' => Ans em ep et b d w (.ok (.nd (intP 2 n) []) (tx s)) e w' := by
  have hblt := Cls.lt hR
  have hb1 := below_alloc w (.cells (ndL Pay.z (.slice none 0 0)).toArray 27)
  have hC0 := Cls.new w 27 (ndL Pay.z (.slice none 0 0))
  have hK0 : RdK b w (w.alloc (.cells (ndL Pay.z (.slice none 0 0)).toArray 27)) := .of_below hb1 (Nat.le_of_lt hblt)
  have h2 : (256 : Nat) ^ 2 / 2 = 32768 := by decide
  have HX := hid (And.intro hK0 (And.intro (Nat.le_refl w.heap.size) (And.intro hC0 hblt)))
  by_cases hlt : n < 32768
  · have hp : intP 2 n = plusP n := by unfold intP; rw [h2, if_pos hlt]; rfl
    have hcall := rplus_calls (fun _ => .er 0) d em ep et b s n 2 (by omega) (fun e => absurd e (by decide)) (fun e => absurd e (by decide)) (fun e => absurd e (by decide)) hs _ (hR.up hb1) (hE.rdk (hb1.mono (Nat.le_of_lt hblt)))
    change Calls _ _ _ _ fun e w' => Ans _ _ _ _ _ _ (.ok (.nd (plusP n) []) (tx s)) e w' at hcall
    rw [hp]
    obtain ⟨x, hx⟩ : ∃ x, RR.ok (.nd (plusP n) []) (tx s) = x := ⟨_, rfl⟩
    rw [hx] at hcall ⊢
    clear hK0 hC0 hx hE hR hb1 hp h2
    simp only [ndL, Pay.z] at hcall
    have hlz : decide ((n : Int) < 0) = false := decide_eq_false (by omega)
    go_enter Tryz.func61, Tryz.ntmps61
    go_wp2_with fail
    refine (hcall).mono ?_
    rintro e w1 hA
    obtain ⟨p1, a1, n1, c1, ev, rfl, hC1, hC5, hA5⟩ := Ans.fwd HX.out.1 HX.out.2.1 HX.out.2.2.1 HX.out.2.2.2 hA
    obtain ⟨y0, y1, y2, y3, y4, y5, y6, y7, y8⟩ := hC1.nine
    obtain ⟨v0, v1, v2, v3, v4, v5, v6, v7, v8⟩ := hC1.frozens
    have HY := hid (And.intro hC5 hA5)
    clear hA hC1 hC5 hA5 hcall
    simp only [ndV, ndL]
    go_wp2
    obtain ⟨W5, hW5, hC5, hA5⟩ : ∃ W5, putN w1 w.heap.size 0 p1 (.slice a1 n1 c1) = W5 ∧ Cls W5 w.heap.size 27 (ndL p1 (.slice a1 n1 c1)) ∧ Ans em ep et b d w x (.returned (.tuple #[ndV p1 (.slice a1 n1 c1), ev])) W5 := ⟨_, rfl, HY.out.1, HY.out.2⟩
    unfold putN at hW5
    simp only [Nat.zero_add] at hW5
    rw [hW5]
    obtain ⟨f0, f1, f2, f3, f4, f5, f6, f7, f8⟩ := hC5.nine
    exact bodyPost_ret (v := .tuple #[ndV p1 (.slice a1 n1 c1), ev]) (by simp [results, Tryz.results61, go_sem, f0, f1, f2, f3, f4, f5, f6, f7, f8, ndV, ndL]) rfl hA5

  · have hR0 := hR.up hb1
    have hcall := ofInt_calls true (65536 - n) (by omega) _ (hE.tabs.below hb1)
    obtain ⟨DD, hD⟩ : ∃ DD, (mk true (Lib.decDigits (65536 - n)) 0).1 = DD := ⟨_, rfl⟩
    have h3 : (256 : Nat) ^ 2 = 65536 := by decide
    have hp : intP 2 n = ⟨3, false, DD.neg, B DD.dg, DD.ex, 0, 0, ⟨#[]⟩⟩ := by unfold intP; rw [h2, if_neg hlt, h3]; unfold decP; rw [hD]; rfl
    rw [hD] at hcall
    rw [hp]
    have HZ := hid hR0
    clear hK0 hC0 hE hR hb1 hR0 hD hp h2 h3
    have hw1 : wrap64 ((n : Int) * 281474976710656) = ((n : Int) - 65536) * 281474976710656 := by unfold wrap64; omega
    have hv : (((n : Int) - 65536) * 281474976710656) / 281474976710656 = (n : Int) - 65536 := by omega
    have hu1 : IntKind.u64.wrap ((n : Int) - 65536) = (n : Int) - 65536 + 18446744073709551616 := by simp [IntKind.wrap, IntKind.bits, IntKind.signed]; omega
    have hu2 : IntKind.u64.wrap (-((n : Int) - 65536 + 18446744073709551616)) = ((65536 - n : Nat) : Int) := by simp [IntKind.wrap, IntKind.bits, IntKind.signed]; omega
    have hlz : (n : Int) - 65536 < 0 := by omega
    simp only [ndL, Pay.z] at hcall
    go_enter Tryz.func61, Tryz.ntmps61
    go_wp2_with fail
    refine hcall.mono ?_
    rintro e w1 ⟨rfl, hb2⟩
    have hk : RdK b _ w1 := .of_below hb2 (by have := HX.out.2.2.2; rw [World.size_alloc]; omega)
    have hr := HZ.out.up hb2
    simp only [D.val, DV]
    have hA : Ans em ep et b d (w.alloc (.cells (ndL Pay.z (.slice none 0 0)).toArray 27)) (.ok (.nd ⟨3, false, DD.neg, B DD.dg, DD.ex, 0, 0, ⟨#[]⟩⟩ []) (tx s)) (.returned (.tuple #[ndV (⟨3, false, DD.neg, B DD.dg, DD.ex, 0, 0, ⟨#[]⟩⟩) (.slice none 0 0), .nilIface])) w1 := Ans.leaf rfl hk hr
    obtain ⟨hC1, hC5, hA5⟩ := Ans.put HX.out.1 HX.out.2.1 HX.out.2.2.1 HX.out.2.2.2 hA (⟨3, false, DD.neg, B DD.dg, DD.ex, 0, 0, ⟨#[]⟩⟩) (.slice none 0 0)
    obtain ⟨y0, y1, y2, y3, y4, y5, y6, y7, y8⟩ := hC1.nine
    obtain ⟨v0, v1, v2, v3, v4, v5, v6, v7, v8⟩ := hC1.frozens
    have HY := hid (And.intro hC5 hA5)
    clear hA hC1 hC5 hA5 hk hr hb2 hcall HZ
    go_wp2
    obtain ⟨W5, hW5, hC5, hA5⟩ : ∃ W5, putN w1 w.heap.size 0 (⟨3, false, DD.neg, B DD.dg, DD.ex, 0, 0, ⟨#[]⟩⟩) (.slice none 0 0) = W5 ∧ Cls W5 w.heap.size 27 (ndL (⟨3, false, DD.neg, B DD.dg, DD.ex, 0, 0, ⟨#[]⟩⟩) (.slice none 0 0)) ∧ Ans em ep et b d w (.ok (.nd ⟨3, false, DD.neg, B DD.dg, DD.ex, 0, 0, ⟨#[]⟩⟩ []) (tx s)) (.returned (.tuple #[ndV (⟨3, false, DD.neg, B DD.dg, DD.ex, 0, 0, ⟨#[]⟩⟩) (.slice none 0 0), .nilIface])) W5 := ⟨_, rfl, HY.out.1, HY.out.2⟩
    refine bp_at (W' := W5) ?_ hW5.symm
    obtain ⟨f0, f1, f2, f3, f4, f5, f6, f7, f8⟩ := hC5.nine
    exact bodyPost_ret (v := .tuple #[ndV (⟨3, false, DD.neg, B DD.dg, DD.ex, 0, 0, ⟨#[]⟩⟩) (.slice none 0 0), .nilIface]) (by simp [results, Tryz.results61, go_sem, f0, f1, f2, f3, f4, f5, f6, f7, f8, ndV, ndL]) rfl hA5

set_option maxRecDepth 100000 in
set_option maxHeartbeats 4000000 in
theorem rsigned4 (em ep et : Addr) (b d : Nat) (s : ByteArray) (hs : s.size ≤ 1000000) (n : Nat) (hn : n < 4294967296) (w : World) (hR : Rd w b s d) (hE : Env em ep et b w) : Calls Tryz.prog 61 #[.pointer (some ⟨b, 0, none⟩), .int .u64 n, .int .i64 (4 : Nat)] w fun e w' => Ans em ep et b d w (.ok (.nd (intP 4 n) []) (tx s)) e w' := by
  have hblt := Cls.lt hR
  have hb1 := below_alloc w (.cells (ndL Pay.z (.slice none 0 0)).toArray 27)
  have hC0 := Cls.new w 27 (ndL Pay.z (.slice none 0 0))
  have hK0 : RdK b w (w.alloc (.cells (ndL Pay.z (.slice none 0 0)).toArray 27)) := .of_below hb1 (Nat.le_of_lt hblt)
  have h2 : (256 : Nat) ^ 4 / 2 = 2147483648 := by decide
  have HX := hid (And.intro hK0 (And.intro (Nat.le_refl w.heap.size) (And.intro hC0 hblt)))
  by_cases hlt : n < 2147483648
  · have hp : intP 4 n = plusP n := by unfold intP; rw [h2, if_pos hlt]; rfl
    have hcall := rplus_calls (fun _ => .er 0) d em ep et b s n 4 (by omega) (fun e => absurd e (by decide)) (fun e => absurd e (by decide)) (fun e => absurd e (by decide)) hs _ (hR.up hb1) (hE.rdk (hb1.mono (Nat.le_of_lt hblt)))
    change Calls _ _ _ _ fun e w' => Ans _ _ _ _ _ _ (.ok (.nd (plusP n) []) (tx s)) e w' at hcall
    rw [hp]
    obtain ⟨x, hx⟩ : ∃ x, RR.ok (.nd (plusP n) []) (tx s) = x := ⟨_, rfl⟩
    rw [hx] at hcall ⊢
    clear hK0 hC0 hx hE hR hb1 hp h2
    simp only [ndL, Pay.z] at hcall
    have hlz : decide ((n : Int) < 0) = false := decide_eq_false (by omega)
    go_enter Tryz.func61, Tryz.ntmps61
    go_wp2_with fail
    refine (hcall).mono ?_
    rintro e w1 hA
    obtain ⟨p1, a1, n1, c1, ev, rfl, hC1, hC5, hA5⟩ := Ans.fwd HX.out.1 HX.out.2.1 HX.out.2.2.1 HX.out.2.2.2 hA
    obtain ⟨y0, y1, y2, y3, y4, y5, y6, y7, y8⟩ := hC1.nine
    obtain ⟨v0, v1, v2, v3, v4, v5, v6, v7, v8⟩ := hC1.frozens
    have HY := hid (And.intro hC5 hA5)
    clear hA hC1 hC5 hA5 hcall
    simp only [ndV, ndL]
    go_wp2
    obtain ⟨W5, hW5, hC5, hA5⟩ : ∃ W5, putN w1 w.heap.size 0 p1 (.slice a1 n1 c1) = W5 ∧ Cls W5 w.heap.size 27 (ndL p1 (.slice a1 n1 c1)) ∧ Ans em ep et b d w x (.returned (.tuple #[ndV p1 (.slice a1 n1 c1), ev])) W5 := ⟨_, rfl, HY.out.1, HY.out.2⟩
    unfold putN at hW5
    simp only [Nat.zero_add] at hW5
    rw [hW5]
    obtain ⟨f0, f1, f2, f3, f4, f5, f6, f7, f8⟩ := hC5.nine
    exact bodyPost_ret (v := .tuple #[ndV p1 (.slice a1 n1 c1), ev]) (by simp [results, Tryz.results61, go_sem, f0, f1, f2, f3, f4, f5, f6, f7, f8, ndV, ndL]) rfl hA5

  · have hR0 := hR.up hb1
    have hcall := ofInt_calls true (4294967296 - n) (by omega) _ (hE.tabs.below hb1)
    obtain ⟨DD, hD⟩ : ∃ DD, (mk true (Lib.decDigits (4294967296 - n)) 0).1 = DD := ⟨_, rfl⟩
    have h3 : (256 : Nat) ^ 4 = 4294967296 := by decide
    have hp : intP 4 n = ⟨3, false, DD.neg, B DD.dg, DD.ex, 0, 0, ⟨#[]⟩⟩ := by unfold intP; rw [h2, if_neg hlt, h3]; unfold decP; rw [hD]; rfl
    rw [hD] at hcall
    rw [hp]
    have HZ := hid hR0
    clear hK0 hC0 hE hR hb1 hR0 hD hp h2 h3
    have hw1 : wrap64 ((n : Int) * 4294967296) = ((n : Int) - 4294967296) * 4294967296 := by unfold wrap64; omega
    have hv : (((n : Int) - 4294967296) * 4294967296) / 4294967296 = (n : Int) - 4294967296 := by omega
    have hu1 : IntKind.u64.wrap ((n : Int) - 4294967296) = (n : Int) - 4294967296 + 18446744073709551616 := by simp [IntKind.wrap, IntKind.bits, IntKind.signed]; omega
    have hu2 : IntKind.u64.wrap (-((n : Int) - 4294967296 + 18446744073709551616)) = ((4294967296 - n : Nat) : Int) := by simp [IntKind.wrap, IntKind.bits, IntKind.signed]; omega
    have hlz : (n : Int) - 4294967296 < 0 := by omega
    simp only [ndL, Pay.z] at hcall
    go_enter Tryz.func61, Tryz.ntmps61
    go_wp2_with fail
    refine hcall.mono ?_
    rintro e w1 ⟨rfl, hb2⟩
    have hk : RdK b _ w1 := .of_below hb2 (by have := HX.out.2.2.2; rw [World.size_alloc]; omega)
    have hr := HZ.out.up hb2
    simp only [D.val, DV]
    have hA : Ans em ep et b d (w.alloc (.cells (ndL Pay.z (.slice none 0 0)).toArray 27)) (.ok (.nd ⟨3, false, DD.neg, B DD.dg, DD.ex, 0, 0, ⟨#[]⟩⟩ []) (tx s)) (.returned (.tuple #[ndV (⟨3, false, DD.neg, B DD.dg, DD.ex, 0, 0, ⟨#[]⟩⟩) (.slice none 0 0), .nilIface])) w1 := Ans.leaf rfl hk hr
    obtain ⟨hC1, hC5, hA5⟩ := Ans.put HX.out.1 HX.out.2.1 HX.out.2.2.1 HX.out.2.2.2 hA (⟨3, false, DD.neg, B DD.dg, DD.ex, 0, 0, ⟨#[]⟩⟩) (.slice none 0 0)
    obtain ⟨y0, y1, y2, y3, y4, y5, y6, y7, y8⟩ := hC1.nine
    obtain ⟨v0, v1, v2, v3, v4, v5, v6, v7, v8⟩ := hC1.frozens
    have HY := hid (And.intro hC5 hA5)
    clear hA hC1 hC5 hA5 hk hr hb2 hcall HZ
    go_wp2
    obtain ⟨W5, hW5, hC5, hA5⟩ : ∃ W5, putN w1 w.heap.size 0 (⟨3, false, DD.neg, B DD.dg, DD.ex, 0, 0, ⟨#[]⟩⟩) (.slice none 0 0) = W5 ∧ Cls W5 w.heap.size 27 (ndL (⟨3, false, DD.neg, B DD.dg, DD.ex, 0, 0, ⟨#[]⟩⟩) (.slice none 0 0)) ∧ Ans em ep et b d w (.ok (.nd ⟨3, false, DD.neg, B DD.dg, DD.ex, 0, 0, ⟨#[]⟩⟩ []) (tx s)) (.returned (.tuple #[ndV (⟨3, false, DD.neg, B DD.dg, DD.ex, 0, 0, ⟨#[]⟩⟩) (.slice none 0 0), .nilIface])) W5 := ⟨_, rfl, HY.out.1, HY.out.2⟩
    refine bp_at (W' := W5) ?_ hW5.symm
    obtain ⟨f0, f1, f2, f3, f4, f5, f6, f7, f8⟩ := hC5.nine
    exact bodyPost_ret (v := .tuple #[ndV (⟨3, false, DD.neg, B DD.dg, DD.ex, 0, 0, ⟨#[]⟩⟩) (.slice none 0 0), .nilIface]) (by simp [results, Tryz.results61, go_sem, f0, f1, f2, f3, f4, f5, f6, f7, f8, ndV, ndL]) rfl hA5

set_option maxRecDepth 100000 in
set_option maxHeartbeats 4000000 in
theorem rsigned8 (em ep et : Addr) (b d : Nat) (s : ByteArray) (hs : s.size ≤ 1000000) (n : Nat) (hn : n < 18446744073709551616) (w : World) (hR : Rd w b s d) (hE : Env em ep et b w) : Calls Tryz.prog 61 #[.pointer (some ⟨b, 0, none⟩), .int .u64 n, .int .i64 (8 : Nat)] w fun e w' => Ans em ep et b d w (.ok (.nd (intP 8 n) []) (tx s)) e w' := by
  have hblt := Cls.lt hR
  have hb1 := below_alloc w (.cells (ndL Pay.z (.slice none 0 0)).toArray 27)
  have hC0 := Cls.new w 27 (ndL Pay.z (.slice none 0 0))
  have hK0 : RdK b w (w.alloc (.cells (ndL Pay.z (.slice none 0 0)).toArray 27)) := .of_below hb1 (Nat.le_of_lt hblt)
  have h2 : (256 : Nat) ^ 8 / 2 = 9223372036854775808 := by decide
  have HX := hid (And.intro hK0 (And.intro (Nat.le_refl w.heap.size) (And.intro hC0 hblt)))
  by_cases hlt : n < 9223372036854775808
  · have hp : intP 8 n = plusP n := by unfold intP; rw [h2, if_pos hlt]; rfl
    have hcall := rplus_calls (fun _ => .er 0) d em ep et b s n 8 (by omega) (fun e => absurd e (by decide)) (fun e => absurd e (by decide)) (fun e => absurd e (by decide)) hs _ (hR.up hb1) (hE.rdk (hb1.mono (Nat.le_of_lt hblt)))
    change Calls _ _ _ _ fun e w' => Ans _ _ _ _ _ _ (.ok (.nd (plusP n) []) (tx s)) e w' at hcall
    rw [hp]
    obtain ⟨x, hx⟩ : ∃ x, RR.ok (.nd (plusP n) []) (tx s) = x := ⟨_, rfl⟩
    rw [hx] at hcall ⊢
    clear hK0 hC0 hx hE hR hb1 hp h2
    simp only [ndL, Pay.z] at hcall
    have hlz : decide ((n : Int) < 0) = false := decide_eq_false (by omega)
    go_enter Tryz.func61, Tryz.ntmps61
    go_wp2_with fail
    refine (hcall).mono ?_
    rintro e w1 hA
    obtain ⟨p1, a1, n1, c1, ev, rfl, hC1, hC5, hA5⟩ := Ans.fwd HX.out.1 HX.out.2.1 HX.out.2.2.1 HX.out.2.2.2 hA
    obtain ⟨y0, y1, y2, y3, y4, y5, y6, y7, y8⟩ := hC1.nine
    obtain ⟨v0, v1, v2, v3, v4, v5, v6, v7, v8⟩ := hC1.frozens
    have HY := hid (And.intro hC5 hA5)
    clear hA hC1 hC5 hA5 hcall
    simp only [ndV, ndL]
    go_wp2
    obtain ⟨W5, hW5, hC5, hA5⟩ : ∃ W5, putN w1 w.heap.size 0 p1 (.slice a1 n1 c1) = W5 ∧ Cls W5 w.heap.size 27 (ndL p1 (.slice a1 n1 c1)) ∧ Ans em ep et b d w x (.returned (.tuple #[ndV p1 (.slice a1 n1 c1), ev])) W5 := ⟨_, rfl, HY.out.1, HY.out.2⟩
    unfold putN at hW5
    simp only [Nat.zero_add] at hW5
    rw [hW5]
    obtain ⟨f0, f1, f2, f3, f4, f5, f6, f7, f8⟩ := hC5.nine
    exact bodyPost_ret (v := .tuple #[ndV p1 (.slice a1 n1 c1), ev]) (by simp [results, Tryz.results61, go_sem, f0, f1, f2, f3, f4, f5, f6, f7, f8, ndV, ndL]) rfl hA5

  · have hR0 := hR.up hb1
    have hcall := ofInt_calls true (18446744073709551616 - n) (by omega) _ (hE.tabs.below hb1)
    obtain ⟨DD, hD⟩ : ∃ DD, (mk true (Lib.decDigits (18446744073709551616 - n)) 0).1 = DD := ⟨_, rfl⟩
    have h3 : (256 : Nat) ^ 8 = 18446744073709551616 := by decide
    have hp : intP 8 n = ⟨3, false, DD.neg, B DD.dg, DD.ex, 0, 0, ⟨#[]⟩⟩ := by unfold intP; rw [h2, if_neg hlt, h3]; unfold decP; rw [hD]; rfl
    rw [hD] at hcall
    rw [hp]
    have HZ := hid hR0
    clear hK0 hC0 hE hR hb1 hR0 hD hp h2 h3
    have hw1 : wrap64 (n : Int) = (n : Int) - 18446744073709551616 := by unfold wrap64; omega
    have hu1 : IntKind.u64.wrap ((n : Int) - 18446744073709551616) = (n : Int) := by simp [IntKind.wrap, IntKind.bits, IntKind.signed]; omega
    have hu2 : IntKind.u64.wrap (-(n : Int)) = ((18446744073709551616 - n : Nat) : Int) := by simp [IntKind.wrap, IntKind.bits, IntKind.signed]; omega
    have hlz : (n : Int) - 18446744073709551616 < 0 := by omega
    simp only [ndL, Pay.z] at hcall
    go_enter Tryz.func61, Tryz.ntmps61
    go_wp2_with fail
    refine hcall.mono ?_
    rintro e w1 ⟨rfl, hb2⟩
    have hk : RdK b _ w1 := .of_below hb2 (by have := HX.out.2.2.2; rw [World.size_alloc]; omega)
    have hr := HZ.out.up hb2
    simp only [D.val, DV]
    have hA : Ans em ep et b d (w.alloc (.cells (ndL Pay.z (.slice none 0 0)).toArray 27)) (.ok (.nd ⟨3, false, DD.neg, B DD.dg, DD.ex, 0, 0, ⟨#[]⟩⟩ []) (tx s)) (.returned (.tuple #[ndV (⟨3, false, DD.neg, B DD.dg, DD.ex, 0, 0, ⟨#[]⟩⟩) (.slice none 0 0), .nilIface])) w1 := Ans.leaf rfl hk hr
    obtain ⟨hC1, hC5, hA5⟩ := Ans.put HX.out.1 HX.out.2.1 HX.out.2.2.1 HX.out.2.2.2 hA (⟨3, false, DD.neg, B DD.dg, DD.ex, 0, 0, ⟨#[]⟩⟩) (.slice none 0 0)
    obtain ⟨y0, y1, y2, y3, y4, y5, y6, y7, y8⟩ := hC1.nine
    obtain ⟨v0, v1, v2, v3, v4, v5, v6, v7, v8⟩ := hC1.frozens
    have HY := hid (And.intro hC5 hA5)
    clear hA hC1 hC5 hA5 hk hr hb2 hcall HZ
    go_wp2
    obtain ⟨W5, hW5, hC5, hA5⟩ : ∃ W5, putN w1 w.heap.size 0 (⟨3, false, DD.neg, B DD.dg, DD.ex, 0, 0, ⟨#[]⟩⟩) (.slice none 0 0) = W5 ∧ Cls W5 w.heap.size 27 (ndL (⟨3, false, DD.neg, B DD.dg, DD.ex, 0, 0, ⟨#[]⟩⟩) (.slice none 0 0)) ∧ Ans em ep et b d w (.ok (.nd ⟨3, false, DD.neg, B DD.dg, DD.ex, 0, 0, ⟨#[]⟩⟩ []) (tx s)) (.returned (.tuple #[ndV (⟨3, false, DD.neg, B DD.dg, DD.ex, 0, 0, ⟨#[]⟩⟩) (.slice none 0 0), .nilIface])) W5 := ⟨_, rfl, HY.out.1, HY.out.2⟩
    refine bp_at (W' := W5) ?_ hW5.symm
    obtain ⟨f0, f1, f2, f3, f4, f5, f6, f7, f8⟩ := hC5.nine
    exact bodyPost_ret (v := .tuple #[ndV (⟨3, false, DD.neg, B DD.dg, DD.ex, 0, 0, ⟨#[]⟩⟩) (.slice none 0 0), .nilIface]) (by simp [results, Tryz.results61, go_sem, f0, f1, f2, f3, f4, f5, f6, f7, f8, ndV, ndL]) rfl hA5

theorem rsigned_calls (f : List UInt8 → RR) (d : Nat) : ReadC f d 61 7 := by
  intro em ep et b s n z hn h7 _ _ hs w hR hE
  obtain ⟨hz, hl⟩ := h7 rfl
  rcases hz with rfl | rfl | rfl | rfl
  · exact rsigned1 em ep et b d s hs n (by simpa using hl) w hR hE
  · exact rsigned2 em ep et b d s hs n (by simpa using hl) w hR hE
  · exact rsigned4 em ep et b d s hs n (by simpa using hl) w hR hE
  · exact rsigned8 em ep et b d s hs n (by simpa using hl) w hR hE
end Go.Proofs.YtpjlepkdiaohiaaGreatDoor

