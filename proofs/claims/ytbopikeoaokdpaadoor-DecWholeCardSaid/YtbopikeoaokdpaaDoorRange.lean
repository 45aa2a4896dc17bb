/- A range over a function whose iterator may turn what is its own (a variable that it has captured), by a law of this claim's own: over any program. -/
import Derived.RangeFuncNested
import Derived.RangeFuncBound
import Derived.RangeFuncCalls
import Derived.RangeFuncLeaves
import Derived.CallsIn
import Derived.RangeFuncBox
import Derived.Lib.FrozenHead
import Derived.Lib.OthersKept
namespace Go.Proofs.YtbopikeoaokdpaaDoor
open Go Go.RowKit

variable {P : Program}

/-- in the wide fence a round's depth is idle. -/
theorem roundIn_any {n m l : Nat} {f : FuncId} {tmps : Array Value} {assign body : Code} {w : World} {R : Ending → World → Prop} (h : RoundIn Fence.wide n P l f tmps assign body w R) : RoundIn Fence.wide m P l f tmps assign body w R :=
  ⟨h.1, fun c cs _ => h.2 c cs (room_wide _)⟩
theorem yieldAt_any {n m l : Nat} {args : Array Value} {W : World} {R : Ending → World → Prop} (h : YieldAt Fence.wide n P l args W R) : YieldAt Fence.wide m P l args W R := by
  obtain ⟨fn, tmps, assign, body, h1, h2⟩ := h
  exact ⟨fn, tmps, assign, body, h1, roundIn_any h2⟩

/-- a contract at a call within a round, and outside of one. -/
theorem callR {l n : Nat} {f : FuncId} {args : Array Value} {w : World} {R R' : Ending → World → Prop} (h : Calls P f args w R) (hm : ∀ e w', R e w' → R' e w') : Fence.wide.fn f ∧ CallsIn (Fence.wide.inRound l) n P f args w R' :=
  ⟨trivial, (CallsIn.inRound l (callsIn_wide.2 h)).mono hm⟩
theorem callW {n : Nat} {f : FuncId} {args : Array Value} {w : World} {R R' : Ending → World → Prop} (h : Calls P f args w R) (hm : ∀ e w', R e w' → R' e w') : Fence.wide.fn f ∧ CallsIn Fence.wide n P f args w R' :=
  ⟨trivial, (callsIn_wide.2 h).mono hm⟩

/-- THE CONTRACT OF AN ITERATOR: It: what it may turn between two rounds; Kp: what a round that goes on keeps; Ok: what is known of what comes. -/
def IterC {α : Type} (P : Program) (g : Nat) (lb : Array Value) (encs : α → Array Value) (It Kp : World → World → Prop) (Ok : List α → α → Prop) (S Sp : List α → World → Prop) (w : World) : Prop :=
  ∀ (l : Nat) (J Jx : List α → World → Prop) (W : World), Below w.heap.size w W → (∀ s A B, J s A → It A B → J s B) → (∀ s A B, Jx s A → It A B → Jx s B) →
    (∀ pre x W1, J pre W1 → Ok pre x → YieldAt Fence.wide 7 P l (encs x) W1 fun e W' =>
      (e = .returned (.bool true) ∧ J (pre ++ [x]) W' ∧ Kp W1 W') ∨ (e = .returned (.bool false) ∧ Jx (pre ++ [x]) W')) →
    J [] W →
    CallsIn Fence.wide 8 P g (#[.func (.yield l) #[] #[]] ++ lb) W fun e W' => (∃ v, e = .returned v) ∧ ((∃ xs, S xs W' ∧ J xs W') ∨ (∃ pre, Sp pre W' ∧ Jx pre W'))

/-- how a round's body may be left. -/
def overPost {α : Type} (B : Nat) (Kp : World → World → Prop) (I : List α → World → Prop) (Ix : Code → List α → World → Prop) (xs : List α) (W : World) : Exit → Act → World → Prop
  | .normal, _, W' => KeepsFrom B W W' ∧ Kp W W' ∧ I xs W'
  | .ret, _, W' => KeepsFrom B W W' ∧ Ix .ret xs W'
  | .exit id, _, W' => KeepsFrom B W W' ∧ Ix (.exit id) xs W'
  | .goto t, _, W' => KeepsFrom B W W' ∧ Ix (.goto t) xs W'
  | .panic _, _, _ => False
  | .outgrown, _, _ => False

/-- THE LAW OF THE STATEMENT. -/
theorem rangeOverG {α : Type} {g : Operand} {ps : Array Tmp} {assign body : Code} {Q : Exit → Act → World → Prop} {a : Act} {w : World}
    {gf : Nat} {lb : Array Value} (hg : a.eval g = .func (.func gf) #[] lb) (eg : ∀ args w, (callFunc gf args).run P w = .ok (.enter gf args) w)
    {encs : α → Array Value} {It Kp : World → World → Prop} {Ok : List α → α → Prop} {S Sp : List α → World → Prop} {w0 : World} (hseq : IterC P gf lb encs It Kp Ok S Sp w0)
    (hb0 : Below w0.heap.size w0 w) (hps : ∀ x, (encs x).size = ps.size)
    (hIt : ∀ (A B : World), It A B → A.heap.size ≤ B.heap.size ∧ ∀ (k : Nat) (o : Obj), w.heap.size ≤ k → A.heap[k]? = some o → o.isCells = false → o.isWalk = false → B.heap[k]? = some o)
    (hKt : ∀ {A B C : World}, Kp A B → Kp B C → Kp A C) (hKb : ∀ (W : World) (l : Nat) (o o' : Obj), w.heap.size ≤ l → W.heap[l]? = some o → o.isCells = false → o.isWalk = false → Kp W (W.putObj l o'))
    (hS : OwnFrom w.heap.size S) (hSp : OwnFrom w.heap.size Sp)
    (I : List α → World → Prop) (Ix : Code → List α → World → Prop) (hI : OwnFrom w.heap.size I) (hIx : ∀ c, OwnFrom w.heap.size (Ix c))
    (hII : ∀ s A B, I s A → It A B → I s B) (hIxI : ∀ c s A B, Ix c s A → It A B → Ix c s B) (h0 : I [] w)
    (Ax : α → Act → World → Prop) (hAx : ∀ x a', OwnFrom w.heap.size (fun (_ : Unit) W => Ax x a' W))
    (hassign : ∀ (l : Nat) (pre : List α) (x : α) (W : World) (K : Act → World → Prop), I pre W → Ok pre x → (∀ a' W', KeepsFrom w.heap.size W W' → Kp W W' → I pre W' → Ax x a' W' → K a' W') →
      assign.wpIn (Fence.wide.inRound l) 7 P (Exit.then K (fun _ _ _ => False)) { tmps := (ps.zip (encs x)).foldl (fun t (p, v) => t.setIfInBounds p v) a.tmps, defers := [] } W)
    (hbody : ∀ (l : Nat) (pre : List α) (x : α) (a' : Act) (W : World), w.heap.size ≤ l → I pre W → Ax x a' W → Ok pre x → body.wpIn (Fence.wide.inRound l) 7 P (overPost w.heap.size Kp I Ix (pre ++ [x]) W) a' W)
    (hdone : ∀ (D : Nat) (xs : List α) (W : World), w.heap.size ≤ D → S xs W → I xs W → W.heap[D]? = some (.deferred (some [])) → Q .normal { a with defers := { target := .collected D, args := #[] } :: a.defers } W)
    (hstop : ∀ (D : Nat) (c : Code) (pre : List α) (W : World), w.heap.size ≤ D → Sp pre W → Ix c pre W → W.heap[D]? = some (.deferred (some [])) → c.wpIn Fence.wide 9 P Q { a with defers := { target := .collected D, args := #[] } :: a.defers } W) :
    (Code.rangeFunc g ps assign body).wpIn Fence.wide 9 P Q a w := by
  refine wpIn_rangeFunc ?_
  intro fn hfn
  rw [show Fence.wide.round = none from rfl]
  -- the record, in each of its states
  obtain ⟨rec, hrec⟩ : ∃ rec : LoopState → Option Code → Loop, rec = fun st pe => { state := st, pending := pe, fn, tmps := a.tmps, params := ps, assign, body, defers := w.heap.size } := ⟨_, rfl⟩
  have hst : ∀ st pe st' pe', ({ rec st pe with state := st', pending := pe' } : Loop) = rec st' pe' := fun _ _ _ _ => by rw [hrec]
  have hst1 : ∀ st pe st', ({ rec st pe with state := st' } : Loop) = rec st' pe := fun _ _ _ => by rw [hrec]
  have hs0 : ∀ st pe, (rec st pe).state = st := fun _ _ => by rw [hrec]
  have hs1 : ∀ st pe, (rec st pe).pending = pe := fun _ _ => by rw [hrec]
  have hs2 : ∀ st pe, (rec st pe).params = ps := fun _ _ => by rw [hrec]
  obtain ⟨W1, hW1⟩ : ∃ W1, (w.alloc (.deferred (some []))).alloc (.loop (rec .ready none)) = W1 := ⟨_, rfl⟩
  have hsz : W1.heap.size = w.heap.size + 2 := by rw [← hW1]; simp
  -- the law's book-keeping
  have book : ∀ (W : World) (st : LoopState) (pe : Option Code), W.heap[w.heap.size + 1]? = some (.loop (rec st pe)) → w.heap.size + 1 < W.heap.size := fun W st pe h => (Array.getElem?_eq_some_iff.1 h).1
  refine ⟨w.heap.size + 1, [{ target := .collected w.heap.size, args := #[] }], W1, { target := .fn (.func gf) lb, args := #[.func (.yield (w.heap.size + 1)) #[] #[]] }, W1, gf,
    #[.func (.yield (w.heap.size + 1)) #[] #[]] ++ lb, W1, ?_, ?_, fun _ _ => trivial, ?_, fun h => by simp [Fence.wide] at h, ?_⟩
  · rw [← hW1, hrec]; exact run_enterLoop_outer _ _ _ _ _
  · simp only [resolve, hg]
    simp [go_sem]
  · simp [invoke, go_sem, eg]
  have hL1 : W1.heap[w.heap.size + 1]? = some (.loop (rec .ready none)) := by
    rw [← hW1]
    have := World.alloc_heap_new (w.alloc (.deferred (some []))) (.loop (rec .ready none))
    rwa [World.size_alloc] at this
  have hD1 : W1.heap[w.heap.size]? = some (.deferred (some [])) := by
    rw [← hW1]; exact (Below.heap_alloc _ _ _ (by simp)).trans (World.alloc_heap_new w _)
  have hI1 : I [] W1 := by rw [← hW1]; exact hI.alloc _ (hI.alloc _ h0)
  have hb1 : Below w0.heap.size w0 W1 := by
    rw [← hW1]; exact hb0.trans ((((Below.refl _ w).alloc (Nat.le_refl _) _).alloc (by simp) _).mono hb0.size)
  refine CallsIn.mono (R := fun e W' => (∃ v, e = .returned v) ∧ ((∃ xs, S xs W' ∧ (I xs W' ∧ W'.heap[w.heap.size + 1]? = some (.loop (rec .ready none)) ∧ W'.heap[w.heap.size]? = some (.deferred (some [])))) ∨
      (∃ pre, Sp pre W' ∧ ∃ c, Ix c pre W' ∧ W'.heap[w.heap.size + 1]? = some (.loop (rec .done (some c))) ∧ W'.heap[w.heap.size]? = some (.deferred (some []))))) ?_ ?_
  · refine hseq (w.heap.size + 1)
      (fun pre W => I pre W ∧ W.heap[w.heap.size + 1]? = some (.loop (rec .ready none)) ∧ W.heap[w.heap.size]? = some (.deferred (some [])))
      (fun pre W => ∃ c, Ix c pre W ∧ W.heap[w.heap.size + 1]? = some (.loop (rec .done (some c))) ∧ W.heap[w.heap.size]? = some (.deferred (some []))) W1 hb1
      (fun s A B ⟨hi, hl, hd⟩ hit => ⟨hII s A B hi hit, (hIt A B hit).2 _ _ (by omega) hl rfl rfl, (hIt A B hit).2 _ _ (Nat.le_refl _) hd rfl rfl⟩)
      (fun s A B ⟨c, hi, hl, hd⟩ hit => ⟨c, hIxI c s A B hi hit, (hIt A B hit).2 _ _ (by omega) hl rfl rfl, (hIt A B hit).2 _ _ (Nat.le_refl _) hd rfl rfl⟩) ?_ ⟨hI1, hL1, hD1⟩
    rintro pre x W ⟨hi, hl, hd⟩ hok
    have hy := run_yield (P := P) (args := encs x) hl (by rw [hs2]; exact hps x)
    rw [hrec] at hy
    refine ⟨fn, _, assign, body, hy, roundIn_of_wpIn hfn (hassign _ pre x W _ hi hok ?_)⟩
    clear hy
    intro a' Wa hkf hkp hia hax
    have hla := hkf.same _ _ (by omega) hl rfl
    have hda := hkf.same _ _ (Nat.le_refl _) hd rfl
    have hlta := book _ _ _ hla
    have hlb : (Wa.putObj (w.heap.size + 1) (.loop (rec .busy none))).heap[w.heap.size + 1]? = some (.loop (rec .busy none)) := World.putObj_heap_same hlta
    have hdb : (Wa.putObj (w.heap.size + 1) (.loop (rec .busy none))).heap[w.heap.size]? = some (.deferred (some [])) := (World.putObj_heap_other (by omega)).trans hda
    refine ⟨Wa.putObj (w.heap.size + 1) (.loop (rec .busy none)), by rw [run_beginRound hla (by rw [hs0]), hst1], ?_⟩
    refine wpIn_mono (hbody _ pre x a' _ (by omega) (hI.putObj _ hia (by omega) hla rfl) ((hAx x a').putObj (s := ()) _ hax (by omega) hla rfl) hok) ?_
    have hkb : Kp Wa (Wa.putObj (w.heap.size + 1) (.loop (rec .busy none))) := hKb _ _ _ _ (by omega) hla rfl rfl
    -- the round's end, jump or none
    have fin : ∀ (jump : Option Code) (W3 : World), KeepsFrom w.heap.size (Wa.putObj (w.heap.size + 1) (.loop (rec .busy none))) W3 →
        W3.heap[w.heap.size + 1]? = some (.loop (rec .busy none)) ∧
        (Instr.endRound (w.heap.size + 1) jump).run P W3 = .ok (.bool jump.isNone) (W3.putObj (w.heap.size + 1) (.loop (rec (if jump.isNone then .ready else .done) jump))) ∧
        (W3.putObj (w.heap.size + 1) (.loop (rec (if jump.isNone then .ready else .done) jump))).heap[w.heap.size + 1]? = some (.loop (rec (if jump.isNone then .ready else .done) jump)) ∧
        (W3.putObj (w.heap.size + 1) (.loop (rec (if jump.isNone then .ready else .done) jump))).heap[w.heap.size]? = some (.deferred (some [])) := fun jump W3 hk3 => by
      have hl3 := hk3.same _ _ (by omega) hlb rfl
      refine ⟨hl3, by rw [run_endRound jump hl3, hst], World.putObj_heap_same (book _ _ _ hl3), (World.putObj_heap_other (by omega)).trans (hk3.same _ _ (Nat.le_refl _) hdb rfl)⟩
    rintro e a3 W3 hp
    cases e with
    | normal =>
      obtain ⟨hk3, hkp3, hi3⟩ := hp
      obtain ⟨hl3, hr, hl4, hd4⟩ := fin none W3 hk3
      exact ⟨_, _, hr, .inl ⟨rfl, ⟨hI.putObj _ hi3 (by omega) hl3 rfl, hl4, hd4⟩, hKt hkp (hKt (hKt hkb hkp3) (hKb _ _ _ _ (by omega) hl3 rfl rfl))⟩⟩
    | ret =>
      obtain ⟨hk3, hi3⟩ := hp
      obtain ⟨hl3, hr, hl4, hd4⟩ := fin (some .ret) W3 hk3
      exact ⟨_, _, hr, .inr ⟨rfl, .ret, (hIx _).putObj _ hi3 (by omega) hl3 rfl, hl4, hd4⟩⟩
    | exit id =>
      obtain ⟨hk3, hi3⟩ := hp
      obtain ⟨hl3, hr, hl4, hd4⟩ := fin (some (.exit id)) W3 hk3
      exact ⟨_, _, hr, .inr ⟨rfl, .exit id, (hIx _).putObj _ hi3 (by omega) hl3 rfl, hl4, hd4⟩⟩
    | goto t =>
      obtain ⟨hk3, hi3⟩ := hp
      obtain ⟨hl3, hr, hl4, hd4⟩ := fin (some (.goto t)) W3 hk3
      exact ⟨_, _, hr, .inr ⟨rfl, .goto t, (hIx _).putObj _ hi3 (by omega) hl3 rfl, hl4, hd4⟩⟩
    | panic ch => exact hp.elim
    | outgrown => exact hp.elim
  · rintro e W2 ⟨⟨v, rfl⟩, ⟨xs, hs, hi, hl, hd⟩ | ⟨pre, hsp, c, hi, hl, hd⟩⟩
    · refine ⟨none, W2.putObj (w.heap.size + 1) (.loop (rec .exhausted none)), ?_, hdone _ xs _ (Nat.le_refl _) (hS.putObj _ hs (by omega) hl rfl) (hI.putObj _ hi (by omega) hl rfl) ((World.putObj_heap_other (by omega)).trans hd)⟩
      rw [run_endLoop hl (by rw [hs0]; simp), hs1, hst]
    · refine ⟨some c, W2.putObj (w.heap.size + 1) (.loop (rec .exhausted (some c))), ?_, hstop _ c pre _ (Nat.le_refl _) (hSp.putObj _ hsp (by omega) hl rfl) ((hIx c).putObj _ hi (by omega) hl rfl) ((World.putObj_heap_other (by omega)).trans hd)⟩
      rw [run_endLoop hl (by rw [hs0]; simp), hs1, hst]

/-- .. of an iterator that turns cells alone. -/
theorem rangeOver {α : Type} {g : Operand} {ps : Array Tmp} {assign body : Code} {Q : Exit → Act → World → Prop} {a : Act} {w : World}
    {gf : Nat} {lb : Array Value} (hg : a.eval g = .func (.func gf) #[] lb) (eg : ∀ args w, (callFunc gf args).run P w = .ok (.enter gf args) w)
    {encs : α → Array Value} {It Kp : World → World → Prop} {Ok : List α → α → Prop} {S Sp : List α → World → Prop} {w0 : World} (hseq : IterC P gf lb encs It Kp Ok S Sp w0)
    (hb0 : Below w0.heap.size w0 w) (hps : ∀ x, (encs x).size = ps.size)
    (hIt : ∀ (A B : World), It A B → A.heap.size ≤ B.heap.size ∧ ∀ (k : Nat) (o : Obj), w.heap.size ≤ k → A.heap[k]? = some o → o.isCells = false → B.heap[k]? = some o)
    (hKt : ∀ {A B C : World}, Kp A B → Kp B C → Kp A C) (hKb : ∀ (W : World) (l : Nat) (o o' : Obj), w.heap.size ≤ l → W.heap[l]? = some o → o.isCells = false → o.isWalk = false → Kp W (W.putObj l o'))
    (hS : OwnFrom w.heap.size S) (hSp : OwnFrom w.heap.size Sp)
    (I : List α → World → Prop) (Ix : Code → List α → World → Prop) (hI : OwnFrom w.heap.size I) (hIx : ∀ c, OwnFrom w.heap.size (Ix c))
    (hII : ∀ s A B, I s A → It A B → I s B) (hIxI : ∀ c s A B, Ix c s A → It A B → Ix c s B) (h0 : I [] w)
    (Ax : α → Act → World → Prop) (hAx : ∀ x a', OwnFrom w.heap.size (fun (_ : Unit) W => Ax x a' W))
    (hassign : ∀ (l : Nat) (pre : List α) (x : α) (W : World) (K : Act → World → Prop), I pre W → Ok pre x → (∀ a' W', KeepsFrom w.heap.size W W' → Kp W W' → I pre W' → Ax x a' W' → K a' W') →
      assign.wpIn (Fence.wide.inRound l) 7 P (Exit.then K (fun _ _ _ => False)) { tmps := (ps.zip (encs x)).foldl (fun t (p, v) => t.setIfInBounds p v) a.tmps, defers := [] } W)
    (hbody : ∀ (l : Nat) (pre : List α) (x : α) (a' : Act) (W : World), w.heap.size ≤ l → I pre W → Ax x a' W → Ok pre x → body.wpIn (Fence.wide.inRound l) 7 P (overPost w.heap.size Kp I Ix (pre ++ [x]) W) a' W)
    (hdone : ∀ (D : Nat) (xs : List α) (W : World), w.heap.size ≤ D → S xs W → I xs W → W.heap[D]? = some (.deferred (some [])) → Q .normal { a with defers := { target := .collected D, args := #[] } :: a.defers } W)
    (hstop : ∀ (D : Nat) (c : Code) (pre : List α) (W : World), w.heap.size ≤ D → Sp pre W → Ix c pre W → W.heap[D]? = some (.deferred (some [])) → c.wpIn Fence.wide 9 P Q { a with defers := { target := .collected D, args := #[] } :: a.defers } W) :
    (Code.rangeFunc g ps assign body).wpIn Fence.wide 9 P Q a w :=
  rangeOverG hg eg hseq hb0 hps (fun A B h => ⟨(hIt A B h).1, fun k o h1 h2 h3 _ => (hIt A B h).2 k o h1 h2 h3⟩) hKt hKb hS hSp I Ix hI hIx hII hIxI h0 Ax hAx hassign hbody hdone hstop

/-- .. in a plain walk. -/
theorem rangeOverGP {α : Type} {g : Operand} {ps : Array Tmp} {assign body : Code} {Q : Exit → Act → World → Prop} {a : Act} {w : World}
    {gf : Nat} {lb : Array Value} (hg : a.eval g = .func (.func gf) #[] lb) (eg : ∀ args w, (callFunc gf args).run P w = .ok (.enter gf args) w)
    {encs : α → Array Value} {It Kp : World → World → Prop} {Ok : List α → α → Prop} {S Sp : List α → World → Prop} {w0 : World} (hseq : IterC P gf lb encs It Kp Ok S Sp w0)
    (hb0 : Below w0.heap.size w0 w) (hps : ∀ x, (encs x).size = ps.size)
    (hIt : ∀ (A B : World), It A B → A.heap.size ≤ B.heap.size ∧ ∀ (k : Nat) (o : Obj), w.heap.size ≤ k → A.heap[k]? = some o → o.isCells = false → o.isWalk = false → B.heap[k]? = some o)
    (hKt : ∀ {A B C : World}, Kp A B → Kp B C → Kp A C) (hKb : ∀ (W : World) (l : Nat) (o o' : Obj), w.heap.size ≤ l → W.heap[l]? = some o → o.isCells = false → o.isWalk = false → Kp W (W.putObj l o'))
    (hS : OwnFrom w.heap.size S) (hSp : OwnFrom w.heap.size Sp)
    (I : List α → World → Prop) (Ix : Code → List α → World → Prop) (hI : OwnFrom w.heap.size I) (hIx : ∀ c, OwnFrom w.heap.size (Ix c))
    (hII : ∀ s A B, I s A → It A B → I s B) (hIxI : ∀ c s A B, Ix c s A → It A B → Ix c s B) (h0 : I [] w)
    (Ax : α → Act → World → Prop) (hAx : ∀ x a', OwnFrom w.heap.size (fun (_ : Unit) W => Ax x a' W))
    (hassign : ∀ (l : Nat) (pre : List α) (x : α) (W : World) (K : Act → World → Prop), I pre W → Ok pre x → (∀ a' W', KeepsFrom w.heap.size W W' → Kp W W' → I pre W' → Ax x a' W' → K a' W') →
      assign.wpIn (Fence.wide.inRound l) 7 P (Exit.then K (fun _ _ _ => False)) { tmps := (ps.zip (encs x)).foldl (fun t (p, v) => t.setIfInBounds p v) a.tmps, defers := [] } W)
    (hbody : ∀ (l : Nat) (pre : List α) (x : α) (a' : Act) (W : World), w.heap.size ≤ l → I pre W → Ax x a' W → Ok pre x → body.wpIn (Fence.wide.inRound l) 7 P (overPost w.heap.size Kp I Ix (pre ++ [x]) W) a' W)
    (hdone : ∀ (D : Nat) (xs : List α) (W : World), w.heap.size ≤ D → S xs W → I xs W → W.heap[D]? = some (.deferred (some [])) → Q .normal { a with defers := { target := .collected D, args := #[] } :: a.defers } W)
    (hstop : ∀ (D : Nat) (c : Code) (pre : List α) (W : World), w.heap.size ≤ D → Sp pre W → Ix c pre W → W.heap[D]? = some (.deferred (some [])) → c.wp P Q { a with defers := { target := .collected D, args := #[] } :: a.defers } W) :
    (Code.rangeFunc g ps assign body).wp P Q a w :=
  wpIn_wide.1 (rangeOverG hg eg hseq hb0 hps hIt hKt hKb hS hSp I Ix hI hIx hII hIxI h0 Ax hAx hassign hbody hdone (fun D c pre W h1 h2 h3 h4 => wpIn_wide.2 (hstop D c pre W h1 h2 h3 h4)))

/-- .. in a plain walk. -/
theorem rangeOverP {α : Type} {g : Operand} {ps : Array Tmp} {assign body : Code} {Q : Exit → Act → World → Prop} {a : Act} {w : World}
    {gf : Nat} {lb : Array Value} (hg : a.eval g = .func (.func gf) #[] lb) (eg : ∀ args w, (callFunc gf args).run P w = .ok (.enter gf args) w)
    {encs : α → Array Value} {It Kp : World → World → Prop} {Ok : List α → α → Prop} {S Sp : List α → World → Prop} {w0 : World} (hseq : IterC P gf lb encs It Kp Ok S Sp w0)
    (hb0 : Below w0.heap.size w0 w) (hps : ∀ x, (encs x).size = ps.size)
    (hIt : ∀ (A B : World), It A B → A.heap.size ≤ B.heap.size ∧ ∀ (k : Nat) (o : Obj), w.heap.size ≤ k → A.heap[k]? = some o → o.isCells = false → B.heap[k]? = some o)
    (hKt : ∀ {A B C : World}, Kp A B → Kp B C → Kp A C) (hKb : ∀ (W : World) (l : Nat) (o o' : Obj), w.heap.size ≤ l → W.heap[l]? = some o → o.isCells = false → o.isWalk = false → Kp W (W.putObj l o'))
    (hS : OwnFrom w.heap.size S) (hSp : OwnFrom w.heap.size Sp)
    (I : List α → World → Prop) (Ix : Code → List α → World → Prop) (hI : OwnFrom w.heap.size I) (hIx : ∀ c, OwnFrom w.heap.size (Ix c))
    (hII : ∀ s A B, I s A → It A B → I s B) (hIxI : ∀ c s A B, Ix c s A → It A B → Ix c s B) (h0 : I [] w)
    (Ax : α → Act → World → Prop) (hAx : ∀ x a', OwnFrom w.heap.size (fun (_ : Unit) W => Ax x a' W))
    (hassign : ∀ (l : Nat) (pre : List α) (x : α) (W : World) (K : Act → World → Prop), I pre W → Ok pre x → (∀ a' W', KeepsFrom w.heap.size W W' → Kp W W' → I pre W' → Ax x a' W' → K a' W') →
      assign.wpIn (Fence.wide.inRound l) 7 P (Exit.then K (fun _ _ _ => False)) { tmps := (ps.zip (encs x)).foldl (fun t (p, v) => t.setIfInBounds p v) a.tmps, defers := [] } W)
    (hbody : ∀ (l : Nat) (pre : List α) (x : α) (a' : Act) (W : World), w.heap.size ≤ l → I pre W → Ax x a' W → Ok pre x → body.wpIn (Fence.wide.inRound l) 7 P (overPost w.heap.size Kp I Ix (pre ++ [x]) W) a' W)
    (hdone : ∀ (D : Nat) (xs : List α) (W : World), w.heap.size ≤ D → S xs W → I xs W → W.heap[D]? = some (.deferred (some [])) → Q .normal { a with defers := { target := .collected D, args := #[] } :: a.defers } W)
    (hstop : ∀ (D : Nat) (c : Code) (pre : List α) (W : World), w.heap.size ≤ D → Sp pre W → Ix c pre W → W.heap[D]? = some (.deferred (some [])) → c.wp P Q { a with defers := { target := .collected D, args := #[] } :: a.defers } W) :
    (Code.rangeFunc g ps assign body).wp P Q a w :=
  wpIn_wide.1 (rangeOver hg eg hseq hb0 hps hIt hKt hKb hS hSp I Ix hI hIx hII hIxI h0 Ax hAx hassign hbody hdone (fun D c pre W h1 h2 h3 h4 => wpIn_wide.2 (hstop D c pre W h1 h2 h3 h4)))

/-- a function that holds ranges over functions, from its body in a plain walk. -/
theorem calls_marks {f : FuncId} {fn : Func} {c : Code} {args : Array Value} {w : World} {R : Ending → World → Prop} (hf : P.funcs[f]? = some fn) (hb : fn.body = some c)
    (h : c.wp P (bodyPostM Fence.wide 9 P fn R) { tmps := args ++ Array.replicate (fn.ntmps - args.size) undef, defers := [] } w) : Calls P f args w R :=
  (callsIn_wide (n := 9)).1 (callsIn_of_wp_marks hf hb trivial (wpIn_wide.2 h) rfl)

/-- the blocks of K lie as they lay. -/
def KeptAt (K : Nat → Prop) (A B : World) : Prop := ∀ k, K k → B.heap[k]? = A.heap[k]?
theorem KeptAt.refl (K : Nat → Prop) (A : World) : KeptAt K A A := fun _ _ => rfl
theorem KeptAt.trans {K : Nat → Prop} {A B C : World} (h : KeptAt K A B) (k : KeptAt K B C) : KeptAt K A C := fun i hi => (k i hi).trans (h i hi)
theorem KeptAt.below {K : Nat → Prop} {n : Nat} {A B : World} (h : Below n A B) (hK : ∀ k, K k → k < n) : KeptAt K A B := fun k hk => h.block k (hK k hk)
theorem KeptAt.setCell {K : Nat → Prop} (A : World) (p : Addr) (v : Value) (h : ¬ K p.block) : KeptAt K A (A.setCell p v) := fun k hk =>
  Below.heap_setCell _ _ _ _ (fun e => h (by rw [← e]; exact hk))
theorem KeptAt.putObj {K : Nat → Prop} (A : World) (l : Nat) (o : Obj) (h : ¬ K l) : KeptAt K A (A.putObj l o) := fun k hk =>
  World.putObj_heap_other (fun e => h (by rw [← e]; exact hk))
theorem KeptAt.cell {K : Nat → Prop} {A B : World} (h : KeptAt K A B) {p : Addr} (hp : K p.block) : B.cell? p = A.cell? p := World.cell?_of_block (h p.block hp)
theorem KeptAt.grown {K : Nat → Prop} {A B : World} {row : Option Nat} (h : A.grownBy B row) (hK : ∀ k, K k → k < A.heap.size ∧ some k ≠ row) : KeptAt K A B := fun k hk => h.block k (hK k hk).1 (hK k hk).2

/-- whatever is cells lies as it lay. -/
def CellsKept (A B : World) : Prop := ∀ (k : Nat) (c : Array Value) (t : TypeId) (fz : Nat × Nat), A.heap[k]? = some (.cells c t fz) → B.heap[k]? = some (.cells c t fz)
theorem CellsKept.below {A B : World} (h : Below A.heap.size A B) : CellsKept A B := fun k _ _ _ hk => (h.block k (Array.getElem?_eq_some_iff.1 hk).1).trans hk

theorem ownFrom_of {β : Type} {B : Nat} {I : β → World → Prop} (h : ∀ s W W', I s W → CellsKept W W' → Below B W W' → I s W') (hB : ∀ s W, I s W → B ≤ W.heap.size) : OwnFrom B I := by
  intro s W W' row hs hg hr
  refine h s W W' hs (fun k c t fz hk => ?_) ⟨hg.os, hg.tape, hg.output, hg.size, fun k hk => ?_⟩
  · refine (hg.block k (Array.getElem?_eq_some_iff.1 hk).1 ?_).trans hk
    intro e
    obtain ⟨_, o, ho, hc⟩ := hr k e.symm
    rw [hk] at ho
    cases ho
    cases hc
  · have := hB s W hs
    refine hg.block k (by omega) ?_
    intro e
    have := (hr k e.symm).1
    omega

theorem CellsKept.trans {A B C : World} (h : CellsKept A B) (k : CellsKept B C) : CellsKept A C := fun i c t fz hi => k i c t fz (h i c t fz hi)
theorem CellsKept.putObj {A : World} {l : Nat} {o : Obj} (o' : Obj) (h : A.heap[l]? = some o) (ho : o.isCells = false) : CellsKept A (A.putObj l o') := fun k c t fz hk => by
  refine (World.putObj_heap_other ?_).trans hk
  intro e
  subst e
  rw [hk] at h
  cases h
  cases ho
theorem CellsKept.cell {A B : World} (h : CellsKept A B) {p : Addr} {v : Value} (hc : A.cell? p = some v) : B.cell? p = some v := by
  unfold World.cell? at hc ⊢
  cases hA : A.heap[p.block]? with
  | none => simp [hA] at hc
  | some o =>
    cases o with
    | cells c t fz => rw [h _ _ _ _ hA]; rw [hA] at hc; exact hc
    | _ => simp [hA] at hc
theorem CellsKept.boxed {A B : World} {b : Nat} {t : TypeId} {v : Value} (h : CellsKept A B) (hb : Boxed A b t v) : Boxed B b t v := h b _ _ _ hb
theorem CellsKept.builder {A B : World} {T e : TypeId} {n b : Nat} {bs : List Value} (h : CellsKept A B) (hb : Lib.IsBuilderF T e n b bs A) : Lib.IsBuilderF T e n b bs B := by
  have key : ∀ p, Lib.BuilderAtF T e n b p bs A → Lib.BuilderAtF T e n b p bs B := by
    rintro p ⟨h1, v, h2, h3, h4⟩
    refine ⟨h1, v, h _ _ _ _ h2, ⟨h3.1, ?_⟩, h4⟩
    rcases h3.2 with hn | ⟨g, cap, cur, fz, hv, hb, hg, rest⟩
    · exact .inl hn
    · exact .inr ⟨g, cap, cur, fz, hv, hb, h _ _ _ _ hg, rest⟩
  exact hb.elim (fun x => .inl (key _ x)) (fun x => .inr (key _ x))

/-- block g is a row of numbers. -/
def RowN (W : World) (g : Nat) (e : TypeId) (k : IntKind) (xs : List Nat) : Prop := W.heap[g]? = some (.cells (xs.map fun x => Value.int k (x : Nat)).toArray e (0, 0))
theorem CellsKept.row {A B : World} {g : Nat} {e : TypeId} {k : IntKind} {xs : List Nat} (h : CellsKept A B) (hr : RowN A g e k xs) : RowN B g e k xs := h _ _ _ _ hr
theorem RowN.lt {W : World} {g : Nat} {e : TypeId} {k : IntKind} {xs : List Nat} (h : RowN W g e k xs) : g < W.heap.size := (Array.getElem?_eq_some_iff.1 h).1
theorem RowN.cell {W : World} {g : Nat} {e : TypeId} {k : IntKind} {xs : List Nat} (h : RowN W g e k xs) {j : Nat} (hj : j < xs.length) : W.cell? ⟨g, j, none⟩ = some (.int k (xs[j]?.getD 0 : Nat)) := by
  have : W.heap[g]? = some (.cells (xs.map fun x => Value.int k (x : Nat)).toArray e (0, 0)) := h
  simp [World.cell?, this, hj]
theorem RowN.frozen {W : World} {g : Nat} {e : TypeId} {k : IntKind} {xs : List Nat} (h : RowN W g e k xs) (j : Nat) : W.frozen? ⟨g, j, none⟩ = false := by
  have : W.heap[g]? = some (.cells (xs.map fun x => Value.int k (x : Nat)).toArray e (0, 0)) := h
  simp [World.frozen?, this]
theorem RowN.set {W : World} {g : Nat} {e : TypeId} {k : IntKind} {xs : List Nat} (h : RowN W g e k xs) (j x : Nat) : RowN (W.setCell ⟨g, j, none⟩ (.int k (x : Nat))) g e k (xs.set j x) := by
  have h' : W.heap[g]? = some (.cells (xs.map fun x => Value.int k (x : Nat)).toArray e (0, 0)) := h
  show (W.heap.modify g _)[g]? = _
  rw [Array.getElem?_modify, if_pos rfl, h']
  simp [List.map_set]
theorem RowN.other {W : World} {g b off : Nat} {e : TypeId} {k : IntKind} {xs : List Nat} (h : RowN W g e k xs) (hne : g ≠ b) (v : Value) : RowN (W.setCell ⟨b, off, none⟩ v) g e k xs :=
  (Below.heap_setCell _ _ _ _ hne).trans h
theorem boxed_other {W : World} {g b off : Nat} {t : TypeId} {u : Value} (h : Boxed W g t u) (hne : g ≠ b) (v : Value) : Boxed (W.setCell ⟨b, off, none⟩ v) g t u :=
  (Below.heap_setCell _ _ _ _ hne).trans h

theorem row_of_owns {W : World} {base g n : Nat} {e : TypeId} {k : IntKind} {ys : List Value} {xs : List Nat} (h : W.ownsRow base e 1 (.slice (some ⟨g, 0, none⟩) n n) n ys) (hx : ys = xs.map fun x => Value.int k (x : Nat)) : RowN W g e k xs := by
  subst hx
  rcases h.2 with ⟨e1, _⟩ | ⟨g', cap, cur, e1, _, hg, _, _, hsz, htake⟩
  · cases e1
  · cases e1
    have : cur = (xs.map fun x => Value.int k (x : Nat)).toArray := by
      apply Array.ext'
      rw [List.take_of_length_le (by simp [hsz])] at htake
      simpa using htake
    rw [this] at hg
    exact hg

theorem keeps_below {A B : World} (h : Below A.heap.size A B) : KeepsOthers A B := ⟨h.size, fun k _ hk _ => (h.block k (Array.getElem?_eq_some_iff.1 hk).1).trans hk⟩

theorem builder_new (W : World) (T e : TypeId) : Lib.IsBuilderF T e W.heap.size W.heap.size [] (W.alloc (.cells #[.pointer none, .slice none 0 0] T)) :=
  .inl ⟨Nat.le_refl _, .slice none 0 0, World.alloc_heap_new W _, ⟨by simp, .inl ⟨rfl, rfl⟩⟩, by simp [Value.ownBlock]⟩

theorem builder_row {T e : TypeId} {n b : Nat} {bs : List Value} {A : World} (h : Lib.IsBuilderF T e n b bs A) : ∃ c, A.heap[b]? = some (.cells c T (0, 0)) := by
  rcases h with ⟨_, v, h2, _⟩ | ⟨_, v, h2, _⟩
  · exact ⟨_, h2⟩
  · exact ⟨_, h2⟩

theorem others_of_below {e : TypeId} {b : Option Nat} {A B : World} (h : Below A.heap.size A B) : Lib.OthersKept e b A B :=
  fun k _ hk _ _ => (h.block k (Array.getElem?_eq_some_iff.1 hk).1).trans hk

/-- WHAT WRITING INTO A BUILDER OF THE CALL's OWN (block b) TURNS: nothing below b; of what lies above, the rows of bytes alone. -/
structure Wrote (e : TypeId) (b : Nat) (A B : World) : Prop where
  below : Below b A B
  others : Lib.OthersKept e (some b) A B
theorem Wrote.refl (e : TypeId) (b : Nat) (A : World) : Wrote e b A A := ⟨Below.refl _ _, Lib.OthersKept.refl _ _ _⟩
theorem Wrote.trans {e : TypeId} {b : Nat} {A B C : World} (h : Wrote e b A B) (k : Wrote e b B C) : Wrote e b A C := ⟨h.below.trans k.below, h.others.trans k.others⟩
theorem Wrote.of_below {e : TypeId} {b : Nat} {A B : World} (h : Below A.heap.size A B) (hb : b ≤ A.heap.size) : Wrote e b A B := ⟨h.mono hb, others_of_below h⟩
theorem Wrote.boxed {e : TypeId} {b k : Nat} {A B : World} {t : TypeId} {v : Value} (h : Wrote e b A B) (hb : Boxed A k t v) (hk : k ≠ b) (ht : t ≠ e) : Boxed B k t v :=
  h.others k _ hb (by simpa using hk) (fun c fz e' => by cases e'; exact ht rfl)
theorem Wrote.keeps {e : TypeId} {b n : Nat} {A B : World} (h : Wrote e b A B) (hb : ∃ c T fz, A.heap[b]? = some (.cells c T fz)) : KeepsFrom n A B :=
  ⟨h.below.size, fun k o _ hk ho => h.others k o hk (fun e' => by
    obtain ⟨c, T, fz, hc⟩ := hb
    obtain rfl : k = b := by simpa using e'
    rw [hk] at hc; cases hc; cases ho) (fun c fz e' => by subst e'; cases ho)⟩
end Go.Proofs.YtbopikeoaokdpaaDoor
