/- PU: MqG MqR FrameR MqH MqI. -/
import Derived.Test.YtpjlepkdiaohiaaGreatDoorPT
import Derived.Test.YtpjlepkdiaohiaaGreatDoorPR
import Derived.Test.YtpjlepkdiaohiaaGreatDoorRows
import Derived.Test.YtpjlepkdiaohiaaGreatDoorPH
import Derived.Test.YtpjlepkdiaohiaaGreatDoorPC
import Derived.ProofKit
import Derived.LaidMore
import Derived.OpenShut
import Derived.Stop.Joined
import Derived.Stop.LaidErr
import Derived.Lib.LaidTab
import Derived.Lib.LaidU8T
import Derived.PinnedBridge
import Derived.Lay
import Derived.LaidOnce
import Derived.SevenTiedAt
import Derived.Test.YtpjlepkdiaohiaaGreatDoorTie
import Derived.Test.YtpjlepkdiaohiaaGreatDoorCards
import Derived.ChangeMaps5
import Derived.Deep.MidRow
/- Package mpr: (*reader).list: walked. -/
namespace Go.Proofs.YtpjlepkdiaohiaaGreatDoor
open Go.RowKit
attribute [local go_sem] Oper.semAt_some

theorem items_calls (b n : Nat) (w : World) :
    Calls Tryz.prog 165 #[.pointer (some ⟨b, 0, none⟩), .int .u64 n] w fun e w' => e = .returned (.func (.func 185) #[] #[.pointer (some ⟨w.heap.size + 1, 0, none⟩), .pointer (some ⟨w.heap.size, 0, none⟩)]) ∧ w' = (w.alloc (.cells #[.pointer (some ⟨b, 0, none⟩)] 77)).alloc (.cells #[.int .u64 n] 24) := by
  go_enter Tryz.func165, Tryz.ntmps165
  go_wp2
  go_ret
  exact ⟨rfl, rfl⟩

/-- cells from base on are kept. -/
def CellsFrom (base : Nat) (A B : World) : Prop := ∀ (k : Nat) (c : Array Value) (t : TypeId) (fz : Nat × Nat), base ≤ k → A.heap[k]? = some (.cells c t fz) → B.heap[k]? = some (.cells c t fz)
theorem cell_from {base : Nat} {A B : World} (h : CellsFrom base A B) {p : Addr} {v : Value} (hp : base ≤ p.block) (hc : A.cell? p = some v) : B.cell? p = some v := by
  unfold World.cell? at hc ⊢
  cases hA : A.heap[p.block]? with
  | none => simp [hA] at hc
  | some o =>
    cases o with
    | cells c t fz => rw [h _ _ _ _ hp hA]; rw [hA] at hc; exact hc
    | _ => simp [hA] at hc
theorem InB.from {base : Nat} {K : Nat → Prop} {A B : World} {v : Value} {t : Tr} (h : InB K A v t) (hK : ∀ k, K k → base ≤ k) (hc : CellsFrom base A B) : InB K B v t := by
  induction h with
  | nd p l a n c sl hn hcc ht ih =>
    refine .nd p l a n c sl hn (fun i t hi => ?_) ih
    obtain ⟨g, o, h1, h2, h3⟩ := hcc i t hi
    exact ⟨g, o, h1, h2, fun j x hj => cell_from hc (hK g h2) (h3 j x hj)⟩
theorem OwnL.from {base : Nat} {A B : World} {v : Value} {zs : List (Value × Tr)} (h : OwnL base base A v zs) (hc : CellsFrom base A B) : OwnL base base B v zs := by
  refine ⟨⟨h.1.1, ?_⟩, fun z hz => (h.2 z hz).from (fun k hk => hk.1) hc⟩
  rcases h.1.2 with h1 | ⟨g, cap, cur, h1, h2, h3, h4⟩
  · exact .inl h1
  · exact .inr ⟨g, cap, cur, h1, h2, hc _ _ _ _ h2 h3, h4⟩
theorem CellsFrom.kept {base : Nat} {A B : World} (h : CellsKept A B) : CellsFrom base A B := fun k c t fz _ hk => h k c t fz hk
theorem CellsFrom.it {b bn base : Nat} {A B : World} (h : ItQ b bn A B) (h1 : b < base) (h2 : bn < base) : CellsFrom base A B := fun k c t fz hk hA => (h.blk k (Array.getElem?_eq_some_iff.1 hA).1 (by omega) (by omega)).trans hA
theorem OwnL.snoc2 {lo base : Nat} {W W' : World} {v v' : Value} {zs : List (Value × Tr)} {z : Value × Tr} (h : OwnL lo base W v zs) (hz : InB (fun k => lo ≤ k ∧ some k ≠ v.ownBlock) W (ndV z.2.p z.1) z.2)
    (hown : W'.ownsRow base 27 9 v' (zs.length + 1) (zsC zs ++ ndL z.2.p z.1)) (hg : ∀ k, lo ≤ k → k < W.heap.size → some k ≠ v.ownBlock → W'.heap[k]? = W.heap[k]?) (hloc : v'.ownBlock = v.ownBlock ∨ ∀ k, v'.ownBlock = some k → W.heap.size ≤ k) : OwnL lo base W' v' (zs ++ [z]) := by
  refine ⟨by rw [zsC_snoc, List.length_append]; exact hown, fun y hy => ?_⟩
  have hy' : InB (fun k => lo ≤ k ∧ some k ≠ v.ownBlock) W (ndV y.2.p y.1) y.2 := by
    rcases List.mem_append.1 hy with h1 | h1
    · exact h.2 y h1
    · rw [List.mem_singleton.1 h1]; exact hz
  have hy2 : InB (fun k => (lo ≤ k ∧ some k ≠ v.ownBlock) ∧ some k ≠ v'.ownBlock) W (ndV y.2.p y.1) y.2 := hy'.mono fun k hk hk2 => ⟨hk2, fun e => by
    rcases hloc with h1 | h1
    · rw [h1] at e; exact hk2.2 e
    · have := h1 k e.symm; omega⟩
  have hy3 : InB (fun k => (lo ≤ k ∧ some k ≠ v.ownBlock) ∧ some k ≠ v'.ownBlock) W' (ndV y.2.p y.1) y.2 := hy2.kept fun k hk h1 => hg k h1.1.1 hk h1.1.2
  exact hy3.mono fun k _ hk => ⟨hk.1.1, hk.2⟩
/-- what is read behind some nodes. -/
def rpre (l : List Tr) : RL → RL
  | .ok m q => .ok (l ++ m) q
  | .er e => .er e
theorem rlist_step {f : List UInt8 → RR} {s r : List UInt8} {t : Tr} (h : f s = .ok t r) (m : Nat) : rlist f (m + 1) s = rpre [t] (rlist f m r) := by
  rw [rlist, h]
  simp only
  cases rlist f m r <;> rfl
theorem rlist_er {f : List UInt8 → RR} {s : List UInt8} {i : Nat} (h : f s = .er i) (m : Nat) : rlist f (m + 1) s = .er i := by rw [rlist, h]
theorem rpre_rpre (l m : List Tr) (x : RL) : rpre l (rpre m x) = rpre (l ++ m) x := by cases x <;> simp [rpre]
/-- what has been read so far. -/
structure Chn (j : Nat) (s : List UInt8) (pre : List El) (ts : List Tr) : Prop where
  rest : ∀ m, rlist (rd j) (pre.length + m) s = rpre ts (rlist (rd j) m (restE s pre))
  len : ts.length + (restE s pre).length ≤ s.length
  num : ts.length = pre.length
theorem Chn.nil (j : Nat) (s : List UInt8) : Chn j s [] [] := ⟨fun m => by rw [List.length_nil, Nat.zero_add]; show _ = rpre [] (rlist (rd j) m s); cases rlist (rd j) m s <;> rfl, by simp [restE], rfl⟩
theorem Chn.snoc {j : Nat} {s : List UInt8} {pre : List El} {ts : List Tr} (h : Chn j s pre ts) {t : Tr} {a : Option Addr} {n c : Nat} {q : ByteArray} (hx : rd j (restE s pre) = .ok t (tx q)) : Chn j s (pre ++ [.ok t a n c q]) (ts ++ [t]) := by
  refine ⟨fun m => ?_, ?_, by simp [h.num]⟩
  · rw [List.length_append, List.length_singleton, show pre.length + 1 + m = pre.length + (m + 1) by omega, h.rest, rlist_step hx, rpre_rpre, restE_snoc]
    rfl
  · rw [restE_snoc, List.length_append, List.length_singleton]
    have h1 := rd_shorter hx
    have h2 := h.len
    show ts.length + 1 + (tx q).length ≤ _
    omega
theorem Chn.err {j : Nat} {s : List UInt8} {pre : List El} {ts : List Tr} (h : Chn j s pre ts) {i n : Nat} (hx : rd j (restE s pre) = .er i) (hn : pre.length < n) : rlist (rd j) n s = .er i := by
  rw [show n = pre.length + (n - pre.length - 1 + 1) by omega, h.rest, rlist_er hx]
  rfl
/-- what lies in memory while a list is read (w: the world at the beginning; out, wrong: blocks G + 1, G + 2). -/
structure LqI (b : Nat) (k : Int) (w : World) (v : Value) (zs : List (Value × Tr)) (ev : Value) (W : World) : Prop where
  res : Cls W w.heap.size 27 (ndL Pay.z (.slice none 0 0))
  out : Cls W (w.heap.size + 1) 27 (ndL (kP k) v)
  wr : Boxed W (w.heap.size + 1 + 1) 70 ev
  row : OwnL (w.heap.size + 1 + 1 + 1 + 1 + 1) (w.heap.size + 1 + 1 + 1 + 1 + 1) W v zs
  rdk : RdK b w W
  size : w.heap.size + 1 + 1 + 1 + 1 + 1 ≤ W.heap.size
theorem LqI.next {b : Nat} {k : Int} {w : World} {v : Value} {zs : List (Value × Tr)} {ev : Value} {A B : World} (h : LqI b k w v zs ev A) (hk : CellsKept A B) (hb : Below (w.heap.size + 1 + 1 + 1 + 1 + 1) A B) (hbw : b < w.heap.size) : LqI b k w v zs ev B :=
  ⟨hk _ _ _ _ h.res, hk _ _ _ _ h.out, hk.boxed h.wr, h.row.from (.kept hk), ⟨h.rdk.below.trans (hb.mono (by omega)), fun i h1 h2 => (hb.block i (by omega)).trans (h.rdk.blk i h1 h2)⟩, Nat.le_trans h.size hb.size⟩
theorem LqI.it {b bn : Nat} {k : Int} {w : World} {v : Value} {zs : List (Value × Tr)} {ev : Value} {A B : World} (h : LqI b k w v zs ev A) (hi : ItQ b bn A B) (hbw : b < w.heap.size) (hbn : w.heap.size + 1 + 1 + 1 < bn) (hbn2 : bn < w.heap.size + 1 + 1 + 1 + 1 + 1) : LqI b k w v zs ev B :=
  have := h.size
  ⟨(hi.blk _ (by omega) (by omega) (by omega)).trans h.res, (hi.blk _ (by omega) (by omega) (by omega)).trans h.out, (hi.blk _ (by omega) (by omega) (by omega)).trans h.wr, h.row.from (.it hi (by omega) hbn2), ⟨h.rdk.below.trans hi.below, fun i h1 h2 => (hi.blk i (by omega) h2 (by omega)).trans (h.rdk.blk i h1 h2)⟩, Nat.le_trans h.size hi.below.size⟩
theorem LqI.alloc {b : Nat} {k : Int} {w : World} {v : Value} {zs : List (Value × Tr)} {ev : Value} {A : World} (h : LqI b k w v zs ev A) (hbw : b < w.heap.size) (o : Obj) : LqI b k w v zs ev (A.alloc o) :=
  h.next (.below (below_alloc A o)) ((below_alloc A o).mono h.size) hbw
theorem LqI.wrong {b : Nat} {k : Int} {w : World} {v : Value} {zs : List (Value × Tr)} {ev : Value} {A : World} (h : LqI b k w v zs ev A) (hbw : b < w.heap.size) (u : Value) : LqI b k w v zs u (A.setCell ⟨w.heap.size + 1 + 1, 0, none⟩ u) :=
  ⟨h.res.other (by omega) _, h.out.other (by omega) _, h.wr.set _, h.row.from fun i c t fz hi hA => (Below.heap_setCell _ _ _ _ (by show i ≠ w.heap.size + 1 + 1; omega)).trans hA, ⟨h.rdk.below.setCell (p := ⟨w.heap.size + 1 + 1, 0, none⟩) (by show b ≤ w.heap.size + 1 + 1; omega) _, fun i h1 h2 => (Below.heap_setCell _ _ _ _ (by show i ≠ w.heap.size + 1 + 1; omega)).trans (h.rdk.blk i h1 h2)⟩, by rw [setCell_size]; exact h.size⟩

def actX (em ep et : Addr) (b n : Nat) (k : Int) (d : Nat) (w : World) (qx : Nat) (x : El) : Act := { tmps := #[.pointer (some ⟨b, 0, none⟩), .int .u64 n, .int .i64 k, undef, undef, undef, .pointer (some ⟨w.heap.size, 0, none⟩), .nilIface, .pointer (some ⟨w.heap.size + 1, 0, none⟩), .pointer (some ⟨w.heap.size + 1 + 1, 0, none⟩), .pointer (some ⟨qx, 0, none⟩), x.ev em ep et, .int .i64 k, .agg #[.int .i64 k, .bool false, .bool false, .string ⟨#[]⟩, .int .i64 0, .int .u64 0, .int .i64 0, .string ⟨#[]⟩, .slice none 0 0], .pointer (some ⟨b, 0, none⟩), .pointer (some ⟨b, 0, none⟩), .pointer (some ⟨b, 0, none⟩), .pointer (some ⟨b, 1, none⟩), .int .i64 d, .int .i64 ((d : Int) + 1), .pointer (some ⟨b, 0, none⟩), .pointer (some ⟨b, 0, none⟩), .pointer (some ⟨b, 1, none⟩), .pointer (some ⟨b, 0, none⟩), .int .u64 n, .func (.func 185) #[] #[.pointer (some ⟨w.heap.size + 1 + 1 + 1 + 1, 0, none⟩), .pointer (some ⟨w.heap.size + 1 + 1 + 1, 0, none⟩)], ndV x.p (.slice x.a x.n x.c), x.ev em ep et, undef, undef, undef, undef, undef, undef, undef, undef, undef, undef, undef, undef, undef, undef, undef, undef, undef, undef, undef, undef, undef, undef], defers := [] }
def actG (b n : Nat) (k : Int) (d : Nat) (w : World) (qx : Nat) (p : Pay) (s : Value) (g : Nat → Value) : Act := { tmps := #[.pointer (some ⟨b, 0, none⟩), .int .u64 n, .int .i64 k, undef, undef, undef, .pointer (some ⟨w.heap.size, 0, none⟩), .nilIface, .pointer (some ⟨w.heap.size + 1, 0, none⟩), .pointer (some ⟨w.heap.size + 1 + 1, 0, none⟩), .pointer (some ⟨qx, 0, none⟩), .nilIface, .int .i64 k, .agg #[.int .i64 k, .bool false, .bool false, .string ⟨#[]⟩, .int .i64 0, .int .u64 0, .int .i64 0, .string ⟨#[]⟩, .slice none 0 0], .pointer (some ⟨b, 0, none⟩), .pointer (some ⟨b, 0, none⟩), .pointer (some ⟨b, 0, none⟩), .pointer (some ⟨b, 1, none⟩), .int .i64 d, .int .i64 ((d : Int) + 1), .pointer (some ⟨b, 0, none⟩), .pointer (some ⟨b, 0, none⟩), .pointer (some ⟨b, 1, none⟩), .pointer (some ⟨b, 0, none⟩), .int .u64 n, .func (.func 185) #[] #[.pointer (some ⟨w.heap.size + 1 + 1 + 1 + 1, 0, none⟩), .pointer (some ⟨w.heap.size + 1 + 1 + 1, 0, none⟩)], ndV p s, .nilIface, .nilIface, .nilIface, .bool false, g 31, g 32, g 33, g 34, g 35, g 36, g 37, g 38, undef, undef, undef, undef, undef, undef, undef, undef, undef, undef, undef], defers := [] }
set_option maxRecDepth 100000 in
set_option maxHeartbeats 4000000 in
theorem rlist_calls (j : Nat) (ih : ItemC j) (em ep et : Addr) (b d : Nat) (hd : d + 1 + j = 16) (s : ByteArray) (hs : s.size ≤ 1000000) (n : Nat) (hn : n < 18446744073709551616) (k : Int) (w : World) (hR : Rd w b s d) (hE : Env em ep et b w) :
    Calls Tryz.prog 142 #[.pointer (some ⟨b, 0, none⟩), .int .u64 n, .int .i64 k] w fun e w' => Ans em ep et b d w (rnode k (rlist (rd j) n (tx s))) e w' := by
  have hprog : Tryz.prog.follows .mixedOrders = true := by kernel_rfl
  have hblt := Cls.lt hR
  have c1 := hR.cell 1 rfl
  have f1 := hR.frozen 1
  have hit := fun W => items_calls b n W
  have hdw : wrap64 ((d : Int) + 1) = ((d + 1 : Nat) : Int) := by unfold wrap64; omega
  have HX := hid (And.intro hR (And.intro hE ih))
  clear hR hE ih
  refine calls_marks Tryz.func142 rfl ?_
  simp only [Tryz.ntmps142, List.size_toArray, List.length_cons, List.length_nil, Nat.reduceAdd, Nat.reduceSub, Array.replicate_succ, Array.replicate_zero, List.push_toArray, List.append_toArray, List.nil_append, List.cons_append]
  go_wp2_with fail
  refine wp_scope_straight ?_
  go_wp2_with fail
  first | refine wp_label ?_ | refine wp_seq (wp_label ?_)
  go_wp2_with fail
  refine (hit _).mono ?_
  rintro e v1 ⟨rfl, rfl⟩
  go_wp2
  obtain ⟨hR, hE, ih⟩ := HX.out
  obtain ⟨W0, hW0, hsz0, hI0, hR0, hE0, hrc0, hbn0⟩ : ∃ W0, (((((w.setCell ⟨b, 1, none⟩ (.int .i64 ((d : Int) + 1))).alloc (.cells (ndL Pay.z (.slice none 0 0)).toArray 27)).alloc (.cells (ndL (kP k) (.slice none 0 0)).toArray 27)).alloc (.cells #[.nilIface] 70)).alloc (.cells #[.pointer (some ⟨b, 0, none⟩)] 77)).alloc (.cells #[.int .u64 n] 24) = W0 ∧ W0.heap.size = w.heap.size + 1 + 1 + 1 + 1 + 1 ∧ LqI b k w (.slice none 0 0) [] .nilIface W0 ∧ Rd W0 b s (d + 1) ∧ Env em ep et b W0 ∧ Boxed W0 (w.heap.size + 1 + 1 + 1) 77 (.pointer (some ⟨b, 0, none⟩)) ∧ Boxed W0 (w.heap.size + 1 + 1 + 1 + 1) 24 (.int .u64 n) := by
    have hK0 : RdK b w (w.setCell ⟨b, 1, none⟩ (.int .i64 ((d : Int) + 1))) := (RdK.refl b w).set 1 _
    have hr0 : Rd (w.setCell ⟨b, 1, none⟩ (.int .i64 ((d : Int) + 1))) b s (d + 1) := Cls.set hR 1 _
    have hs0 := setCell_size w ⟨b, 1, none⟩ (.int .i64 ((d : Int) + 1))
    obtain ⟨A, hA⟩ : ∃ A, w.setCell ⟨b, 1, none⟩ (.int .i64 ((d : Int) + 1)) = A := ⟨_, rfl⟩
    rw [hA] at hK0 hr0 hs0 ⊢
    have b1 := Cls.new A 27 (ndL Pay.z (.slice none 0 0))
    have b2 := Cls.new (A.alloc (.cells (ndL Pay.z (.slice none 0 0)).toArray 27)) 27 (ndL (kP k) (.slice none 0 0))
    have b3 := Boxed.new ((A.alloc (.cells (ndL Pay.z (.slice none 0 0)).toArray 27)).alloc (.cells (ndL (kP k) (.slice none 0 0)).toArray 27)) 70 .nilIface
    have b4 := Boxed.new (((A.alloc (.cells (ndL Pay.z (.slice none 0 0)).toArray 27)).alloc (.cells (ndL (kP k) (.slice none 0 0)).toArray 27)).alloc (.cells #[.nilIface] 70)) 77 (.pointer (some ⟨b, 0, none⟩))
    have b5 := Boxed.new ((((A.alloc (.cells (ndL Pay.z (.slice none 0 0)).toArray 27)).alloc (.cells (ndL (kP k) (.slice none 0 0)).toArray 27)).alloc (.cells #[.nilIface] 70)).alloc (.cells #[.pointer (some ⟨b, 0, none⟩)] 77)) 24 (.int .u64 n)
    simp only [World.size_alloc, hs0] at b1 b2 b3 b4 b5
    have hB : Below A.heap.size A (((((A.alloc (.cells (ndL Pay.z (.slice none 0 0)).toArray 27)).alloc (.cells (ndL (kP k) (.slice none 0 0)).toArray 27)).alloc (.cells #[.nilIface] 70)).alloc (.cells #[.pointer (some ⟨b, 0, none⟩)] 77)).alloc (.cells #[.int .u64 n] 24)) :=
      ((((below_alloc A _).alloc (by simp) _).alloc (by simp; omega) _).alloc (by simp; omega) _).alloc (by simp; omega) _
    have hK := hK0.trans (.of_below hB (by omega))
    exact ⟨_, rfl, by simp only [World.size_alloc, hs0], ⟨(((b1.alloc _).alloc _).alloc _).alloc _, ((b2.alloc _).alloc _).alloc _, (b3.alloc _).alloc _, OwnL.nil _ _ _, hK, by simp only [World.size_alloc, hs0]; exact Nat.le_refl _⟩, hr0.up hB, hE.rdk hK.below, b4.alloc _, b5⟩
  refine (?_ : Code.wp _ _ _ _ ((((((w.setCell ⟨b, 1, none⟩ (.int .i64 ((d : Int) + 1))).alloc (.cells (ndL Pay.z (.slice none 0 0)).toArray 27)).alloc (.cells (ndL (kP k) (.slice none 0 0)).toArray 27)).alloc (.cells #[.nilIface] 70)).alloc (.cells #[.pointer (some ⟨b, 0, none⟩)] 77)).alloc (.cells #[.int .u64 n] 24)))
  rw [hW0]
  refine rangeOverWP (gf := 185) (lb := #[.pointer (some ⟨w.heap.size + 1 + 1 + 1 + 1, 0, none⟩), .pointer (some ⟨w.heap.size + 1 + 1 + 1, 0, none⟩)]) rfl (enters_of Tryz.func185 (by kernel_rfl) rfl)
    (items_iter j ih em ep et b (d + 1) hd s hs n hn (w.heap.size + 1 + 1 + 1 + 1) (w.heap.size + 1 + 1 + 1) W0 hR0 hE0 hrc0 hbn0 (by omega) (by omega) (by omega)) (Below.refl _ _) (fun _ => rfl)
    (fun A B h => ⟨h.below.size, fun i o hi h1 h2 _ => (h.blk i (Array.getElem?_eq_some_iff.1 h1).1 (by omega) (by omega)).trans h1⟩) (fun h k => h.trans k) (fun W l o o' hl _ _ _ => KpR.putObj (B := w.heap.size + 1 + 1 + 1 + 1 + 1) (by omega) (by omega) (by omega) W l o' (by omega))
    ?hS (ownFrom_pure _ _)
    (fun pre W => ∃ v zs, LqI b k w v zs .nilIface W ∧ Chn j (tx s) pre (zs.map (·.2)))
    (fun c _ W => c = .exit 0 ∧ ∃ v zs i q, LqI b k w v zs (errV em ep et i) W ∧ Rd W b q (d + 1) ∧ q.size ≤ 1000000 ∧ rlist (rd j) n (tx s) = .er i)
    ?hI (fun _ => ?hIx) ?hII ⟨_, _, hI0, Chn.nil _ _⟩
    (fun x a' W => ∃ qx, w.heap.size + 1 + 1 + 1 + 1 + 1 ≤ qx ∧ qx < W.heap.size ∧ Cls W qx 27 (ndL x.p (.slice x.a x.n x.c)) ∧ Rd W b x.q (d + 1) ∧ x.q.size ≤ 1000000 ∧ a' = actX em ep et b n k d w qx x ∧
      ∀ t a n' c q, x = .ok t a n' c q → ∃ v, Cls W (w.heap.size + 1) 27 (ndL (kP k) v) ∧ some qx ≠ v.ownBlock ∧ InB (fun i => w.heap.size + 1 + 1 + 1 + 1 + 1 ≤ i ∧ some i ≠ v.ownBlock) W (ndV t.p (.slice a n' c)) t)
    ?hAx ?assign ?body ?done ?stop
  case hS => exact ownFrom_of (fun xs W W' h hk hb => ⟨h.1, Nat.le_trans h.2.1 hb.size, h.2.2.imp fun q hq => ⟨hk _ _ _ _ hq.1, hq.2⟩⟩) (fun xs W h => h.2.1)
  case hI => exact ownFrom_of (fun pre W W' ⟨v, zs, h1, h2⟩ hk hb => ⟨v, zs, h1.next hk (hb.mono (by omega)) hblt, h2⟩) (fun pre W ⟨v, zs, h1, _⟩ => by rw [hsz0]; exact h1.size)
  case hIx => exact ownFrom_of (fun pre W W' ⟨e, v, zs, i, q, h1, h2, h3⟩ hk hb => ⟨e, v, zs, i, q, h1.next hk (hb.mono (by omega)) hblt, hk _ _ _ _ h2, h3⟩) (fun pre W ⟨_, v, zs, i, q, h1, _⟩ => by rw [hsz0]; exact h1.size)
  case hII => exact fun pre A B ⟨v, zs, h1, h2⟩ hi => ⟨v, zs, h1.it hi hblt (by omega) (by omega), h2⟩
  case hAx => exact fun x a' => ownFrom_of (fun _ W W' ⟨qx, g1, g2, g3, g4, g5, g6, g7⟩ hk hb => ⟨qx, g1, Nat.lt_of_lt_of_le g2 hb.size, hk _ _ _ _ g3, hk _ _ _ _ g4, g5, g6, fun t a n' c q e => (g7 t a n' c q e).imp fun v ⟨y1, y2, y3⟩ => ⟨hk _ _ _ _ y1, y2, y3.from (fun _ hi => hi.1) (.kept hk)⟩⟩) (fun _ W ⟨qx, g1, g2, _⟩ => by omega)
  case assign =>
    rintro l pre x A W K' ⟨v, zs, hA1, hA2⟩ hti hi hokp ⟨hr, hxs, hin⟩ hK'
    have hAl := below_alloc W (.cells (ndL x.p (.slice x.a x.n x.c)).toArray 27)
    have hC := Cls.new W 27 (ndL x.p (.slice x.a x.n x.c))
    have hOut := (hA1.it hti hblt (by omega) (by omega)).out
    have hown : ∀ i, v.ownBlock = some i → i < A.heap.size := fun i e => (hA1.row.1.lt i e).2
    have hsA := hti.below.size
    obtain ⟨v', zs', hW1, hW2⟩ := hi
    have hsz := hW1.size
    have hsz1 := hA1.size
    have HV := hid (And.intro hAl (And.intro hC (And.intro hOut (And.intro hown (And.intro hW1 (And.intro hW2 (And.intro hr (And.intro hxs (And.intro hin (And.intro hsA (And.intro hsz hsz1)))))))))))
    clear hAl hC hOut hown hW1 hW2 hr hxs hin hsA hsz hsz1 hA1 hA2 hti hokp hR hE ih hI0 hR0 hE0 hrc0 hbn0 hit HX hW0 hdw
    simp only [encE, ndV, ndL] at hK' ⊢
    gi_wp2
    obtain ⟨hAl, hC, hOut, hown, hW1, hW2, hr, hxs, hin, hsA, hsz, hsz1⟩ := HV.out
    refine hK' _ _ ((KeepsOthers.alloc W _).from _) ⟨hAl.mono (by omega), hAl.block _ (by omega), hAl.block _ (by omega)⟩ ⟨v', zs', hW1.alloc hblt _, hW2⟩ ⟨W.heap.size, hsz, by simp, hC, hr.up hAl, hxs, rfl, fun t a n' c q e => ⟨v, hOut.alloc _, fun e2 => (by have := hown _ e2.symm; omega), ((hin t a n' c q e).mono fun i _ hi => ⟨Nat.le_trans hsz1 hi, fun e2 => (by have := hown _ e2.symm; omega)⟩).up hAl⟩⟩
  case body =>
    rintro l pre x a' W hl ⟨v, zs, hI, hCh⟩ ⟨qx, g1, g2, g3, g4, g5, rfl, g7⟩ ⟨hpn, hrd⟩
    clear hR hE ih hI0 hR0 hE0 hrc0 hbn0 hit HX hW0 hdw
    have c0 := hI.wr.cell
    have z0 := hI.wr.frozen
    cases x with
    | er i p a n' c q =>
      have HV := hid (And.intro hI (And.intro g4 (And.intro g5 (hCh.err hrd hpn))))
      clear hI g1 g2 g3 g4 g5 g7 hCh hpn hrd
      obtain ⟨ad, had⟩ : ∃ ad, errV em ep et i = .iface 251 (.pointer (some ad)) := ⟨_, rfl⟩
      simp only [actX, El.ev, El.p, El.a, El.n, El.c]
      rw [had]
      gi_wp2
      obtain ⟨hI, g4, g5, he⟩ := HV.out
      rw [← had]
      exact ⟨(KeepsOthers.setCell _ _ _).from _, rfl, v, zs, i, q, hI.wrong hblt _, Cls.other g4 (by omega) _, g5, he⟩
    | ok t a n' c q =>
      obtain ⟨v2, y1, y2, y3⟩ := g7 t a n' c q rfl
      obtain rfl : v = v2 := by
        have := hI.out.symm.trans y1
        simpa [Cls, ndL] using this
      have hb0 := hI.row.1.lt
      have hszW := hI.size
      have hI1 := hI.wrong hblt .nilIface
      have hX1 : Cls (W.setCell ⟨w.heap.size + 1 + 1, 0, none⟩ .nilIface) qx 27 (ndL t.p (.slice a n' c)) := Cls.other g3 (by omega) _
      have hR1 : Rd (W.setCell ⟨w.heap.size + 1 + 1, 0, none⟩ .nilIface) b q (d + 1) := Cls.other g4 (by omega) _
      have hin1 : InB (fun i => w.heap.size + 1 + 1 + 1 + 1 + 1 ≤ i ∧ some i ≠ v.ownBlock) (W.setCell ⟨w.heap.size + 1 + 1, 0, none⟩ .nilIface) (ndV t.p (.slice a n' c)) t := y3.kept fun i _ hi => Below.heap_setCell _ _ _ _ (by show i ≠ w.heap.size + 1 + 1; have := hi.1; omega)
      have hCn := hCh.snoc (a := a) (n := n') (c := c) hrd
      have hlen : zs.length ≤ 1000000 := by
        have h1 := hCh.len
        rw [List.length_map, txs_len] at h1
        omega
      have HV := hid (And.intro hI1 (And.intro hX1 (And.intro hR1 (And.intro hin1 (And.intro hCn (And.intro hb0 (And.intro hlen (And.intro hszW (And.intro g1 (And.intro g2 (And.intro y2 ((KeepsOthers.setCell W _ _ : KeepsOthers W (W.setCell ⟨w.heap.size + 1 + 1, 0, none⟩ .nilIface)))))))))))))) 
      clear hI hI1 hX1 hR1 hin1 hCn hb0 hszW g1 g2 g3 g4 g5 g7 hCh hpn hrd y1 y2 y3
      simp only [actX, El.ev, El.p, El.a, El.n, El.c]
      gi_wp2_with fail
      refine wpIn_region_any hprog ?_
      refine wpAnyIn_inv (fun listed a0 Wx => ∃ g, a0 = actG b n k d w qx t.p (.slice a n' c) g ∧ ApI k (w.heap.size + 1) (w.heap.size + 1 + 1 + 1 + 1 + 1) v zs t.p (.slice a n' c) (W.setCell ⟨w.heap.size + 1 + 1, 0, none⟩ .nilIface) listed g Wx) ?step ?fin _ _ _ _ ⟨fun _ => undef, rfl, ?ini⟩ (by unfold unl; exact Nat.le_trans (List.length_filter_le ..) (by simp))
      case ini => exact ApI.ini rfl (Below.refl _ _).drew
      case step =>
       rintro listed a0 Wx i ⟨g, rfl, h⟩ hi
       have hi10 : i < 10 := by
         obtain ⟨_, o, ho, _⟩ := mem_ready.1 hi
         exact (Array.getElem?_eq_some_iff.1 ho).1
       have hun : listed.getD i false = false := by
         have h1 := (mem_ready.1 hi).1
         simp only [Array.getD_eq_getD_getElem?] at h1 ⊢
         rw [Array.getElem?_eq_getElem (by rw [h.sz]; exact hi10)] at h1 ⊢
         exact h1
       obtain ⟨hI1, hX1, hR1, hin1, hCn, hb0, hlen, hszW, g1, g2, y2, -⟩ := HV.out
       have hOut := hI1.out
       have hrow := hI1.row.1
       have hsz2 := setCell_size W ⟨w.heap.size + 1 + 1, 0, none⟩ .nilIface
       rcases (show i = 0 ∨ i = 1 ∨ i = 2 ∨ i = 3 ∨ i = 4 ∨ i = 5 ∨ i = 6 ∨ i = 7 ∨ i = 8 ∨ i = 9 by omega) with rfl | rfl | rfl | rfl | rfl | rfl | rfl | rfl | rfl | rfl
       · refine wpOpIn_ofK rfl rfl fun K hK => ?_
         simp only [actG]
         go_simp
         exact hK.out _ _ ⟨upd g 31 (.pointer (some ⟨w.heap.size + 1, 8, none⟩)), by simp [actG, upd], h.s0⟩
       · refine wpOpIn_ofK rfl rfl fun K hK => ?_
         have e31 := h.v0 (ready_needs hi 0 (by kernel_rfl))
         have n5 : listed.getD 5 false = false := by
           cases e : listed.getD 5 false with
           | false => rfl
           | true => rw [h.d51 e] at hun; cases hun
         have c8 := (hOut.below (h.early n5).1).cell 8 rfl
         simp only [actG, e31]
         go_simp
         exact hK.out _ _ ⟨upd g 32 (v), by simp [actG, upd, e31], h.s1⟩
       · refine wpOpIn_ofK rfl rfl fun K hK => ?_
         have hXx : Cls Wx qx 27 (ndL t.p (.slice a n' c)) := by
           cases e : listed.getD 5 false with
           | false => exact hX1.below (h.early e).1
           | true =>
             obtain ⟨gb, cp, -, -, -, -, hK⟩ := h.late e
             exact (hK.blk qx (by omega) (by omega) y2).trans hX1
         obtain ⟨x0, x1, x2, x3, x4, x5, x6, x7, x8⟩ := hXx.nine
         simp only [actG]
         go_simp
         exact hK.out _ _ ⟨upd g 33 (ndV t.p (.slice a n' c)), by simp [actG, upd, ndV, ndL], h.s2⟩
       · refine wpOpIn_ofK rfl rfl fun K hK => ?_
         have e32 := h.v1 (ready_needs hi 1 (by kernel_rfl))
         obtain ⟨va, vc, ev, -, -⟩ := hI1.row.shape
         rw [ev] at e32
         simp only [actG, e32]
         go_simp
         exact hK.out _ _ ⟨upd g 34 (.int .i64 (zs.length : Nat)), by simp [actG, upd, e32], h.s3⟩
       · refine wpOpIn_ofK rfl rfl fun K hK => ?_
         have n5 : listed.getD 5 false = false := by
           cases e : listed.getD 5 false with
           | false => rfl
           | true => rw [h.d5 e] at hun; cases hun
         simp only [actG]
         go_simp
         exact hK.out _ _ ⟨upd g 35 (.slice (some ⟨Wx.heap.size, 0, none⟩) 1 1), by simp [actG, upd], h.s4 n5⟩
       · refine wpOpIn_ofK rfl rfl fun K hK => ?_
         have h4 := ready_needs hi 4 (by kernel_rfl)
         have h1 := ready_needs hi 1 (by kernel_rfl)
         obtain ⟨hB, -, -⟩ := h.early hun
         obtain ⟨bb, e35, hbb⟩ := h.v4 h4 hun
         have e32 := h.v1 h1
         obtain ⟨i0, hi0, hz0, hz1, hz2⟩ := info_parts info_node
         have hrowx : Wx.ownsRow (w.heap.size + 1 + 1 + 1 + 1 + 1) 27 9 v zs.length (zsC zs) := hrow.kept (row := none) ⟨hB.os, hB.tape, hB.output, hB.size, fun i hi _ => hB.block i hi⟩ (by cases v.ownBlock <;> simp)
         obtain ⟨v', W', hr, hown', hgrow, -, hloc⟩ := run_append_own_at (P := Tryz.prog) Wx (w.heap.size + 1 + 1 + 1 + 1 + 1) 25 25 27 i0 (.agg #[.int .i64 0, .bool false, .bool false, .string ⟨#[]⟩, .int .i64 0, .int .u64 0, .int .i64 0, .string ⟨#[]⟩, .slice none 0 0]) 9 104 Tryz.underlying25 hi0 hz0 hz1 hz2 rfl (by decide) v zs.length (zsC zs) hrowx ⟨bb, 0, none⟩ 1 1 (ndL Pay.z (.slice none 0 0)) rfl (fun j u hj => by rw [Go.Addr.add_lit, Nat.zero_add]; exact hbb.cell j hj) (ndL_oneCell _ _ _ _) (by simp only [maxLen]; omega) (by omega) (by have := hB.size; omega)
         refine append_opIn (.tmp 32) (.tmp 35) 25 rfl (show g 32 = v from e32) (show g 35 = _ from e35) hr ?_
         exact hK.out _ _ ⟨upd g 36 v', rfl, h.s5 hun h4 h1 (fun i e => (hrow.lt i e).1) (by omega) (by omega) hOut hown' hgrow hloc⟩
       · refine wpOpIn_ofK rfl rfl fun K hK => ?_
         have h5 := ready_needs hi 5 (by kernel_rfl)
         have e34 := h.v3 (ready_needs hi 3 (by kernel_rfl))
         obtain ⟨gb, cp, e36, hown', -⟩ := h.late h5
         have hlz1 : (0 : Int) ≤ (zs.length : Nat) := by omega
         have hlz2 : (zs.length : Int) < (zs.length : Int) + 1 := by omega
         simp only [actG, e34, e36]
         go_simp
         exact hK.out _ _ ⟨upd g 37 (.pointer (some ⟨gb, zs.length * 9, none⟩)), by simp [actG, upd, e34, e36], h.s6 e36 h5⟩
       · refine wpOpIn_ofK rfl rfl fun K hK => ?_
         have h5 := ready_needs hi 5 (by kernel_rfl)
         have e33 := h.v2 (ready_needs hi 2 (by kernel_rfl))
         obtain ⟨gb, cp, e36, e37⟩ := h.v6 (ready_needs hi 6 (by kernel_rfl))
         obtain ⟨gb', cp', e36', hown', -⟩ := h.late h5
         obtain ⟨rfl, rfl⟩ : gb = gb' ∧ cp = cp' := by
           rw [e36] at e36'
           simp only [Value.slice.injEq, Option.some.injEq, Addr.mk.injEq, and_true, true_and] at e36'
           exact e36'
         obtain ⟨x0, x1, x2, x3, x4, x5, x6, x7, x8⟩ := (row_nine hown' (zsC_len zs)).cells
         have q0 := hown'.frozenAt (zs.length * 9)
         have q1 := hown'.frozenAt (zs.length * 9 + 1)
         have q2 := hown'.frozenAt (zs.length * 9 + 2)
         have q3 := hown'.frozenAt (zs.length * 9 + 3)
         have q4 := hown'.frozenAt (zs.length * 9 + 4)
         have q5 := hown'.frozenAt (zs.length * 9 + 5)
         have q6 := hown'.frozenAt (zs.length * 9 + 6)
         have q7 := hown'.frozenAt (zs.length * 9 + 7)
         have q8 := hown'.frozenAt (zs.length * 9 + 8)
         simp only [actG, e33, e37, ndV, ndL]
         go_simp
         exact hK.out _ _ ⟨g, (by simp [actG, e33, e37, ndV, ndL]; exact e36.symm), h.s7 e36 h5 (by omega)⟩
       · refine wpOpIn_ofK rfl rfl fun K hK => ?_
         simp only [actG]
         go_simp
         exact hK.out _ _ ⟨upd g 38 (.pointer (some ⟨w.heap.size + 1, 8, none⟩)), by simp [actG, upd], h.s8⟩
       · refine wpOpIn_ofK rfl rfl fun K hK => ?_
         have h5 := ready_needs hi 5 (by kernel_rfl)
         have e38 := h.v8 (ready_needs hi 8 (by kernel_rfl))
         obtain ⟨gb, cp, e36, hown', hO', -⟩ := h.late h5
         have c8 := hO'.cell 8 rfl
         have z8 := hO'.frozen 8
         simp only [actG, e38, e36]
         go_simp
         exact hK.out _ _ ⟨g, (by simp [actG, e38]; exact e36.symm), h.s9 e36 h5 (by omega)⟩
      case fin =>
        rintro listed a0 Wx ⟨g, rfl, h⟩ hr
        have hall := ready_done (by decide +kernel) h.sz hr
        obtain ⟨gb, cp, e36, hown', hO', hloc, hK⟩ := h.late (hall 5 (by decide))
        rw [hall 7 (by decide)] at hown'
        rw [hall 9 (by decide)] at hO'
        obtain ⟨hI1, hX1, hR1, hin1, hCn, hb0, hlen, hszW, g1, g2, y2, hKO⟩ := HV.out
        have hsz2 := setCell_size W ⟨w.heap.size + 1 + 1, 0, none⟩ .nilIface
        have hO2 : Cls Wx (w.heap.size + 1) 27 (ndL (kP k) (.slice (some ⟨gb, 0, none⟩) (zs.length + 1) cp)) := hO'
        have hv' : ∀ i, (Value.slice (some ⟨gb, 0, none⟩) (zs.length + 1) cp).ownBlock = some i → i = gb := fun i e => (Option.some.inj e).symm
        have hgbl := hown'.lt gb rfl
        have hoN : (Value.slice (some ⟨gb, 0, none⟩) (zs.length + 1) cp).ownBlock = v.ownBlock ∨ ∀ i, (Value.slice (some ⟨gb, 0, none⟩) (zs.length + 1) cp).ownBlock = some i → (W.setCell ⟨w.heap.size + 1 + 1, 0, none⟩ .nilIface).heap.size ≤ i := hloc.imp id fun e i e2 => by rw [hv' i e2]; exact e
        have hle := hK.size
        have hbn : ∀ i, v.ownBlock = some i → w.heap.size + 1 + 1 + 1 + 1 + 1 ≤ i := fun i e => (hb0 i e).1
        have hsn := hI1.row.snoc2 (z := (.slice a n' c, t)) hin1 hown' (fun i h1 h2 h3 => hK.blk i h2 (by omega) h3) hoN
        have hBl : Below (b + 1) (W.setCell ⟨w.heap.size + 1 + 1, 0, none⟩ .nilIface) Wx := hK.below (by omega) (by omega) (fun i e => by have := hbn i e; omega)
        have hBs : Below (b + 1) W (W.setCell ⟨w.heap.size + 1 + 1, 0, none⟩ .nilIface) := (Below.refl _ _).setCell (p := ⟨w.heap.size + 1 + 1, 0, none⟩) (by show b + 1 ≤ w.heap.size + 1 + 1; omega) _
        have nb : ∀ i, i < w.heap.size + 1 + 1 + 1 + 1 + 1 → some i ≠ v.ownBlock := fun i hi e => by have := hbn i e.symm; omega
        have kb : ∀ i, i < w.heap.size + 1 + 1 + 1 + 1 + 1 → i ≠ w.heap.size + 1 → i ≠ w.heap.size + 1 + 1 → Wx.heap[i]? = W.heap[i]? := fun i h1 h2 h3 => (hK.blk i (by omega) h2 (nb i h1)).trans (Below.heap_setCell _ _ _ _ h3)
        refine ⟨⟨Nat.le_trans hKO.size hK.size, fun i o hi hio hoc => ?_⟩, ⟨hBs.trans hBl, kb _ (by omega) (by omega) (by omega), kb _ (by omega) (by omega) (by omega)⟩, _, zs ++ [(.slice a n' c, t)], ⟨?_, hO2, ?_, hsn, ?_, by omega⟩, by rw [List.map_append]; exact hCn⟩
        · have hil := (Array.getElem?_eq_some_iff.1 hio).1
          refine (hK.blk i (by omega) (fun e => by omega) (fun e => ?_)).trans (hKO.same i o hio hoc)
          rcases hI1.row.1.2 with ⟨e1, _⟩ | ⟨g', _, _, e1, _, e3, _⟩
          · rw [e1] at e; cases e
          · rw [e1] at e
            obtain rfl : i = g' := Option.some.inj e
            have h4 := hKO.same i o hio hoc
            rw [e3] at h4
            cases h4
            cases hoc
        · exact (hK.blk _ (by omega) (by omega) (nb _ (by omega))).trans hI1.res
        · exact (hK.blk _ (by omega) (by omega) (nb _ (by omega))).trans hI1.wr
        · exact ⟨hI1.rdk.below.trans (hBl.mono (by omega)), fun i h1 h2 => (hK.blk i (by omega) (by omega) (nb i (by omega))).trans (hI1.rdk.blk i h1 h2)⟩
  case done =>
    rintro D xs W hD ⟨hxl, -, q, hRd, hq⟩ ⟨v, zs, hI, hCh⟩ hK
    have hx : rlist (rd j) n (tx s) = .ok (zs.map (·.2)) (tx q) := by
      have h1 := hCh.rest 0
      rw [Nat.add_zero, hxl] at h1
      rw [h1, hq]
      simp [rlist, rpre]
    have c1 := hRd.cell 1 rfl
    have f1 := hRd.frozen 1
    have hdw : wrap64 (((d + 1 : Nat) : Int) - 1) = (d : Int) := by unfold wrap64; omega
    have hszx := hI.size
    obtain ⟨va, vc, rfl, -, -⟩ := hI.row.shape
    obtain ⟨W2, hW2, hRd2, ho2, hr2, hw2, hrow2, hK2, hD2⟩ : ∃ W2, W.setCell ⟨b, 1, none⟩ (.int .i64 (d : Int)) = W2 ∧ Rd W2 b q d ∧ Cls W2 (w.heap.size + 1) 27 (ndL (kP k) (.slice va zs.length vc)) ∧ Cls W2 (w.heap.size) 27 (ndL Pay.z (.slice none 0 0)) ∧ Boxed W2 (w.heap.size + 1 + 1) 70 (.nilIface) ∧ OwnL (w.heap.size + 1 + 1 + 1 + 1 + 1) (w.heap.size + 1 + 1 + 1 + 1 + 1) W2 (.slice va zs.length vc) zs ∧ RdK b w W2 ∧ W2.heap[D]? = some (.deferred (some [])) :=
      ⟨_, rfl, Cls.set hRd 1 _, hI.out.other (by omega) _, hI.res.other (by omega) _, boxed_other hI.wr (by omega) _, hI.row.from fun i c t fz hi hA => (Below.heap_setCell _ _ _ _ (by show i ≠ b; omega)).trans hA, hI.rdk.set 1 _, (Below.heap_setCell _ _ _ _ (by show D ≠ b; omega)).trans hK⟩
    have hsz2 := setCell_size W ⟨b, 1, none⟩ (.int .i64 (d : Int))
    rw [hW2] at hsz2
    obtain ⟨o0, o1, o2, o3, o4, o5, o6, o7, o8⟩ : _ ∧ _ ∧ _ ∧ _ ∧ _ ∧ _ ∧ _ ∧ _ ∧ _ := ⟨ho2.cell 0 rfl, ho2.cell 1 rfl, ho2.cell 2 rfl, ho2.cell 3 rfl, ho2.cell 4 rfl, ho2.cell 5 rfl, ho2.cell 6 rfl, ho2.cell 7 rfl, ho2.cell 8 rfl⟩
    obtain ⟨y0, y1, y2, y3, y4, y5, y6, y7, y8⟩ : _ ∧ _ ∧ _ ∧ _ ∧ _ ∧ _ ∧ _ ∧ _ ∧ _ := ⟨hr2.cell 0 rfl, hr2.cell 1 rfl, hr2.cell 2 rfl, hr2.cell 3 rfl, hr2.cell 4 rfl, hr2.cell 5 rfl, hr2.cell 6 rfl, hr2.cell 7 rfl, hr2.cell 8 rfl⟩
    obtain ⟨v0, v1, v2, v3, v4, v5, v6, v7, v8⟩ := hr2.frozens
    have cw := hw2.cell
    have HV := hid (And.intro hRd2 (And.intro ho2 (And.intro hr2 (And.intro hrow2 (And.intro hK2 (And.intro hD2 (And.intro hD (And.intro hszx (And.intro hsz2 (hx))))))))))
    clear hRd2 ho2 hr2 hw2 hrow2 hK2 hD2 hI hCh hD hszx hsz2 hRd hK hR hE ih hI0 hR0 hE0 hrc0 hbn0 hit HX hW0 hxl hq hx
    simp only [kP, Pay.z] at o0 o1 o2 o3 o4 o5 o6 o7 o8 y0 y1 y2 y3 y4 y5 y6 y7 y8
    go_wp2_with fail
    clear c1 f1
    go_region
    go_wp2
    obtain ⟨hRd2, ho2, hr2, hrow2, hK2, hD2, hD, hszx, hsz2, hans⟩ := HV.out
    obtain ⟨W5, hW5, hC5, hr5, hin5, hK5, hD5, hs5⟩ : ∃ W5, putN W2 (w.heap.size) 0 (kP k) (.slice va zs.length vc) = W5 ∧ Cls W5 (w.heap.size) 27 (ndL (kP k) (.slice va zs.length vc)) ∧ Rd W5 b q d ∧ InB (fun i => w.heap.size + 1 + 1 + 1 + 1 + 1 ≤ i) W5 (ndV (kP k) (.slice va zs.length vc)) (.nd (kP k) (zs.map (·.2))) ∧ RdK b w W5 ∧ W5.heap[D]? = some (.deferred (some [])) ∧ W5.heap.size = W2.heap.size :=
      ⟨_, rfl, hr2.putN, Cls.putN_other hRd2 (by omega), (hrow2.inB (Nat.le_refl _) (kP k)).kept fun i _ (hi : w.heap.size + 1 + 1 + 1 + 1 + 1 ≤ i) => putN_other _ _ _ _ _ (by omega), hK2.putN (Nat.le_refl _) hblt _ _, (putN_other _ _ _ _ _ (by omega)).trans hD2, putN_size _ _ _ _ _⟩
    refine bp_at (W' := W5.drew) ?_ (congrArg World.drew hW5.symm)
    rw [Exit.noGoto_ret]
    refine ⟨by simp, .inl ⟨_, _, rfl, run_takeDeferred (w := W5.drew) hD5, ?_⟩⟩
    obtain ⟨W6, hW6, hk6, hK6⟩ : ∃ W6, W5.drew.putObj D (.deferred none) = W6 ∧ CellsKept W5 W6 ∧ RdK b w W6 :=
      ⟨_, rfl, CellsKept.putObj _ (show W5.drew.heap[D]? = _ from hD5) rfl, ⟨hK5.below.trans ⟨rfl, rfl, rfl, by rw [World.putObj_size]; exact Nat.le_refl _, fun i hi => World.putObj_heap_other (by omega)⟩, fun i h1 h2 => (World.putObj_heap_other (by omega)).trans (hK5.blk i h1 h2)⟩⟩
    rw [hW6]
    obtain ⟨f0, f1, f2, f3, f4, f5, f6, f7, f8⟩ := Cls.nine (hk6 _ _ _ _ hC5)
    refine ⟨.tuple #[ndV (kP k) (.slice va zs.length vc), .nilIface], by simp [results, Tryz.results142, go_sem, f0, f1, f2, f3, f4, f5, f6, f7, f8, ndV, ndL], hK6, .inl ⟨.nd (kP k) (zs.map (·.2)), q, va, zs.length, vc, by rw [hans]; rfl, rfl, (hin5.from (fun _ h => h) (.kept hk6)).mono fun i _ (hi : w.heap.size + 1 + 1 + 1 + 1 + 1 ≤ i) => by omega, hk6 _ _ _ _ hr5⟩⟩
  case stop =>
    rintro D c xs W hD - ⟨rfl, v, zs, i, q, hI, hRd, hqs, hx⟩ hK
    obtain ⟨ad, had⟩ : ∃ ad, errV em ep et i = .iface 251 (.pointer (some ad)) := ⟨_, rfl⟩
    rw [had] at hI
    have hCh := hx
    have c1 := hRd.cell 1 rfl
    have f1 := hRd.frozen 1
    have hdw : wrap64 (((d + 1 : Nat) : Int) - 1) = (d : Int) := by unfold wrap64; omega
    have hszx := hI.size
    obtain ⟨va, vc, rfl, -, -⟩ := hI.row.shape
    obtain ⟨W2, hW2, hRd2, ho2, hr2, hw2, hrow2, hK2, hD2⟩ : ∃ W2, W.setCell ⟨b, 1, none⟩ (.int .i64 (d : Int)) = W2 ∧ Rd W2 b q d ∧ Cls W2 (w.heap.size + 1) 27 (ndL (kP k) (.slice va zs.length vc)) ∧ Cls W2 (w.heap.size) 27 (ndL Pay.z (.slice none 0 0)) ∧ Boxed W2 (w.heap.size + 1 + 1) 70 (.iface 251 (.pointer (some ad))) ∧ OwnL (w.heap.size + 1 + 1 + 1 + 1 + 1) (w.heap.size + 1 + 1 + 1 + 1 + 1) W2 (.slice va zs.length vc) zs ∧ RdK b w W2 ∧ W2.heap[D]? = some (.deferred (some [])) :=
      ⟨_, rfl, Cls.set hRd 1 _, hI.out.other (by omega) _, hI.res.other (by omega) _, boxed_other hI.wr (by omega) _, hI.row.from fun i c t fz hi hA => (Below.heap_setCell _ _ _ _ (by show i ≠ b; omega)).trans hA, hI.rdk.set 1 _, (Below.heap_setCell _ _ _ _ (by show D ≠ b; omega)).trans hK⟩
    have hsz2 := setCell_size W ⟨b, 1, none⟩ (.int .i64 (d : Int))
    rw [hW2] at hsz2
    obtain ⟨o0, o1, o2, o3, o4, o5, o6, o7, o8⟩ : _ ∧ _ ∧ _ ∧ _ ∧ _ ∧ _ ∧ _ ∧ _ ∧ _ := ⟨ho2.cell 0 rfl, ho2.cell 1 rfl, ho2.cell 2 rfl, ho2.cell 3 rfl, ho2.cell 4 rfl, ho2.cell 5 rfl, ho2.cell 6 rfl, ho2.cell 7 rfl, ho2.cell 8 rfl⟩
    obtain ⟨y0, y1, y2, y3, y4, y5, y6, y7, y8⟩ : _ ∧ _ ∧ _ ∧ _ ∧ _ ∧ _ ∧ _ ∧ _ ∧ _ := ⟨hr2.cell 0 rfl, hr2.cell 1 rfl, hr2.cell 2 rfl, hr2.cell 3 rfl, hr2.cell 4 rfl, hr2.cell 5 rfl, hr2.cell 6 rfl, hr2.cell 7 rfl, hr2.cell 8 rfl⟩
    obtain ⟨v0, v1, v2, v3, v4, v5, v6, v7, v8⟩ := hr2.frozens
    have cw := hw2.cell
    have HV := hid (And.intro hRd2 (And.intro ho2 (And.intro hr2 (And.intro hrow2 (And.intro hK2 (And.intro hD2 (And.intro hD (And.intro hszx (And.intro hsz2 (And.intro hx (And.intro hqs had)))))))))))
    clear hRd2 ho2 hr2 hw2 hrow2 hK2 hD2 hI hCh hD hszx hsz2 hRd hK hR hE ih hI0 hR0 hE0 hrc0 hbn0 hit HX hW0 hqs hx
    simp only [kP, Pay.z] at o0 o1 o2 o3 o4 o5 o6 o7 o8 y0 y1 y2 y3 y4 y5 y6 y7 y8
    go_wp2_with fail
    clear c1 f1
    go_region
    go_wp2
    obtain ⟨hRd2, ho2, hr2, hrow2, hK2, hD2, hD, hszx, hsz2, hans⟩ := HV.out
    obtain ⟨W5, hW5, hC5, hr5, hin5, hK5, hD5, hs5⟩ : ∃ W5, putN W2 (w.heap.size) 0 (kP k) (.slice va zs.length vc) = W5 ∧ Cls W5 (w.heap.size) 27 (ndL (kP k) (.slice va zs.length vc)) ∧ Rd W5 b q d ∧ InB (fun i => w.heap.size + 1 + 1 + 1 + 1 + 1 ≤ i) W5 (ndV (kP k) (.slice va zs.length vc)) (.nd (kP k) (zs.map (·.2))) ∧ RdK b w W5 ∧ W5.heap[D]? = some (.deferred (some [])) ∧ W5.heap.size = W2.heap.size :=
      ⟨_, rfl, hr2.putN, Cls.putN_other hRd2 (by omega), (hrow2.inB (Nat.le_refl _) (kP k)).kept fun i _ (hi : w.heap.size + 1 + 1 + 1 + 1 + 1 ≤ i) => putN_other _ _ _ _ _ (by omega), hK2.putN (Nat.le_refl _) hblt _ _, (putN_other _ _ _ _ _ (by omega)).trans hD2, putN_size _ _ _ _ _⟩
    refine bp_at (W' := W5.drew) ?_ (congrArg World.drew hW5.symm)
    rw [Exit.noGoto_ret]
    refine ⟨by simp, .inl ⟨_, _, rfl, run_takeDeferred (w := W5.drew) hD5, ?_⟩⟩
    obtain ⟨W6, hW6, hk6, hK6⟩ : ∃ W6, W5.drew.putObj D (.deferred none) = W6 ∧ CellsKept W5 W6 ∧ RdK b w W6 :=
      ⟨_, rfl, CellsKept.putObj _ (show W5.drew.heap[D]? = _ from hD5) rfl, ⟨hK5.below.trans ⟨rfl, rfl, rfl, by rw [World.putObj_size]; exact Nat.le_refl _, fun i hi => World.putObj_heap_other (by omega)⟩, fun i h1 h2 => (World.putObj_heap_other (by omega)).trans (hK5.blk i h1 h2)⟩⟩
    rw [hW6]
    obtain ⟨f0, f1, f2, f3, f4, f5, f6, f7, f8⟩ := Cls.nine (hk6 _ _ _ _ hC5)
    refine ⟨.tuple #[ndV (kP k) (.slice va zs.length vc), .iface 251 (.pointer (some ad))], by simp [results, Tryz.results142, go_sem, f0, f1, f2, f3, f4, f5, f6, f7, f8, ndV, ndL], hK6, .inr ⟨i, kP k, va, zs.length, vc, q, by rw [hans.1]; rfl, by rw [hans.2.2], hk6 _ _ _ _ hr5, hans.2.1⟩⟩
end Go.Proofs.YtpjlepkdiaohiaaGreatDoor

/- Package mpr: what the walks are given of the package-level variables. -/
namespace Go.Proofs.YtpjlepkdiaohiaaGreatDoor
open Go.RowKit

/-- .. the reader's sentinels among them. -/
structure ErrQ (w : World) (em ep et : Addr) : Prop where
  cells : ErrT w em ep et
  h0 : ∃ c t, w.heap[em.block]? = some (.cells c t (0, 0))
  h1 : ∃ c t, w.heap[ep.block]? = some (.cells c t (0, 0))
  h2 : ∃ c t, w.heap[et.block]? = some (.cells c t (0, 0))
  n01 : em ≠ ep
  n02 : em ≠ et
  n12 : ep ≠ et
theorem ErrQ.below {w w' : World} {em ep et : Addr} (h : ErrQ w em ep et) (hb : Below w.heap.size w w') : ErrQ w' em ep et :=
  ⟨h.cells.below hb, h.h0.imp fun _ h => h.imp fun _ h => heap_kept hb h, h.h1.imp fun _ h => h.imp fun _ h => heap_kept hb h, h.h2.imp fun _ h => h.imp fun _ h => heap_kept hb h, h.n01, h.n02, h.n12⟩
structure TabQ (w : World) (ea eb : Addr) : Prop where
  tab : TabT w ea eb
  err : ∃ em ep et, ErrQ w em ep et
theorem TabQ.below {w w' : World} {ea eb : Addr} (h : TabQ w ea eb) (hb : Below w.heap.size w w') : TabQ w' ea eb :=
  ⟨h.tab.below hb, h.err.imp fun _ h => h.imp fun _ h => h.imp fun _ h => h.below hb⟩
end Go.Proofs.YtpjlepkdiaohiaaGreatDoor

/- What the rows' cell laid gives the walks of layer 14, and the door's own heap; trees that come in. -/
namespace Go.Proofs.YtpjlepkdiaohiaaGreatDoor
open Go.ChangeShapes Go.WideShapes Go.ChangeAt Go.WideElems Go.RowKit

/-- what the rows list. -/
def laidL : List (String × DataW Unit) := Rows.mprFitsRow.laid

theorem own : ownKnob Tryz.prog.godebug = none := by kernel_rfl
theorem star : "*" ++ "errors.errorString" = "*errors.errorString" := by decide
theorem row_err (u : TypeId) (h : Tryz.prog.typeName? 3 u = some "*errors.errorString") : u = 251 :=
  typeName_ptr_named (nm := "errors.errorString") (by rw [star]; kernel_rfl) (by kernel_rfl) (by decide) u (by rw [star]; exact h)
theorem laid_plain (W : World) : laidMetH Tryz.prog laidL W = laidMet Tryz.prog laidL W := MakeChecks.laidMetH_plain _ _ _ (by kernel_rfl)

/-- a sentinel's pointer leads to a block that may be looked at. -/
theorem laid_sent {P : Program} {n nm : String} {text : List UInt8} {r : List (String × DataW Unit)} {W : World} {g : Nat} {ti tp te ts : TypeId} {ms : Array (String × TypeId)} {f : Field}
    (h : laidMet P ((n, .iface nm (.ptr (.agg [.lit (.string text)]))) :: r) W)
    (hg : P.globalNamed n = some g) (ht : (P.globals[g]?).map (·.type) = some ti) (hi : P.underlying ti = some (.interface ms)) (hrow : ∀ u, P.typeName? 3 u = some nm → u = tp)
    (hp : P.underlying tp = some (.pointer te)) (he : P.underlying te = some (.struct #[f])) (hft : f.type = ts) (hfo : f.offset = 0) (hs : P.underlying ts = some .string) (hc : P.cellsOf te = 1) (hcs : P.cellsOf ts = 1) :
    ∃ (a : Addr) (s : ByteArray), W.cell? ⟨g, 0, none⟩ = some (.iface tp (.pointer (some a))) ∧ W.cell? a = some (.string s) ∧ s.data.toList = text ∧ ∃ c t, W.heap[a.block]? = some (.cells c t (0, 0)) := by
  obtain ⟨ps, ⟨g0, t0, cs0, f0, p0, q0, hg0, ht0, hv0, hd0, _, e0⟩, _, hrows⟩ := h
  obtain rfl := Option.some.inj (hg.symm.trans hg0)
  obtain rfl := Option.some.inj (ht.symm.trans ht0)
  subst e0
  obtain ⟨l0⟩ := cs0
  have ok0 : ∀ u v, l0 = [.iface u v] → Value.okWide P W .any 0 u v := fun u v e => by
    subst e
    exact (hrows g 0 (by simp [MemPlace.row])).2 u v (by simpa using World.var?_cell hg0 hv0 0)
  obtain ⟨a0, s0, rfl, hc0, hs0, hz0, hp0⟩ := errorString_of_trod hi hrow hp he hft hfo hs hc hcs hd0 ok0
  refine ⟨a0, s0, by simpa using World.var?_cell hg0 hv0 0, hc0, hs0, (hrows a0.block a0.off ?_).1⟩
  rw [hp0]
  simp [MemPlace.row]

theorem tabs_of_laid {W : World} (h : laidMetH Tryz.prog laidL W) : ∃ ea eb, TabQ W ea eb := by
  rw [laid_plain] at h
  have hu := Go.Proofs.utf8Tabs_of_readsT (U8Types.of196 TryzB.lays196) { n3 := by kernel_rfl, n4 := by kernel_rfl, y3 := by kernel_rfl, y4 := by kernel_rfl, c5 := by kernel_rfl, c119 := by kernel_rfl, c138 := by kernel_rfl }
    (Go.Lib.laidMet.reads h (n := "unicode/utf8.first") (d := Lib.firstData) (by rw [← Pinned.utf8First_eq]; exact .tail _ (.tail _ (.tail _ (.tail _ (.tail _ (.tail _ (.tail _ (.tail _ (.tail _ (.tail _ (.tail _ (.head _))))))))))))) 
    (Go.Lib.laidMet.reads h (n := "unicode/utf8.acceptRanges") (d := Lib.acceptData) (by rw [show Lib.acceptData = Rows.laid_unicode_utf8_acceptRanges by kernel_rfl]; exact .tail _ (.tail _ (.tail _ (.head _)))))
  have h2 := h.tail.tail
  have h4 := h2.tail.tail
  obtain ⟨a, s, hv, -, -, -⟩ := laid_sentinel h4 range_glob (ti := 70) (tp := 251) (te := 253) (ts := 9) (by kernel_rfl) Tryz.underlying70 row_err (by kernel_rfl) Tryz.underlying253 rfl rfl (by kernel_rfl) (by kernel_rfl) (by kernel_rfl)
  have h5 := h4.tail
  obtain ⟨a', s', hv', -, -, -⟩ := laid_sentinel h5 synt_glob (ti := 70) (tp := 251) (te := 253) (ts := 9) (by kernel_rfl) Tryz.underlying70 row_err (by kernel_rfl) Tryz.underlying253 rfl rfl (by kernel_rfl) (by kernel_rfl) (by kernel_rfl)
  have h6 := h5.tail
  obtain ⟨ea, sa, ca, da, ta, fa⟩ := laid_sent h6 (g := 0) (ti := 70) (tp := 251) (te := 253) (ts := 9) (by kernel_rfl) (by kernel_rfl) Tryz.underlying70 row_err (by kernel_rfl) Tryz.underlying253 rfl rfl (by kernel_rfl) (by kernel_rfl) (by kernel_rfl)
  have h7 := h6.tail
  obtain ⟨eb, sb, cb, db, tb, fb⟩ := laid_sent h7 (g := 1) (ti := 70) (tp := 251) (te := 253) (ts := 9) (by kernel_rfl) (by kernel_rfl) Tryz.underlying70 row_err (by kernel_rfl) Tryz.underlying253 rfl rfl (by kernel_rfl) (by kernel_rfl) (by kernel_rfl)
  have h8 := h7.tail
  obtain ⟨em, sm, cm, dm, tm, fm⟩ := laid_sent h8 (g := 3) (ti := 70) (tp := 251) (te := 253) (ts := 9) (by kernel_rfl) (by kernel_rfl) Tryz.underlying70 row_err (by kernel_rfl) Tryz.underlying253 rfl rfl (by kernel_rfl) (by kernel_rfl) (by kernel_rfl)
  have h9 := h8.tail
  obtain ⟨ep, sp, cp, dp, tp, fp⟩ := laid_sent h9 (g := 4) (ti := 70) (tp := 251) (te := 253) (ts := 9) (by kernel_rfl) (by kernel_rfl) Tryz.underlying70 row_err (by kernel_rfl) Tryz.underlying253 rfl rfl (by kernel_rfl) (by kernel_rfl) (by kernel_rfl)
  have h10 := h9.tail
  obtain ⟨et, st, ct, dt, tt, ft⟩ := laid_sent h10 (g := 2) (ti := 70) (tp := 251) (te := 253) (ts := 9) (by kernel_rfl) (by kernel_rfl) Tryz.underlying70 row_err (by kernel_rfl) Tryz.underlying253 rfl rfl (by kernel_rfl) (by kernel_rfl) (by kernel_rfl)
  refine ⟨ea, eb, ⟨⟨?_, ⟨_, _, hv⟩, ⟨_, _, hv'⟩⟩, hu, ca, cb, fa, fb, ?_⟩, em, ep, et, ⟨cm, cp, ct⟩, fm, fp, ft, ?_, ?_, ?_⟩
  · exact Lib.tabIs_of_head (zs := Lib.pow10Tab) (k := .u64) (t := 248) (e := 24) (n := 20) pow10_glob (by kernel_rfl) (by kernel_rfl) (by kernel_rfl) (by kernel_rfl) (by kernel_rfl) h2
  · rintro rfl
    rw [da] at db
    have hs : sa = sb := by simpa using db
    subst hs
    rw [ta] at tb
    revert tb
    decide
  · rintro rfl
    rw [dm] at dp
    have hs : sm = sp := by simpa using dp
    subst hs
    rw [tm] at tp
    revert tp
    decide
  · rintro rfl
    rw [dm] at dt
    have hs : sm = st := by simpa using dt
    subst hs
    rw [tm] at tt
    revert tt
    decide
  · rintro rfl
    rw [dp] at dt
    have hs : sp = st := by simpa using dt
    subst hs
    rw [tp] at tt
    revert tt
    decide

theorem wit_os (os : Os) : (World.laidAll Tryz.prog os laidL).os = os := World.laidAll_os _ _ _
theorem wit_met (os : Os) (args : Array Value) : laidMetH Tryz.prog laidL ((World.laidAll Tryz.prog os laidL).forCall (fun _ _ => 0) ⟨#[], args, []⟩).memory := by
  rw [laid_plain]
  exact laidMet_laidAll _ (by kernel_rfl) (by kernel_rfl)
theorem wit_shaped (os : Os) : World.Shaped Tryz.prog (World.laidAll Tryz.prog os laidL) := World.shaped_of_ZipB (by kernel_rfl) (by kernel_rfl)

set_option maxRecDepth 100000 in
theorem open_node {H : Type} {enc : TypeId × Value → H} {w : World} {base : Nat} {sp : Nat → Bool} {hd : Bool} {r : Reach} {b0 : Nat} {v : Value} {d : DataW H} {p : List MemPlace} (hv : Value.okWide Tryz.prog w r b0 27 v) (h : DataW.Trod enc Tryz.prog w base sp hd 27 v d p) :
    ∃ (t : Tr) (sl : Value), v = ndV t.p sl ∧ InT w (ndV t.p sl) t ∧ t.wf ∧ ∃ n, DataW.trod enc Tryz.prog w base sp hd n 27 (ndL t.p sl) = some (d, p) := by
  obtain ⟨cs, rfl, hsz⟩ := okWide_struct Tryz.underlying27 hv
  obtain ⟨n, hn⟩ := h
  obtain ⟨p', sl, l, e, hi, hw⟩ := open_tr n _ _ hn
  have hc : (Value.agg cs).cells.toList = cs.toList := rfl
  rw [hc] at e
  have e2 : cs = (ndL p' sl).toArray := by rw [← e]
  refine ⟨.nd p' l, sl, by rw [e2]; rfl, hi, hw, n, ?_⟩
  rw [hc, e] at hn
  exact hn
end Go.Proofs.YtpjlepkdiaohiaaGreatDoor

/- Package mpr: array, pairs, within, starts: walked. -/
namespace Go.Proofs.YtpjlepkdiaohiaaGreatDoor
open Go.RowKit
attribute [local go_sem] Oper.semAt_some

set_option maxRecDepth 100000 in
set_option maxHeartbeats 4000000 in
theorem rarray_calls (j : Nat) (ih : ItemC j) (d : Nat) (hd : d + 1 + j = 16) : ReadC (rd j) d 108 2 := by
  intro em ep et b s n z hn _ h1 _ hs w hR hE
  have hblt := Cls.lt hR
  have hb1 := below_alloc w (.cells (ndL Pay.z (.slice none 0 0)).toArray 27)
  have hC0 := Cls.new w 27 (ndL Pay.z (.slice none 0 0))
  have hK0 : RdK b w (w.alloc (.cells (ndL Pay.z (.slice none 0 0)).toArray 27)) := .of_below hb1 (Nat.le_of_lt hblt)
  have hcall := rlist_calls j ih em ep et b d hd s hs (n) (by omega) 7 _ (hR.up hb1) (hE.rdk (hb1.mono (Nat.le_of_lt hblt)))
  change Calls _ _ _ _ fun e w' => Ans em ep et b d w (rnode 7 (rlist (rd j) n (tx s))) e w'
  obtain ⟨x, hx⟩ : ∃ x, rnode 7 (rlist (rd j) n (tx s)) = x := ⟨_, rfl⟩
  rw [hx] at hcall ⊢
  have HX := hid (And.intro hK0 (And.intro (Nat.le_refl w.heap.size) (And.intro hC0 hblt)))
  clear hK0 hC0 hx hE hR hb1 ih
  simp only [ndL, Pay.z] at hcall
  go_enter Tryz.func108, Tryz.ntmps108
  go_wp2_with fail
  refine (hcall).mono ?_
  rintro e w1 hA
  obtain ⟨p1, a1, n1, c1, ev, rfl, hC1, hC5, hA5⟩ := Ans.fwd HX.out.1 HX.out.2.1 HX.out.2.2.1 HX.out.2.2.2 hA
  obtain ⟨y0, y1, y2, y3, y4, y5, y6, y7, y8⟩ := hC1.nine
  obtain ⟨v0, v1, v2, v3, v4, v5, v6, v7, v8⟩ := hC1.frozens
  have HY := hid (And.intro hC5 hA5)
  clear hA hC1 hC5 hA5 hcall
  simp only [ndV, ndL]
  go_wp2
  obtain ⟨W5, hW5, hC5, hA5⟩ : ∃ W5, putN w1 w.heap.size 0 p1 (.slice a1 n1 c1) = W5 ∧ Cls W5 w.heap.size 27 (ndL p1 (.slice a1 n1 c1)) ∧ Ans em ep et b d w x (.returned (.tuple #[ndV p1 (.slice a1 n1 c1), ev])) W5 := ⟨_, rfl, HY.out.1, HY.out.2⟩
  unfold putN at hW5
  simp only [Nat.zero_add] at hW5
  rw [hW5]
  obtain ⟨f0, f1, f2, f3, f4, f5, f6, f7, f8⟩ := hC5.nine
  exact bodyPost_ret (v := .tuple #[ndV p1 (.slice a1 n1 c1), ev]) (by simp [results, Tryz.results108, go_sem, f0, f1, f2, f3, f4, f5, f6, f7, f8, ndV, ndL]) rfl hA5

set_option maxRecDepth 100000 in
set_option maxHeartbeats 4000000 in
theorem rpairs_calls (j : Nat) (ih : ItemC j) (d : Nat) (hd : d + 1 + j = 16) : ReadC (rd j) d 107 1 := by
  intro em ep et b s n z hn _ h1 _ hs w hR hE
  have hblt := Cls.lt hR
  have hb1 := below_alloc w (.cells (ndL Pay.z (.slice none 0 0)).toArray 27)
  have hC0 := Cls.new w 27 (ndL Pay.z (.slice none 0 0))
  have hK0 : RdK b w (w.alloc (.cells (ndL Pay.z (.slice none 0 0)).toArray 27)) := .of_below hb1 (Nat.le_of_lt hblt)
  have hn1 := h1 rfl
  have hwn : IntKind.u64.wrap (2 * (n : Int)) = ((2 * n : Nat) : Int) := by rw [IntWalk.u64_in _ (by omega)]; omega
  have hcall := rlist_calls j ih em ep et b d hd s hs (2 * n) (by omega) 8 _ (hR.up hb1) (hE.rdk (hb1.mono (Nat.le_of_lt hblt)))
  change Calls _ _ _ _ fun e w' => Ans em ep et b d w (rnode 8 (rlist (rd j) (2 * n) (tx s))) e w'
  obtain ⟨x, hx⟩ : ∃ x, rnode 8 (rlist (rd j) (2 * n) (tx s)) = x := ⟨_, rfl⟩
  rw [hx] at hcall ⊢
  have HX := hid (And.intro hK0 (And.intro (Nat.le_refl w.heap.size) (And.intro hC0 hblt)))
  clear hK0 hC0 hx hE hR hb1 ih
  simp only [ndL, Pay.z] at hcall
  go_enter Tryz.func107, Tryz.ntmps107
  go_wp2_with fail
  refine (hcall).mono ?_
  rintro e w1 hA
  obtain ⟨p1, a1, n1, c1, ev, rfl, hC1, hC5, hA5⟩ := Ans.fwd HX.out.1 HX.out.2.1 HX.out.2.2.1 HX.out.2.2.2 hA
  obtain ⟨y0, y1, y2, y3, y4, y5, y6, y7, y8⟩ := hC1.nine
  obtain ⟨v0, v1, v2, v3, v4, v5, v6, v7, v8⟩ := hC1.frozens
  have HY := hid (And.intro hC5 hA5)
  clear hA hC1 hC5 hA5 hcall
  simp only [ndV, ndL]
  go_wp2
  obtain ⟨W5, hW5, hC5, hA5⟩ : ∃ W5, putN w1 w.heap.size 0 p1 (.slice a1 n1 c1) = W5 ∧ Cls W5 w.heap.size 27 (ndL p1 (.slice a1 n1 c1)) ∧ Ans em ep et b d w x (.returned (.tuple #[ndV p1 (.slice a1 n1 c1), ev])) W5 := ⟨_, rfl, HY.out.1, HY.out.2⟩
  unfold putN at hW5
  simp only [Nat.zero_add] at hW5
  rw [hW5]
  obtain ⟨f0, f1, f2, f3, f4, f5, f6, f7, f8⟩ := hC5.nine
  exact bodyPost_ret (v := .tuple #[ndV p1 (.slice a1 n1 c1), ev]) (by simp [results, Tryz.results107, go_sem, f0, f1, f2, f3, f4, f5, f6, f7, f8, ndV, ndL]) rfl hA5

set_option maxRecDepth 100000 in
set_option maxHeartbeats 4000000 in
theorem rwithin_calls (c lo hi : Int) (g : Nat) (w : World) (hc : Cls w g 3 [.int .i64 lo, .int .i64 hi]) :
    Calls Tryz.prog 60 #[.int .i64 c, .slice (some ⟨g, 0, none⟩) 2 2] w fun e w' => e = .returned (.bool (decide (lo ≤ c) && decide (c < hi))) ∧ w' = w := by
  have c0 := hc.cell 0 rfl
  have c1 := hc.cell 1 rfl
  by_cases h1 : lo ≤ c
  · by_cases h2 : c < hi
    · go_enter Tryz.func60, Tryz.ntmps60
      go_wp2
      go_ret
      exact ⟨by first | rfl | (rw [decide_eq_true (show lo ≤ c by omega), decide_eq_true (show c < hi by omega)]; rfl), rfl⟩
    · go_enter Tryz.func60, Tryz.ntmps60
      go_wp2
      go_ret
      exact ⟨by first | rfl | (rw [decide_eq_false (show ¬ c < hi by omega)]; first | rfl | (rw [Bool.and_false]; rfl)), rfl⟩
  · go_enter Tryz.func60, Tryz.ntmps60
    go_wp2
    go_ret
    exact ⟨by first | rfl | (rw [decide_eq_false (show ¬ lo ≤ c by omega)]; rfl), rfl⟩

end Go.Proofs.YtpjlepkdiaohiaaGreatDoor

/- Package mpr: starts: walked. -/
namespace Go.Proofs.YtpjlepkdiaohiaaGreatDoor
open Go.RowKit
attribute [local go_sem] Oper.semAt_some

/-- the functions that read by a number. -/
def rdF (g : Nat) : Nat := if g = 0 then 106 else if g = 1 then 107 else if g = 2 then 108 else if g = 3 then 109 else if g = 4 then 110 else if g = 5 then 101 else if g = 6 then 111 else 61
def stA (b : Nat) : List Value := [.int .i64 0, .int .i64 128, .int .i64 0, .int .i64 0, .int .i64 0, .int .i64 0, .func (.func 106) #[.pointer (some ⟨b, 0, none⟩)] #[], .int .i64 128, .int .i64 16, .int .i64 0, .int .i64 0, .int .i64 0, .int .i64 0, .func (.func 107) #[.pointer (some ⟨b, 0, none⟩)] #[], .int .i64 144, .int .i64 16, .int .i64 0, .int .i64 0, .int .i64 0, .int .i64 0, .func (.func 108) #[.pointer (some ⟨b, 0, none⟩)] #[], .int .i64 160, .int .i64 32, .int .i64 0, .int .i64 0, .int .i64 0, .int .i64 0, .func (.func 109) #[.pointer (some ⟨b, 0, none⟩)] #[], .int .i64 196, .int .i64 3, .int .i64 1, .int .i64 2, .int .i64 4, .int .i64 0, .func (.func 110) #[.pointer (some ⟨b, 0, none⟩)] #[], .int .i64 199, .int .i64 3, .int .i64 1, .int .i64 2, .int .i64 4, .int .i64 0, .func (.func 101) #[.pointer (some ⟨b, 0, none⟩)] #[], .int .i64 202, .int .i64 2, .int .i64 4, .int .i64 8, .int .i64 0, .int .i64 0, .func (.func 111) #[.pointer (some ⟨b, 0, none⟩)] #[], .int .i64 204, .int .i64 4, .int .i64 1, .int .i64 2, .int .i64 4, .int .i64 8, .func (.func 106) #[.pointer (some ⟨b, 0, none⟩)] #[], .int .i64 208, .int .i64 4, .int .i64 1, .int .i64 2, .int .i64 4, .int .i64 8, .func (.func 61) #[.pointer (some ⟨b, 0, none⟩)] #[], .int .i64 217, .int .i64 3, .int .i64 1, .int .i64 2, .int .i64 4, .int .i64 0, .func (.func 109) #[.pointer (some ⟨b, 0, none⟩)] #[], .int .i64 220, .int .i64 2, .int .i64 2, .int .i64 4, .int .i64 0, .int .i64 0, .func (.func 108) #[.pointer (some ⟨b, 0, none⟩)] #[], .int .i64 222, .int .i64 2, .int .i64 2, .int .i64 4, .int .i64 0, .int .i64 0, .func (.func 107) #[.pointer (some ⟨b, 0, none⟩)] #[], .int .i64 256, .int .i64 0, .int .i64 0, .int .i64 0, .int .i64 0, .int .i64 0, .func (.func 106) #[.pointer (some ⟨b, 0, none⟩)] #[]]
/-- a row's cells. -/
def stC (b : Nat) (x : StR) : List Value := [.int .i64 (x.fr : Nat), .int .i64 (x.ct : Nat), .int .i64 (x.z0 : Nat), .int .i64 (x.z1 : Nat), .int .i64 (x.z2 : Nat), .int .i64 (x.z3 : Nat), .func (.func (rdF x.g)) #[.pointer (some ⟨b, 0, none⟩)] #[]]
theorem wpList_tail {P : Program} {ops : Array Oper} {Q : Exit → Act → World → Prop} (n : Nat) {l : List Oper} {a : Act} {w : World} (h : ∀ rest, rest = l.drop n → wpList P ops Q (l.take n ++ rest) a w) : wpList P ops Q l a w := by
  have := h _ rfl
  rwa [List.take_append_drop] at this
theorem below_sc {n b : Nat} {A : World} (hb : n ≤ b) : ∀ (vs : List Value) (o : Nat) (W : World), Below n A W → Below n A (W.setCells b o vs)
  | [], _, _, h => h
  | v :: r, o, _W, h => below_sc hb r (o + 1) _ (h.setCell (p := ⟨b, o, none⟩) hb v)
theorem there_new (W : World) (t : TypeId) (Z : Array Value) {m : Nat} (hm : m = Z.size) : (W.alloc (.cells Z t)).there W.heap.size 0 m := fun j hj => by
  subst hm
  have hh := World.alloc_heap_new W (.cells Z t)
  exact ⟨by rw [Nat.zero_add, cell_of_row _ _ j Z t (0, 0) hh]; simp [hj], by rw [Nat.zero_add]; exact frozen_of_row _ _ j Z t hh⟩
theorem results_cell_mid {P : Program} {fn : Func} {p : Tmp} {ty : TypeId} (h : fn.results = #[.cell p ty]) (tmps : Array Value) (w : World) (g : Nat) (cs : List Value) (d : TypeDesc)
    (hp : tmps.getD p undef = .pointer (some ⟨g, 0, none⟩)) (hc : w.rangeAt g 0 cs) (hu : P.underlying ty = some d) (hd : d.isRow = true) (hi : (P.info? ty).map (·.size) = some cs.length) :
    (results fn tmps).run P w = .ok (.agg cs.toArray) w := by
  have hp' : tmps[p]?.getD undef = .pointer (some ⟨g, 0, none⟩) := by simpa using hp
  simp [results, h, hp', asAddr, run_loadVar_mid w g 0 ty cs d hc hu hd hi]
theorem stA_len (b : Nat) : (stA b).length = 91 := rfl
theorem stA_one (b : Nat) : ∀ v ∈ stA b, v.oneCell' = true := by
  have h : (stA b).all (·.oneCell') = true := rfl
  exact fun v hv => List.all_eq_true.1 h v hv

set_option maxRecDepth 100000 in
set_option maxHeartbeats 4000000 in
theorem starts_calls (b : Nat) (w : World) :
    Calls Tryz.prog 59 #[.pointer (some ⟨b, 0, none⟩)] w fun e w' => e = .returned (.agg (stA b).toArray) ∧ Below w.heap.size w w' := by
  obtain ⟨X, hX⟩ : ∃ X, stA b = X := ⟨_, rfl⟩
  have hlen := stA_len b
  have hone := stA_one b
  rw [hX] at hlen hone ⊢
  have HX := hid (And.intro hX (And.intro hlen hone))
  clear hX hlen hone
  go_enter Tryz.func59, Tryz.ntmps59
  go_upto_region 1 with fail
  obtain ⟨W1, hW1, ht1, hb1⟩ : ∃ W1, w.alloc (.cells Tryz.zeroCells117 117) = W1 ∧ W1.there w.heap.size 0 91 ∧ Below w.heap.size w W1 := ⟨_, rfl, there_new w _ _ (by kernel_rfl), below_alloc w _⟩
  rw [hW1]
  have HB := hid (And.intro ht1 hb1)
  clear hW1 ht1 hb1
  refine wp_region_lit ?_
  refine wpList_tail 53 fun rest hrest => ?_
  have HR := hid hrest
  clear hrest
  simp only [List.take_succ_cons, List.take_zero, List.cons_append, List.nil_append]
  go_wp2_with fail
  rw [HR.out]
  simp only [List.drop_succ_cons, List.drop_zero]
  obtain ⟨hX, hlen, hone⟩ := HX.out
  have hsz : X.toArray.size = 91 := hlen
  refine wpList_store_mid rfl 117 (.tmp 2) (.tmp 55) rfl w.heap.size 0 X.toArray rfl (by subst hX; kernel_rfl) (by rw [hsz]; exact HB.out.1) (by rw [hsz]; kernel_rfl) (all_oneCell_toArray hone) ?_
  obtain ⟨W2, hW2, hr2, hb2⟩ : ∃ W2, W1.setCells w.heap.size 0 X.toArray.toList = W2 ∧ W2.rangeAt w.heap.size 0 X ∧ Below w.heap.size w W2 := ⟨_, rfl, World.rangeAt_setCells_same _ _ _ _ (by rw [hlen]; exact HB.out.1), below_sc (Nat.le_refl _) _ _ _ HB.out.2⟩
  rw [hW2]
  clear hW2 hX HX
  have hinf : (Tryz.prog.info? 117).map (·.size) = some X.length := by rw [hlen]; kernel_rfl
  go_wp2_with fail
  exact bodyPost_ret (results_cell_mid rfl _ W2 w.heap.size X _ rfl hr2 Tryz.underlying117 rfl hinf) rfl ⟨rfl, hb2⟩
end Go.Proofs.YtpjlepkdiaohiaaGreatDoor

