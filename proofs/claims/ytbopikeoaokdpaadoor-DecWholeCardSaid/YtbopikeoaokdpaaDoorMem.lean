/- What lies in memory: blocks of cells. -/
import Derived.Test.YtbopikeoaokdpaaDoorCom
import Derived.Test.YtbopikeoaokdpaaDoorRange
namespace Go.Proofs.YtbopikeoaokdpaaDoor
open Go.RowKit

/-- a block of cells, of a struct. -/
def Cls (W : World) (g : Nat) (t : TypeId) (xs : List Value) : Prop := W.heap[g]? = some (.cells xs.toArray t (0, 0))
theorem Cls.lt {W : World} {g : Nat} {t : TypeId} {xs : List Value} (h : Cls W g t xs) : g < W.heap.size := (Array.getElem?_eq_some_iff.1 h).1
theorem Cls.cell {W : World} {g : Nat} {t : TypeId} {xs : List Value} (h : Cls W g t xs) (j : Nat) {v : Value} (hj : xs[j]? = some v) : W.cell? ⟨g, j, none⟩ = some v := by
  have : W.heap[g]? = some (.cells xs.toArray t (0, 0)) := h
  simp [World.cell?, this, hj]
theorem Cls.frozen {W : World} {g : Nat} {t : TypeId} {xs : List Value} (h : Cls W g t xs) (j : Nat) : W.frozen? ⟨g, j, none⟩ = false := by
  have : W.heap[g]? = some (.cells xs.toArray t (0, 0)) := h
  simp [World.frozen?, this]
theorem Cls.set {W : World} {g : Nat} {t : TypeId} {xs : List Value} (h : Cls W g t xs) (j : Nat) (v : Value) : Cls (W.setCell ⟨g, j, none⟩ v) g t (xs.set j v) := by
  have h' : W.heap[g]? = some (.cells xs.toArray t (0, 0)) := h
  show (W.heap.modify g _)[g]? = _
  rw [Array.getElem?_modify, if_pos rfl, h']
  simp
theorem Cls.other {W : World} {g b off : Nat} {t : TypeId} {xs : List Value} (h : Cls W g t xs) (hne : g ≠ b) (v : Value) : Cls (W.setCell ⟨b, off, none⟩ v) g t xs :=
  (Below.heap_setCell _ _ _ _ hne).trans h
theorem Cls.new (W : World) (t : TypeId) (xs : List Value) : Cls (W.alloc (.cells xs.toArray t)) W.heap.size t xs := World.alloc_heap_new W _
theorem Cls.kept {W W' : World} {row : Option Nat} {g : Nat} {t : TypeId} {xs : List Value} (h : Cls W g t xs) (hg : W.grownBy W' row) (hne : some g ≠ row) : Cls W' g t xs :=
  (hg.block g h.lt (fun e => hne e)).trans h
theorem Cls.alloc {W : World} {g : Nat} {t : TypeId} {xs : List Value} (h : Cls W g t xs) (o : Obj) : Cls (W.alloc o) g t xs := h.kept (World.grownBy_alloc W o none) (by simp)
theorem grow_set (W : World) (b off : Nat) (v : Value) : W.grownBy (W.setCell ⟨b, off, none⟩ v) (some b) :=
  ⟨rfl, rfl, rfl, (KeepsWalks.setCell W _ v).size, fun k _ hk => Below.heap_setCell _ _ _ k (fun e => hk (by rw [e]))⟩
theorem setCell_size (w : World) (a : Addr) (v : Value) : (w.setCell a v).heap.size = w.heap.size := by
  show (w.heap.modify a.block _).size = _
  exact Array.size_modify
theorem cells_cell {W : World} {g j : Nat} {t : TypeId} {fz : Nat × Nat} {cur : Array Value} {v : Value} (h : W.heap[g]? = some (.cells cur t fz)) (hj : cur.toList[j]? = some v) : W.cell? ⟨g, j, none⟩ = some v := by
  rw [Array.getElem?_toList] at hj
  simp [World.cell?, h, hj]
theorem take_get {l vs : List Value} {n j : Nat} {v : Value} (h : l.take n = vs) (hj : vs[j]? = some v) : l[j]? = some v := by
  subst h
  rw [List.getElem?_take] at hj
  split at hj
  · exact hj
  · cases hj

theorem lt_of_cell {w : World} {g o : Nat} {v : Value} (h : w.cell? ⟨g, o, none⟩ = some v) : g < w.heap.size := by
  cases e : w.heap[g]? with
  | none => simp [World.cell?, e] at h
  | some x => exact (Array.getElem?_eq_some_iff.1 e).1
theorem cell_below {w w' : World} {g o : Nat} {v : Value} (h : w.cell? ⟨g, o, none⟩ = some v) (hb : Below w.heap.size w w') : w'.cell? ⟨g, o, none⟩ = some v := (hb.cell (p := ⟨g, o, none⟩) (lt_of_cell h)).trans h
theorem Cls.below {W W' : World} {g : Nat} {t : TypeId} {xs : List Value} (h : Cls W g t xs) (hb : Below W.heap.size W W') : Cls W' g t xs := (hb.block g h.lt).trans h
end Go.Proofs.YtbopikeoaokdpaaDoor
