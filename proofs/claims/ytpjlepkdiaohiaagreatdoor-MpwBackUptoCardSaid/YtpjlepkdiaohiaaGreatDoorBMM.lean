/- MM: MwB MwC MwD MwE MwF. -/
import Derived.Test.YtpjlepkdiaohiaaGreatDoorBMA
import Derived.Test.YtpjlepkdiaohiaaGreatDoorBML
import Derived.Shelf.Strings.BuilderK
import Derived.Lib.UnsafeStr
import Derived.Laws.Externs
import Derived.Test.YtpjlepkdiaohiaaGreatDoorBMC
import Derived.Test.YtpjlepkdiaohiaaGreatDoorBMD
import Derived.Test.YtpjlepkdiaohiaaGreatDoorBMF
import Derived.Test.YtpjlepkdiaohiaaGreatDoorBMJ
import Derived.Test.YtpjlepkdiaohiaaGreatDoorBMB
import Derived.Deep.RegionWith
namespace Go.Proofs.YtpjlepkdiaohiaaGreatDoor
open Go.RowKit
attribute [local go_sem] Oper.semAt_some

def Wr (W : World) (b : Nat) (l : List UInt8) : Prop := Lib.IsBuilderF 62 5 b b (Lib.byteCells l) W
structure WrK (b : Nat) (A B : World) : Prop where
  below : Below b A B
  oth : Lib.OthersKept 5 (some b) A B
theorem WrK.refl (b : Nat) (A : World) : WrK b A A := ⟨Below.refl _ _, Lib.OthersKept.refl _ _ _⟩
theorem WrK.trans {b : Nat} {A B C : World} (h : WrK b A B) (k : WrK b B C) : WrK b A C := ⟨h.below.trans k.below, h.oth.trans k.oth⟩
theorem WrK.of_below {b : Nat} {A B : World} (h : Below A.heap.size A B) (hb : b ≤ A.heap.size) : WrK b A B :=
  ⟨h.mono hb, fun k _o hk _ _ => (h.block k (Array.getElem?_eq_some_iff.1 hk).1).trans hk⟩
theorem writer_lies : liesAt Tryz.prog Tryz.prog.depth 62 (2 / Tryz.prog.cellsOf 62) 0 60 1 = true := by kernel_rfl
theorem builder_info : (Tryz.prog.info? 60).map (·.size) = some 2 := by kernel_rfl
theorem byte_info : (Tryz.prog.info? 5).map (fun i => (i.zero, i.size, i.bytes)) = some (some (.int .u8 0), 1, 1) := by kernel_rfl

set_option maxHeartbeats 1000000 in
set_option maxRecDepth 100000 in
theorem cc_used (b : Nat) (w : World) (h0 : w.cell? ⟨b, 0, none⟩ = some (.pointer (some ⟨b, 0, none⟩))) :
    Calls Tryz.prog 147 #[.pointer (some ⟨b, 0, none⟩)] w fun e w' => e = .returned (.tuple #[]) ∧ w' = w := by
  obtain ⟨j, hj, _⟩ := Option.map_eq_some_iff.1 builder_info
  go_enter Tryz.func147, Tryz.ntmps147
  go_wp2
  rw [Lib.run_neq_ptr_same w _ Tryz.underlying58 hj]
  go_wp2
  go_end0
  exact ⟨rfl, rfl⟩
set_option maxHeartbeats 1000000 in
set_option maxRecDepth 100000 in
theorem cc_fresh (b : Nat) (w : World) (h0 : w.cell? ⟨b, 0, none⟩ = some (.pointer none)) (hsh : w.shape? b = some (62, 2)) (hfz : w.frozen? ⟨b, 0, none⟩ = false) :
    Calls Tryz.prog 147 #[.pointer (some ⟨b, 0, none⟩)] w fun e w' => e = .returned (.tuple #[]) ∧ w' = w.setCell ⟨b, 0, none⟩ (.pointer (some ⟨b, 0, none⟩)) := by
  obtain ⟨j, hj, hjs⟩ := Option.map_eq_some_iff.1 builder_info
  go_enter Tryz.func147, Tryz.ntmps147
  go_wp2
  rw [Lib.run_to_unsafe w ⟨b, 0, none⟩ Tryz.underlying58 Tryz.underlying204 hj (by rw [hjs]; decide) hsh (Nat.zero_lt_succ 1)]
  simp only [Result.andThen]
  rw [Oper.upon_value]
  go_wp2
  rw [run_callFunc_extern Tryz.func173 (by kernel_rfl) (by kernel_rfl) (by kernel_rfl) (e := Extern.AbiNoEscape.same) (by kernel_rfl)]
  rw [Lib.run_noEscape]
  simp only [Result.andThen]
  rw [Oper.upon_value]
  go_wp2
  rw [Lib.run_from_unsafe w ⟨b, 0, none⟩ Tryz.underlying204 Tryz.underlying58 hj hsh writer_lies]
  simp only [Result.andThen]
  rw [Oper.upon_value]
  go_wp2
  go_end0
  exact ⟨rfl, rfl⟩
theorem cc_calls (b : Nat) (bs : List Value) (w : World) (h : Lib.IsBuilderF 62 5 b b bs w) :
    Calls Tryz.prog 147 #[.pointer (some ⟨b, 0, none⟩)] w fun e w' => e = .returned (.tuple #[]) ∧ (Lib.BuilderAtF 62 5 b b (.pointer (some ⟨b, 0, none⟩)) bs w' ∧ Below b w w' ∧ Lib.OthersKept 5 (some b) w w') := by
  rcases h with h | h
  · refine (cc_fresh b w h.cell0 h.shape h.frozen0).mono ?_
    rintro e w' ⟨rfl, rfl⟩
    exact ⟨rfl, h.used _, (Below.refl b w).setCell (p := ⟨b, 0, none⟩) h.1 _, (Lib.OthersKept.refl _ _ w).setCell ⟨b, 0, none⟩ rfl _⟩
  · refine (cc_used b w h.cell0).mono ?_
    rintro e w' ⟨rfl, rfl⟩
    exact ⟨rfl, h, Below.refl b _, Lib.OthersKept.refl _ _ _⟩
theorem wr_lt {W : World} {b : Nat} {l : List UInt8} (h : Wr W b l) : b < W.heap.size := by
  rcases h with h | h <;> exact h.lt

set_option maxHeartbeats 2000000 in
set_option maxRecDepth 100000 in
theorem wrB (b : Nat) (l : List UInt8) (c : UInt8) (z : Int) (hz : z = (c.toNat : Nat)) (w : World) (h : Wr w b l) (hlen : l.length + 1 ≤ 140737488355328) :
    Calls Tryz.prog 145 #[.pointer (some ⟨b, 0, none⟩), .int .u8 z] w fun e w' => e = .returned .nilIface ∧ Wr w' b (l ++ [c]) ∧ WrK b w w' := by
  obtain ⟨i0, hi, hz0, hz1, hz2⟩ := info_parts byte_info
  have hBw := Nat.le_of_lt (wr_lt h)
  have hcl : (Lib.byteCells l).length = l.length := Lib.byteCells_length l
  have hcc := cc_calls b (Lib.byteCells l) w h
  have HN := hid (show Lib.byteCells (l ++ [c]) = Lib.byteCells l ++ [.int .u8 z] by rw [Lib.byteCells_append, hz]; rfl)
  obtain ⟨bs, hbs⟩ : ∃ bs, Lib.byteCells l = bs := ⟨_, rfl⟩
  rw [hbs] at hcc hcl HN
  clear h hbs hz
  rw [← hcl] at hlen
  clear hcl
  go_enter Tryz.func145, Tryz.ntmps145
  go_wp2_with fail
  refine hcc.mono ?_
  rintro e w1 ⟨rfl, h1, hb1, hk1⟩
  clear hcc
  obtain ⟨hB, v, hbk, hown, hne⟩ := h1
  have c0 : w1.cell? ⟨b, 0, none⟩ = some (.pointer (some ⟨b, 0, none⟩)) := by rw [Lib.cell_of_heap hbk]; rfl
  have c1 : w1.cell? ⟨b, 1, none⟩ = some v := by rw [Lib.cell_of_heap hbk]; rfl
  go_wp2_with (at_builtin; refine wpList_append_ownF _ rfl _ _ 41 rfl b 5 i0 (.int .u8 0) 1 1 Tryz.underlying41 hi hz0 hz1 hz2 rfl (by decide) _ _ _ rfl (hown.alloc _) ⟨w1.heap.size, 0, none⟩ 1 1 [.int .u8 z] rfl rfl ?c1 ?c2 ?c3 ?c4 ?c5 ?_)
  case c1 =>
    intro j u hj
    match j, hj with
    | 0, hj => simp at hj; subst hj; simp [Addr.add]
  case c2 => intro u hu; simp at hu; subst hu; rfl
  case c3 => unfold maxLen; omega
  case c4 => omega
  case c5 => have := hb1.size; simp; omega
  intro v' w2 hown' hgrow _
  have hlt : b < w1.heap.size := by
    rcases Nat.lt_or_ge b w1.heap.size with h' | h'
    · exact h'
    · simp [Array.getElem?_eq_none h'] at hbk
  have hb2 : w2.heap[b]? = some (.cells #[.pointer (some ⟨b, 0, none⟩), v] 62 (0, 0)) := by
    rw [hgrow.block b (by simp; omega) (fun e => hne e.symm), Lib.alloc_old w1 _ b hlt]
    exact hbk
  have d0 : w2.cell? ⟨b, 0, none⟩ = some (.pointer (some ⟨b, 0, none⟩)) := by rw [Lib.cell_of_heap hb2]; rfl
  have d1 : w2.cell? ⟨b, 1, none⟩ = some v := by rw [Lib.cell_of_heap hb2]; rfl
  have f1 : w2.frozen? ⟨b, 1, none⟩ = false := Lib.frozen_of_heap hb2 1
  obtain ⟨g, cap, rfl⟩ : ∃ g cap, v' = .slice (some ⟨g, 0, none⟩) (bs.length + 1) cap := by
    rcases hown'.2 with ⟨_, h0⟩ | ⟨g, cap, cur, fz, hv, _⟩
    · omega
    · exact ⟨g, cap, hv⟩
  go_wp2
  go_ret
  refine ⟨rfl, ?_, ?_, ((hk1.alloc _).grown hgrow (Lib.ownsRowF_kind (hown.alloc _))).setCell ⟨b, 1, none⟩ rfl _⟩
  · unfold Wr
    rw [HN.out]
    exact .inr (Lib.BuilderAtF.put (T := 62) (e := 5) hB hb2 (bs' := bs ++ [.int .u8 z]) (by simpa using hown') (by decide))
  · exact ((hb1.alloc (by have := hb1.size; omega) _).grown hgrow (by have := hb1.size; simp; omega) (fun k hk => (hown.lt k hk).1)).setCell (p := ⟨b, 1, none⟩) hB _

set_option maxHeartbeats 2000000 in
set_option maxRecDepth 100000 in
theorem wrS (b : Nat) (l : List UInt8) (s : ByteArray) (w : World) (h : Wr w b l) (hlen : l.length + s.size ≤ 140737488355328) :
    Calls Tryz.prog 118 #[.pointer (some ⟨b, 0, none⟩), .string s] w fun e w' => e = .returned (.tuple #[.int .i64 s.size, .nilIface]) ∧ Wr w' b (l ++ tx s) ∧ WrK b w w' := by
  obtain ⟨i0, hi, hz0, hz1, hz2⟩ := info_parts byte_info
  have hBw := Nat.le_of_lt (wr_lt h)
  have hcl : (Lib.byteCells l).length = l.length := Lib.byteCells_length l
  have hcc := cc_calls b (Lib.byteCells l) w h
  have HN := hid (show Lib.byteCells (l ++ tx s) = Lib.byteCells l ++ Lib.strCells s by rw [Lib.byteCells_append]; rfl)
  obtain ⟨bs, hbs⟩ : ∃ bs, Lib.byteCells l = bs := ⟨_, rfl⟩
  rw [hbs] at hcc hcl HN
  clear h hbs
  rw [← hcl] at hlen
  clear hcl
  go_enter Tryz.func118, Tryz.ntmps118
  go_wp2_with fail
  refine hcc.mono ?_
  rintro e w1 ⟨rfl, h1, hb1, hk1⟩
  clear hcc
  obtain ⟨hB, v, hbk, hown, hne⟩ := h1
  have c0 : w1.cell? ⟨b, 0, none⟩ = some (.pointer (some ⟨b, 0, none⟩)) := by rw [Lib.cell_of_heap hbk]; rfl
  have c1 : w1.cell? ⟨b, 1, none⟩ = some v := by rw [Lib.cell_of_heap hbk]; rfl
  go_wp2_with (at_builtin; refine Lib.wpList_append_own_stringF _ rfl _ _ 41 9 rfl b 5 i0 Tryz.underlying41 Tryz.underlying9 hi hz0 hz1 hz2 _ _ _ rfl hown s rfl ?c3 ?c4 ?c5 ?_)
  case c3 => unfold maxLen; omega
  case c4 => omega
  case c5 => have := hb1.size; omega
  intro v' w2 hown' hgrow _
  have hlt : b < w1.heap.size := by
    rcases Nat.lt_or_ge b w1.heap.size with h' | h'
    · exact h'
    · simp [Array.getElem?_eq_none h'] at hbk
  have hb2 : w2.heap[b]? = some (.cells #[.pointer (some ⟨b, 0, none⟩), v] 62 (0, 0)) := by
    rw [hgrow.block b hlt (fun e => hne e.symm)]
    exact hbk
  have d0 : w2.cell? ⟨b, 0, none⟩ = some (.pointer (some ⟨b, 0, none⟩)) := by rw [Lib.cell_of_heap hb2]; rfl
  have d1 : w2.cell? ⟨b, 1, none⟩ = some v := by rw [Lib.cell_of_heap hb2]; rfl
  have f1 : w2.frozen? ⟨b, 1, none⟩ = false := Lib.frozen_of_heap hb2 1
  obtain ⟨ao, n', cap, rfl⟩ : ∃ ao n' cap, v' = .slice ao n' cap := by
    rcases hown'.2 with ⟨hv, _⟩ | ⟨g, cap, cur, fz, hv, _⟩
    · exact ⟨_, _, _, hv⟩
    · exact ⟨_, _, _, hv⟩
  go_wp2
  go_ret2
  refine ⟨rfl, ?_, ?_, (hk1.grown hgrow (Lib.ownsRowF_kind hown)).setCell ⟨b, 1, none⟩ rfl _⟩
  · unfold Wr
    rw [HN.out]
    exact .inr (Lib.BuilderAtF.put (T := 62) (e := 5) hB hb2 (bs' := bs ++ Lib.strCells s) (by simpa [Lib.strCells_length] using hown') (by decide))
  · exact (hb1.grown hgrow (by have := hb1.size; omega) (fun k hk => (hown.lt k hk).1)).setCell (p := ⟨b, 1, none⟩) hB _

set_option maxHeartbeats 1000000 in
set_option maxRecDepth 100000 in
theorem wrStr (b : Nat) (l : List UInt8) (w : World) (h : Wr w b l) (h0 : l ≠ []) :
    Calls Tryz.prog 31 #[.pointer (some ⟨b, 0, none⟩)] w fun e w' => e = .returned (.string (B l)) ∧ Below b w w' := by
  obtain ⟨p, hp, hAt⟩ : ∃ p, (p = .pointer none ∨ p = .pointer (some ⟨b, 0, none⟩)) ∧ Lib.BuilderAtF 62 5 b b p (Lib.byteCells l) w := by
    rcases h with h | h
    · exact ⟨_, .inl rfl, h⟩
    · exact ⟨_, .inr rfl, h⟩
  obtain ⟨hB, v, hbk, hown, hne⟩ := hAt
  have hl0 : l.length ≠ 0 := by simpa using h0
  rw [Lib.byteCells_length] at hown
  obtain ⟨g, cap, cur, fz, rfl, hbg, hg, hfz, hnc, hcm, hcs, htake⟩ : ∃ g cap cur fz, v = .slice (some ⟨g, 0, none⟩) l.length cap ∧ b ≤ g ∧ w.heap[g]? = some (.cells cur 5 fz) ∧ fz.2 ≤ l.length * 1 ∧ l.length ≤ cap ∧ cap ≤ maxLen ∧ cur.size = cap * 1 ∧ cur.toList.take (l.length * 1) = Lib.byteCells l := by
    rcases hown.2 with ⟨_, hz⟩ | ⟨g, cap, cur, fz, hv, r⟩
    · exact absurd hz hl0
    · exact ⟨g, cap, cur, fz, hv, r⟩
  have c1 : w.drew.cell? ⟨b, 1, none⟩ = some (.slice (some ⟨g, 0, none⟩) l.length cap) := by
    have : w.drew.heap[b]? = some (.cells #[p, .slice (some ⟨g, 0, none⟩) l.length cap] 62 (0, 0)) := hbk
    rw [Lib.cell_of_heap this]; rfl
  have hSD : (Builtin.unsafeSliceData_ #[41] 89 #[.slice (some ⟨g, 0, none⟩) l.length cap]).run Tryz.prog w.drew = .ok (.pointer (some ⟨g, 0, none⟩)) w.drew :=
    Lib.run_unsafeSliceData_row _ _ _ _ _ _ (by omega)
  have hUS : (Builtin.unsafeString_ #[89, 3] 9 #[.pointer (some ⟨g, 0, none⟩), .int .i64 l.length]).run Tryz.prog w.drew = .ok (.string ⟨l.toArray⟩) (w.drew.freeze ⟨g, 0, none⟩ l.length) := by
    refine Lib.run_unsafeString_row w.drew 89 3 9 5 Tryz.underlying89 (by kernel_rfl) g cur.size (by have hg' : w.drew.heap[g]? = some (.cells cur 5 fz) := hg; simp [World.shape?, hg']) l h0 (by omega) (by unfold maxLen at hcm; omega) ?_
    intro j x hx
    have := hown.cells (g := g) rfl j (.int .u8 x.toNat) (by simp [Lib.byteCells, hx])
    exact this
  go_enter Tryz.func31, Tryz.ntmps31
  go_wp2
  go_region
  all_goals (go_wp2; go_ret; exact ⟨rfl, Lib.below_freeze (Below.drew (Below.refl b w)) (p := ⟨g, 0, none⟩) hbg _⟩)
end Go.Proofs.YtpjlepkdiaohiaaGreatDoor

namespace Go.Proofs.YtpjlepkdiaohiaaGreatDoor
open Go.RowKit
attribute [local go_sem] Oper.semAt_some

theorem cls_oth {A B : World} {b : Nat} (h : Lib.OthersKept 5 (some b) A B) {g : Nat} {t : TypeId} {xs : List Value} (hc : Cls A g t xs) (ht : t ≠ 5) (hg : g ≠ b) : Cls B g t xs :=
  h g _ hc (fun e => hg (Option.some.inj e)) (fun c fz e => ht (by injection e))
theorem Wr.alloc {W : World} {b : Nat} {l : List UInt8} (h : Wr W b l) (o : Obj) : Wr (W.alloc o) b l := (CellsKept.below (below_alloc W o)).builder h
theorem Wr.up {A B : World} {b : Nat} {l : List UInt8} (h : Wr A b l) (hb : Below A.heap.size A B) : Wr B b l := (CellsKept.below hb).builder h
theorem WrK.alloc {b : Nat} {A B : World} (h : WrK b A B) (hb : b ≤ B.heap.size) (o : Obj) : WrK b A (B.alloc o) := h.trans (.of_below (below_alloc B o) hb)

set_option maxRecDepth 100000 in
set_option maxHeartbeats 4000000 in
theorem bytes_calls (b : Nat) (l : List UInt8) (c : UInt8) (z : Int) (hz : z = (c.toNat : Nat)) (g : Nat) (w : World) (h : Wr w b l) (hg : Cls w g 5 [.int .u8 z]) (hlen : l.length + 1 ≤ 140737488355328) :
    Calls Tryz.prog 113 #[.pointer (some ⟨b, 0, none⟩), .slice (some ⟨g, 0, none⟩) 1 1] w fun e w' => e = .returned (.tuple #[]) ∧ Wr w' b (l ++ [c]) ∧ WrK b w w' := by
  have hB := wrB b l c z hz w h hlen
  have g0 := hg.cell 0 rfl
  have HX := hid h
  clear h hg hz hlen
  go_enter Tryz.func113, Tryz.ntmps113
  go_wp2
  go_loopw [8] (fun v wr => (v = .int .i64 (0 : Int) ∧ wr = w) ∨ (v = .int .i64 (1 : Int) ∧ Wr wr b (l ++ [c]) ∧ WrK b w wr)) (fun v _ => 2 - (intOf v).toNat)
  case atStart => exact .inl ⟨rfl, rfl⟩
  case round =>
    rcases hrel with ⟨rfl, rfl⟩ | ⟨rfl, h1, h2⟩
    · go_wp2_with fail
      refine hB.mono ?_
      rintro e w1 ⟨rfl, h1, h2⟩
      have HY := hid (And.intro h1 h2)
      clear hB h1 h2 g0
      go_wp2
      go_roundw
      case rel => exact .inr ⟨rfl, HY.out⟩
      case measure => simp [intOf]
    · have HY := hid (And.intro h1 h2)
      clear hB h1 h2 g0
      go_wp2
      go_end0
      exact ⟨rfl, HY.out⟩

set_option maxRecDepth 100000 in
set_option maxHeartbeats 4000000 in
theorem sizes_calls (a1 a2 a4 a8 : Int) (w : World) :
    Calls Tryz.prog 115 #[.int .i64 a1, .int .i64 a2, .int .i64 a4, .int .i64 a8] w fun e w' => e = .returned (.agg #[.int .i64 1, .int .i64 a1, .int .i64 2, .int .i64 a2, .int .i64 4, .int .i64 a4, .int .i64 8, .int .i64 a8]) ∧ Below w.heap.size w w' := by
  go_enter Tryz.func115, Tryz.ntmps115
  go_wp2
  exact bodyPost_ret (v := .agg #[.int .i64 1, .int .i64 a1, .int .i64 2, .int .i64 a2, .int .i64 4, .int .i64 a4, .int .i64 8, .int .i64 a8]) (by simp [results, Tryz.results115, go_sem]) rfl ⟨rfl, below_alloc _ _⟩

theorem shr8 (n j : Nat) : (n : Int) / 2 ^ (8 * j) % 256 = (((ch (n / 256 ^ j)).toNat : Nat) : Int) := by
  have e : (ch (n / 256 ^ j)).toNat = n / 256 ^ j % 256 := by unfold ch; rw [UInt8.toNat_ofNat']
  have e2 : (2 : Int) ^ (8 * j) = ((256 ^ j : Nat) : Int) := by
    rw [Int.pow_mul]
    norm_cast
  rw [e, e2]
  rfl
set_option maxRecDepth 100000 in
set_option maxHeartbeats 4000000 in
theorem number_calls (b : Nat) (l : List UInt8) (k f n : Nat) (hk : k ≤ 8) (hf : f < 256) (_hn : n < 18446744073709551616) (w : World) (h : Wr w b l) (hlen : l.length + 9 ≤ 140737488355328) :
    Calls Tryz.prog 116 #[.pointer (some ⟨b, 0, none⟩), .int .u64 n, .agg #[.int .i64 k, .int .i64 f]] w fun e w' => e = .returned (.tuple #[]) ∧ Wr w' b (l ++ (ch f :: beL k n)) ∧ WrK b w w' := by
  have hb := wr_lt h
  have hwf : IntKind.u8.wrap (f : Int) = (f : Int) := IntWalk.u8_in (f : Int) (by omega)
  have hA := (below_alloc w (.cells #[.int .i64 k, .int .i64 f] 149)).alloc (by simp) (.cells #[.int .u8 (f : Int)] 5)
  have hC := (Cls.new w 149 [.int .i64 k, .int .i64 f]).alloc (.cells #[.int .u8 (f : Int)] 5)
  have hbc := bytes_calls b l (ch f) (f : Int) (by rw [ch_toNat hf]) (w.heap.size + 1) _ (h.up hA) (by have := Cls.new (w.alloc (.cells #[.int .i64 k, .int .i64 f] 149)) 5 [.int .u8 (f : Int)]; rw [World.size_alloc] at this; exact this) (by omega)
  have HX := hid (And.intro hA (And.intro hC hb))
  clear h hA hC hb hf
  go_enter Tryz.func116, Tryz.ntmps116
  go_wp2_with fail
  refine hbc.mono ?_
  rintro e w1 ⟨rfl, h1, hk1⟩
  obtain ⟨hA, hC, hb⟩ := HX.out
  have hC1 := cls_oth hk1.oth hC (by decide) (by omega)
  have c0 := hC1.cell 0 rfl
  have hK1 := (WrK.of_below (b := b) hA (by omega)).trans hk1
  have HY := hid (And.intro h1 hK1)
  have hsz : b < w1.heap.size := wr_lt h1
  have HZ := hid hsz
  clear hbc HX hA hC hb hC1 hk1 h1 hK1 hwf hsz
  go_wp2
  go_loopw [6] (fun v wr => (∃ j pre, v = .int .i64 ((j : Nat) : Int) ∧ j < k ∧ pre ++ beL (j + 1) n = beL k n ∧ pre.length + (j + 1) = k ∧ Wr wr b (l ++ (ch f :: pre)) ∧ WrK b w wr) ∨ (v = .int .i64 (-1 : Int) ∧ Wr wr b (l ++ (ch f :: beL k n)) ∧ WrK b w wr)) (fun v _ => (intOf v + 1).toNat)
  case atStart =>
    cases k with
    | zero => exact .inr ⟨rfl, HY.out⟩
    | succ k => exact .inl ⟨k, [], by first | rfl | simp, Nat.lt_succ_self _, rfl, by simp, HY.out⟩
  case round =>
    rcases hrel with ⟨j, pre, rfl, hj, hp, hl, h1, h2⟩ | ⟨rfl, h1, h2⟩
    · have hB := bytes_calls b (l ++ (ch f :: pre)) (ch (n / 256 ^ j)) ((n : Int) / 2 ^ (8 * j) % 256) (shr8 n j) wr.heap.size _ (h1.alloc (.cells #[.int .u8 ((n : Int) / 2 ^ (8 * j) % 256)] 5)) (Cls.new wr 5 [.int .u8 ((n : Int) / 2 ^ (8 * j) % 256)]) (by rw [List.length_append, List.length_cons]; omega)
      have hb2 : b < wr.heap.size := wr_lt h1
      have hb := Nat.le_of_lt hb2
      have HV := hid (And.intro hp (And.intro hl (And.intro h2 (And.intro hb hj))))
      clear h1 h2 hp hl hb hb2
      go_wp2_with fail
      refine hB.mono ?_
      rintro e w2 ⟨rfl, h3, hk3⟩
      obtain ⟨hp, hl, h2, hb, hj⟩ := HV.out
      have hk4 := (h2.trans (WrK.of_below (below_alloc wr _) hb)).trans hk3
      have hp2 : (pre ++ [ch (n / 256 ^ j)]) ++ beL j n = beL k n := by rw [← hp, List.append_assoc]; rfl
      have h3' : Wr w2 b (l ++ (ch f :: (pre ++ [ch (n / 256 ^ j)]))) := by rw [List.append_assoc, List.cons_append] at h3; exact h3
      have HU := hid (And.intro hp2 (And.intro hl (And.intro h3' hk4)))
      clear hB hp hl h2 hb h3 hk3 hk4 hp2 h3' HV
      cases j with
      | zero =>
        go_wp2
        go_roundw
        case rel =>
          obtain ⟨hp, hl, h3, hk⟩ := HU.out
          rw [beL, List.append_nil] at hp
          rw [hp] at h3
          exact .inr ⟨rfl, h3, hk⟩
        case measure => simp [intOf]
      | succ j =>
        have hje : (((j + 1 : Nat) : Int) - 1) = (j : Int) := by omega
        have HJ := hid hje
        clear hje
        go_wp2
        go_roundw
        case rel =>
          obtain ⟨hp, hl, h3, hk⟩ := HU.out
          exact .inl ⟨j, _, by first | rfl | (congr 1; omega) | simp, by omega, hp, by rw [List.length_append]; simp only [List.length_cons, List.length_nil]; omega, h3, hk⟩
        case measure => simp [intOf]; omega
    · have HV := hid (And.intro h1 h2)
      clear h1 h2 hk _hn hlen c0
      go_wp2
      go_end0
      exact ⟨rfl, HV.out⟩
end Go.Proofs.YtpjlepkdiaohiaaGreatDoor

namespace Go.Proofs.YtpjlepkdiaohiaaGreatDoor
open Go.RowKit
attribute [local go_sem] Oper.semAt_some

structure Z4 where
  a1 : Int
  a2 : Int
  a4 : Int
  a8 : Int
def Z4.at (z : Z4) : Nat → Int | 0 => z.a1 | 1 => z.a2 | 2 => z.a4 | _ => z.a8
def bz : Nat → Nat | 0 => 1 | 1 => 2 | 2 => 4 | _ => 8
def Z4.cells (z : Z4) : List Value := [.int .i64 1, .int .i64 z.a1, .int .i64 2, .int .i64 z.a2, .int .i64 4, .int .i64 z.a4, .int .i64 8, .int .i64 z.a8]
def Z4.val (z : Z4) : Value := .agg z.cells.toArray
def encZ (z : Z4) (i : Nat) : Array Value := #[.agg #[.int .i64 (bz i : Nat), .int .i64 (z.at i)]]
def roomB (n : Nat) (sg : Bool) (k : Nat) : Bool := if sg then decide (n ≤ 256 ^ bz k / 2) else decide (n < 256 ^ bz k)
def okZ (z : Z4) (n : Nat) (sg : Bool) (k : Nat) : Bool := decide (0 ≤ z.at k) && roomB n sg k
theorem idx_Z (z : Z4) (w : World) : (Instr.index 150 z.val (.int .i64 0)).run Tryz.prog w = .ok (.agg #[.int .i64 1, .int .i64 z.a1]) w ∧ (Instr.index 150 z.val (.int .i64 1)).run Tryz.prog w = .ok (.agg #[.int .i64 2, .int .i64 z.a2]) w ∧
    (Instr.index 150 z.val (.int .i64 2)).run Tryz.prog w = .ok (.agg #[.int .i64 4, .int .i64 z.a4]) w ∧ (Instr.index 150 z.val (.int .i64 3)).run Tryz.prog w = .ok (.agg #[.int .i64 8, .int .i64 z.a8]) w :=
  ⟨by kernel_rfl, by kernel_rfl, by kernel_rfl, by kernel_rfl⟩
theorem ov_u0 (n : Nat) (hn : n < 18446744073709551616) : ((n : Int) / 128 / 2 != 0) = !roomB n false 0 := by
  unfold roomB
  rw [if_neg (by decide), show 256 ^ bz 0 = 256 from by decide]
  by_cases h : n < 256
  · rw [decide_eq_true h, Bool.not_true, bne_eq_false_iff_eq]; omega
  · rw [decide_eq_false h, Bool.not_false, bne_iff_ne]; omega
theorem ov_s0 (n : Nat) (hn : n < 18446744073709551616) (h1 : 1 ≤ n) : (((n : Int) - 1) / 128 != 0) = !roomB n true 0 := by
  unfold roomB
  rw [if_pos rfl, show 256 ^ bz 0 / 2 = 128 from by decide]
  by_cases h : n ≤ 128
  · rw [decide_eq_true h, Bool.not_true, bne_eq_false_iff_eq]; omega
  · rw [decide_eq_false h, Bool.not_false, bne_iff_ne]; omega
theorem ov_u1 (n : Nat) (hn : n < 18446744073709551616) : ((n : Int) / 32768 / 2 != 0) = !roomB n false 1 := by
  unfold roomB
  rw [if_neg (by decide), show 256 ^ bz 1 = 65536 from by decide]
  by_cases h : n < 65536
  · rw [decide_eq_true h, Bool.not_true, bne_eq_false_iff_eq]; omega
  · rw [decide_eq_false h, Bool.not_false, bne_iff_ne]; omega
theorem ov_s1 (n : Nat) (hn : n < 18446744073709551616) (h1 : 1 ≤ n) : (((n : Int) - 1) / 32768 != 0) = !roomB n true 1 := by
  unfold roomB
  rw [if_pos rfl, show 256 ^ bz 1 / 2 = 32768 from by decide]
  by_cases h : n ≤ 32768
  · rw [decide_eq_true h, Bool.not_true, bne_eq_false_iff_eq]; omega
  · rw [decide_eq_false h, Bool.not_false, bne_iff_ne]; omega
theorem ov_u2 (n : Nat) (hn : n < 18446744073709551616) : ((n : Int) / 2147483648 / 2 != 0) = !roomB n false 2 := by
  unfold roomB
  rw [if_neg (by decide), show 256 ^ bz 2 = 4294967296 from by decide]
  by_cases h : n < 4294967296
  · rw [decide_eq_true h, Bool.not_true, bne_eq_false_iff_eq]; omega
  · rw [decide_eq_false h, Bool.not_false, bne_iff_ne]; omega
theorem ov_s2 (n : Nat) (hn : n < 18446744073709551616) (h1 : 1 ≤ n) : (((n : Int) - 1) / 2147483648 != 0) = !roomB n true 2 := by
  unfold roomB
  rw [if_pos rfl, show 256 ^ bz 2 / 2 = 2147483648 from by decide]
  by_cases h : n ≤ 2147483648
  · rw [decide_eq_true h, Bool.not_true, bne_eq_false_iff_eq]; omega
  · rw [decide_eq_false h, Bool.not_false, bne_iff_ne]; omega
theorem ov_u3 (n : Nat) (hn : n < 18446744073709551616) : ((n : Int) / 9223372036854775808 / 2 != 0) = !roomB n false 3 := by
  unfold roomB
  rw [if_neg (by decide), show 256 ^ bz 3 = 18446744073709551616 from by decide]
  by_cases h : n < 18446744073709551616
  · rw [decide_eq_true h, Bool.not_true, bne_eq_false_iff_eq]; omega
  · rw [decide_eq_false h, Bool.not_false, bne_iff_ne]; omega
theorem ov_s3 (n : Nat) (hn : n < 18446744073709551616) (h1 : 1 ≤ n) : (((n : Int) - 1) / 9223372036854775808 != 0) = !roomB n true 3 := by
  unfold roomB
  rw [if_pos rfl, show 256 ^ bz 3 / 2 = 9223372036854775808 from by decide]
  by_cases h : n ≤ 9223372036854775808
  · rw [decide_eq_true h, Bool.not_true, bne_eq_false_iff_eq]; omega
  · rw [decide_eq_false h, Bool.not_false, bne_iff_ne]; omega
theorem okZ_no {z : Z4} {n k : Nat} {sg : Bool} (h : z.at k < 0 ∨ roomB n sg k = false) : okZ z n sg k = false := by
  unfold okZ
  rcases h with h | h
  · rw [decide_eq_false (by omega), Bool.false_and]
  · rw [h, Bool.and_false]
theorem okZ_yes {z : Z4} {n k : Nat} {sg : Bool} (h : 0 ≤ z.at k) (h2 : roomB n sg k = true) : okZ z n sg k = true := by
  unfold okZ
  rw [h2, decide_eq_true h]; rfl
theorem upto_succ {P : Nat → Prop} {k : Nat} (h : ∀ j, j < k → P j) (hk : P k) : ∀ j, j < k + 1 → P j := fun j hj => by
  by_cases e : j = k
  · subst e; exact hk
  · exact h j (by omega)
def KpW (b : Nat) (A B : World) : Prop := ∀ g t xs, t ≠ 5 → g ≠ b → Cls A g t xs → Cls B g t xs
theorem KpW.trans {b : Nat} {A B C : World} (h : KpW b A B) (k : KpW b B C) : KpW b A C := fun g t xs h1 h2 hc => k g t xs h1 h2 (h g t xs h1 h2 hc)
theorem KpW.of_below {b : Nat} {A B : World} (h : Below A.heap.size A B) : KpW b A B := fun _ _ _ _ _ hc => hc.below h
theorem KpW.putObj (b : Nat) (W : World) (l : Nat) (o o' : Obj) (h : W.heap[l]? = some o) (hc : o.isCells = false) : KpW b W (W.putObj l o') := fun g t xs _ _ hg => by
  have : g ≠ l := fun e => by
    subst e
    have : o = .cells xs.toArray t (0, 0) := Option.some.inj (h.symm.trans hg)
    rw [this] at hc; cases hc
  exact (World.putObj_heap_other this).trans hg

set_option maxRecDepth 100000 in
set_option maxHeartbeats 4000000 in
theorem fit1 (z : Z4) (n : Nat) (hn : n < 18446744073709551616) (sg : Bool) (hsg : sg = true → 1 ≤ n) (b gA gN gS : Nat) (l : Nat) (J Jx : List Nat → World → Prop)
    (hJ : ∀ p A B, J p A → Below A.heap.size A B → J p B)
    (hY : ∀ pre x W1, J pre W1 → (x < 4 ∧ okZ z n sg x = true ∧ (pre = [] → ∀ j, j < x → okZ z n sg j = false)) → YieldAt Fence.wide 7 Tryz.prog l (encZ z x) W1 fun e W' =>
      (e = .returned (.bool true) ∧ J (pre ++ [x]) W' ∧ KpW b W1 W') ∨ (e = .returned (.bool false) ∧ Jx (pre ++ [x]) W'))
    (hb : gN ≠ b ∧ gS ≠ b)
    (W : World) (h0 : J [] W) (hA : Cls W gA 150 z.cells) (hN : Cls W gN 24 [.int .u64 n]) (hS : Cls W gS 4 [.bool sg]) :
    CallsIn Fence.wide 8 Tryz.prog 172 #[.func (.yield l) #[] #[], .pointer (some ⟨gA, 0, none⟩), .pointer (some ⟨gN, 0, none⟩), .pointer (some ⟨gS, 0, none⟩)] W fun e W' => (∃ v, e = .returned v) ∧
      ((∃ ys : List Nat, (ys = [] → ∀ j, j < 4 → okZ z n sg j = false) ∧ J ys W') ∨ (∃ pre : List Nat, Jx pre W')) := by
  have hid4 := idx_Z z
  refine callsIn_of_wp Tryz.func172 rfl trivial ?_ rfl
  simp only [Tryz.ntmps172, List.size_toArray, List.length_cons, List.length_nil, Nat.reduceAdd, Nat.reduceSub, Array.replicate_succ, Array.replicate_zero, List.push_toArray, List.append_toArray, List.nil_append, List.cons_append]
  have a0 := hA.cell 0 rfl
  have a1 := hA.cell 1 rfl
  have a2 := hA.cell 2 rfl
  have a3 := hA.cell 3 rfl
  have a4 := hA.cell 4 rfl
  have a5 := hA.cell 5 rfl
  have a6 := hA.cell 6 rfl
  have a7 := hA.cell 7 rfl
  have HX := hid (And.intro hn (And.intro hsg (And.intro hb (And.intro hN (And.intro hS (And.intro hJ (And.intro hY hid4)))))))
  have H0 := hid h0
  clear hn hsg hb hN hS hJ hY hid4 h0 hA
  gi_wp2
  gi_loopw [10] (fun v wr => ∃ (k : Nat) (pre : List Nat), v = .int .i64 k ∧ k ≤ 4 ∧ (pre = [] → ∀ j, j < k → okZ z n sg j = false) ∧ J pre wr ∧ Cls wr gN 24 [.int .u64 n] ∧ Cls wr gS 4 [.bool sg]) (fun v _ => 4 - (intOf v).toNat)
  case atStart => exact ⟨0, [], rfl, Nat.zero_le _, (fun _ j hj => absurd hj (Nat.not_lt_zero _)), H0.out, HX.out.2.2.2.1, HX.out.2.2.2.2.1⟩
  case round =>
    obtain ⟨k, pre, rfl, hk, hpl, hJs, hN, hS⟩ := hrel
    clear a0 a1 a2 a3 a4 a5 a6 a7
    rcases (show k = 0 ∨ k = 1 ∨ k = 2 ∨ k = 3 ∨ k = 4 by omega) with rfl | rfl | rfl | rfl | rfl
    · have hix := fun w => (HX.out.2.2.2.2.2.2.2 w).1
      have n0 := (hN.alloc (.cells #[.int .i64 1, .int .i64 z.a1] 149)).cell 0 rfl
      have s0 := (hS.alloc (.cells #[.int .i64 1, .int .i64 z.a1] 149)).cell 0 rfl
      have hN2 := hN.alloc (.cells #[.int .i64 1, .int .i64 z.a1] 149)
      have hS2 := hS.alloc (.cells #[.int .i64 1, .int .i64 z.a1] 149)
      have hJ2 := HX.out.2.2.2.2.2.1 _ _ _ hJs (below_alloc wr (.cells #[.int .i64 1, .int .i64 z.a1] 149))
      have HK := hid (And.intro hpl (And.intro hJ2 (And.intro hN2 hS2)))
      have hat := hid (show z.at 0 = z.a1 from rfl)
      clear hpl hJs hN hS hJ2 hk hN2 hS2
      simp only [Z4.val, Z4.cells] at hix
      by_cases hz : z.a1 < 0
      · cases sg with
        | false =>
          have hov := ov_u0 n HX.out.1
          obtain ⟨R, hR⟩ : ∃ R, roomB n false 0 = R := ⟨_, rfl⟩
          rw [hR] at hov
          clear hR
          have HW := hid (show z.at 0 < 0 ∨ roomB n false 0 = false from .inl (by rw [hat.out]; exact hz))
          cases R <;> (
            gi_wp2
            go_roundw
            case rel => exact ⟨1, pre, rfl, by omega, (fun he => upto_succ (HK.out.1 he) (okZ_no HW.out)), HK.out.2.1, HK.out.2.2.1, HK.out.2.2.2⟩
            case measure => simp [intOf])
        | true =>
          have h1 : 1 ≤ n := HX.out.2.1 rfl
          have hlt := HX.out.1
          have HW := hid (show z.at 0 < 0 ∨ roomB n true 0 = false from .inl (by rw [hat.out]; exact hz))
          gi_wp2
          go_roundw
          case rel => exact ⟨1, pre, rfl, by omega, (fun he => upto_succ (HK.out.1 he) (okZ_no HW.out)), HK.out.2.1, HK.out.2.2.1, HK.out.2.2.2⟩
          case measure => simp [intOf]
      · have hz0 : 0 ≤ z.a1 := by omega
        have hzd : decide (z.a1 < 0) = false := decide_eq_false hz
        clear hz
        cases sg with
        | false =>
          have hov := ov_u0 n HX.out.1
          cases hR : roomB n false 0 with
          | false =>
            rw [hR] at hov
            have HW := hid (show z.at 0 < 0 ∨ roomB n false 0 = false from .inr hR)
            clear hR
            gi_wp2
            go_roundw
            case rel => exact ⟨1, pre, rfl, by omega, (fun he => upto_succ (HK.out.1 he) (okZ_no HW.out)), HK.out.2.1, HK.out.2.2.1, HK.out.2.2.2⟩
            case measure => simp [intOf]
          | true =>
            rw [hR] at hov
            obtain ⟨fn, tmps, assign, body, hy, hRo⟩ := HX.out.2.2.2.2.2.2.1 pre 0 _ HK.out.2.1 ⟨by omega, okZ_yes (by rw [hat.out]; exact hz0) hR, fun he => HK.out.1 he⟩
            have HW := hid hR
            clear hR
            rw [show encZ z 0 = #[.agg #[.int .i64 1, .int .i64 z.a1]] from rfl] at hy
            have HRo := hid hRo
            clear hRo
            gi_wp2
            refine HRo.out.mono ?_
            rintro e W3 (⟨rfl, hJ3, hk3⟩ | ⟨rfl, hJx3⟩)
            · have HV := hid (And.intro hJ3 hk3)
              clear hJ3 hk3
              gi_wp2
              go_roundw
              case rel => exact ⟨1, pre ++ [0], rfl, by omega, (fun he => absurd he (by simp)), HV.out.1, HV.out.2 _ _ _ (by decide) HX.out.2.2.1.1 HK.out.2.2.1, HV.out.2 _ _ _ (by decide) HX.out.2.2.1.2 HK.out.2.2.2⟩
              case measure => simp [intOf]
            · have HV := hid hJx3
              clear hJx3
              gi_wp2
              exact bodyPost_ret (results_none rfl _ _ _) rfl ⟨⟨_, rfl⟩, .inr ⟨_, HV.out⟩⟩
        | true =>
          have h1 : 1 ≤ n := HX.out.2.1 rfl
          have hlt := HX.out.1
          have hov := ov_s0 n HX.out.1 h1
          cases hR : roomB n true 0 with
          | false =>
            rw [hR] at hov
            have HW := hid (show z.at 0 < 0 ∨ roomB n true 0 = false from .inr hR)
            clear hR
            gi_wp2
            go_roundw
            case rel => exact ⟨1, pre, rfl, by omega, (fun he => upto_succ (HK.out.1 he) (okZ_no HW.out)), HK.out.2.1, HK.out.2.2.1, HK.out.2.2.2⟩
            case measure => simp [intOf]
          | true =>
            rw [hR] at hov
            obtain ⟨fn, tmps, assign, body, hy, hRo⟩ := HX.out.2.2.2.2.2.2.1 pre 0 _ HK.out.2.1 ⟨by omega, okZ_yes (by rw [hat.out]; exact hz0) hR, fun he => HK.out.1 he⟩
            have HW := hid hR
            clear hR
            rw [show encZ z 0 = #[.agg #[.int .i64 1, .int .i64 z.a1]] from rfl] at hy
            have HRo := hid hRo
            clear hRo
            gi_wp2
            refine HRo.out.mono ?_
            rintro e W3 (⟨rfl, hJ3, hk3⟩ | ⟨rfl, hJx3⟩)
            · have HV := hid (And.intro hJ3 hk3)
              clear hJ3 hk3
              gi_wp2
              go_roundw
              case rel => exact ⟨1, pre ++ [0], rfl, by omega, (fun he => absurd he (by simp)), HV.out.1, HV.out.2 _ _ _ (by decide) HX.out.2.2.1.1 HK.out.2.2.1, HV.out.2 _ _ _ (by decide) HX.out.2.2.1.2 HK.out.2.2.2⟩
              case measure => simp [intOf]
            · have HV := hid hJx3
              clear hJx3
              gi_wp2
              exact bodyPost_ret (results_none rfl _ _ _) rfl ⟨⟨_, rfl⟩, .inr ⟨_, HV.out⟩⟩
    · have hix := fun w => (HX.out.2.2.2.2.2.2.2 w).2.1
      have n0 := (hN.alloc (.cells #[.int .i64 2, .int .i64 z.a2] 149)).cell 0 rfl
      have s0 := (hS.alloc (.cells #[.int .i64 2, .int .i64 z.a2] 149)).cell 0 rfl
      have hN2 := hN.alloc (.cells #[.int .i64 2, .int .i64 z.a2] 149)
      have hS2 := hS.alloc (.cells #[.int .i64 2, .int .i64 z.a2] 149)
      have hJ2 := HX.out.2.2.2.2.2.1 _ _ _ hJs (below_alloc wr (.cells #[.int .i64 2, .int .i64 z.a2] 149))
      have HK := hid (And.intro hpl (And.intro hJ2 (And.intro hN2 hS2)))
      have hat := hid (show z.at 1 = z.a2 from rfl)
      clear hpl hJs hN hS hJ2 hk hN2 hS2
      simp only [Z4.val, Z4.cells] at hix
      by_cases hz : z.a2 < 0
      · cases sg with
        | false =>
          have hov := ov_u1 n HX.out.1
          obtain ⟨R, hR⟩ : ∃ R, roomB n false 1 = R := ⟨_, rfl⟩
          rw [hR] at hov
          clear hR
          have HW := hid (show z.at 1 < 0 ∨ roomB n false 1 = false from .inl (by rw [hat.out]; exact hz))
          cases R <;> (
            gi_wp2
            go_roundw
            case rel => exact ⟨2, pre, rfl, by omega, (fun he => upto_succ (HK.out.1 he) (okZ_no HW.out)), HK.out.2.1, HK.out.2.2.1, HK.out.2.2.2⟩
            case measure => simp [intOf])
        | true =>
          have h1 : 1 ≤ n := HX.out.2.1 rfl
          have hlt := HX.out.1
          have HW := hid (show z.at 1 < 0 ∨ roomB n true 1 = false from .inl (by rw [hat.out]; exact hz))
          gi_wp2
          go_roundw
          case rel => exact ⟨2, pre, rfl, by omega, (fun he => upto_succ (HK.out.1 he) (okZ_no HW.out)), HK.out.2.1, HK.out.2.2.1, HK.out.2.2.2⟩
          case measure => simp [intOf]
      · have hz0 : 0 ≤ z.a2 := by omega
        have hzd : decide (z.a2 < 0) = false := decide_eq_false hz
        clear hz
        cases sg with
        | false =>
          have hov := ov_u1 n HX.out.1
          cases hR : roomB n false 1 with
          | false =>
            rw [hR] at hov
            have HW := hid (show z.at 1 < 0 ∨ roomB n false 1 = false from .inr hR)
            clear hR
            gi_wp2
            go_roundw
            case rel => exact ⟨2, pre, rfl, by omega, (fun he => upto_succ (HK.out.1 he) (okZ_no HW.out)), HK.out.2.1, HK.out.2.2.1, HK.out.2.2.2⟩
            case measure => simp [intOf]
          | true =>
            rw [hR] at hov
            obtain ⟨fn, tmps, assign, body, hy, hRo⟩ := HX.out.2.2.2.2.2.2.1 pre 1 _ HK.out.2.1 ⟨by omega, okZ_yes (by rw [hat.out]; exact hz0) hR, fun he => HK.out.1 he⟩
            have HW := hid hR
            clear hR
            rw [show encZ z 1 = #[.agg #[.int .i64 2, .int .i64 z.a2]] from rfl] at hy
            have HRo := hid hRo
            clear hRo
            gi_wp2
            refine HRo.out.mono ?_
            rintro e W3 (⟨rfl, hJ3, hk3⟩ | ⟨rfl, hJx3⟩)
            · have HV := hid (And.intro hJ3 hk3)
              clear hJ3 hk3
              gi_wp2
              go_roundw
              case rel => exact ⟨2, pre ++ [1], rfl, by omega, (fun he => absurd he (by simp)), HV.out.1, HV.out.2 _ _ _ (by decide) HX.out.2.2.1.1 HK.out.2.2.1, HV.out.2 _ _ _ (by decide) HX.out.2.2.1.2 HK.out.2.2.2⟩
              case measure => simp [intOf]
            · have HV := hid hJx3
              clear hJx3
              gi_wp2
              exact bodyPost_ret (results_none rfl _ _ _) rfl ⟨⟨_, rfl⟩, .inr ⟨_, HV.out⟩⟩
        | true =>
          have h1 : 1 ≤ n := HX.out.2.1 rfl
          have hlt := HX.out.1
          have hov := ov_s1 n HX.out.1 h1
          cases hR : roomB n true 1 with
          | false =>
            rw [hR] at hov
            have HW := hid (show z.at 1 < 0 ∨ roomB n true 1 = false from .inr hR)
            clear hR
            gi_wp2
            go_roundw
            case rel => exact ⟨2, pre, rfl, by omega, (fun he => upto_succ (HK.out.1 he) (okZ_no HW.out)), HK.out.2.1, HK.out.2.2.1, HK.out.2.2.2⟩
            case measure => simp [intOf]
          | true =>
            rw [hR] at hov
            obtain ⟨fn, tmps, assign, body, hy, hRo⟩ := HX.out.2.2.2.2.2.2.1 pre 1 _ HK.out.2.1 ⟨by omega, okZ_yes (by rw [hat.out]; exact hz0) hR, fun he => HK.out.1 he⟩
            have HW := hid hR
            clear hR
            rw [show encZ z 1 = #[.agg #[.int .i64 2, .int .i64 z.a2]] from rfl] at hy
            have HRo := hid hRo
            clear hRo
            gi_wp2
            refine HRo.out.mono ?_
            rintro e W3 (⟨rfl, hJ3, hk3⟩ | ⟨rfl, hJx3⟩)
            · have HV := hid (And.intro hJ3 hk3)
              clear hJ3 hk3
              gi_wp2
              go_roundw
              case rel => exact ⟨2, pre ++ [1], rfl, by omega, (fun he => absurd he (by simp)), HV.out.1, HV.out.2 _ _ _ (by decide) HX.out.2.2.1.1 HK.out.2.2.1, HV.out.2 _ _ _ (by decide) HX.out.2.2.1.2 HK.out.2.2.2⟩
              case measure => simp [intOf]
            · have HV := hid hJx3
              clear hJx3
              gi_wp2
              exact bodyPost_ret (results_none rfl _ _ _) rfl ⟨⟨_, rfl⟩, .inr ⟨_, HV.out⟩⟩
    · have hix := fun w => (HX.out.2.2.2.2.2.2.2 w).2.2.1
      have n0 := (hN.alloc (.cells #[.int .i64 4, .int .i64 z.a4] 149)).cell 0 rfl
      have s0 := (hS.alloc (.cells #[.int .i64 4, .int .i64 z.a4] 149)).cell 0 rfl
      have hN2 := hN.alloc (.cells #[.int .i64 4, .int .i64 z.a4] 149)
      have hS2 := hS.alloc (.cells #[.int .i64 4, .int .i64 z.a4] 149)
      have hJ2 := HX.out.2.2.2.2.2.1 _ _ _ hJs (below_alloc wr (.cells #[.int .i64 4, .int .i64 z.a4] 149))
      have HK := hid (And.intro hpl (And.intro hJ2 (And.intro hN2 hS2)))
      have hat := hid (show z.at 2 = z.a4 from rfl)
      clear hpl hJs hN hS hJ2 hk hN2 hS2
      simp only [Z4.val, Z4.cells] at hix
      by_cases hz : z.a4 < 0
      · cases sg with
        | false =>
          have hov := ov_u2 n HX.out.1
          obtain ⟨R, hR⟩ : ∃ R, roomB n false 2 = R := ⟨_, rfl⟩
          rw [hR] at hov
          clear hR
          have HW := hid (show z.at 2 < 0 ∨ roomB n false 2 = false from .inl (by rw [hat.out]; exact hz))
          cases R <;> (
            gi_wp2
            go_roundw
            case rel => exact ⟨3, pre, rfl, by omega, (fun he => upto_succ (HK.out.1 he) (okZ_no HW.out)), HK.out.2.1, HK.out.2.2.1, HK.out.2.2.2⟩
            case measure => simp [intOf])
        | true =>
          have h1 : 1 ≤ n := HX.out.2.1 rfl
          have hlt := HX.out.1
          have HW := hid (show z.at 2 < 0 ∨ roomB n true 2 = false from .inl (by rw [hat.out]; exact hz))
          gi_wp2
          go_roundw
          case rel => exact ⟨3, pre, rfl, by omega, (fun he => upto_succ (HK.out.1 he) (okZ_no HW.out)), HK.out.2.1, HK.out.2.2.1, HK.out.2.2.2⟩
          case measure => simp [intOf]
      · have hz0 : 0 ≤ z.a4 := by omega
        have hzd : decide (z.a4 < 0) = false := decide_eq_false hz
        clear hz
        cases sg with
        | false =>
          have hov := ov_u2 n HX.out.1
          cases hR : roomB n false 2 with
          | false =>
            rw [hR] at hov
            have HW := hid (show z.at 2 < 0 ∨ roomB n false 2 = false from .inr hR)
            clear hR
            gi_wp2
            go_roundw
            case rel => exact ⟨3, pre, rfl, by omega, (fun he => upto_succ (HK.out.1 he) (okZ_no HW.out)), HK.out.2.1, HK.out.2.2.1, HK.out.2.2.2⟩
            case measure => simp [intOf]
          | true =>
            rw [hR] at hov
            obtain ⟨fn, tmps, assign, body, hy, hRo⟩ := HX.out.2.2.2.2.2.2.1 pre 2 _ HK.out.2.1 ⟨by omega, okZ_yes (by rw [hat.out]; exact hz0) hR, fun he => HK.out.1 he⟩
            have HW := hid hR
            clear hR
            rw [show encZ z 2 = #[.agg #[.int .i64 4, .int .i64 z.a4]] from rfl] at hy
            have HRo := hid hRo
            clear hRo
            gi_wp2
            refine HRo.out.mono ?_
            rintro e W3 (⟨rfl, hJ3, hk3⟩ | ⟨rfl, hJx3⟩)
            · have HV := hid (And.intro hJ3 hk3)
              clear hJ3 hk3
              gi_wp2
              go_roundw
              case rel => exact ⟨3, pre ++ [2], rfl, by omega, (fun he => absurd he (by simp)), HV.out.1, HV.out.2 _ _ _ (by decide) HX.out.2.2.1.1 HK.out.2.2.1, HV.out.2 _ _ _ (by decide) HX.out.2.2.1.2 HK.out.2.2.2⟩
              case measure => simp [intOf]
            · have HV := hid hJx3
              clear hJx3
              gi_wp2
              exact bodyPost_ret (results_none rfl _ _ _) rfl ⟨⟨_, rfl⟩, .inr ⟨_, HV.out⟩⟩
        | true =>
          have h1 : 1 ≤ n := HX.out.2.1 rfl
          have hlt := HX.out.1
          have hov := ov_s2 n HX.out.1 h1
          cases hR : roomB n true 2 with
          | false =>
            rw [hR] at hov
            have HW := hid (show z.at 2 < 0 ∨ roomB n true 2 = false from .inr hR)
            clear hR
            gi_wp2
            go_roundw
            case rel => exact ⟨3, pre, rfl, by omega, (fun he => upto_succ (HK.out.1 he) (okZ_no HW.out)), HK.out.2.1, HK.out.2.2.1, HK.out.2.2.2⟩
            case measure => simp [intOf]
          | true =>
            rw [hR] at hov
            obtain ⟨fn, tmps, assign, body, hy, hRo⟩ := HX.out.2.2.2.2.2.2.1 pre 2 _ HK.out.2.1 ⟨by omega, okZ_yes (by rw [hat.out]; exact hz0) hR, fun he => HK.out.1 he⟩
            have HW := hid hR
            clear hR
            rw [show encZ z 2 = #[.agg #[.int .i64 4, .int .i64 z.a4]] from rfl] at hy
            have HRo := hid hRo
            clear hRo
            gi_wp2
            refine HRo.out.mono ?_
            rintro e W3 (⟨rfl, hJ3, hk3⟩ | ⟨rfl, hJx3⟩)
            · have HV := hid (And.intro hJ3 hk3)
              clear hJ3 hk3
              gi_wp2
              go_roundw
              case rel => exact ⟨3, pre ++ [2], rfl, by omega, (fun he => absurd he (by simp)), HV.out.1, HV.out.2 _ _ _ (by decide) HX.out.2.2.1.1 HK.out.2.2.1, HV.out.2 _ _ _ (by decide) HX.out.2.2.1.2 HK.out.2.2.2⟩
              case measure => simp [intOf]
            · have HV := hid hJx3
              clear hJx3
              gi_wp2
              exact bodyPost_ret (results_none rfl _ _ _) rfl ⟨⟨_, rfl⟩, .inr ⟨_, HV.out⟩⟩
    · have hix := fun w => (HX.out.2.2.2.2.2.2.2 w).2.2.2
      have n0 := (hN.alloc (.cells #[.int .i64 8, .int .i64 z.a8] 149)).cell 0 rfl
      have s0 := (hS.alloc (.cells #[.int .i64 8, .int .i64 z.a8] 149)).cell 0 rfl
      have hN2 := hN.alloc (.cells #[.int .i64 8, .int .i64 z.a8] 149)
      have hS2 := hS.alloc (.cells #[.int .i64 8, .int .i64 z.a8] 149)
      have hJ2 := HX.out.2.2.2.2.2.1 _ _ _ hJs (below_alloc wr (.cells #[.int .i64 8, .int .i64 z.a8] 149))
      have HK := hid (And.intro hpl (And.intro hJ2 (And.intro hN2 hS2)))
      have hat := hid (show z.at 3 = z.a8 from rfl)
      clear hpl hJs hN hS hJ2 hk hN2 hS2
      simp only [Z4.val, Z4.cells] at hix
      by_cases hz : z.a8 < 0
      · cases sg with
        | false =>
          have hov := ov_u3 n HX.out.1
          obtain ⟨R, hR⟩ : ∃ R, roomB n false 3 = R := ⟨_, rfl⟩
          rw [hR] at hov
          clear hR
          have HW := hid (show z.at 3 < 0 ∨ roomB n false 3 = false from .inl (by rw [hat.out]; exact hz))
          cases R <;> (
            gi_wp2
            go_roundw
            case rel => exact ⟨4, pre, rfl, by omega, (fun he => upto_succ (HK.out.1 he) (okZ_no HW.out)), HK.out.2.1, HK.out.2.2.1, HK.out.2.2.2⟩
            case measure => simp [intOf])
        | true =>
          have h1 : 1 ≤ n := HX.out.2.1 rfl
          have hlt := HX.out.1
          have HW := hid (show z.at 3 < 0 ∨ roomB n true 3 = false from .inl (by rw [hat.out]; exact hz))
          gi_wp2
          go_roundw
          case rel => exact ⟨4, pre, rfl, by omega, (fun he => upto_succ (HK.out.1 he) (okZ_no HW.out)), HK.out.2.1, HK.out.2.2.1, HK.out.2.2.2⟩
          case measure => simp [intOf]
      · have hz0 : 0 ≤ z.a8 := by omega
        have hzd : decide (z.a8 < 0) = false := decide_eq_false hz
        clear hz
        cases sg with
        | false =>
          have hov := ov_u3 n HX.out.1
          cases hR : roomB n false 3 with
          | false =>
            rw [hR] at hov
            have HW := hid (show z.at 3 < 0 ∨ roomB n false 3 = false from .inr hR)
            clear hR
            gi_wp2
            go_roundw
            case rel => exact ⟨4, pre, rfl, by omega, (fun he => upto_succ (HK.out.1 he) (okZ_no HW.out)), HK.out.2.1, HK.out.2.2.1, HK.out.2.2.2⟩
            case measure => simp [intOf]
          | true =>
            rw [hR] at hov
            obtain ⟨fn, tmps, assign, body, hy, hRo⟩ := HX.out.2.2.2.2.2.2.1 pre 3 _ HK.out.2.1 ⟨by omega, okZ_yes (by rw [hat.out]; exact hz0) hR, fun he => HK.out.1 he⟩
            have HW := hid hR
            clear hR
            rw [show encZ z 3 = #[.agg #[.int .i64 8, .int .i64 z.a8]] from rfl] at hy
            have HRo := hid hRo
            clear hRo
            gi_wp2
            refine HRo.out.mono ?_
            rintro e W3 (⟨rfl, hJ3, hk3⟩ | ⟨rfl, hJx3⟩)
            · have HV := hid (And.intro hJ3 hk3)
              clear hJ3 hk3
              gi_wp2
              go_roundw
              case rel => exact ⟨4, pre ++ [3], rfl, by omega, (fun he => absurd he (by simp)), HV.out.1, HV.out.2 _ _ _ (by decide) HX.out.2.2.1.1 HK.out.2.2.1, HV.out.2 _ _ _ (by decide) HX.out.2.2.1.2 HK.out.2.2.2⟩
              case measure => simp [intOf]
            · have HV := hid hJx3
              clear hJx3
              gi_wp2
              exact bodyPost_ret (results_none rfl _ _ _) rfl ⟨⟨_, rfl⟩, .inr ⟨_, HV.out⟩⟩
        | true =>
          have h1 : 1 ≤ n := HX.out.2.1 rfl
          have hlt := HX.out.1
          have hov := ov_s3 n HX.out.1 h1
          cases hR : roomB n true 3 with
          | false =>
            rw [hR] at hov
            have HW := hid (show z.at 3 < 0 ∨ roomB n true 3 = false from .inr hR)
            clear hR
            gi_wp2
            go_roundw
            case rel => exact ⟨4, pre, rfl, by omega, (fun he => upto_succ (HK.out.1 he) (okZ_no HW.out)), HK.out.2.1, HK.out.2.2.1, HK.out.2.2.2⟩
            case measure => simp [intOf]
          | true =>
            rw [hR] at hov
            obtain ⟨fn, tmps, assign, body, hy, hRo⟩ := HX.out.2.2.2.2.2.2.1 pre 3 _ HK.out.2.1 ⟨by omega, okZ_yes (by rw [hat.out]; exact hz0) hR, fun he => HK.out.1 he⟩
            have HW := hid hR
            clear hR
            rw [show encZ z 3 = #[.agg #[.int .i64 8, .int .i64 z.a8]] from rfl] at hy
            have HRo := hid hRo
            clear hRo
            gi_wp2
            refine HRo.out.mono ?_
            rintro e W3 (⟨rfl, hJ3, hk3⟩ | ⟨rfl, hJx3⟩)
            · have HV := hid (And.intro hJ3 hk3)
              clear hJ3 hk3
              gi_wp2
              go_roundw
              case rel => exact ⟨4, pre ++ [3], rfl, by omega, (fun he => absurd he (by simp)), HV.out.1, HV.out.2 _ _ _ (by decide) HX.out.2.2.1.1 HK.out.2.2.1, HV.out.2 _ _ _ (by decide) HX.out.2.2.1.2 HK.out.2.2.2⟩
              case measure => simp [intOf]
            · have HV := hid hJx3
              clear hJx3
              gi_wp2
              exact bodyPost_ret (results_none rfl _ _ _) rfl ⟨⟨_, rfl⟩, .inr ⟨_, HV.out⟩⟩
    · have HK := hid (And.intro hpl hJs)
      clear hpl hJs hN hS hk
      gi_wp2
      go_end0
      exact ⟨⟨_, rfl⟩, .inl ⟨pre, HK.out.1, HK.out.2⟩⟩
end Go.Proofs.YtpjlepkdiaohiaaGreatDoor

namespace Go.Proofs.YtpjlepkdiaohiaaGreatDoor
open Go.RowKit
attribute [local go_sem] Oper.semAt_some

set_option maxRecDepth 100000 in
set_option maxHeartbeats 4000000 in
theorem fitting_calls (z : Z4) (n : Nat) (sg : Bool) (w : World) :
    Calls Tryz.prog 146 #[.int .u64 n, .bool sg, z.val] w fun e w' => e = .returned (.func (.func 172) #[] #[.pointer (some ⟨w.heap.size + 1 + 1, 0, none⟩), .pointer (some ⟨w.heap.size, 0, none⟩), .pointer (some ⟨w.heap.size + 1, 0, none⟩)]) ∧
      w' = ((w.alloc (.cells #[.int .u64 n] 24)).alloc (.cells #[.bool sg] 4)).alloc (.cells z.cells.toArray 150) := by
  unfold Z4.val Z4.cells
  go_enter Tryz.func146, Tryz.ntmps146
  go_wp2
  go_ret
  exact ⟨rfl, rfl⟩

def leastZ (z : Z4) (n : Nat) (sg : Bool) (v : Nat) : List UInt8 :=
  if okZ z n sg 0 then ch z.a1.toNat :: beL 1 v else if okZ z n sg 1 then ch z.a2.toNat :: beL 2 v else if okZ z n sg 2 then ch z.a4.toNat :: beL 4 v else if okZ z n sg 3 then ch z.a8.toNat :: beL 8 v else []
theorem leastZ_at {z : Z4} {n v k : Nat} {sg : Bool} (h4 : k < 4) (h1 : okZ z n sg k = true) (h0 : ∀ j, j < k → okZ z n sg j = false) : leastZ z n sg v = ch (z.at k).toNat :: beL (bz k) v := by
  unfold leastZ
  rcases (show k = 0 ∨ k = 1 ∨ k = 2 ∨ k = 3 by omega) with rfl | rfl | rfl | rfl
  · rw [if_pos h1]; rfl
  · rw [if_neg (by rw [h0 0 (by decide)]; decide), if_pos h1]; rfl
  · rw [if_neg (by rw [h0 0 (by decide)]; decide), if_neg (by rw [h0 1 (by decide)]; decide), if_pos h1]; rfl
  · rw [if_neg (by rw [h0 0 (by decide)]; decide), if_neg (by rw [h0 1 (by decide)]; decide), if_neg (by rw [h0 2 (by decide)]; decide), if_pos h1]; rfl
theorem okZ_pos {z : Z4} {n k : Nat} {sg : Bool} (h : okZ z n sg k = true) : 0 ≤ z.at k := by
  unfold okZ at h
  rw [Bool.and_eq_true, decide_eq_true_eq] at h; exact h.1
theorem bz_le (i : Nat) : bz i ≤ 8 := by
  unfold bz; split <;> decide
theorem fit_iter (z : Z4) (n : Nat) (hn : n < 18446744073709551616) (sg : Bool) (hsg : sg = true → 1 ≤ n) (b gA gN gS : Nat) (w : World) (hA : Cls w gA 150 z.cells) (hN : Cls w gN 24 [.int .u64 n]) (hS : Cls w gS 4 [.bool sg]) (hb : gN ≠ b ∧ gS ≠ b) :
    IterC Tryz.prog 172 #[.pointer (some ⟨gA, 0, none⟩), .pointer (some ⟨gN, 0, none⟩), .pointer (some ⟨gS, 0, none⟩)] (encZ z) (fun A B => Below A.heap.size A B) (KpW b)
      (fun pre x => x < 4 ∧ okZ z n sg x = true ∧ (pre = [] → ∀ j, j < x → okZ z n sg j = false)) (fun ys _ => ys = [] → ∀ j, j < 4 → okZ z n sg j = false) (fun _ _ => True) w := by
  intro l J Jx W hW hJ _ hY h0
  refine (fit1 z n hn sg hsg b gA gN gS l J Jx (fun p A B h ho => hJ p A B h ho) hY hb W h0 (hA.below hW) (hN.below hW) (hS.below hW)).mono ?_
  rintro e W' ⟨he, ⟨ys, h1, h2⟩ | ⟨pre, h2⟩⟩
  · exact ⟨he, .inl ⟨ys, h1, h2⟩⟩
  · exact ⟨he, .inr ⟨pre, trivial, h2⟩⟩
theorem wrk_keeps {b B : Nat} {A C : World} {l : List UInt8} (h : WrK b A C) (hw : Wr A b l) : KeepsFrom B A C :=
  ⟨h.below.size, fun k o _ hk ho => h.oth k o hk (fun e => by
    obtain rfl := Option.some.inj e
    rcases hw with hw | hw <;> (obtain ⟨_, v, hb, _⟩ := hw; rw [hb] at hk; cases hk; cases ho)) (fun c fz e => by rw [e] at ho; cases ho)⟩
theorem WrK.next {b B : Nat} {w A C : World} (h : WrK b w A) (hb : Below B A C) (h1 : w.heap.size ≤ B) (h2 : b ≤ B) : WrK b w C :=
  ⟨h.below.trans (hb.mono h2), fun k o hk hne ho => (hb.block k (Nat.lt_of_lt_of_le (Array.getElem?_eq_some_iff.1 hk).1 h1)).trans (h.oth k o hk hne ho)⟩
theorem Wr.putDef {W : World} {b D : Nat} {l : List UInt8} {x : Option (List Deferred)} (h : Wr W b l) (hD : W.heap[D]? = some (.deferred x)) (hne : D ≠ b) {o : Obj} : Wr (W.putObj D o) b l :=
  CellsKept.builder (fun k c t fz hk => by
    have : k ≠ D := fun e => by subst e; rw [hD] at hk; cases hk
    exact (World.putObj_heap_other this).trans hk) h
theorem WrK.putDef {W w : World} {b D : Nat} {x : Option (List Deferred)} (h : WrK b w W) (_hD : W.heap[D]? = some (.deferred x)) (hne : w.heap.size ≤ D ∧ b ≤ D) {o : Obj} : WrK b w (W.putObj D o) :=
  ⟨h.below.trans ⟨rfl, rfl, rfl, by simp [World.putObj], fun k hk => World.putObj_heap_other (by omega)⟩, fun k o' hk h1 h2 => (World.putObj_heap_other (by have := (Array.getElem?_eq_some_iff.1 hk).1; omega)).trans (h.oth k o' hk h1 h2)⟩
structure LsI (w : World) (b v : Nat) (l : List UInt8) (W : World) : Prop where
  ptr : Cls W w.heap.size 57 [.pointer (some ⟨b, 0, none⟩)]
  val : Cls W (w.heap.size + 1 + 1) 24 [.int .u64 v]
  wr : Wr W b l
  kp : WrK b w W
  size : w.heap.size + 6 ≤ W.heap.size
theorem LsI.next {w : World} {b v : Nat} {l : List UInt8} {A C : World} {B : Nat} (h : LsI w b v l A) (hk : CellsKept A C) (hb : Below B A C) (hB : w.heap.size + 6 ≤ B) (hbw : b < w.heap.size := by omega) : LsI w b v l C :=
  ⟨hk.cls h.ptr, hk.cls h.val, hk.builder h.wr, h.kp.next hb (by omega) (by omega), Nat.le_trans h.size hb.size⟩
theorem LsI.below' {w : World} {b v : Nat} {l : List UInt8} {A C : World} (h : LsI w b v l A) (hb : Below A.heap.size A C) (hbw : b < w.heap.size := by omega) : LsI w b v l C :=
  h.next (CellsKept.below hb) hb h.size
theorem LsI.wrote {w : World} {b v : Nat} {l l' : List UInt8} {A C : World} (h : LsI w b v l A) (hb : b < w.heap.size) (hk : WrK b A C) (hw : Wr C b l') : LsI w b v l' C :=
  ⟨cls_oth hk.oth h.ptr (by decide) (by omega), cls_oth hk.oth h.val (by decide) (by omega), hw, h.kp.trans hk, Nat.le_trans h.size hk.below.size⟩

set_option maxRecDepth 100000 in
set_option maxHeartbeats 4000000 in
theorem wleast_calls (z : Z4) (hz : ∀ k, z.at k < 256) (n : Nat) (hn : n < 18446744073709551616) (sg : Bool) (hsg : sg = true → 1 ≤ n) (v : Nat) (hv : v = if sg then negN n else n) (b : Nat) (l : List UInt8) (w : World) (h : Wr w b l) (hlen : l.length + 9 ≤ 140737488355328) :
    Calls Tryz.prog 114 #[.pointer (some ⟨b, 0, none⟩), .int .u64 n, .bool sg, z.val] w fun e w' => e = .returned (.tuple #[]) ∧ Wr w' b (l ++ leastZ z n sg v) ∧ WrK b w w' := by
  have hprog : Tryz.prog.follows .mixedOrders = true := by kernel_rfl
  refine calls_marks Tryz.func114 rfl ?_
  simp only [Tryz.ntmps114, List.size_toArray, List.length_cons, List.length_nil, Nat.reduceAdd, Nat.reduceSub, Array.replicate_succ, Array.replicate_zero, List.push_toArray, List.append_toArray, List.nil_append, List.cons_append]
  have HX := hid (And.intro hz (And.intro hn (And.intro hsg (And.intro hv (And.intro h hlen)))))
  clear hz hn hsg hv h hlen
  have hfit := fun W => fitting_calls z n sg W
  unfold Z4.val Z4.cells at hfit ⊢
  cases sg with
  | false =>
    go_wp2_with fail
    refine wp_scope_straight ?_
    go_wp2_with fail
    first | refine wp_label ?_ | refine wp_seq (wp_label ?_)
    go_wp2_with fail
    refine (hfit _).mono ?_
    rintro e w1 ⟨rfl, rfl⟩
    go_wp2
    have hvv : (n : Int) = (v : Int) := by
      obtain ⟨-, hn, hsg, hv, -⟩ := HX.out
      rw [if_neg (by decide)] at hv
      rw [hv]
    have hbw : b < w.heap.size := wr_lt HX.out.2.2.2.2.1
    obtain ⟨W0, hW0, hsz0, hI0, hA0, hN0, hS0⟩ : ∃ W0, ((((((w.alloc (.cells #[.pointer (some ⟨b, 0, none⟩)] 57)).alloc (.cells #[.int .i64 1, .int .i64 z.a1, .int .i64 2, .int .i64 z.a2, .int .i64 4, .int .i64 z.a4, .int .i64 8, .int .i64 z.a8] 150)).alloc (.cells #[.int .u64 ((n : Int))] 24)).alloc (.cells #[.int .u64 n] 24)).alloc (.cells #[.bool false] 4)).alloc (.cells #[.int .i64 1, .int .i64 z.a1, .int .i64 2, .int .i64 z.a2, .int .i64 4, .int .i64 z.a4, .int .i64 8, .int .i64 z.a8] 150)) = W0 ∧ W0.heap.size = w.heap.size + 6 ∧ LsI w b v l W0 ∧ Cls W0 (w.heap.size + 1 + 1 + 1 + 1 + 1) 150 z.cells ∧ Cls W0 (w.heap.size + 1 + 1 + 1) 24 [.int .u64 n] ∧ Cls W0 (w.heap.size + 1 + 1 + 1 + 1) 4 [.bool false] := by
      have b0 := Cls.new w 57 [.pointer (some ⟨b, 0, none⟩)]
      have b2 := Cls.new ((w.alloc (.cells #[.pointer (some ⟨b, 0, none⟩)] 57)).alloc (.cells #[.int .i64 1, .int .i64 z.a1, .int .i64 2, .int .i64 z.a2, .int .i64 4, .int .i64 z.a4, .int .i64 8, .int .i64 z.a8] 150)) 24 [.int .u64 ((n : Int))]
      have b3 := Cls.new (((w.alloc (.cells #[.pointer (some ⟨b, 0, none⟩)] 57)).alloc (.cells #[.int .i64 1, .int .i64 z.a1, .int .i64 2, .int .i64 z.a2, .int .i64 4, .int .i64 z.a4, .int .i64 8, .int .i64 z.a8] 150)).alloc (.cells #[.int .u64 ((n : Int))] 24)) 24 [.int .u64 n]
      have b4 := Cls.new ((((w.alloc (.cells #[.pointer (some ⟨b, 0, none⟩)] 57)).alloc (.cells #[.int .i64 1, .int .i64 z.a1, .int .i64 2, .int .i64 z.a2, .int .i64 4, .int .i64 z.a4, .int .i64 8, .int .i64 z.a8] 150)).alloc (.cells #[.int .u64 ((n : Int))] 24)).alloc (.cells #[.int .u64 n] 24)) 4 [.bool false]
      have b5 := Cls.new (((((w.alloc (.cells #[.pointer (some ⟨b, 0, none⟩)] 57)).alloc (.cells #[.int .i64 1, .int .i64 z.a1, .int .i64 2, .int .i64 z.a2, .int .i64 4, .int .i64 z.a4, .int .i64 8, .int .i64 z.a8] 150)).alloc (.cells #[.int .u64 ((n : Int))] 24)).alloc (.cells #[.int .u64 n] 24)).alloc (.cells #[.bool false] 4)) 150 z.cells
      simp only [World.size_alloc] at b2 b3 b4 b5
      have hA := (((((below_alloc w (.cells #[.pointer (some ⟨b, 0, none⟩)] 57)).alloc (by simp) (.cells #[.int .i64 1, .int .i64 z.a1, .int .i64 2, .int .i64 z.a2, .int .i64 4, .int .i64 z.a4, .int .i64 8, .int .i64 z.a8] 150)).alloc (by simp; omega) (.cells #[.int .u64 ((n : Int))] 24)).alloc (by simp; omega) (.cells #[.int .u64 n] 24)).alloc (by simp; omega) (.cells #[.bool false] 4)).alloc (by simp; omega) (.cells #[.int .i64 1, .int .i64 z.a1, .int .i64 2, .int .i64 z.a2, .int .i64 4, .int .i64 z.a4, .int .i64 8, .int .i64 z.a8] 150)
      refine ⟨_, rfl, by simp, ⟨((((b0.alloc _).alloc _).alloc _).alloc _).alloc _, ?_, HX.out.2.2.2.2.1.up hA, .of_below hA (by omega), by simp⟩, b5, (b3.alloc _).alloc _, b4.alloc _⟩
      rw [hvv] at b2 ⊢
      exact ((b2.alloc _).alloc _).alloc _
    rw [hW0]
    clear hW0 hfit
    have HV := hid hvv
    clear hvv
    refine rangeOverP (gf := 172) (lb := #[.pointer (some ⟨w.heap.size + 1 + 1 + 1 + 1 + 1, 0, none⟩), .pointer (some ⟨w.heap.size + 1 + 1 + 1, 0, none⟩), .pointer (some ⟨w.heap.size + 1 + 1 + 1 + 1, 0, none⟩)]) rfl (enters_of Tryz.func172 (by kernel_rfl) rfl)
      (fit_iter z n HX.out.2.1 false (by first | exact HX.out.2.2.1 | exact fun _ => HX.out.2.2.1 trivial) b _ _ _ W0 hA0 hN0 hS0 ⟨by omega, by omega⟩) (Below.refl _ _) (fun _ => rfl)
      (fun A B h => ⟨h.size, fun k o _ h1 _ => (h.block k (Array.getElem?_eq_some_iff.1 h1).1).trans h1⟩) (fun h k => h.trans k) (fun W l o o' hl h hc hw => KpW.putObj b W l o o' h hc)
      (ownFrom_pure _ _) (ownFrom_pure _ _)
      (fun pre W => pre = [] ∧ LsI w b v l W)
      (fun c pre W => c = .exit 0 ∧ ∃ k, k < 4 ∧ okZ z n false k = true ∧ (∀ j, j < k → okZ z n false j = false) ∧ LsI w b v (l ++ (ch (z.at k).toNat :: beL (bz k) v)) W)
      ?hI (fun _ => ?hIx) ?hII ?hIxI ⟨rfl, hI0⟩
      (fun i a' W => ∃ q, W0.heap.size ≤ q ∧ q < W.heap.size ∧ Cls W q 149 [.int .i64 (bz i : Nat), .int .i64 (z.at i)] ∧ a' = { tmps := #[.pointer (some ⟨b, 0, none⟩), .int .u64 n, .bool false, .agg #[.int .i64 1, .int .i64 z.a1, .int .i64 2, .int .i64 z.a2, .int .i64 4, .int .i64 z.a4, .int .i64 8, .int .i64 z.a8], .pointer (some ⟨w.heap.size, 0, none⟩), undef, undef, .pointer (some ⟨w.heap.size + 1, 0, none⟩), .pointer (some ⟨w.heap.size + 1 + 1, 0, none⟩), .pointer (some ⟨q, 0, none⟩), .int .u64 n, .bool false, undef, undef, .int .u64 n, .bool false, .agg #[.int .i64 1, .int .i64 z.a1, .int .i64 2, .int .i64 z.a2, .int .i64 4, .int .i64 z.a4, .int .i64 8, .int .i64 z.a8], .func (.func 172) #[] #[.pointer (some ⟨w.heap.size + 1 + 1 + 1 + 1 + 1, 0, none⟩), .pointer (some ⟨w.heap.size + 1 + 1 + 1, 0, none⟩), .pointer (some ⟨w.heap.size + 1 + 1 + 1 + 1, 0, none⟩)], .agg #[.int .i64 (bz i : Nat), .int .i64 (z.at i)], undef, undef, undef, undef], defers := [] })
      ?hAx ?assign ?body ?done ?stop
    case hI => exact ownFrom_of (fun s W W' h hk hb => ⟨h.1, h.2.next hk hb (by omega)⟩) (fun s W h => by rw [hsz0]; exact h.2.size)
    case hIx => exact ownFrom_of (fun s W W' ⟨h, k, h1, h2, h3, h4⟩ hk hb => ⟨h, k, h1, h2, h3, h4.next hk hb (by omega)⟩) (fun s W ⟨h, k, h1, h2, h3, h4⟩ => by rw [hsz0]; exact h4.size)
    case hII => exact fun s A B ⟨h, h2⟩ hb => ⟨h, h2.below' hb⟩
    case hIxI => exact fun c s A B ⟨h, k, h1, h2, h3, h4⟩ hb => ⟨h, k, h1, h2, h3, h4.below' hb⟩
    case hAx => exact fun i a' => ownFrom_of (fun s W W' ⟨q, h1, h2, h3, h4⟩ hk hb => ⟨q, h1, Nat.lt_of_lt_of_le h2 hb.size, hk.cls h3, h4⟩) (fun s W ⟨q, h1, h2, h3, h4⟩ => by omega)
    case assign =>
      rintro l' pre i W K ⟨hp, hi⟩ hok hK
      clear hok
      unfold encZ
      have hA := below_alloc W (.cells #[.int .i64 (bz i : Nat), .int .i64 (z.at i)] 149)
      have hC := Cls.new W 149 [.int .i64 (bz i : Nat), .int .i64 (z.at i)]
      have hs := hi.size
      have HY := hid (And.intro hA (And.intro hC (And.intro hs (And.intro hi hp))))
      clear hA hC hi hp hs hI0 hA0 hN0 hS0
      gi_wp2
      obtain ⟨hA, hC, hs, hi, hp⟩ := HY.out
      exact hK _ _ ((KeepsOthers.alloc W _).from _) (KpW.of_below hA) ⟨hp, hi.below' hA⟩ ⟨W.heap.size, by omega, by simp, hC, rfl⟩
    case body =>
      rintro l' pre i a' W hl ⟨rfl, hi⟩ ⟨q, hq1, hq2, hC, rfl⟩ ⟨hi1, hi2, hi3⟩
      have hat0 : 0 ≤ z.at i := okZ_pos hi2
      obtain ⟨f, hf⟩ : ∃ f : Nat, z.at i = (f : Int) := ⟨(z.at i).toNat, by omega⟩
      have hf256 : f < 256 := by have := HX.out.1 i; omega
      have c0 := hC.cell 0 rfl
      have c1 := hC.cell 1 rfl
      have p0 := hi.ptr.cell 0 rfl
      have v0 := hi.val.cell 0 rfl
      have hbz := bz_le i
      have hv64 : v < 18446744073709551616 := by
        obtain ⟨-, hn, hsg, hv, -⟩ := HX.out
        rw [if_neg (by decide)] at hv
        rw [hv]; exact hn
      have hnum := number_calls b l (bz i) f v hbz hf256 hv64 W hi.wr HX.out.2.2.2.2.2
      have hnb : b ≠ W.heap.size := by have := hi.size; omega
      have HY := hid (And.intro hi (And.intro hi1 (And.intro hi2 (And.intro (hi3 rfl) (And.intro hf hsz0)))))
      rw [hf] at c1
      clear hi hi1 hi2 hi3 hI0 hA0 hN0 hS0 hat0 hf256 hv64 hf hbz hC
      gi_wp2_with fail
      refine callR hnum ?_
      rintro e W1 ⟨rfl, h1, hk1⟩
      obtain ⟨hi, hi1, hi2, hi3, hf, hsz0⟩ := HY.out
      have HU := hid (And.intro h1 hk1)
      clear hnum h1 hk1 hi hi1 hi2 hi3 hf c0 c1 p0 v0
      gi_wp2
      obtain ⟨hi, hi1, hi2, hi3, hf, hsz0⟩ := HY.out
      obtain ⟨h1, hk1⟩ := HU.out
      refine ⟨wrk_keeps hk1 hi.wr, rfl, i, hi1, hi2, hi3, hi.wrote hbw hk1 ?_⟩
      rw [hf, Int.toNat_natCast]; exact h1
    case done =>
      rintro D xs W hD hxl ⟨rfl, hi⟩ hK
      have hno := hxl rfl
      have hr : leastZ z n false v = [] := by unfold leastZ; rw [hno 0 (by decide), hno 1 (by decide), hno 2 (by decide), hno 3 (by decide)]; rfl
      have HR := hid (And.intro hi (And.intro hsz0 (And.intro hD (And.intro hK hr))))
      clear hi hK hD hxl hno hr hI0 hA0 hN0 hS0
      go_wp2
      obtain ⟨hi, hsz, hD, hK, hr⟩ := HR.out
      have hDb : D ≠ b := by omega
      refine ⟨by simp, .inl ⟨_, _, rfl, run_takeDeferred hK, ?_⟩⟩
      refine ⟨.tuple #[], by simp [results, Tryz.results114, go_sem], rfl, by rw [hr, List.append_nil]; exact hi.wr.putDef hK hDb, hi.kp.putDef hK (by omega)⟩
    case stop =>
      rintro D c pre W hD - ⟨rfl, k, hk4, hk1, hk0, hi⟩ hK
      have hr : leastZ z n false v = ch (z.at k).toNat :: beL (bz k) v := leastZ_at hk4 hk1 hk0
      have HR := hid (And.intro hi (And.intro hsz0 (And.intro hD (And.intro hK hr))))
      clear hi hK hD hk1 hk0 hr hI0 hA0 hN0 hS0
      go_wp2
      obtain ⟨hi, hsz, hD, hK, hr⟩ := HR.out
      have hDb : D ≠ b := by omega
      refine ⟨by simp, .inl ⟨_, _, rfl, run_takeDeferred hK, ?_⟩⟩
      refine ⟨.tuple #[], by simp [results, Tryz.results114, go_sem], rfl, by rw [hr]; exact hi.wr.putDef hK hDb, hi.kp.putDef hK (by omega)⟩
  | true =>
    go_wp2_with fail
    refine wp_scope_straight ?_
    go_wp2_with fail
    first | refine wp_label ?_ | refine wp_seq (wp_label ?_)
    go_wp2_with fail
    refine (hfit _).mono ?_
    rintro e w1 ⟨rfl, rfl⟩
    go_wp2
    have hvv : IntKind.u64.wrap (-(n : Int)) = (v : Int) := by
      obtain ⟨-, hn, hsg, hv, -⟩ := HX.out
      have h1 : 1 ≤ n := by first | exact hsg rfl | exact hsg trivial
      have hv : v = negN n := hv
      rw [hv]
      unfold negN
      rw [IntKind.wrap_u64]
      omega
    have hbw : b < w.heap.size := wr_lt HX.out.2.2.2.2.1
    obtain ⟨W0, hW0, hsz0, hI0, hA0, hN0, hS0⟩ : ∃ W0, ((((((w.alloc (.cells #[.pointer (some ⟨b, 0, none⟩)] 57)).alloc (.cells #[.int .i64 1, .int .i64 z.a1, .int .i64 2, .int .i64 z.a2, .int .i64 4, .int .i64 z.a4, .int .i64 8, .int .i64 z.a8] 150)).alloc (.cells #[.int .u64 (IntKind.u64.wrap (-(n : Int)))] 24)).alloc (.cells #[.int .u64 n] 24)).alloc (.cells #[.bool true] 4)).alloc (.cells #[.int .i64 1, .int .i64 z.a1, .int .i64 2, .int .i64 z.a2, .int .i64 4, .int .i64 z.a4, .int .i64 8, .int .i64 z.a8] 150)) = W0 ∧ W0.heap.size = w.heap.size + 6 ∧ LsI w b v l W0 ∧ Cls W0 (w.heap.size + 1 + 1 + 1 + 1 + 1) 150 z.cells ∧ Cls W0 (w.heap.size + 1 + 1 + 1) 24 [.int .u64 n] ∧ Cls W0 (w.heap.size + 1 + 1 + 1 + 1) 4 [.bool true] := by
      have b0 := Cls.new w 57 [.pointer (some ⟨b, 0, none⟩)]
      have b2 := Cls.new ((w.alloc (.cells #[.pointer (some ⟨b, 0, none⟩)] 57)).alloc (.cells #[.int .i64 1, .int .i64 z.a1, .int .i64 2, .int .i64 z.a2, .int .i64 4, .int .i64 z.a4, .int .i64 8, .int .i64 z.a8] 150)) 24 [.int .u64 (IntKind.u64.wrap (-(n : Int)))]
      have b3 := Cls.new (((w.alloc (.cells #[.pointer (some ⟨b, 0, none⟩)] 57)).alloc (.cells #[.int .i64 1, .int .i64 z.a1, .int .i64 2, .int .i64 z.a2, .int .i64 4, .int .i64 z.a4, .int .i64 8, .int .i64 z.a8] 150)).alloc (.cells #[.int .u64 (IntKind.u64.wrap (-(n : Int)))] 24)) 24 [.int .u64 n]
      have b4 := Cls.new ((((w.alloc (.cells #[.pointer (some ⟨b, 0, none⟩)] 57)).alloc (.cells #[.int .i64 1, .int .i64 z.a1, .int .i64 2, .int .i64 z.a2, .int .i64 4, .int .i64 z.a4, .int .i64 8, .int .i64 z.a8] 150)).alloc (.cells #[.int .u64 (IntKind.u64.wrap (-(n : Int)))] 24)).alloc (.cells #[.int .u64 n] 24)) 4 [.bool true]
      have b5 := Cls.new (((((w.alloc (.cells #[.pointer (some ⟨b, 0, none⟩)] 57)).alloc (.cells #[.int .i64 1, .int .i64 z.a1, .int .i64 2, .int .i64 z.a2, .int .i64 4, .int .i64 z.a4, .int .i64 8, .int .i64 z.a8] 150)).alloc (.cells #[.int .u64 (IntKind.u64.wrap (-(n : Int)))] 24)).alloc (.cells #[.int .u64 n] 24)).alloc (.cells #[.bool true] 4)) 150 z.cells
      simp only [World.size_alloc] at b2 b3 b4 b5
      have hA := (((((below_alloc w (.cells #[.pointer (some ⟨b, 0, none⟩)] 57)).alloc (by simp) (.cells #[.int .i64 1, .int .i64 z.a1, .int .i64 2, .int .i64 z.a2, .int .i64 4, .int .i64 z.a4, .int .i64 8, .int .i64 z.a8] 150)).alloc (by simp; omega) (.cells #[.int .u64 (IntKind.u64.wrap (-(n : Int)))] 24)).alloc (by simp; omega) (.cells #[.int .u64 n] 24)).alloc (by simp; omega) (.cells #[.bool true] 4)).alloc (by simp; omega) (.cells #[.int .i64 1, .int .i64 z.a1, .int .i64 2, .int .i64 z.a2, .int .i64 4, .int .i64 z.a4, .int .i64 8, .int .i64 z.a8] 150)
      refine ⟨_, rfl, by simp, ⟨((((b0.alloc _).alloc _).alloc _).alloc _).alloc _, ?_, HX.out.2.2.2.2.1.up hA, .of_below hA (by omega), by simp⟩, b5, (b3.alloc _).alloc _, b4.alloc _⟩
      rw [hvv] at b2 ⊢
      exact ((b2.alloc _).alloc _).alloc _
    rw [hW0]
    clear hW0 hfit
    have HV := hid hvv
    clear hvv
    refine rangeOverP (gf := 172) (lb := #[.pointer (some ⟨w.heap.size + 1 + 1 + 1 + 1 + 1, 0, none⟩), .pointer (some ⟨w.heap.size + 1 + 1 + 1, 0, none⟩), .pointer (some ⟨w.heap.size + 1 + 1 + 1 + 1, 0, none⟩)]) rfl (enters_of Tryz.func172 (by kernel_rfl) rfl)
      (fit_iter z n HX.out.2.1 true (by first | exact HX.out.2.2.1 | exact fun _ => HX.out.2.2.1 trivial) b _ _ _ W0 hA0 hN0 hS0 ⟨by omega, by omega⟩) (Below.refl _ _) (fun _ => rfl)
      (fun A B h => ⟨h.size, fun k o _ h1 _ => (h.block k (Array.getElem?_eq_some_iff.1 h1).1).trans h1⟩) (fun h k => h.trans k) (fun W l o o' hl h hc hw => KpW.putObj b W l o o' h hc)
      (ownFrom_pure _ _) (ownFrom_pure _ _)
      (fun pre W => pre = [] ∧ LsI w b v l W)
      (fun c pre W => c = .exit 0 ∧ ∃ k, k < 4 ∧ okZ z n true k = true ∧ (∀ j, j < k → okZ z n true j = false) ∧ LsI w b v (l ++ (ch (z.at k).toNat :: beL (bz k) v)) W)
      ?hI (fun _ => ?hIx) ?hII ?hIxI ⟨rfl, hI0⟩
      (fun i a' W => ∃ q, W0.heap.size ≤ q ∧ q < W.heap.size ∧ Cls W q 149 [.int .i64 (bz i : Nat), .int .i64 (z.at i)] ∧ a' = { tmps := #[.pointer (some ⟨b, 0, none⟩), .int .u64 n, .bool true, .agg #[.int .i64 1, .int .i64 z.a1, .int .i64 2, .int .i64 z.a2, .int .i64 4, .int .i64 z.a4, .int .i64 8, .int .i64 z.a8], .pointer (some ⟨w.heap.size, 0, none⟩), undef, undef, .pointer (some ⟨w.heap.size + 1, 0, none⟩), .pointer (some ⟨w.heap.size + 1 + 1, 0, none⟩), .pointer (some ⟨q, 0, none⟩), .int .u64 n, .bool true, .int .u64 n, .int .u64 (IntKind.u64.wrap (-(n : Int))), .int .u64 n, .bool true, .agg #[.int .i64 1, .int .i64 z.a1, .int .i64 2, .int .i64 z.a2, .int .i64 4, .int .i64 z.a4, .int .i64 8, .int .i64 z.a8], .func (.func 172) #[] #[.pointer (some ⟨w.heap.size + 1 + 1 + 1 + 1 + 1, 0, none⟩), .pointer (some ⟨w.heap.size + 1 + 1 + 1, 0, none⟩), .pointer (some ⟨w.heap.size + 1 + 1 + 1 + 1, 0, none⟩)], .agg #[.int .i64 (bz i : Nat), .int .i64 (z.at i)], undef, undef, undef, undef], defers := [] })
      ?hAx ?assign ?body ?done ?stop
    case hI => exact ownFrom_of (fun s W W' h hk hb => ⟨h.1, h.2.next hk hb (by omega)⟩) (fun s W h => by rw [hsz0]; exact h.2.size)
    case hIx => exact ownFrom_of (fun s W W' ⟨h, k, h1, h2, h3, h4⟩ hk hb => ⟨h, k, h1, h2, h3, h4.next hk hb (by omega)⟩) (fun s W ⟨h, k, h1, h2, h3, h4⟩ => by rw [hsz0]; exact h4.size)
    case hII => exact fun s A B ⟨h, h2⟩ hb => ⟨h, h2.below' hb⟩
    case hIxI => exact fun c s A B ⟨h, k, h1, h2, h3, h4⟩ hb => ⟨h, k, h1, h2, h3, h4.below' hb⟩
    case hAx => exact fun i a' => ownFrom_of (fun s W W' ⟨q, h1, h2, h3, h4⟩ hk hb => ⟨q, h1, Nat.lt_of_lt_of_le h2 hb.size, hk.cls h3, h4⟩) (fun s W ⟨q, h1, h2, h3, h4⟩ => by omega)
    case assign =>
      rintro l' pre i W K ⟨hp, hi⟩ hok hK
      clear hok
      unfold encZ
      have hA := below_alloc W (.cells #[.int .i64 (bz i : Nat), .int .i64 (z.at i)] 149)
      have hC := Cls.new W 149 [.int .i64 (bz i : Nat), .int .i64 (z.at i)]
      have hs := hi.size
      have HY := hid (And.intro hA (And.intro hC (And.intro hs (And.intro hi hp))))
      clear hA hC hi hp hs hI0 hA0 hN0 hS0
      gi_wp2
      obtain ⟨hA, hC, hs, hi, hp⟩ := HY.out
      exact hK _ _ ((KeepsOthers.alloc W _).from _) (KpW.of_below hA) ⟨hp, hi.below' hA⟩ ⟨W.heap.size, by omega, by simp, hC, rfl⟩
    case body =>
      rintro l' pre i a' W hl ⟨rfl, hi⟩ ⟨q, hq1, hq2, hC, rfl⟩ ⟨hi1, hi2, hi3⟩
      have hat0 : 0 ≤ z.at i := okZ_pos hi2
      obtain ⟨f, hf⟩ : ∃ f : Nat, z.at i = (f : Int) := ⟨(z.at i).toNat, by omega⟩
      have hf256 : f < 256 := by have := HX.out.1 i; omega
      have c0 := hC.cell 0 rfl
      have c1 := hC.cell 1 rfl
      have p0 := hi.ptr.cell 0 rfl
      have v0 := hi.val.cell 0 rfl
      have hbz := bz_le i
      have hv64 : v < 18446744073709551616 := by
        obtain ⟨-, hn, hsg, hv, -⟩ := HX.out
        have h1 : 1 ≤ n := by first | exact hsg rfl | exact hsg trivial
        have hv : v = negN n := hv
        rw [hv]; unfold negN; omega
      have hnum := number_calls b l (bz i) f v hbz hf256 hv64 W hi.wr HX.out.2.2.2.2.2
      have hnb : b ≠ W.heap.size := by have := hi.size; omega
      have HY := hid (And.intro hi (And.intro hi1 (And.intro hi2 (And.intro (hi3 rfl) (And.intro hf hsz0)))))
      rw [hf] at c1
      clear hi hi1 hi2 hi3 hI0 hA0 hN0 hS0 hat0 hf256 hv64 hf hbz hC
      gi_wp2_with fail
      refine callR hnum ?_
      rintro e W1 ⟨rfl, h1, hk1⟩
      obtain ⟨hi, hi1, hi2, hi3, hf, hsz0⟩ := HY.out
      have HU := hid (And.intro h1 hk1)
      clear hnum h1 hk1 hi hi1 hi2 hi3 hf c0 c1 p0 v0
      gi_wp2
      obtain ⟨hi, hi1, hi2, hi3, hf, hsz0⟩ := HY.out
      obtain ⟨h1, hk1⟩ := HU.out
      refine ⟨wrk_keeps hk1 hi.wr, rfl, i, hi1, hi2, hi3, hi.wrote hbw hk1 ?_⟩
      rw [hf, Int.toNat_natCast]; exact h1
    case done =>
      rintro D xs W hD hxl ⟨rfl, hi⟩ hK
      have hno := hxl rfl
      have hr : leastZ z n true v = [] := by unfold leastZ; rw [hno 0 (by decide), hno 1 (by decide), hno 2 (by decide), hno 3 (by decide)]; rfl
      have HR := hid (And.intro hi (And.intro hsz0 (And.intro hD (And.intro hK hr))))
      clear hi hK hD hxl hno hr hI0 hA0 hN0 hS0
      go_wp2
      obtain ⟨hi, hsz, hD, hK, hr⟩ := HR.out
      have hDb : D ≠ b := by omega
      refine ⟨by simp, .inl ⟨_, _, rfl, run_takeDeferred hK, ?_⟩⟩
      refine ⟨.tuple #[], by simp [results, Tryz.results114, go_sem], rfl, by rw [hr, List.append_nil]; exact hi.wr.putDef hK hDb, hi.kp.putDef hK (by omega)⟩
    case stop =>
      rintro D c pre W hD - ⟨rfl, k, hk4, hk1, hk0, hi⟩ hK
      have hr : leastZ z n true v = ch (z.at k).toNat :: beL (bz k) v := leastZ_at hk4 hk1 hk0
      have HR := hid (And.intro hi (And.intro hsz0 (And.intro hD (And.intro hK hr))))
      clear hi hK hD hk1 hk0 hr hI0 hA0 hN0 hS0
      go_wp2
      obtain ⟨hi, hsz, hD, hK, hr⟩ := HR.out
      have hDb : D ≠ b := by omega
      refine ⟨by simp, .inl ⟨_, _, rfl, run_takeDeferred hK, ?_⟩⟩
      refine ⟨.tuple #[], by simp [results, Tryz.results114, go_sem], rfl, by rw [hr]; exact hi.wr.putDef hK hDb, hi.kp.putDef hK (by omega)⟩
end Go.Proofs.YtpjlepkdiaohiaaGreatDoor

namespace Go.Proofs.YtpjlepkdiaohiaaGreatDoor
open Go.RowKit
attribute [local go_sem] Oper.semAt_some

theorem least_u (z : Z4) (n : Nat) (h2 : 0 ≤ z.a2) (h4 : 0 ≤ z.a4) (h8 : n < 4294967296 ∨ (0 ≤ z.a8 ∧ n < 18446744073709551616)) : leastZ z n false n = sizedE n z.a1 z.a2.toNat z.a4.toNat z.a8.toNat := by
  unfold leastZ sizedE okZ
  have e0 : z.at 0 = z.a1 := rfl
  have e1 : z.at 1 = z.a2 := rfl
  have e2 : z.at 2 = z.a4 := rfl
  have e3 : z.at 3 = z.a8 := rfl
  have r0 : roomB n false 0 = decide (n < 256) := rfl
  have r1 : roomB n false 1 = decide (n < 65536) := rfl
  have r2 : roomB n false 2 = decide (n < 4294967296) := rfl
  have r3 : roomB n false 3 = decide (n < 18446744073709551616) := rfl
  rw [e0, e1, e2, e3, r0, r1, r2, r3]
  rw [decide_eq_true h2, decide_eq_true h4, Bool.true_and, Bool.true_and]
  by_cases c1 : n < 256 ∧ 0 ≤ z.a1
  · rw [if_pos c1, if_pos (by rw [decide_eq_true c1.1, decide_eq_true c1.2]; rfl)]
  rw [if_neg c1, if_neg (fun h => c1 (by rw [Bool.and_eq_true, decide_eq_true_eq, decide_eq_true_eq] at h; exact h.symm))]
  by_cases c2 : n < 65536
  · rw [if_pos c2, if_pos (decide_eq_true c2)]
  rw [if_neg c2, if_neg (fun h => c2 (of_decide_eq_true h))]
  by_cases c4 : n < 4294967296
  · rw [if_pos c4, if_pos (decide_eq_true c4)]
  rw [if_neg c4, if_neg (fun h => c4 (of_decide_eq_true h))]
  rcases h8 with h8 | ⟨h8, h9⟩
  · exact absurd h8 c4
  · rw [if_pos (by rw [decide_eq_true h8, decide_eq_true h9]; rfl)]
theorem least_s (n : Nat) (h32 : 32 < n) (h63 : n ≤ 9223372036854775808) : leastZ ⟨208, 209, 210, 211⟩ n true (negN n) = minusE n := by
  unfold leastZ minusE okZ roomB
  rw [if_pos rfl, if_pos rfl, if_pos rfl, if_pos rfl, show 256 ^ bz 0 / 2 = 128 from rfl, show 256 ^ bz 1 / 2 = 32768 from rfl, show 256 ^ bz 2 / 2 = 2147483648 from rfl, show 256 ^ bz 3 / 2 = 9223372036854775808 from rfl]
  have e0 : decide (0 ≤ (⟨208, 209, 210, 211⟩ : Z4).at 0) = true := rfl
  have e1 : decide (0 ≤ (⟨208, 209, 210, 211⟩ : Z4).at 1) = true := rfl
  have e2 : decide (0 ≤ (⟨208, 209, 210, 211⟩ : Z4).at 2) = true := rfl
  have e3 : decide (0 ≤ (⟨208, 209, 210, 211⟩ : Z4).at 3) = true := rfl
  rw [e0, e1, e2, e3, Bool.true_and, Bool.true_and, Bool.true_and, Bool.true_and, if_neg (by omega : ¬ n ≤ 32)]
  by_cases c1 : n ≤ 128
  · rw [if_pos c1, if_pos (decide_eq_true c1)]; rfl
  rw [if_neg c1, if_neg (fun h => c1 (of_decide_eq_true h))]
  by_cases c2 : n ≤ 32768
  · rw [if_pos c2, if_pos (decide_eq_true c2)]; rfl
  rw [if_neg c2, if_neg (fun h => c2 (of_decide_eq_true h))]
  by_cases c4 : n ≤ 2147483648
  · rw [if_pos c4, if_pos (decide_eq_true c4)]; rfl
  rw [if_neg c4, if_neg (fun h => c4 (of_decide_eq_true h)), if_pos (decide_eq_true h63)]; rfl

def lenZ (m few first : Nat) (z : Z4) : List UInt8 := if m < few then [ch (first + m)] else sizedE m z.a1 z.a2.toNat z.a4.toNat z.a8.toNat
theorem lenZ_le (m few first : Nat) (z : Z4) : (lenZ m few first z).length ≤ 9 := by
  unfold lenZ
  split
  · simp
  · exact (sizedE_len _ _ _ _ _).2

set_option maxRecDepth 100000 in
set_option maxHeartbeats 4000000 in
theorem length_calls (z : Z4) (hz : ∀ k, z.at k < 256) (h2 : 0 ≤ z.a2) (h4 : 0 ≤ z.a4) (m few first : Nat) (hm : m < 4294967296) (hf : few + first ≤ 256) (b : Nat) (l : List UInt8) (w : World) (h : Wr w b l) (hlen : l.length + 9 ≤ 140737488355328) :
    Calls Tryz.prog 117 #[.pointer (some ⟨b, 0, none⟩), .int .i64 m, .int .i64 few, .int .i64 first, z.val] w fun e w' => e = .returned (.tuple #[]) ∧ Wr w' b (l ++ lenZ m few first z) ∧ WrK b w w' := by
  have hbw : b < w.heap.size := wr_lt h
  have hA := below_alloc w (.cells z.cells.toArray 150)
  have hC := Cls.new w 150 z.cells
  by_cases hmf : m < few
  · have hr : lenZ m few first z = [ch (first + m)] := by unfold lenZ; rw [if_pos hmf]
    rw [hr]
    have hA2 := hA.alloc hA.size (.cells #[.int .u8 ((first : Int) + m)] 5)
    have hw8 : IntKind.u8.wrap ((first : Int) + m) = (first : Int) + m := IntWalk.u8_in _ (by omega)
    have hby := bytes_calls b l (ch (first + m)) ((first : Int) + m) (by rw [ch_toNat (by omega)]; omega) (w.heap.size + 1) _ (h.up hA2) (by have := Cls.new (w.alloc (.cells z.cells.toArray 150)) 5 [.int .u8 ((first : Int) + m)]; rw [World.size_alloc] at this; exact this) (by omega)
    have hmi : (m : Int) < few := by omega
    have HX := hid (And.intro hA2 hbw)
    clear hA hA2 hC h hr hz h2 h4 hbw
    unfold Z4.val
    unfold Z4.cells at hby ⊢
    go_enter Tryz.func117, Tryz.ntmps117
    go_wp2_with fail
    refine hby.mono ?_
    rintro e w1 ⟨rfl, h1, hk1⟩
    have HY := hid (And.intro h1 hk1)
    clear hby h1 hk1 hw8
    go_wp2
    exact bodyPost_ret (results_none rfl _ _ _) rfl ⟨rfl, HY.out.1, (WrK.of_below HX.out.1 (Nat.le_of_lt HX.out.2)).trans HY.out.2⟩
  · have hr : lenZ m few first z = leastZ z m false m := by unfold lenZ; rw [if_neg hmf, least_u z m h2 h4 (.inl hm)]
    rw [hr]
    have hle := wleast_calls z hz m (by omega) false (fun h => by cases h) m rfl b l _ (h.up hA) hlen
    have hw64 : IntKind.u64.wrap (m : Int) = (m : Int) := IntWalk.u64_in _ (by omega)
    have hmi : decide ((m : Int) < few) = false := decide_eq_false (by omega)
    have hmn : decide (m < few) = false := decide_eq_false (by omega)
    have c0 := hC.cell 0 rfl
    have c1 := hC.cell 1 rfl
    have c2 := hC.cell 2 rfl
    have c3 := hC.cell 3 rfl
    have c4 := hC.cell 4 rfl
    have c5 := hC.cell 5 rfl
    have c6 := hC.cell 6 rfl
    have c7 := hC.cell 7 rfl
    have HX := hid (And.intro hA hbw)
    clear hA hC h hr hz h2 h4 hbw hmf hm hf
    unfold Z4.val at hle ⊢
    unfold Z4.cells at hle c0 c1 c2 c3 c4 c5 c6 c7 ⊢
    go_enter Tryz.func117, Tryz.ntmps117
    go_wp2_with fail
    refine hle.mono ?_
    rintro e w1 ⟨rfl, h1, hk1⟩
    have HY := hid (And.intro h1 hk1)
    clear hle h1 hk1 hw64 c0 c1 c2 c3 c4 c5 c6 c7
    go_wp2
    go_end0
    exact ⟨rfl, HY.out.1, (WrK.of_below HX.out.1 (Nat.le_of_lt HX.out.2)).trans HY.out.2⟩
end Go.Proofs.YtpjlepkdiaohiaaGreatDoor

