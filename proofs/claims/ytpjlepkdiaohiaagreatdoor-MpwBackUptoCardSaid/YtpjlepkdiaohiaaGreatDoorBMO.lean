/- MO: MwL MwM. -/
import Derived.Test.YtpjlepkdiaohiaaGreatDoorBMN
import Derived.Test.YtpjlepkdiaohiaaGreatDoorBMK
namespace Go.Proofs.YtpjlepkdiaohiaaGreatDoor
open Go.RowKit
attribute [local go_sem] Oper.semAt_some

def wrtS (t : Tr) : ByteArray := if chk t 4 = 0 then B t.enc else ⟨#[]⟩
theorem wrtS_ok {t : Tr} (h : chk t 4 = 0) : wrtS t = B t.enc := if_pos h
theorem wrtS_no {t : Tr} (h : chk t 4 ≠ 0) : wrtS t = ⟨#[]⟩ := if_neg h
theorem new_wr (w : World) : Wr (w.alloc (.cells #[.pointer none, .slice none 0 0] 62)) w.heap.size [] := builder_new w _ _

set_option maxRecDepth 100000 in
set_option maxHeartbeats 4000000 in
theorem write_calls (t : Tr) (hfin : t.fine) (hdep : t.dep ≤ 1000) (hcnt : t.cnt ≤ 300000000000) (sl : Value) (w : World) {ea eb : Addr} (hT : TabT w ea eb) (hin : InT w (ndV t.p sl) t) :
    Calls Tryz.prog 17 #[ndV t.p sl] w fun e w' => e = .returned (.tuple #[.string (wrtS t), .int .i64 (chk t 4)]) ∧ Below w.heap.size w w' := by
  have hA := below_alloc w (.cells (ndL t.p sl).toArray 27)
  have hC := Cls.new w 27 (ndL t.p sl)
  have hck := check_calls t hfin hdep 4 sl _ (hT.below hA) (hin.up hA)
  have hcc := chk_cases t 4
  obtain ⟨C, hCk⟩ : ∃ C, chk t 4 = C := ⟨_, rfl⟩
  obtain ⟨l1, q1, n1, c1, f1, -, g1, rfl, -⟩ := InT.inv (t := t) (p := t.p) hin
  rw [g1] at hA hC hck hin ⊢
  obtain ⟨y0, y1, y2, y3, y4, y5, y6, y7, y8⟩ := hC.nine
  rw [hCk] at hck hcc ⊢
  have HX := hid (And.intro hA (And.intro hC (And.intro hT hin)))
  by_cases h0 : C = 0
  · subst h0
    obtain ⟨hok, -⟩ := chk_ok hCk
    have hel := enc_len t hok
    rw [wrtS_ok hCk]
    have HE := hid (And.intro hok (And.intro hfin (And.intro hel hcnt)))
    clear hA hC hT hin hok hfin hel hCk hcc hdep hcnt g1
    simp only [ndV, ndL] at hck y0 y1 y2 y3 y4 y5 y6 y7 y8 ⊢
    go_enter Tryz.func17, Tryz.ntmps17
    go_wp2_with fail
    refine hck.mono ?_
    rintro e w1 ⟨rfl, hb1⟩
    obtain ⟨hA, hC, hT, hin⟩ := HX.out
    have hB1 := hA.trans (hb1.mono hA.size)
    have hC1 := hC.below hb1
    have hA2 := (below_alloc w1 (.cells #[.pointer none, .slice none 0 0] 62)).alloc (by simp) (.cells (ndL t.p (.slice q1 l1.length c1)).toArray 27)
    have hW2 := (new_wr w1).alloc (.cells (ndL t.p (.slice q1 l1.length c1)).toArray 27)
    have hC2 := Cls.new (w1.alloc (.cells #[.pointer none, .slice none 0 0] 62)) 27 (ndL t.p (.slice q1 l1.length c1))
    rw [World.size_alloc] at hC2
    have hlo := hC1.lt
    have hin2 : InB (fun k => k < w1.heap.size) ((w1.alloc (.cells #[.pointer none, .slice none 0 0] 62)).alloc (.cells (ndL t.p (.slice q1 l1.length c1)).toArray 27)) (ndV t.p (.slice q1 l1.length c1)) t := (hin.up hB1).lt.up hA2
    have hT2 : TabB w1.heap.size ((w1.alloc (.cells #[.pointer none, .slice none 0 0] 62)).alloc (.cells (ndL t.p (.slice q1 l1.length c1)).toArray 27)) := ⟨w, hT.tabs, hB1.size, hB1.trans (hA2.mono hB1.size)⟩
    have hL2 : LstB w1.heap.size ((w1.alloc (.cells #[.pointer none, .slice none 0 0] 62)).alloc (.cells (ndL t.p (.slice q1 l1.length c1)).toArray 27)) (some ⟨w1.heap.size + 1, 0, none⟩) (fun _ => .slice q1 l1.length c1) [t] := fun i u hi => by
      obtain rfl : i = 0 := by have := (List.getElem?_eq_some_iff.1 hi).1; simpa using this
      obtain rfl := Option.some.inj hi
      exact ⟨⟨_, 0, rfl, .inr ⟨by omega, _, _, _, (by decide), hC2⟩, fun j x hj => by simp only [Nat.zero_mul, Nat.zero_add]; exact hC2.cell j hj⟩, hin2⟩
    obtain ⟨hok, hfin, hel, hcnt⟩ := HE.out
    have hall := all_calls [t] (by simp) (fun u hu => by rw [List.mem_singleton] at hu; subst hu; exact ⟨nodeW u hok hfin, form_some hok⟩) (some ⟨w1.heap.size + 1, 0, none⟩) 1 (fun _ => .slice q1 l1.length c1) w1.heap.size [] _ hT2 hW2 hL2 (by rw [encL, encL, List.append_nil, List.length_nil]; unfold maxB; omega)
    rw [encL, encL, List.append_nil, List.nil_append] at hall
    have hne : t.enc ≠ [] := fun e => by rw [e, List.length_nil] at hel; omega
    have HZ := hid (And.intro hB1 (And.intro hA2 hne))
    clear y0 y1 y2 y3 y4 y5 y6 y7 y8
    obtain ⟨y0, y1, y2, y3, y4, y5, y6, y7, y8⟩ := (hC1.alloc (.cells #[.pointer none, .slice none 0 0] 62)).nine
    clear hck hb1 hA hC hT hin hB1 hC1 hA2 hW2 hC2 hlo hin2 hT2 hL2 hok hfin hel hcnt hne
    simp only [ndL] at hall y0 y1 y2 y3 y4 y5 y6 y7 y8
    change Calls _ _ #[.pointer (some ⟨w1.heap.size, 0, none⟩), .slice (some ⟨w1.heap.size + 1, 0, none⟩) 1 1] _ _ at hall
    go_wp2_with fail
    refine hall.mono ?_
    rintro e w2 ⟨rfl, h2, hk2⟩
    obtain ⟨hB1, hA2, hne⟩ := HZ.out
    have hstr := wrStr w1.heap.size t.enc w2 h2 hne
    have HV := hid (hB1.trans (((hA2.trans (hk2.below.mono (Nat.le_refl _)))).mono hB1.size))
    have HB := hid hB1
    clear hall y0 y1 y2 y3 y4 y5 y6 y7 y8 h2 hk2 hB1 hA2 hne
    go_wp2_with fail
    refine hstr.mono ?_
    rintro e w3 ⟨rfl, h3⟩
    have HU := hid (HV.out.trans (h3.mono HB.out.size))
    clear hstr h3
    go_wp2
    go_ret2
    exact ⟨rfl, HU.out⟩
  · rw [wrtS_no (by rw [hCk]; exact h0)]
    have hz : (C != 0) = true := by rw [bne_iff_ne]; exact h0
    clear hA hC hT hin hfin hCk hcc hdep hcnt g1 h0
    simp only [ndV, ndL] at hck y0 y1 y2 y3 y4 y5 y6 y7 y8 ⊢
    go_enter Tryz.func17, Tryz.ntmps17
    go_wp2_with fail
    refine hck.mono ?_
    rintro e w1 ⟨rfl, hb1⟩
    have HU := hid (HX.out.1.trans (hb1.mono HX.out.1.size))
    clear hck hb1 y0 y1 y2 y3 y4 y5 y6 y7 y8
    go_wp2
    go_ret2
    exact ⟨rfl, HU.out⟩

set_option maxRecDepth 100000 in
set_option maxHeartbeats 4000000 in
theorem size_calls (t : Tr) (hfin : t.fine) (hdep : t.dep ≤ 1000) (hcnt : t.cnt ≤ 300000000000) (sl : Value) (w : World) {ea eb : Addr} (hT : TabT w ea eb) (hin : InT w (ndV t.p sl) t) :
    Calls Tryz.prog 20 #[ndV t.p sl] w fun e w' => e = .returned (.tuple #[.int .i64 (wrtS t).size, .int .i64 (chk t 4)]) ∧ Below w.heap.size w w' := by
  have hA := below_alloc w (.cells (ndL t.p sl).toArray 27)
  have hC := Cls.new w 27 (ndL t.p sl)
  have hwr := write_calls t hfin hdep hcnt sl _ (hT.below hA) (hin.up hA)
  obtain ⟨l1, q1, n1, c1, f1, -, g1, rfl, -⟩ := InT.inv (t := t) (p := t.p) hin
  rw [g1] at hA hC hwr ⊢
  obtain ⟨y0, y1, y2, y3, y4, y5, y6, y7, y8⟩ := hC.nine
  obtain ⟨C, hCk⟩ : ∃ C, chk t 4 = C := ⟨_, rfl⟩
  obtain ⟨S, hS⟩ : ∃ S, wrtS t = S := ⟨_, rfl⟩
  rw [hCk, hS] at hwr ⊢
  have HX := hid hA
  clear hA hC hT hin hfin hdep hcnt g1 hCk hS
  simp only [ndV, ndL] at hwr y0 y1 y2 y3 y4 y5 y6 y7 y8 ⊢
  go_enter Tryz.func20, Tryz.ntmps20
  go_wp2_with fail
  refine hwr.mono ?_
  rintro e w1 ⟨rfl, hb1⟩
  have HU := hid (HX.out.trans (hb1.mono HX.out.size))
  clear hwr hb1 y0 y1 y2 y3 y4 y5 y6 y7 y8
  go_wp2
  go_ret2
  exact ⟨rfl, HU.out⟩
end Go.Proofs.YtpjlepkdiaohiaaGreatDoor

namespace Go.Proofs.YtpjlepkdiaohiaaGreatDoor
open Go.RowKit
attribute [local go_sem] Oper.semAt_some

def sm1 : Pay := { Pay.z with k := 3, dg := ⟨#[50]⟩, ex := 2 }
def sm2 : Pay := { Pay.z with k := 3, n := true, dg := ⟨#[51, 51]⟩ }
def sm3 : Pay := { Pay.z with k := 11, u := 5, s := ⟨#[97]⟩ }
def smA : Pay := { Pay.z with k := 7 }
def smS : Pay := { Pay.z with k := 10 }
def smT : Tr := .nd smA [.nd sm1 [], .nd sm2 [], .nd sm3 []]
theorem sm_c : chk smT 4 = 0 := by kernel_rfl
theorem sm_s : chk (.nd smS []) 4 = 61 := by kernel_rfl
theorem sm_e : B smT.enc = ⟨#[147, 204, 200, 208, 223, 212, 5, 97]⟩ := by kernel_rfl
theorem sm_pf {p : Pay} (h : p = sm1 ∨ p = sm2 ∨ p = sm3 ∨ p = smA ∨ p = smS) : p.fine := by
  rcases h with rfl | rfl | rfl | rfl | rfl <;> exact ⟨⟨by decide, by decide⟩, by decide, ⟨by decide, by decide⟩, by decide, ⟨by decide, by decide⟩, by decide⟩
theorem sm_fine : smT.fine := by
  refine .nd _ _ (sm_pf (by simp)) (by simp) (fun t ht => ?_)
  simp only [List.mem_cons, List.not_mem_nil, or_false] at ht
  rcases ht with rfl | rfl | rfl
  · exact fine_leaf (sm_pf (.inl rfl))
  · exact fine_leaf (sm_pf (.inr (.inl rfl)))
  · exact fine_leaf (sm_pf (.inr (.inr (.inl rfl))))
theorem leaves_at {W : World} {g : Nat} {p : Pay} {xs ys : List Value} {i : Nat} (h : Cls W g 27 (xs ++ ndL p (.slice none 0 0) ++ ys)) (hi : xs.length = i * 9) : AtN W g (0 + i * 9) p (.slice none 0 0) := fun j x hj => by
  have hj9 : j < 9 := nine hj
  refine h.cell (0 + i * 9 + j) ?_
  have h9 : (ndL p (.slice none 0 0)).length = 9 := rfl
  rw [List.append_assoc, List.getElem?_append_right (by omega), List.getElem?_append_left (by omega), show 0 + i * 9 + j - xs.length = j by omega]
  exact hj
theorem sm_in (w : World) : InT ((w.alloc (.cells (ndL sm1 (.slice none 0 0) ++ ndL sm2 (.slice none 0 0) ++ ndL sm3 (.slice none 0 0)).toArray 27)).alloc (.cells (ndL smA (.slice (some ⟨w.heap.size, 0, none⟩) 3 3)).toArray 27)) (ndV smA (.slice (some ⟨w.heap.size, 0, none⟩) 3 3)) smT := by
  have h1 := (Cls.new w 27 (ndL sm1 (.slice none 0 0) ++ ndL sm2 (.slice none 0 0) ++ ndL sm3 (.slice none 0 0))).alloc (.cells (ndL smA (.slice (some ⟨w.heap.size, 0, none⟩) 3 3)).toArray 27)
  refine .nd smA _ _ 3 3 (fun _ => .slice none 0 0) rfl (fun i t hi => ?_) (fun i t hi => ?_)
  · have hi3 := (List.getElem?_eq_some_iff.1 hi).1
    rcases (show i = 0 ∨ i = 1 ∨ i = 2 by simp at hi3; omega) with rfl | rfl | rfl
    · obtain rfl := Option.some.inj hi
      exact ⟨_, 0, rfl, leaves_at (xs := []) (ys := ndL sm2 (.slice none 0 0) ++ ndL sm3 (.slice none 0 0)) (by rw [List.nil_append, ← List.append_assoc]; exact h1) rfl⟩
    · obtain rfl := Option.some.inj hi
      exact ⟨_, 0, rfl, leaves_at (xs := ndL sm1 (.slice none 0 0)) (ys := ndL sm3 (.slice none 0 0)) h1 rfl⟩
    · obtain rfl := Option.some.inj hi
      exact ⟨_, 0, rfl, leaves_at (xs := ndL sm1 (.slice none 0 0) ++ ndL sm2 (.slice none 0 0)) (ys := []) (by rw [List.append_nil]; exact h1) rfl⟩
  · have hi3 := (List.getElem?_eq_some_iff.1 hi).1
    rcases (show i = 0 ∨ i = 1 ∨ i = 2 by simp at hi3; omega) with rfl | rfl | rfl <;> (obtain rfl := Option.some.inj hi; exact InT.leaf _ _ _ _)

set_option maxRecDepth 100000 in
set_option maxHeartbeats 4000000 in
theorem shown15_calls (w : World) {ea eb : Addr} (hT : TabT w ea eb) :
    Calls Tryz.prog 15 #[] w fun e w' => e = .returned (.bool true) ∧ Below w.heap.size w w' := by
  have hA := (below_alloc w (.cells (ndL sm1 (.slice none 0 0) ++ ndL sm2 (.slice none 0 0) ++ ndL sm3 (.slice none 0 0)).toArray 27)).alloc (by simp) (.cells (ndL smA (.slice (some ⟨w.heap.size, 0, none⟩) 3 3)).toArray 27)
  have hw := write_calls smT sm_fine (by decide +kernel) (by decide +kernel) (.slice (some ⟨w.heap.size, 0, none⟩) 3 3) _ (hT.below hA) (sm_in w)
  rw [sm_c, wrtS_ok sm_c, sm_e] at hw
  have hs := fun W h => write_calls (.nd smS []) (fine_leaf (sm_pf (.inr (.inr (.inr (.inr rfl)))))) (by decide +kernel) (by decide +kernel) (.slice none 0 0) W (hT.below h) (InT.leaf _ _ _ _)
  rw [sm_s, wrtS_no (by rw [sm_s]; decide)] at hs
  have HX := hid (And.intro hA hT)
  clear hA hT
  change Calls _ _ #[ndV smA (.slice (some ⟨w.heap.size, 0, none⟩) 3 3)] _ _ at hw
  change ∀ W h, Calls _ _ #[ndV smS (.slice none 0 0)] _ _ at hs
  simp only [ndV, ndL, sm1, sm2, sm3, smA, smS, Pay.z, List.cons_append, List.nil_append] at hw hs
  go_enter Tryz.func15, Tryz.ntmps15
  go_wp2_with fail
  refine hw.mono ?_
  rintro e w1 ⟨rfl, hb1⟩
  have hB1 := HX.out.1.trans (hb1.mono HX.out.1.size)
  have HY := hid hB1
  clear hw hb1 hB1
  go_wp2_with fail
  refine (hs _ HY.out).mono ?_
  rintro e w2 ⟨rfl, hb2⟩
  have HZ := hid (HY.out.trans (hb2.mono HY.out.size))
  clear hs hb2
  go_wp2
  go_ret
  exact ⟨by first | rfl | (simp; done), HZ.out⟩
end Go.Proofs.YtpjlepkdiaohiaaGreatDoor

