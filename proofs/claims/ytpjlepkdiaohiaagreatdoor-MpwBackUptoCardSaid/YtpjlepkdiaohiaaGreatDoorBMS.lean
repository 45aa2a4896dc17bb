/- MS: TrW1 TrPp TrBk. -/
import Derived.Test.YtpjlepkdiaohiaaGreatDoorBMJ
import Derived.Test.YtpjlepkdiaohiaaGreatDoorBMF
import Derived.Deep.RegionHeld3
import Derived.Test.YtpjlepkdiaohiaaGreatDoorBMC
import Derived.IntWalk
import Derived.Test.YtpjlepkdiaohiaaGreatDoorRows
namespace Go.Proofs.YtpjlepkdiaohiaaGreatDoor
open Go.RowKit
attribute [local go_sem] Oper.semAt_some

structure St (w : World) (b : Nat) (n : Tr) (sl : Value) (W : World) : Prop where
  box : Cls W b 27 (ndL n.p sl)
  inn : InT W (ndV n.p sl) n
  below : Below w.heap.size w W
theorem St.up {w : World} {b : Nat} {n : Tr} {sl : Value} {A B : World} (h : St w b n sl A) (hb : Below A.heap.size A B) : St w b n sl B := ⟨h.box.below hb, h.inn.up hb, h.below.trans (hb.mono h.below.size)⟩
theorem st_few {w A B : World} {b : Nat} {t n : Tr} {sl sl' : Value} (hC : Cls A b 27 (ndL t.p sl)) (hw : Below w.heap.size w A) (hb : w.heap.size ≤ b) (hB : InB (fun k => A.heap.size ≤ k) B (ndV n.p sl') n) (hAB : Below A.heap.size A B) : St w b n sl' (putN B b 0 n.p sl') :=
  ⟨(hC.below hAB).putN, (hB.kept (fun k _ (hk : A.heap.size ≤ k) => putN_other _ _ _ _ _ (by have := hC.lt; omega))).toT, putN_below (hw.trans (hAB.mono hw.size)) _ _ _ _ hb⟩
structure NF (w : World) (n : Tr) (ea eb : Addr) : Prop where
  fine : n.fine
  dep : n.dep ≤ 18
  cnt : wrapI n.cnt ≤ 400
  tab : TabT w ea eb
theorem NF.of {w : World} {t : Tr} {ea eb : Addr} (hwf : t.wf) (hT : TabT w ea eb) : NF w (fewT t) ea eb := ⟨few_fine hwf, few_dep t, few_cnt t, hT⟩
theorem NF.dep' {w : World} {n : Tr} {ea eb : Addr} (h : NF w n ea eb) : n.dep ≤ 1000 := Nat.le_trans h.dep (by decide)

end Go.Proofs.YtpjlepkdiaohiaaGreatDoor

namespace Go.Proofs.YtpjlepkdiaohiaaGreatDoor
open Go

theorem wrapI_id {n : Nat} (h : n ≤ 9223372036854775807) : wrapI n = n := by
  unfold wrapI
  exact IntWalk.i64_in _ (by omega)
theorem cutD_cnt : ∀ (j : Nat) (t : Tr), (cutD j t).cnt ≤ t.cnt
  | 0, .nd p l => by show (Tr.nd p.cut []).cnt ≤ _; rw [Tr.cnt, Tr.cnt, cntL]; omega
  | j + 1, .nd p l => by
    show (Tr.nd p.cut ((l.take 40).map (cutD j))).cnt ≤ _
    rw [Tr.cnt, Tr.cnt]
    have h1 : ∀ m : List Tr, cntL (m.map (cutD j)) ≤ cntL m := fun m => by
      induction m with
      | nil => exact Nat.le_refl _
      | cons a r ih =>
        rw [List.map_cons, cntL, cntL]
        have := cutD_cnt j a
        omega
    have h2 : cntL (l.take 40) ≤ cntL l := by
      have h3 : cntL l = cntL (l.take 40) + cntL (l.drop 40) := by rw [← cntL_append, List.take_append_drop]
      omega
    have := h1 (l.take 40)
    omega
theorem few_cnt_le (t : Tr) : (fewT t).cnt ≤ t.cnt := by
  unfold fewT
  have h := cutD_cnt 17 t
  split
  · have := cnt_pos t
    rw [Tr.cnt, cntL]
    omega
  · exact h
end Go.Proofs.YtpjlepkdiaohiaaGreatDoor

namespace Go.Proofs.YtpjlepkdiaohiaaGreatDoor
open Go Go.ChangeShapes Go.WideShapes Go.RowKit

theorem bulk_part {H : Type} {d : DataW H} {l : List (DataW H)} (h : d ∈ l) : Rows.uptoBulk d ≤ Rows.uptoBulkAll l := by
  induction l with
  | nil => cases h
  | cons x r ih =>
    simp only [Rows.uptoBulkAll]
    rcases List.mem_cons.1 h with e | e
    · subst e; omega
    · have := ih e; omega
theorem bulk_list {H : Type} : ∀ (l : List Tr) (ds : List (DataW H)), l.length = ds.length → (∀ (i : Nat) (t : Tr) (d : DataW H), l[i]? = some t → ds[i]? = some d → t.cnt ≤ Rows.uptoBulk d) → cntL l ≤ Rows.uptoBulkAll ds
  | [], _, _, _ => by rw [cntL]; omega
  | t :: r, [], h, _ => by simp at h
  | t :: r, d :: ds, h, hi => by
    have h1 := hi 0 t d rfl rfl
    have h2 := bulk_list r ds (by simpa using h) (fun i u e h3 h4 => hi (i + 1) u e h3 h4)
    rw [cntL]
    simp only [Rows.uptoBulkAll]
    omega

set_option maxRecDepth 100000 in
theorem bulk_tr {H : Type} {enc : TypeId × Value → H} {w : World} {base : Nat} {sp : Nat → Bool} {hd : Bool} : ∀ (fuel : Nat) (cs : List Value) (x : DataW H × List MemPlace), DataW.trod enc Tryz.prog w base sp hd fuel 27 cs = some x →
    ∀ (p : Pay) (sl : Value) (l : List Tr), cs = ndL p sl → InT w (ndV p sl) (.nd p l) → (Tr.nd p l).cnt ≤ Rows.uptoBulk x.1 := by
  intro fuel
  induction fuel using Nat.strongRecOn with
  | _ fuel ih =>
    intro cs x h p sl l hcs hin
    obtain ⟨xs, n, rfl, rfl, hlen, hxl, hf⟩ := DataW.trod_struct Tryz.underlying27 h
    have hC : Tryz.prog.cellsOf 27 = 9 := by kernel_rfl
    have c6 : Tryz.prog.cellsOf 25 = 1 := by kernel_rfl
    obtain ⟨y0, y1, y2, y3, y4, y5, y6, rfl⟩ : ∃ y0 y1 y2 y3 y4 y5 y6, xs = [y0, y1, y2, y3, y4, y5, y6] := by
      match xs, hxl with
      | [y0, y1, y2, y3, y4, y5, y6], _ => exact ⟨y0, y1, y2, y3, y4, y5, y6, rfl⟩
    have f6 : DataW.trod enc Tryz.prog w base sp hd n 25 ((cs.drop 8).take (Tryz.prog.cellsOf 25)) = some y6 := hf 6 _ rfl
    subst hcs
    rw [c6] at f6
    change DataW.trod enc Tryz.prog w base sp hd n 25 [sl] = some y6 at f6
    obtain ⟨l', a, m, c, f, e, rfl, rfl, hL⟩ := InT.inv hin
    obtain rfl : l = l' := (Tr.nd.inj e).2
    have hy6 : Rows.uptoBulk y6.1 ≤ Rows.uptoBulkAll ([y0, y1, y2, y3, y4, y5, y6].map (·.1)) := bulk_part (by simp)
    have hgoal : cntL l + 1 ≤ Rows.uptoBulk y6.1 := by
      rcases DataW.trod_slice Tryz.underlying25 f6 with ⟨e8, rfl⟩ | ⟨a', len, cap, elems, rest, n3, hn3, e8, rfl, -, hlc, hcm, hel, hat, -, -⟩
      · obtain ⟨-, h2, -⟩ := Value.slice.inj (List.cons.inj e8).1
        obtain rfl := List.length_eq_zero_iff.1 h2
        simp [cntL, Rows.uptoBulk]
      · obtain ⟨rfl, rfl, -⟩ := Value.slice.inj (List.cons.inj e8).1
        rw [hC] at hat
        have hkey := bulk_list l (elems.map (·.1)) (by rw [List.length_map, hel]) (fun i t d hi hdi => by
          rw [List.getElem?_map, Option.map_eq_some_iff] at hdi
          obtain ⟨y, hy, rfl⟩ := hdi
          have hil : i < l.length := (List.getElem?_eq_some_iff.1 hi).1
          obtain ⟨⟨g, o, ea, hN⟩, hti⟩ := hL i t hi
          obtain rfl := Option.some.inj ea
          have h1 := hat i hil
          rw [hy] at h1
          obtain ⟨ci, h2, h3⟩ := Option.bind_eq_some_iff.1 h1
          obtain ⟨hl8, hl9, hcell⟩ := World.cells?_some h2
          have hce : ci = ndL t.p (f i) := by
            refine List.ext_getElem? fun j => ?_
            by_cases hj : j < 9
            · rw [← hcell j hj]
              obtain ⟨v, hv⟩ : ∃ v, (ndL t.p (f i))[j]? = some v := ⟨_, List.getElem?_eq_getElem (show j < (ndL t.p (f i)).length from hj)⟩
              rw [hv, ← hN j v hv]
              congr 1
              rw [add_plain, add_plain]
              try simp [Nat.add_assoc]
            · rw [List.getElem?_eq_none (by omega), List.getElem?_eq_none (show (ndL t.p (f i)).length ≤ j from by show 9 ≤ j; omega)]
          have := ih n3 (by omega) ci y h3 t.p (f i) t.l hce (by rw [← Tr.eta]; exact hti)
          rwa [← Tr.eta] at this)
        simp only [Rows.uptoBulk]
        omega
    rw [Tr.cnt]
    simp only [Rows.uptoBulk]
    omega
end Go.Proofs.YtpjlepkdiaohiaaGreatDoor

