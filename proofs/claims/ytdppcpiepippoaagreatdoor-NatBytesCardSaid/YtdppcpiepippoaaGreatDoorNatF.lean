/- Package nat: groups (the iterator), of. -/
import Derived.Test.YtdppcpiepippoaaGreatDoorNatE
namespace Go.Proofs.YtdppcpiepippoaaGreatDoor
open Go.RowKit Go.Shelf
attribute [local go_sem] Oper.semAt_some

set_option maxHeartbeats 1000000 in
theorem groups_calls (s : ByteArray) (w : World) :
    Calls Tryz.prog 45 #[.string s] w fun e w' => e = .returned (.func (.func 63) #[] #[.pointer (some ⟨w.heap.size, 0, none⟩)]) ∧ w.alloc (.cells #[.string s] 9) = w' := by
  have hmf : ∀ (fn : Fn) (first cap : Array Value) (w : World), (Instr.makeFunc fn first cap).run Tryz.prog w = .ok (.func fn first cap) w := fun _ _ _ _ => rfl
  go_enter Tryz.func45, Tryz.ntmps45
  go_wp2
  go_ret
  exact ⟨rfl, rfl⟩

def OkG (s : List UInt8) (pre : List ByteArray) (x : ByteArray) : Prop := ∃ rest, chunks s = pre.map (·.data.toList) ++ x.data.toList :: rest

set_option maxRecDepth 100000 in
set_option maxHeartbeats 2000000 in
theorem groups1 (l Bs : Nat) (s : ByteArray) (hs : s.size ≤ 1000000) (J Jx : List ByteArray → World → Prop)
    (hJ : ∀ p A u, J p A → J p (A.setCell ⟨Bs, 0, none⟩ u))
    (hY : ∀ pre x W1, J pre W1 → OkG s.data.toList pre x → YieldAt Fence.wide 7 Tryz.prog l #[.string x] W1 fun e W' =>
      (e = .returned (.bool true) ∧ J (pre ++ [x]) W' ∧ KeptAt (fun k => k = Bs) W1 W') ∨ (e = .returned (.bool false) ∧ Jx (pre ++ [x]) W'))
    (W : World) (hBs : Boxed W Bs 9 (.string s)) (h0 : J [] W) :
    CallsIn Fence.wide 8 Tryz.prog 63 #[.func (.yield l) #[] #[], .pointer (some ⟨Bs, 0, none⟩)] W fun e W' => (∃ v, e = .returned v) ∧
      ((∃ ys : List ByteArray, ys.map (·.data.toList) = chunks s.data.toList ∧ J ys W') ∨ (∃ pre : List ByteArray, Jx pre W')) := by
  refine callsIn_of_wp Tryz.func63 rfl trivial ?_ rfl
  simp only [Tryz.ntmps63, List.size_toArray, List.length_cons, List.length_nil, Nat.reduceAdd, Nat.reduceSub, Array.replicate_succ, Array.replicate_zero, List.push_toArray, List.append_toArray, List.nil_append, List.cons_append]
  gi_wp2
  gi_loopw [3] (fun _ wr => ∃ (t : ByteArray) (pre : List ByteArray), t.size ≤ 1000000 ∧ Boxed wr Bs 9 (.string t) ∧ chunks s.data.toList = pre.map (·.data.toList) ++ chunks t.data.toList ∧ J pre wr)
    (fun _ wr => match wr.cell? ⟨Bs, 0, none⟩ with
      | some (.string t) => t.size
      | _ => 0)
  case atStart => exact ⟨s, [], hs, hBs, rfl, h0⟩
  case round =>
    obtain ⟨t, pre, ht, hb, hch, hJs⟩ := hrel
    have hc := hb.cell
    have hz := hb.frozen
    by_cases h0 : t.size = 0
    · obtain ⟨e1, e2⟩ := emp_of t h0
      have e3 : t.toList.isEmpty = true := by rw [e1]; rfl
      rw [e2, chunks_nil, List.append_nil] at hch
      have HC := hid hch
      clear hch e2 h0
      gi_wp2
      go_end0
      exact ⟨⟨_, rfl⟩, .inl ⟨pre, HC.out.symm, hJs⟩⟩
    · obtain ⟨e1, e2⟩ := ne_of t h0
      obtain ⟨q, hq⟩ : ∃ q, t.size - 9 = q := ⟨_, rfl⟩
      have hmx : max (0 : Int) ((t.size : Int) - 9) = (q : Int) := by omega
      have hqt : q < t.size := by omega
      have hne : t.data.toList ≠ [] := fun e => by
        have := len_str t
        rw [e] at this
        simp at this
        omega
      have hx1 : (t.extract q t.size).data.toList = t.data.toList.drop (t.data.toList.length - 9) := by rw [Lib.extract_to_end, len_str, hq]
      have hx2 : (t.extract 0 q).data.toList = t.data.toList.take (t.data.toList.length - 9) := by rw [extract_take, len_str, hq]
      have hcs := chunks_cons hne
      rw [← hx1, ← hx2] at hcs
      rw [hcs] at hch
      obtain ⟨fn, tmps, assign, body, hy, hR⟩ := hY pre (t.extract q t.size) wr hJs ⟨_, hch⟩
      have hsz2 : (t.extract 0 q).size ≤ 1000000 := by rw [ByteArray.size_extract]; omega
      have hszq : (t.extract 0 q).size = q := by rw [ByteArray.size_extract]; omega
      have HC := hid (And.intro hch (And.intro hq hszq))
      clear hch hq hne hx1 hx2 hcs hY h0 hszq
      gi_wp2
      refine hR.mono ?_
      rintro e W3 (⟨rfl, hJ3, hk3⟩ | ⟨rfl, hJx3⟩)
      · have hb3 : Boxed W3 Bs 9 (.string t) := (hk3 Bs rfl).trans hb
        have hc3 := hb3.cell
        have hz3 := hb3.frozen
        gi_wp2
        go_roundw
        case rel => exact ⟨t.extract 0 q, pre ++ [t.extract q t.size], hsz2, hb3.set _, by rw [HC.out.1]; simp, hJ _ _ _ hJ3⟩
        case measure =>
          rw [(hb3.set (.string (t.extract 0 q))).cell, hc]
          show (t.extract 0 q).size < t.size
          rw [HC.out.2.2]; exact hqt
      · gi_wp2
        refine bodyPost_ret (results_none rfl _ _ _) rfl ?_
        exact ⟨⟨_, rfl⟩, .inr ⟨_, hJx3⟩⟩

def encG (x : ByteArray) : Array Value := #[.string x]

theorem groups_iter (Bs : Nat) (s : ByteArray) (hs : s.size ≤ 1000000) (w : World) (hBs : Boxed w Bs 9 (.string s)) :
    IterC Tryz.prog 63 #[.pointer (some ⟨Bs, 0, none⟩)] encG (fun A B => ∃ u, A.setCell ⟨Bs, 0, none⟩ u = B) (KeptAt (fun k => k = Bs)) (OkG s.data.toList) (fun ys _ => ys.map (·.data.toList) = chunks s.data.toList) (fun _ _ => True) w := by
  intro l J Jx W hW hJ _ hY h0
  refine (groups1 l Bs s hs J Jx (fun p A u h => hJ p A _ h ⟨u, rfl⟩) hY W ((hW.block Bs hBs.lt).trans hBs) h0).mono ?_
  rintro e W' ⟨he, ⟨ys, h1, h2⟩ | ⟨pre, h2⟩⟩
  · exact ⟨he, .inl ⟨ys, h1, h2⟩⟩
  · exact ⟨he, .inr ⟨pre, trivial, h2⟩⟩
end Go.Proofs.YtdppcpiepippoaaGreatDoor
