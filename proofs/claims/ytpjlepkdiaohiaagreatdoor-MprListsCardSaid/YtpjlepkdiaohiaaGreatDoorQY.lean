/- QY: MqYa MqY OpSs. -/
import Derived.Test.YtpjlepkdiaohiaaGreatDoorPZ
import Derived.Test.YtpjlepkdiaohiaaGreatDoorPJ
import Derived.Deep.QuietTactic
import Derived.BigQuiet
import Derived.Test.YtpjlepkdiaohiaaGreatDoorPU
import Derived.SliceStrings
/- The statement MprLists: what is plain of it. -/
namespace Go.Proofs.YtpjlepkdiaohiaaGreatDoor
open Go.RowKit

/-- one item more is read. -/
theorem rlist_snoc {f : List UInt8 → RR} {t : Tr} {o : List UInt8} (ho : ∀ x, f (o ++ x) = .ok t x) (x : List UInt8) : ∀ n s ts, rlist f n s = .ok ts (o ++ x) → rlist f (n + 1) s = .ok (ts ++ [t]) x
  | 0, s, ts, h => by
    injection h with h1 h2
    rw [← h1, h2, rlist, ho]
    rfl
  | n + 1, s, ts, h => by
    obtain ⟨t', q, m, h1, h2, rfl⟩ := rlist_ok h
    rw [rlist, h1]
    simp only [rlist_snoc ho x n q m h2, List.cons_append]
/-- what is known of the items that were read. -/
structure LsK (ts : List Tr) (A : ByteArray) (i : Nat) : Prop where
  lst : ∀ x, rlist (rd 16) ts.length (tx A ++ x) = .ok ts x
  fine : ∀ t, t ∈ ts → t.fine
  dep : ∀ t, t ∈ ts → t.dep ≤ 16
  cnt : cntL ts ≤ 101 * i
  len : ts.length ≤ i
  siz : A.size ≤ 100 * i
theorem LsK.nil : LsK [] ⟨#[]⟩ 0 := ⟨fun _ => rfl, (fun _ h => by cases h), (fun _ h => by cases h), by simp [cntL], Nat.zero_le _, Nat.le_refl _⟩
theorem LsK.skip {ts : List Tr} {A : ByteArray} {i : Nat} (h : LsK ts A i) : LsK ts A (i + 1) := ⟨h.lst, h.fine, h.dep, by have := h.cnt; omega, by have := h.len; omega, by have := h.siz; omega⟩
theorem cntL_snoc (l : List Tr) (t : Tr) : cntL (l ++ [t]) = cntL l + t.cnt := by
  induction l with
  | nil => simp [cntL]
  | cons a r ih => rw [List.cons_append, cntL, cntL, ih]; omega
theorem LsK.snoc {ts : List Tr} {A S q : ByteArray} {i : Nat} {t : Tr} (h : LsK ts A i) (hS : S.size ≤ 100) (hx : rd 16 (tx S) = .ok t (tx q)) :
    q.size < S.size ∧ LsK (ts ++ [t]) (A ++ S.extract 0 (S.size - q.size)) (i + 1) := by
  obtain ⟨o, ho, h1⟩ := (good_rd 16).sf _ _ _ hx
  have hl := congrArg List.length ho
  rw [List.length_append, txs_len, txs_len] at hl
  have he : tx (S.extract 0 (S.size - q.size)) = o := by
    rw [show tx (S.extract 0 (S.size - q.size)) = (tx S).take (S.size - q.size) from extract_take _ _, ho, show S.size - q.size = o.length by omega, List.take_left]
  rw [ho] at hx
  have hex := (good_rd 16).ex _ _ _ hx
  obtain ⟨hf, hc⟩ := rd_fine 16 _ _ _ (by rw [← ho, txs_len]; omega) hx
  have hd := rd_dep_le hx
  rw [← ho, txs_len, txs_len] at hc
  refine ⟨by omega, ⟨fun x => ?_, fun u hu => ?_, fun u hu => ?_, ?_, ?_, ?_⟩⟩
  · rw [List.length_append, List.length_singleton, tx_cat, he, List.append_assoc]
    exact rlist_snoc hex x _ _ _ (h.lst _)
  · rcases List.mem_append.1 hu with h2 | h2
    · exact h.fine u h2
    · rw [List.mem_singleton.1 h2]; exact hf
  · rcases List.mem_append.1 hu with h2 | h2
    · exact h.dep u h2
    · rw [List.mem_singleton.1 h2]; exact hd
  · rw [cntL_snoc]; have := h.cnt; omega
  · rw [List.length_append, List.length_singleton]; have := h.len; omega
  · rw [ByteArray.size_append, cut_len (Nat.sub_le _ _)]; have := h.siz; omega

/-- the array's item, told in three ways. -/
theorem lists_rd {ts : List Tr} {A : ByteArray} (h : LsK ts A 8) (c k : Nat) (hc : (c = 144 + ts.length ∧ k = 0) ∨ (c = 220 ∧ k = 2) ∨ (c = 221 ∧ k = 4)) :
    rd 16 (ch c :: (beL k ts.length ++ tx A)) = if (Tr.nd (kP 7) ts).dep ≤ 16 then .ok (.nd (kP 7) ts) [] else .er 2 := by
  refine rd_dep 17 16 (by decide) _ _ _ ?_
  have hl := h.len
  have h1 := h.lst []
  rw [List.append_nil] at h1
  have h2 := Nat.mod_eq_of_lt (show ts.length < 256 ^ 2 by omega)
  have h4 := Nat.mod_eq_of_lt (show ts.length < 256 ^ 4 by omega)
  rcases hc with ⟨rfl, rfl⟩ | ⟨rfl, rfl⟩ | ⟨rfl, rfl⟩
  · rw [rd_ch 16 _ (by omega), show beL 0 ts.length ++ tx A = tx A from rfl]
    unfold rhd
    rw [if_neg (by omega), if_neg (by omega), if_pos (by omega), show 144 + ts.length - 144 = ts.length by omega, h1]
    rfl
  · rw [rd_ch 16 _ (by decide), show ∀ q, rhd (rd 16) 220 q = rnum 2 q fun n r => rnode 7 (rlist (rd 16) n r) from fun _ => rfl, rnum_be, h2, h1]
    rfl
  · rw [rd_ch 16 _ (by decide), show ∀ q, rhd (rd 16) 221 q = rnum 4 q fun n r => rnode 7 (rlist (rd 16) n r) from fun _ => rfl, rnum_be, h4, h1]
    rfl
theorem lists_fine {ts : List Tr} {A : ByteArray} (h : LsK ts A 8) : (Tr.nd (kP 7) ts).fine ∧ (Tr.nd (kP 7) ts).dep ≤ 17 := by
  refine ⟨.nd _ _ (raw_fine 7 (by decide) 0 (by decide) ⟨#[]⟩ (by decide)) (by have := h.len; omega) h.fine, ?_⟩
  rw [Tr.dep]
  have := depL_le h.dep
  omega
/-- an item that is read whole. -/
theorem tree_item (P : ByteArray) (hP : P.size ≤ 1000000) (t : Tr) (hx : rd 16 (tx P) = .ok t []) (w : World) {ea eb : Addr} (hT : TabQ w ea eb) :
    Calls Tryz.prog 27 #[.string P] w fun e w' => Below w.heap.size w w' ∧ ∃ a n c, e = .returned (.tuple #[ndV t.p (.slice a n c), .string ⟨#[]⟩, .int .i64 0]) ∧ InT w' (ndV t.p (.slice a n c)) t := by
  refine (item_calls P hP w hT).mono ?_
  rintro e w1 ⟨hb, ⟨t', q', a, n, c, hx', rfl, hB⟩ | ⟨i, hx', -⟩⟩
  case inr => rw [hx] at hx'; cases hx'
  rw [hx] at hx'
  injection hx' with h1 h2
  obtain rfl := tx_nil h2.symm
  subst h1
  exact ⟨hb, a, n, c, rfl, hB.toT⟩
/-- one that is too deep. -/
theorem deep_item (P : ByteArray) (hP : P.size ≤ 1000000) (hx : rd 16 (tx P) = .er 2) (w : World) {ea eb : Addr} (hT : TabQ w ea eb) :
    Calls Tryz.prog 27 #[.string P] w fun e w' => Below w.heap.size w w' ∧ e = .returned (.tuple #[ndV Pay.z (.slice none 0 0), .string P, .int .i64 60]) := by
  refine (item_calls P hP w hT).mono ?_
  rintro e w1 ⟨hb, ⟨t', q', a, n, c, hx', -⟩ | ⟨i, hx', rfl⟩⟩
  case inl => rw [hx] at hx'; cases hx'
  rw [hx] at hx'
  injection hx' with h1
  subst h1
  exact ⟨hb, rfl⟩
end Go.Proofs.YtpjlepkdiaohiaaGreatDoor

/- The statement MprLists: walked. -/
namespace Go.Proofs.YtpjlepkdiaohiaaGreatDoor
open Go.RowKit
attribute [local go_sem] Oper.semAt_some

theorem LsK.mono {ts : List Tr} {A : ByteArray} {i j : Nat} (h : LsK ts A i) (hj : i ≤ j) : LsK ts A j := ⟨h.lst, h.fine, h.dep, by have := h.cnt; omega, by have := h.len; omega, by have := h.siz; omega⟩
/-- what lies in memory while the items are gathered. -/
structure LtI (w : World) (g : Nat) (v : Value) (zs : List (Value × Tr)) (W : World) : Prop where
  ge : w.heap.size ≤ g
  le : g ≤ W.heap.size
  row : OwnL g g W v zs
  below : Below w.heap.size w W
theorem LtI.up {w : World} {g : Nat} {v : Value} {zs : List (Value × Tr)} {A B : World} (h : LtI w g v zs A) (hb : Below A.heap.size A B) : LtI w g v zs B :=
  ⟨h.ge, Nat.le_trans h.le hb.size, h.row.up hb, h.below.trans (hb.mono h.below.size)⟩

/-- an array's node in its box. -/
structure Bx (w : World) (b : Nat) (T : Tr) (sl : Value) (W : World) : Prop where
  box : Cls W b 27 (ndL (kP 7) sl)
  inn : InT W (ndV (kP 7) sl) T
  below : Below w.heap.size w W
theorem Bx.up {w : World} {b : Nat} {T : Tr} {sl : Value} {A B : World} (h : Bx w b T sl A) (hb : Below A.heap.size A B) : Bx w b T sl B := ⟨h.box.below hb, h.inn.up hb, h.below.trans (hb.mono h.below.size)⟩
theorem Bx.new {w W : World} {T : Tr} {sl : Value} (hb : Below w.heap.size w W) (hi : InT W (ndV (kP 7) sl) T) : Bx w W.heap.size T sl (W.alloc (.cells (ndL (kP 7) sl).toArray 27)) := ⟨Cls.new W _ _, hi.up (below_alloc W _), hb.alloc hb.size _⟩

set_option maxRecDepth 100000 in
set_option maxHeartbeats 16000000 in
theorem lists_law14 (n : Nat) (ss : Nat → ByteArray) (a : Option Addr) (c : Nat) (w : World) {ea eb : Addr} (hT : TabQ w ea eb) (hL : ∀ i, i < n → ∃ g o, a = some ⟨g, o, none⟩ ∧ w.cell? ⟨g, o + i, none⟩ = some (.string (ss i))) (_hlen : n ≤ 9223372036854775807) :
    Calls Tryz.prog 12 #[.slice a n c] w fun e w' => e = .returned (.bool true) ∧ Below w.heap.size w w' := by
  have hsh := shown14_calls w hT
  obtain ⟨i0, hi, hz0, hz1, hz2⟩ := info_parts info_node
  have HX := hid (And.intro hL hT)
  clear hL hT
  go_enter Tryz.func12, Tryz.ntmps12
  go_wp2_with fail
  refine hsh.mono ?_
  rintro e w1 ⟨rfl, hb1⟩
  have hI : LtI w w1.heap.size (.slice none 0 0) [] w1 := ⟨hb1.size, Nat.le_refl _, OwnL.nil _ _ _, hb1⟩
  have HY := hid hI
  clear hsh hb1 hI
  go_wp2
  go_loopw [4, 5, 6] (fun v4 v5 v6 wr => ∃ (i : Nat) (zs : List (Value × Tr)) (A : ByteArray), v5 = .string A ∧ v6 = .int .i64 i ∧ i ≤ n ∧ i ≤ 8 ∧ LsK (zs.map (·.2)) A i ∧ LtI w w1.heap.size v4 zs wr) (fun _ _ v6 _ => 9 - (intOf v6).toNat)
  case atStart => exact ⟨0, [], ⟨#[]⟩, rfl, rfl, Nat.zero_le _, Nat.zero_le _, LsK.nil, HY.out⟩
  case round =>
    obtain ⟨i, zs, A, rfl, rfl, hil, hi8, hK, hI⟩ := hrel
    obtain ⟨va, vc, rfl, -, -⟩ := hI.row.shape
    have hzl : zs.length ≤ i := by have := hK.len; rwa [List.length_map] at this
    by_cases hmore : i < n ∧ i < 8
    · obtain ⟨hil2, hi82⟩ := hmore
      obtain ⟨hL, hT⟩ := HX.out
      obtain ⟨g, o, rfl, hc0⟩ := hL i hil2
      have hc := cell_kept (Below.mono hI.below (Nat.le_refl _)) hc0
      have hit := fun P (hp : P.size ≤ 1000000) W (h : Below w.heap.size w W) => item_calls P hp W (hT.below h)
      obtain ⟨s, hs⟩ : ∃ s, ss i = s := ⟨_, rfl⟩
      rw [hs] at hc
      have hm1 := pre_le (x := s.size) 100
      have e1 := hid (min_toNat s.size 100)
      have hS1 := cut_size s 100
      obtain ⟨S, hS⟩ : ∃ S, s.extract 0 (min s.size 100) = S := ⟨_, rfl⟩
      rw [hS] at hS1
      have hd1 : decide ((i : Int) < n) = true := decide_eq_true (by omega)
      have hd2 : decide ((i : Int) < 8) = true := decide_eq_true (by omega)
      have HK := hid (And.intro hK (And.intro hit (And.intro hS hS1)))
      have HI := hid hI
      clear hL hT hc0 hs hI hK hit hS hS1
      go_wp2_with fail
      go_quiet (fail)
      have HI := hid (HI.out.up (belowN (Below.refl _ wr) nq))
      generalize wr.drewN nq = wr at *
      obtain ⟨hK, hit, hS, hS1⟩ := HK.out
      have HZ := hid (And.intro HI.out (And.intro hK (And.intro hit (And.intro hS hS1))))
      clear hK hit hS hS1 HK HI
      go_wp2_with fail
      rw [show (min (s.size : Int) 100).toNat = min s.size 100 from e1.out, HZ.out.2.2.2.1]
      have hW := HZ.out.1.below
      refine (HZ.out.2.2.1 S (by have := HZ.out.2.2.2.2; omega) _ hW).mono ?_
      rintro e w2 ⟨hb2, ⟨t, q, b, m, d, hx, rfl, hB⟩ | ⟨j, hx, rfl⟩⟩
      · obtain ⟨hI, hK, hit, hS, hS1⟩ := HZ.out
        obtain ⟨hql, hK2⟩ := hK.snoc hS1 hx
        have hA3 := below_alloc w2 (.cells (ndL t.p (.slice b m d)).toArray 27)
        have hI4 := (hI.up hb2).up hA3
        have hno : ∀ k, (Value.slice va zs.length vc).ownBlock = some k → w1.heap.size ≤ k ∧ k < wr.heap.size := fun k hk => hI.row.1.lt k hk
        have hInB : InB (fun k => w1.heap.size ≤ k ∧ some k ≠ (Value.slice va zs.length vc).ownBlock) ((w2.alloc (.cells (ndL t.p (.slice b m d)).toArray 27)).alloc (.cells (ndL t.p (.slice b m d)).toArray 27)) (ndV t.p (.slice b m d)) t :=
          ((hB.mono (fun k _ (hk : wr.heap.size ≤ k) => ⟨Nat.le_trans hI.le hk, fun e => by have := (hno k e.symm).2; omega⟩)).up hA3).up (below_alloc _ _)
        have hI5 := hI4.up (below_alloc (w2.alloc (.cells (ndL t.p (.slice b m d)).toArray 27)) (.cells (ndL t.p (.slice b m d)).toArray 27))
        have hown := hI5.row.1
        have hnc := cells_new (w2.alloc (.cells (ndL t.p (.slice b m d)).toArray 27)) 27 (ndL t.p (.slice b m d))
        rw [World.size_alloc] at hnc
        have hz1' : (zs ++ [((.slice b m d : Value), t)]).map (·.2) = zs.map (·.2) ++ [t] := by rw [List.map_append]; rfl
        obtain ⟨O, hO⟩ : ∃ O, S.extract 0 (S.size - q.size) = O := ⟨_, rfl⟩
        have hmn : min (S.size : Int) q.size = q.size := by omega
        have hsub : wrap64 ((S.size : Int) - q.size) = ((S.size - q.size : Nat) : Int) := by unfold wrap64; omega
        have hs0 : (0 : Int) ≤ ((S.size - q.size : Nat) : Int) := Int.natCast_nonneg _
        have hs1 : ((S.size - q.size : Nat) : Int) ≤ (S.size : Int) := Int.ofNat_le.2 (Nat.sub_le _ _)
        have hcat : ¬ 9223372036854775807 < A.size + O.size := by have := hK2.siz; rw [hO, ByteArray.size_append] at this; omega
        have hle1 : w1.heap.size ≤ w2.heap.size + 1 + 1 := by have := hI.le; have := hb2.size; omega
        have hzl2 : zs.length ≤ 8 := by omega
        rw [hO, ← hz1'] at hK2
        have HW := hid (And.intro hI5 (And.intro hInB (And.intro hK2 hno)))
        have HS := hid (And.intro hmn (And.intro hsub (And.intro hs0 (And.intro hs1 (And.intro hcat hO)))))
        clear hI hK hit hS hS1 hql hK2 hA3 hI4 hno hInB hI5 hz1' hO hmn hsub hs0 hs1 hcat hB hb2 hx HZ
        simp only [ndL] at hnc hown
        simp only [ndV, ndL]
        go_wp2_with (at_builtin; refine wpList_append_own_at _ rfl _ _ 25 rfl w1.heap.size 27 i0 (.agg #[.int .i64 0, .bool false, .bool false, .string ⟨#[]⟩, .int .i64 0, .int .u64 0, .int .i64 0, .string ⟨#[]⟩, .slice none 0 0]) 9 104 Tryz.underlying25 hi hz0 hz1 hz2 rfl (by decide) _ _ _ rfl hown ⟨w2.heap.size + 1, 0, none⟩ 1 1 (ndL t.p (.slice b m d)) rfl rfl hnc (ndL_oneCell _ _ _ _) (by simp only [maxLen]; omega) (by omega) (by simp; omega) ?_)
        intro v' w6 hown' hgrow hnil hloc
        obtain ⟨hI5, hInB, hK2, hno⟩ := HW.out
        obtain ⟨hmn, hsub, hs0, hs1, hcat, hO⟩ := HS.out
        have hrow6 := hI5.row.snoc (z := (.slice b m d, t)) hInB hown' hgrow (hloc.imp id fun h k hk => by rw [h] at hk; cases hk; simp)
        have hbel6 := hI5.below.grown hgrow hI5.below.size (fun k hk => by have := (hno k hk).1; have := hI5.ge; omega)
        have hI6 : LtI w w1.heap.size v' (zs ++ [(.slice b m d, t)]) w6 := ⟨hI5.ge, Nat.le_trans hI5.le hgrow.size, hrow6, hbel6⟩
        have HU := hid (And.intro hK2 hI6)
        clear hI5 hInB hK2 hno hrow6 hbel6 hI6 hown' hgrow hnil hloc hnc hown HW HS
        go_wp2
        go_roundw
        case rel => exact ⟨i + 1, zs ++ [(.slice b m d, t)], A ++ O, by first | rfl | simp, by simp, by omega, by omega, HU.out.1, HU.out.2⟩
        case measure => simp [intOf]; omega
      · obtain ⟨hI, hK, -⟩ := HZ.out
        have hK2 := hK.skip
        have hI2 := (hI.up hb2).up (below_alloc w2 (.cells (ndL Pay.z (.slice none 0 0)).toArray 27))
        have HU := hid (And.intro hK2 hI2)
        obtain ⟨hk0, hk1⟩ := erN_ne j
        obtain ⟨k, hk⟩ : ∃ k, erN j = k := ⟨_, rfl⟩
        rw [hk] at hk0 hk1 ⊢
        have hz : (k != 0) = true := by rw [bne_iff_ne]; exact hk0
        clear hI hK hK2 hI2 hx hk hk0 hk1 hb2 HZ
        simp only [ndV, ndL, Pay.z]
        go_wp2
        go_roundw
        case rel => exact ⟨i + 1, zs, A, rfl, by simp, by omega, by omega, HU.out.1, HU.out.2⟩
        case measure => simp [intOf]; omega
    · have hb1 : (decide (i < n) = true ∧ decide ((i : Int) < 8) = false) ∨ decide (i < n) = false := by
        by_cases h : i < n
        · exact .inl ⟨decide_eq_true h, decide_eq_false (by omega)⟩
        · exact .inr (decide_eq_false h)
      have hK8 := hK.mono hi8
      obtain ⟨hf, hdp⟩ := lists_fine hK8
      have hin : InT wr (ndV (kP 7) (.slice va zs.length vc)) (.nd (kP 7) (zs.map (·.2))) := (hI.row.inB (Nat.le_refl _) (kP 7)).toT
      have hA := hK8.siz
      have l0 := lists_rd hK8 (144 + zs.length) 0 (.inl ⟨by rw [List.length_map], rfl⟩)
      have l1 := lists_rd hK8 220 2 (.inr (.inl ⟨rfl, rfl⟩))
      have l2 := lists_rd hK8 221 4 (.inr (.inr ⟨rfl, rfl⟩))
      obtain ⟨T, hTT⟩ : ∃ T, Tr.nd (kP 7) (zs.map (·.2)) = T := ⟨_, rfl⟩
      have hTp : T.p = kP 7 := by rw [← hTT]; rfl
      rw [hTT] at hf hdp hin l0 l1 l2
      obtain ⟨k, hk⟩ : ∃ k, zs.length = k := ⟨_, rfl⟩
      have hk8 : k ≤ 8 := by omega
      rw [List.length_map] at l0 l1 l2
      rw [hk] at l0 l1 l2 hin ⊢
      have hcv := cv14 (ch (144 + k)) ((144 + (k : Int)) % 256) (by unfold ch; rw [UInt8.toNat_ofNat']; omega)
      have hO1 := o14_size (ch (144 + k))
      have t0 : tx (o14 (ch (144 + k)) ++ A) = ch (144 + k) :: (beL 0 k ++ tx A) := by rw [tx_o14]; rfl
      obtain ⟨O, hO⟩ : ∃ O, o14 (ch (144 + k)) = O := ⟨_, rfl⟩
      rw [hO] at hcv hO1 t0
      have nb2 := fun W => num14_calls k 2 (by omega) (by decide) W
      have nb4 := fun W => num14_calls k 4 (by omega) (by decide) W
      have hz2 : (B (beL 2 k)).size = 2 := by rw [size_B, beL_len]
      have hz4 : (B (beL 4 k)).size = 4 := by rw [size_B, beL_len]
      obtain ⟨N2, hN2⟩ : ∃ N, B (beL 2 k) = N := ⟨_, rfl⟩
      obtain ⟨N4, hN4⟩ : ∃ N, B (beL 4 k) = N := ⟨_, rfl⟩
      have t1 : tx ((⟨#[220]⟩ ++ N2) ++ A) = ch 220 :: (beL 2 k ++ tx A) := by rw [tx_cat, tx_cat, ← hN2, tx_B, List.append_assoc]; rfl
      have t2 : tx ((⟨#[221]⟩ ++ N4) ++ A) = ch 221 :: (beL 4 k ++ tx A) := by rw [tx_cat, tx_cat, ← hN4, tx_B, List.append_assoc]; rfl
      rw [← t0] at l0
      rw [← t1] at l1
      rw [← t2] at l2
      rw [hN2] at nb2 hz2
      rw [hN4] at nb4 hz4
      have p0 : (O ++ A).size ≤ 1000000 := by rw [ByteArray.size_append]; omega
      have p1 : ((⟨#[220]⟩ ++ N2) ++ A).size ≤ 1000000 := by rw [ByteArray.size_append, ByteArray.size_append, hz2]; show 1 + 2 + _ ≤ _; omega
      have p2 : ((⟨#[221]⟩ ++ N4) ++ A).size ≤ 1000000 := by rw [ByteArray.size_append, ByteArray.size_append, hz4]; show 1 + 4 + _ ≤ _; omega
      have c0 : ¬ 9223372036854775807 < O.size + A.size := by omega
      have c1 : ¬ 9223372036854775807 < (⟨#[220]⟩ : ByteArray).size + N2.size := by rw [hz2]; show ¬ _ < 1 + 2; omega
      have c2 : ¬ 9223372036854775807 < (⟨#[221]⟩ : ByteArray).size + N4.size := by rw [hz4]; show ¬ _ < 1 + 4; omega
      have c3 : ¬ 9223372036854775807 < (⟨#[220]⟩ ++ N2 : ByteArray).size + A.size := by rw [ByteArray.size_append, hz2]; show ¬ _ < 1 + 2 + _; omega
      have c4 : ¬ 9223372036854775807 < (⟨#[221]⟩ ++ N4 : ByteArray).size + A.size := by rw [ByteArray.size_append, hz4]; show ¬ _ < 1 + 4 + _; omega
      have hT := HX.out.2
      by_cases hD : T.dep ≤ 16
      · rw [if_pos hD] at l0 l1 l2
        have it0 := fun W (h : Below w.heap.size w W) => tree_item (O ++ A) p0 T l0 W (hT.below h)
        have it1 := fun W (h : Below w.heap.size w W) => tree_item ((⟨#[220]⟩ ++ N2) ++ A) p1 T l1 W (hT.below h)
        have it2 := fun W (h : Below w.heap.size w W) => tree_item ((⟨#[221]⟩ ++ N4) ++ A) p2 T l2 W (hT.below h)
        have hsm := fun sa sb W ha hb => rsame_calls T hf T sa sb W ha hb
        rw [same_self] at hsm
        rw [hTp] at it0 it1 it2 hsm
        have Bn := hid (Bx.new hI.below hin)
        have hcv1 := hcv (wr.alloc (.cells #[.int .i64 7, .bool false, .bool false, .string ⟨#[]⟩, .int .i64 0, .int .u64 0, .int .i64 0, .string ⟨#[]⟩, .slice va k vc] 27))
        have hsz := hI.below.size
        have w1k : IntKind.u64.wrap (k : Int) = (k : Int) := by rw [show IntKind.u64.wrap (k : Int) = (k : Int) % 18446744073709551616 from rfl]; omega
        have w2k : wrap64 (144 + (k : Int)) = 144 + (k : Int) := by unfold wrap64; omega
        have HK := hid (And.intro it0 (And.intro it1 (And.intro it2 (And.intro hsm (And.intro nb2 nb4)))))
        clear hK hI hK8 hf hdp hin hA l0 l1 l2 hTT hTp hk t0 t1 t2 p0 p1 p2 it0 it1 it2 hsm nb2 nb4 hcv hO hO1 hN2 hN4 hz2 hz4 hT hD hzl hmore hil hi8 hk8 _hlen hsz
        rw [World.size_alloc] at hcv1
        rcases hb1 with ⟨hb1, hb2⟩ | hb1
        all_goals (
          go_wp2_with fail
          have hbA := below_alloc (wr.alloc (.cells (ndL (kP 7) (.slice va k vc)).toArray 27)) (.cells #[.int .u8 ((144 + (k : Int)) % 256)] 5)
          have Bn := Bn.out.up hbA
          refine (HK.out.1 _ Bn.below).mono ?_
          rintro e v0 ⟨hu, a0, n0, d0, rfl, hin0⟩
          have hbB := below_alloc v0 (.cells (ndL (kP 7) (.slice a0 n0 d0)).toArray 27)
          have Ba := hid (Bx.new (Bn.up hu).below hin0)
          have Bn := hid ((Bn.up hu).up hbB)
          clear hbA hu hbB hin0 hcv1
          simp only [ndV, ndL, kP, Pay.z]
          go_wp2_with fail
          refine (HK.out.2.2.2.2.1 _).mono ?_
          rintro e u1 ⟨rfl, hu⟩
          have Ba := hid (Ba.out.up hu)
          have Bn := hid (Bn.out.up hu)
          clear hu
          go_wp2_with fail
          refine (HK.out.2.1 _ Bn.out.below).mono ?_
          rintro e v1 ⟨hu, a1, n1, d1, rfl, hin0⟩
          have hbB := below_alloc v1 (.cells (ndL (kP 7) (.slice a1 n1 d1)).toArray 27)
          have Bb := hid (Bx.new (Bn.out.up hu).below hin0)
          have Bn := hid ((Bn.out.up hu).up hbB)
          have Ba := hid ((Ba.out.up hu).up hbB)
          clear hu hbB hin0
          simp only [ndV, ndL, kP, Pay.z]
          go_wp2_with fail
          refine (HK.out.2.2.2.2.2 _).mono ?_
          rintro e u2 ⟨rfl, hu⟩
          have Ba := hid (Ba.out.up hu)
          have Bb := hid (Bb.out.up hu)
          have Bn := hid (Bn.out.up hu)
          clear hu
          go_wp2_with fail
          refine (HK.out.2.2.1 _ Bn.out.below).mono ?_
          rintro e v2 ⟨hu, a2, n2, d2, rfl, hin0⟩
          have hbB := below_alloc v2 (.cells (ndL (kP 7) (.slice a2 n2 d2)).toArray 27)
          have Bc := hid (Bx.new (Bn.out.up hu).below hin0)
          have Bn := hid ((Bn.out.up hu).up hbB)
          have Ba := hid ((Ba.out.up hu).up hbB)
          have Bb := hid ((Bb.out.up hu).up hbB)
          clear hu hbB hin0
          simp only [ndV, ndL, kP, Pay.z]
          obtain ⟨V, hV⟩ : ∃ V, v2.alloc (.cells (ndL (kP 7) (.slice a2 n2 d2)).toArray 27) = V := ⟨_, rfl⟩
          rw [hV] at Ba Bb Bc Bn
          change v2.alloc (.cells #[.int .i64 7, .bool false, .bool false, .string ⟨#[]⟩, .int .i64 0, .int .u64 0, .int .i64 0, .string ⟨#[]⟩, .slice a2 n2 d2] 27) = V at hV
          obtain ⟨x0, x1, x2, x3, x4, x5, x6, x7, x8⟩ := Ba.out.box.nine
          obtain ⟨y0, y1, y2, y3, y4, y5, y6, y7, y8⟩ := Bn.out.box.nine
          simp only [kP, Pay.z] at x0 x1 x2 x3 x4 x5 x6 x7 x8 y0 y1 y2 y3 y4 y5 y6 y7 y8
          have hcall := HK.out.2.2.2.1 _ _ _ Ba.out.inn Bn.out.inn
          simp only [ndV, ndL, kP, Pay.z] at hcall
          go_wp2_with fail
          try rw [hV]
          clear hV
          refine hcall.mono ?_
          rintro e w3 ⟨rfl, hu⟩
          have Ba := hid (Ba.out.up hu)
          have Bb := hid (Bb.out.up hu)
          have Bc := hid (Bc.out.up hu)
          have Bn := hid (Bn.out.up hu)
          clear hu hcall x0 x1 x2 x3 x4 x5 x6 x7 x8 y0 y1 y2 y3 y4 y5 y6 y7 y8
          obtain ⟨x0, x1, x2, x3, x4, x5, x6, x7, x8⟩ := Bb.out.box.nine
          obtain ⟨y0, y1, y2, y3, y4, y5, y6, y7, y8⟩ := Bn.out.box.nine
          simp only [kP, Pay.z] at x0 x1 x2 x3 x4 x5 x6 x7 x8 y0 y1 y2 y3 y4 y5 y6 y7 y8
          have hcall := HK.out.2.2.2.1 _ _ _ Bb.out.inn Bn.out.inn
          simp only [ndV, ndL, kP, Pay.z] at hcall
          go_wp2_with fail
          refine hcall.mono ?_
          rintro e w4 ⟨rfl, hu⟩
          have Ba := hid (Ba.out.up hu)
          have Bb := hid (Bb.out.up hu)
          have Bc := hid (Bc.out.up hu)
          have Bn := hid (Bn.out.up hu)
          clear hu hcall x0 x1 x2 x3 x4 x5 x6 x7 x8 y0 y1 y2 y3 y4 y5 y6 y7 y8
          obtain ⟨x0, x1, x2, x3, x4, x5, x6, x7, x8⟩ := Bc.out.box.nine
          obtain ⟨y0, y1, y2, y3, y4, y5, y6, y7, y8⟩ := Bn.out.box.nine
          simp only [kP, Pay.z] at x0 x1 x2 x3 x4 x5 x6 x7 x8 y0 y1 y2 y3 y4 y5 y6 y7 y8
          have hcall := HK.out.2.2.2.1 _ _ _ Bc.out.inn Bn.out.inn
          simp only [ndV, ndL, kP, Pay.z] at hcall
          go_wp2_with fail
          refine hcall.mono ?_
          rintro e w5 ⟨rfl, hu⟩
          have Ba := hid (Ba.out.up hu)
          have Bb := hid (Bb.out.up hu)
          have Bc := hid (Bc.out.up hu)
          have Bn := hid (Bn.out.up hu)
          clear hu hcall x0 x1 x2 x3 x4 x5 x6 x7 x8 y0 y1 y2 y3 y4 y5 y6 y7 y8
          have hbe := Bn.out.below
          go_wp2
          go_ret
          exact ⟨by first | rfl | simp, hbe⟩)
      · rw [if_neg hD] at l0 l1 l2
        have it0 := fun W (h : Below w.heap.size w W) => deep_item (O ++ A) p0 l0 W (hT.below h)
        have it1 := fun W (h : Below w.heap.size w W) => deep_item ((⟨#[220]⟩ ++ N2) ++ A) p1 l1 W (hT.below h)
        have it2 := fun W (h : Below w.heap.size w W) => deep_item ((⟨#[221]⟩ ++ N4) ++ A) p2 l2 W (hT.below h)
        have hdc := fun W h2 => rdepth_calls T hf (by omega) (.slice va k vc) W h2
        rw [hTp] at hdc
        obtain ⟨D, hDD⟩ : ∃ D, T.dep = D := ⟨_, rfl⟩
        rw [hDD] at hdc hD
        have hgt : (15 : Int) < (D : Int) := by omega
        have Bn := hid (Bx.new hI.below hin)
        have hcv1 := hcv (wr.alloc (.cells #[.int .i64 7, .bool false, .bool false, .string ⟨#[]⟩, .int .i64 0, .int .u64 0, .int .i64 0, .string ⟨#[]⟩, .slice va k vc] 27))
        have w1k : IntKind.u64.wrap (k : Int) = (k : Int) := by rw [show IntKind.u64.wrap (k : Int) = (k : Int) % 18446744073709551616 from rfl]; omega
        have w2k : wrap64 (144 + (k : Int)) = 144 + (k : Int) := by unfold wrap64; omega
        have HK := hid (And.intro it0 (And.intro it1 (And.intro it2 (And.intro hdc (And.intro nb2 nb4)))))
        clear hK hI hK8 hf hdp hin hA l0 l1 l2 hTT hTp hk t0 t1 t2 p0 p1 p2 it0 it1 it2 hdc nb2 nb4 hcv hO hO1 hN2 hN4 hz2 hz4 hT hD hDD hzl hmore hil hi8 hk8 _hlen
        rw [World.size_alloc] at hcv1
        rcases hb1 with ⟨hb1, hb2⟩ | hb1
        all_goals (
          go_wp2_with fail
          have hbA := below_alloc (wr.alloc (.cells (ndL (kP 7) (.slice va k vc)).toArray 27)) (.cells #[.int .u8 ((144 + (k : Int)) % 256)] 5)
          have Bn := Bn.out.up hbA
          refine (HK.out.1 _ Bn.below).mono ?_
          rintro e v0 ⟨hu, rfl⟩
          have Bn := hid ((Bn.up hu).up (below_alloc v0 (.cells (ndL Pay.z (.slice none 0 0)).toArray 27)))
          clear hbA hu hcv1
          simp only [ndV, ndL, Pay.z]
          go_wp2_with fail
          refine (HK.out.2.2.2.2.1 _).mono ?_
          rintro e u1 ⟨rfl, hu⟩
          have Bn := hid (Bn.out.up hu)
          clear hu
          go_wp2_with fail
          refine (HK.out.2.1 _ Bn.out.below).mono ?_
          rintro e v1 ⟨hu, rfl⟩
          have Bn := hid ((Bn.out.up hu).up (below_alloc v1 (.cells (ndL Pay.z (.slice none 0 0)).toArray 27)))
          clear hu
          simp only [ndV, ndL, Pay.z]
          go_wp2_with fail
          refine (HK.out.2.2.2.2.2 _).mono ?_
          rintro e u2 ⟨rfl, hu⟩
          have Bn := hid (Bn.out.up hu)
          clear hu
          go_wp2_with fail
          refine (HK.out.2.2.1 _ Bn.out.below).mono ?_
          rintro e v2 ⟨hu, rfl⟩
          have Bm := Bn.out.up hu
          have Bn := hid (Bm.up (below_alloc v2 (.cells (ndL Pay.z (.slice none 0 0)).toArray 27)))
          obtain ⟨y0, y1, y2, y3, y4, y5, y6, y7, y8⟩ := Bm.box.nine
          have hlt := Bm.box.lt
          clear hu Bm
          simp only [kP, Pay.z] at y0 y1 y2 y3 y4 y5 y6 y7 y8
          simp only [ndV, ndL, Pay.z]
          go_wp2_with fail
          have hcall := HK.out.2.2.2.1 _ Bn.out.inn
          simp only [ndV, ndL, kP, Pay.z] at hcall
          refine hcall.mono ?_
          rintro e w3 ⟨rfl, hu⟩
          have hbe := (Bn.out.up hu).below
          clear hu hcall y0 y1 y2 y3 y4 y5 y6 y7 y8
          go_wp2
          go_ret
          exact ⟨by first | rfl | simp, hbe⟩)
end Go.Proofs.YtpjlepkdiaohiaaGreatDoor

/- A list of texts that came in. -/
namespace Go.Proofs.YtpjlepkdiaohiaaGreatDoor
open Go Go.ChangeShapes Go.WideShapes Go.RowKit

set_option maxRecDepth 100000 in
theorem open_strs14 {H : Type} {enc : TypeId × Value → H} {w : World} {base : Nat} {sp : Nat → Bool} {hd : Bool} {r : Reach} {b0 : Nat} {v : Value} {d : DataW H} {p : List MemPlace} (hv : Value.okWide Tryz.prog w r b0 53 v) (h : DataW.Trod enc Tryz.prog w base sp hd 53 v d p) :
    ∃ (n : Nat) (ss : Nat → ByteArray) (a : Option Addr) (c : Nat), v = .slice a n c ∧ (∀ i, i < n → ∃ g o, a = some ⟨g, o, none⟩ ∧ w.cell? ⟨g, o + i, none⟩ = some (.string (ss i))) ∧ n ≤ 9223372036854775807 := by
  obtain ⟨a0, len0, cap0, rfl⟩ := okWide_slice Tryz.underlying53 hv
  obtain ⟨n, hn⟩ := h
  change DataW.trod enc Tryz.prog w base sp hd n 53 [.slice a0 len0 cap0] = some (d, p) at hn
  rcases open_strings Tryz.underlying53 Tryz.underlying9 (by kernel_rfl) hn with ⟨hcs, -⟩ | ⟨a, len, cap, ss, hcs, -, hl, hm, hz, -, hcell, -⟩
  · obtain ⟨rfl, rfl, rfl⟩ := Value.slice.inj (List.cons.inj hcs).1
    exact ⟨0, fun _ => ⟨#[]⟩, none, 0, rfl, fun i hi => absurd hi (Nat.not_lt_zero _), by decide⟩
  · obtain ⟨rfl, rfl, rfl⟩ := Value.slice.inj (List.cons.inj hcs).1
    refine ⟨len0, fun i => ss.getD i ByteArray.empty, some a, cap0, rfl, fun i hi => ?_, Nat.le_trans (Nat.le_trans hl hm) (by decide)⟩
    have h := hcell i (by rw [hz]; split <;> omega)
    have h0 := hcell 0 (by rw [hz]; split <;> omega)
    obtain ⟨g, o, spot⟩ := a
    have hspot : spot = none := by
      have := World.cell?_spot h0
      exact this
    subst hspot
    rw [add_plain] at h
    exact ⟨g, o, rfl, h⟩
end Go.Proofs.YtpjlepkdiaohiaaGreatDoor

