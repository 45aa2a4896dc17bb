/- PH: TrLB TrG. -/
import Derived.Test.YtpjlepkdiaohiaaGreatDoorPG
import Derived.Test.YtpjlepkdiaohiaaGreatDoorPF
/- Package tree: fits: walked. -/
namespace Go.Proofs.YtpjlepkdiaohiaaGreatDoor
open Go.RowKit
attribute [local go_sem] Oper.semAt_some

theorem below_al {w W : World} (h : Below w.heap.size w W) (X : Obj) : Below w.heap.size w (W.alloc X) := h.alloc h.size X
theorem cell_al {W : World} {g o : Nat} {v : Value} (h : W.cell? ⟨g, o, none⟩ = some v) (X : Obj) : (W.alloc X).cell? ⟨g, o, none⟩ = some v := cell_below h (below_alloc W X)
theorem cell_ald {W : World} {g o : Nat} {v : Value} (h : W.cell? ⟨g, o, none⟩ = some v) (X : Obj) : (W.alloc X).drew.cell? ⟨g, o, none⟩ = some v := by
  rw [World.cell?_drew]
  exact cell_al h X
theorem new_a (W : World) (x : Int) : (W.alloc (.cells #[.int .i64 x] 3)).heap[W.heap.size]? = some (.cells #[.int .i64 x] 3 (0, 0)) := heap_alloc_new W _
theorem new_d (W : World) (x : Int) : (W.alloc (.cells #[.int .i64 x] 3)).drew.heap[W.heap.size]? = some (.cells #[.int .i64 x] 3 (0, 0)) := heap_alloc_new W _
theorem has1h (f x : Int) (W : World) (b : Nat) (h : W.heap[b]? = some (.cells #[.int .i64 x] 3 (0, 0))) :
    Calls Tryz.prog 94 #[.agg #[.int .i64 f], .slice (some ⟨b, 0, none⟩) 1 1] W fun e w' => e = .returned (.bool (f == x)) ∧ Below W.heap.size W w' := by
  refine (has_calls f [x] b W (by simp) h).mono ?_
  rintro e w' ⟨rfl, hb⟩
  exact ⟨by simp <;> rfl, hb⟩
theorem has1r (f x : Int) (r : Bool) (hr : (f == x) = r) (W : World) (b : Nat) (h : W.heap[b]? = some (.cells #[.int .i64 x] 3 (0, 0))) :
    Calls Tryz.prog 94 #[.agg #[.int .i64 f], .slice (some ⟨b, 0, none⟩) 1 1] W fun e w' => e = .returned (.bool r) ∧ Below W.heap.size W w' := by
  subst hr
  exact has1h f x W b h

set_option maxRecDepth 100000 in
set_option maxHeartbeats 4000000 in
theorem fits4 (f : Int) (p : Pay) (l : List Tr) (hfin : (Tr.nd p l).fine) (sl : Value) (w : World) (how : p.w = 16 ∨ p.w = 32 ∨ p.w = 64) (hin : InT w (ndV p sl) (.nd p l)) (hk : p.k = 4) :
    Calls Tryz.prog 54 #[.agg #[.int .i64 f], ndV p sl] w fun e w' => e = .returned (.bool (fitN p l f)) ∧ Below w.heap.size w w' := by
  obtain ⟨l', a, na, c, fa, e1, rfl, rfl, hla⟩ := InT.inv hin
  obtain rfl : l = l' := (Tr.nd.inj e1).2
  clear e1
  have hbb : Below w.heap.size w ((w.alloc (.cells #[.int .i64 f] 74)).alloc (.cells (ndL p (.slice a l.length c)).toArray 27)) := (below_alloc w _).alloc (by simp) _
  have hbx := Cls.new (w.alloc (.cells #[.int .i64 f] 74)) 27 (ndL p (.slice a l.length c))
  have hbc := (Cls.new w 74 [.int .i64 f]).alloc (.cells (ndL p (.slice a l.length c)).toArray 27)
  rw [World.size_alloc] at hbx
  have hwi := fun W => widen_calls p.u hfin.pay.2.2.2.1 p.w W
  have hwl := widS_lt hfin.pay.2.2.2.1 p.w
  obtain ⟨wd, hwd⟩ : ∃ wd, widS p.u p.w = wd := ⟨_, rfl⟩
  obtain ⟨we, hwe⟩ : ∃ we, widE p.u p.w = we := ⟨_, rfl⟩
  rw [hwd, hwe] at hwi
  rw [hwd] at hwl
  have hle := fun W => least_calls wd hwl W
  obtain ⟨ls, hls⟩ : ∃ ls, leastS wd = ls := ⟨_, rfl⟩
  rw [hls] at hle
  have hs : fitN p l f = (formB f && (decide (f ≠ 1) && ((decide (f ≠ 4) || decide (p.w ≠ 16)) && (decide (f ≠ 3) || decide (ls = p.w))))) := by
    unfold fitN
    rw [if_pos hk, hwd, hls]
  rw [hs]
  clear hs hwd hwe hls hwl hfin
  have z4 : (p.k == 4) = true := by rw [beq_iff_eq]; exact hk
  have HX := hid (And.intro hbb (And.intro hbx (And.intro hbc hla)))
  clear hbb hbx hbc hla hin hk
  simp only [ndV, ndL]
  go_enter Tryz.func54, Tryz.ntmps54
  go_wp2_with fail
  refine (hwi _).mono ?_
  rintro e w1 ⟨rfl, hb1⟩
  obtain ⟨hbb, hbx, hbc, hla⟩ := HX.out
  have hw1 := hbb.trans (hb1.mono (by simp; omega))
  have hx1 := hbx.below hb1
  have hc1 := hbc.below hb1
  have k0 := hc1.cell 0 rfl
  have d6 := hx1.cell 6 rfl
  clear hwi hbb hbx hbc hla hb1 hx1 hc1
  by_cases h2 : f = 2
  · subst h2
    go_wp2_with fail
    refine wp_region_held_drew (S := fun w' => w'.cell? ⟨w.heap.size, 0, none⟩ = some (.int .i64 2) ∧ w'.cell? ⟨w.heap.size + 1, 6, none⟩ = some (.int .i64 p.w) ∧ Below w.heap.size w w') (by kernel_rfl) (by refine ⟨?_, ?_, ?_⟩ <;> first | assumption | exact cell_below (by assumption) hbX | exact below_nx (by assumption) hbX | exact Below.drew (by assumption) | exact below_nx (Below.drew (by assumption)) hbX | exact Below.drew (below_al (by assumption) _) | exact below_al (by assumption) _ | exact below_al (Below.drew (by assumption)) _ | exact cell_al (by assumption) _ | exact cell_ald (by assumption) _) (fun hHeld => ?_)
    refine wpAnyH_take (i := 0) (oi := _) (v := ?qv100) rfl (by kernel_rfl) (by kernel_rfl) (by kernel_rfl) (fun _ _ _ h => h) (Or.inl ⟨?qw100, ?qy100⟩) (by assumption) ?_
    case qw100 => rfl
    case qy100 =>
      intro wz hSw
      (try dsimp only at hSw)
      go_simp
      try with_reducible rfl
    try simp only [Act.put, List.getElem_toArray, List.getElem_cons_zero, List.setIfInBounds_toArray, List.set_cons_zero, List.set_cons_succ]
    refine wpAnyH_take (i := 1) (oi := _) (v := ?qv101) rfl (by kernel_rfl) (by kernel_rfl) (by kernel_rfl) (fun _ _ _ h => h) (Or.inl ⟨?qw101, ?qy101⟩) (by assumption) ?_
    case qw101 => rfl
    case qy101 =>
      intro wz hSw
      (try dsimp only at hSw)
      go_simp
      try with_reducible rfl
    try simp only [Act.put, List.getElem_toArray, List.getElem_cons_zero, List.getElem_cons_succ, List.setIfInBounds_toArray, List.set_cons_zero, List.set_cons_succ]
    refine wpAnyH_ready (rs := [2]) (by kernel_rfl) (by simp) ?_
    refine AllReadyH.cons (o := _) rfl (fun K hK => ?_) AllReadyH.nil
    go_simp
    refine hK.out _ _ ?_ (fun hHeld => ?_)
    · (try dsimp only)
      (try dsimp only at hHeld)
      go_split_ands
      refine ⟨?_, ?_, ?_⟩ <;> first | assumption | exact cell_below (by assumption) hbX | exact below_nx (by assumption) hbX | exact Below.drew (by assumption) | exact below_nx (Below.drew (by assumption)) hbX | exact Below.drew (below_al (by assumption) _) | exact below_al (by assumption) _ | exact below_al (Below.drew (by assumption)) _ | exact cell_al (by assumption) _ | exact cell_ald (by assumption) _
    clear hK K
    try simp only [Act.put, List.getElem_toArray, List.getElem_cons_zero, List.getElem_cons_succ, List.setIfInBounds_toArray, List.set_cons_zero, List.set_cons_succ]
    refine wpAnyH_ready (rs := [3]) (by kernel_rfl) (by simp) ?_
    refine AllReadyH.cons (o := _) rfl (fun K hK => ?_) AllReadyH.nil
    go_simp
    first | refine (has1r 2 2 true rfl _ _ (new_a _ _)).mono ?_ | refine (has1r 2 2 true rfl _ _ (new_d _ _)).mono ?_
    rintro e wn ⟨rfl, hbX⟩
    refine hK.out _ _ ?_ (fun hHeld => ?_)
    · (try dsimp only)
      (try dsimp only at hHeld)
      go_split_ands
      refine ⟨?_, ?_, ?_⟩ <;> first | assumption | exact cell_below (by assumption) hbX | exact below_nx (by assumption) hbX | exact Below.drew (by assumption) | exact below_nx (Below.drew (by assumption)) hbX | exact Below.drew (below_al (by assumption) _) | exact below_al (by assumption) _ | exact below_al (Below.drew (by assumption)) _ | exact cell_al (by assumption) _ | exact cell_ald (by assumption) _
    clear hK K
    try simp only [Act.put, List.getElem_toArray, List.getElem_cons_zero, List.getElem_cons_succ, List.setIfInBounds_toArray, List.set_cons_zero, List.set_cons_succ]
    refine wpAnyH_take (i := 4) (oi := _) (v := ?qv104) rfl (by kernel_rfl) (by kernel_rfl) (by kernel_rfl) (fun _ _ _ h => h) (Or.inl ⟨?qw104, ?qy104⟩) (by assumption) ?_
    case qw104 => rfl
    case qy104 =>
      intro wz hSw
      (try dsimp only at hSw)
      go_simp
      try with_reducible rfl
    try simp only [Act.put, List.getElem_toArray, List.getElem_cons_zero, List.getElem_cons_succ, List.setIfInBounds_toArray, List.set_cons_zero, List.set_cons_succ]
    refine wpAnyH_take (i := 5) (oi := _) (v := undef) rfl (by kernel_rfl) (by kernel_rfl) (by kernel_rfl) (fun _ _ _ h => h) (Or.inr ⟨?qw105, rfl⟩) (by assumption) ?_
    case qw105 => rfl
    try simp only [Act.put, List.getElem_toArray, List.getElem_cons_zero, List.getElem_cons_succ, List.setIfInBounds_toArray, List.set_cons_zero, List.set_cons_succ]
    refine wpAnyH_take (i := 6) (oi := _) (v := undef) rfl (by kernel_rfl) (by kernel_rfl) (by kernel_rfl) (fun _ _ _ h => h) (Or.inr ⟨?qw106, rfl⟩) (by assumption) ?_
    case qw106 => rfl
    try simp only [Act.put, List.getElem_toArray, List.getElem_cons_zero, List.getElem_cons_succ, List.setIfInBounds_toArray, List.set_cons_zero, List.set_cons_succ]
    refine wpAnyH_take (i := 7) (oi := _) (v := undef) rfl (by kernel_rfl) (by kernel_rfl) (by kernel_rfl) (fun _ _ _ h => h) (Or.inr ⟨?qw107, rfl⟩) (by assumption) ?_
    case qw107 => rfl
    try simp only [Act.put, List.getElem_toArray, List.getElem_cons_zero, List.getElem_cons_succ, List.setIfInBounds_toArray, List.set_cons_zero, List.set_cons_succ]
    refine wpAnyH_take (i := 8) (oi := _) (v := undef) rfl (by kernel_rfl) (by kernel_rfl) (by kernel_rfl) (fun _ _ _ h => h) (Or.inr ⟨?qw108, rfl⟩) (by assumption) ?_
    case qw108 => rfl
    try simp only [Act.put, List.getElem_toArray, List.getElem_cons_zero, List.getElem_cons_succ, List.setIfInBounds_toArray, List.set_cons_zero, List.set_cons_succ]
    refine wpAnyH_take (i := 9) (oi := _) (v := undef) rfl (by kernel_rfl) (by kernel_rfl) (by kernel_rfl) (fun _ _ _ h => h) (Or.inr ⟨?qw109, rfl⟩) (by assumption) ?_
    case qw109 => rfl
    try simp only [Act.put, List.getElem_toArray, List.getElem_cons_zero, List.getElem_cons_succ, List.setIfInBounds_toArray, List.set_cons_zero, List.set_cons_succ]
    refine wpAnyH_take (i := 10) (oi := _) (v := undef) rfl (by kernel_rfl) (by kernel_rfl) (by kernel_rfl) (fun _ _ _ h => h) (Or.inr ⟨?qw110, rfl⟩) (by assumption) ?_
    case qw110 => rfl
    try simp only [Act.put, List.getElem_toArray, List.getElem_cons_zero, List.getElem_cons_succ, List.setIfInBounds_toArray, List.set_cons_zero, List.set_cons_succ]
    refine wpAnyH_take (i := 11) (oi := _) (v := undef) rfl (by kernel_rfl) (by kernel_rfl) (by kernel_rfl) (fun _ _ _ h => h) (Or.inr ⟨?qw111, rfl⟩) (by assumption) ?_
    case qw111 => rfl
    try simp only [Act.put, List.getElem_toArray, List.getElem_cons_zero, List.getElem_cons_succ, List.setIfInBounds_toArray, List.set_cons_zero, List.set_cons_succ]
    refine wpAnyH_take (i := 12) (oi := _) (v := undef) rfl (by kernel_rfl) (by kernel_rfl) (by kernel_rfl) (fun _ _ _ h => h) (Or.inr ⟨?qw112, rfl⟩) (by assumption) ?_
    case qw112 => rfl
    try simp only [Act.put, List.getElem_toArray, List.getElem_cons_zero, List.getElem_cons_succ, List.setIfInBounds_toArray, List.set_cons_zero, List.set_cons_succ]
    refine wpAnyH_take (i := 13) (oi := _) (v := undef) rfl (by kernel_rfl) (by kernel_rfl) (by kernel_rfl) (fun _ _ _ h => h) (Or.inr ⟨?qw113, rfl⟩) (by assumption) ?_
    case qw113 => rfl
    try simp only [Act.put, List.getElem_toArray, List.getElem_cons_zero, List.getElem_cons_succ, List.setIfInBounds_toArray, List.set_cons_zero, List.set_cons_succ]
    refine wpAnyH_take (i := 14) (oi := _) (v := undef) rfl (by kernel_rfl) (by kernel_rfl) (by kernel_rfl) (fun _ _ _ h => h) (Or.inr ⟨?qw114, rfl⟩) (by assumption) ?_
    case qw114 => rfl
    try simp only [Act.put, List.getElem_toArray, List.getElem_cons_zero, List.getElem_cons_succ, List.setIfInBounds_toArray, List.set_cons_zero, List.set_cons_succ]
    refine wpAnyH_take (i := 15) (oi := _) (v := undef) rfl (by kernel_rfl) (by kernel_rfl) (by kernel_rfl) (fun _ _ _ h => h) (Or.inr ⟨?qw115, rfl⟩) (by assumption) ?_
    case qw115 => rfl
    try simp only [Act.put, List.getElem_toArray, List.getElem_cons_zero, List.getElem_cons_succ, List.setIfInBounds_toArray, List.set_cons_zero, List.set_cons_succ]
    refine wpAnyH_take (i := 16) (oi := _) (v := ?qv116) rfl (by kernel_rfl) (by kernel_rfl) (by kernel_rfl) (fun _ _ _ h => h) (Or.inl ⟨?qw116, ?qy116⟩) (by assumption) ?_
    case qw116 => rfl
    case qy116 =>
      intro wz hSw
      (try dsimp only at hSw)
      go_simp
      try with_reducible rfl
    try simp only [Act.put, List.getElem_toArray, List.getElem_cons_zero, List.getElem_cons_succ, List.setIfInBounds_toArray, List.set_cons_zero, List.set_cons_succ]
    refine wpAnyH_take (i := 17) (oi := _) (v := ?qv117) rfl (by kernel_rfl) (by kernel_rfl) (by kernel_rfl) (fun _ _ _ h => h) (Or.inl ⟨?qw117, ?qy117⟩) (by assumption) ?_
    case qw117 => rfl
    case qy117 =>
      intro wz hSw
      (try dsimp only at hSw)
      go_simp
      try with_reducible rfl
    try simp only [Act.put, List.getElem_toArray, List.getElem_cons_zero, List.getElem_cons_succ, List.setIfInBounds_toArray, List.set_cons_zero, List.set_cons_succ]
    refine wpAnyH_take (i := 18) (oi := _) (v := undef) rfl (by kernel_rfl) (by kernel_rfl) (by kernel_rfl) (fun _ _ _ h => h) (Or.inr ⟨?qw118, rfl⟩) (by assumption) ?_
    case qw118 => rfl
    try simp only [Act.put, List.getElem_toArray, List.getElem_cons_zero, List.getElem_cons_succ, List.setIfInBounds_toArray, List.set_cons_zero, List.set_cons_succ]
    refine wpAnyH_take (i := 19) (oi := _) (v := undef) rfl (by kernel_rfl) (by kernel_rfl) (by kernel_rfl) (fun _ _ _ h => h) (Or.inr ⟨?qw119, rfl⟩) (by assumption) ?_
    case qw119 => rfl
    try simp only [Act.put, List.getElem_toArray, List.getElem_cons_zero, List.getElem_cons_succ, List.setIfInBounds_toArray, List.set_cons_zero, List.set_cons_succ]
    refine wpAnyH_take (i := 20) (oi := _) (v := undef) rfl (by kernel_rfl) (by kernel_rfl) (by kernel_rfl) (fun _ _ _ h => h) (Or.inr ⟨?qw120, rfl⟩) (by assumption) ?_
    case qw120 => rfl
    try simp only [Act.put, List.getElem_toArray, List.getElem_cons_zero, List.getElem_cons_succ, List.setIfInBounds_toArray, List.set_cons_zero, List.set_cons_succ]
    refine wpAnyH_take (i := 21) (oi := _) (v := undef) rfl (by kernel_rfl) (by kernel_rfl) (by kernel_rfl) (fun _ _ _ h => h) (Or.inr ⟨?qw121, rfl⟩) (by assumption) ?_
    case qw121 => rfl
    try simp only [Act.put, List.getElem_toArray, List.getElem_cons_zero, List.getElem_cons_succ, List.setIfInBounds_toArray, List.set_cons_zero, List.set_cons_succ]
    refine wpAnyH_take (i := 22) (oi := _) (v := undef) rfl (by kernel_rfl) (by kernel_rfl) (by kernel_rfl) (fun _ _ _ h => h) (Or.inr ⟨?qw122, rfl⟩) (by assumption) ?_
    case qw122 => rfl
    try simp only [Act.put, List.getElem_toArray, List.getElem_cons_zero, List.getElem_cons_succ, List.setIfInBounds_toArray, List.set_cons_zero, List.set_cons_succ]
    refine wpAnyH_take (i := 23) (oi := _) (v := undef) rfl (by kernel_rfl) (by kernel_rfl) (by kernel_rfl) (fun _ _ _ h => h) (Or.inr ⟨?qw123, rfl⟩) (by assumption) ?_
    case qw123 => rfl
    try simp only [Act.put, List.getElem_toArray, List.getElem_cons_zero, List.getElem_cons_succ, List.setIfInBounds_toArray, List.set_cons_zero, List.set_cons_succ]
    refine wpAnyH_take (i := 24) (oi := _) (v := undef) rfl (by kernel_rfl) (by kernel_rfl) (by kernel_rfl) (fun _ _ _ h => h) (Or.inr ⟨?qw124, rfl⟩) (by assumption) ?_
    case qw124 => rfl
    try simp only [Act.put, List.getElem_toArray, List.getElem_cons_zero, List.getElem_cons_succ, List.setIfInBounds_toArray, List.set_cons_zero, List.set_cons_succ]
    refine wpAnyH_take (i := 25) (oi := _) (v := undef) rfl (by kernel_rfl) (by kernel_rfl) (by kernel_rfl) (fun _ _ _ h => h) (Or.inr ⟨?qw125, rfl⟩) (by assumption) ?_
    case qw125 => rfl
    try simp only [Act.put, List.getElem_toArray, List.getElem_cons_zero, List.getElem_cons_succ, List.setIfInBounds_toArray, List.set_cons_zero, List.set_cons_succ]
    refine wpAnyH_take (i := 26) (oi := _) (v := undef) rfl (by kernel_rfl) (by kernel_rfl) (by kernel_rfl) (fun _ _ _ h => h) (Or.inr ⟨?qw126, rfl⟩) (by assumption) ?_
    case qw126 => rfl
    try simp only [Act.put, List.getElem_toArray, List.getElem_cons_zero, List.getElem_cons_succ, List.setIfInBounds_toArray, List.set_cons_zero, List.set_cons_succ]
    refine wpAnyH_take (i := 27) (oi := _) (v := ?qv127) rfl (by kernel_rfl) (by kernel_rfl) (by kernel_rfl) (fun _ _ _ h => h) (Or.inl ⟨?qw127, ?qy127⟩) (by assumption) ?_
    case qw127 => rfl
    case qy127 =>
      intro wz hSw
      (try dsimp only at hSw)
      go_simp
      try with_reducible rfl
    try simp only [Act.put, List.getElem_toArray, List.getElem_cons_zero, List.getElem_cons_succ, List.setIfInBounds_toArray, List.set_cons_zero, List.set_cons_succ]
    refine wpAnyH_take (i := 28) (oi := _) (v := ?qv128) rfl (by kernel_rfl) (by kernel_rfl) (by kernel_rfl) (fun _ _ _ h => h) (Or.inl ⟨?qw128, ?qy128⟩) (by assumption) ?_
    case qw128 => rfl
    case qy128 =>
      intro wz hSw
      (try dsimp only at hSw)
      go_simp
      try with_reducible rfl
    try simp only [Act.put, List.getElem_toArray, List.getElem_cons_zero, List.getElem_cons_succ, List.setIfInBounds_toArray, List.set_cons_zero, List.set_cons_succ]
    refine wpAnyH_done (by kernel_rfl) ?_ _
    go_wp2
    go_ret
    (try dsimp only at hHeld)
    go_split_ands
    exact ⟨by first | rfl | (simp [formB]; done) | (simp [formB, *]; done), by assumption⟩
  by_cases h3 : f = 3
  · subst h3
    by_cases hlw : ls = p.w
    · have hlb : (ls == p.w) = true := by rw [beq_iff_eq]; exact hlw
      go_wp2_with fail
      refine wp_region_held_drew (S := fun w' => w'.cell? ⟨w.heap.size, 0, none⟩ = some (.int .i64 3) ∧ w'.cell? ⟨w.heap.size + 1, 6, none⟩ = some (.int .i64 p.w) ∧ Below w.heap.size w w') (by kernel_rfl) (by refine ⟨?_, ?_, ?_⟩ <;> first | assumption | exact cell_below (by assumption) hbX | exact below_nx (by assumption) hbX | exact Below.drew (by assumption) | exact below_nx (Below.drew (by assumption)) hbX | exact Below.drew (below_al (by assumption) _) | exact below_al (by assumption) _ | exact below_al (Below.drew (by assumption)) _ | exact cell_al (by assumption) _ | exact cell_ald (by assumption) _) (fun hHeld => ?_)
      refine wpAnyH_take (i := 0) (oi := _) (v := ?qv200) rfl (by kernel_rfl) (by kernel_rfl) (by kernel_rfl) (fun _ _ _ h => h) (Or.inl ⟨?qw200, ?qy200⟩) (by assumption) ?_
      case qw200 => rfl
      case qy200 =>
        intro wz hSw
        (try dsimp only at hSw)
        go_simp
        try with_reducible rfl
      try simp only [Act.put, List.getElem_toArray, List.getElem_cons_zero, List.setIfInBounds_toArray, List.set_cons_zero, List.set_cons_succ]
      refine wpAnyH_take (i := 1) (oi := _) (v := ?qv201) rfl (by kernel_rfl) (by kernel_rfl) (by kernel_rfl) (fun _ _ _ h => h) (Or.inl ⟨?qw201, ?qy201⟩) (by assumption) ?_
      case qw201 => rfl
      case qy201 =>
        intro wz hSw
        (try dsimp only at hSw)
        go_simp
        try with_reducible rfl
      try simp only [Act.put, List.getElem_toArray, List.getElem_cons_zero, List.getElem_cons_succ, List.setIfInBounds_toArray, List.set_cons_zero, List.set_cons_succ]
      refine wpAnyH_ready (rs := [2]) (by kernel_rfl) (by simp) ?_
      refine AllReadyH.cons (o := _) rfl (fun K hK => ?_) AllReadyH.nil
      go_simp
      refine hK.out _ _ ?_ (fun hHeld => ?_)
      · (try dsimp only)
        (try dsimp only at hHeld)
        go_split_ands
        refine ⟨?_, ?_, ?_⟩ <;> first | assumption | exact cell_below (by assumption) hbX | exact below_nx (by assumption) hbX | exact Below.drew (by assumption) | exact below_nx (Below.drew (by assumption)) hbX | exact Below.drew (below_al (by assumption) _) | exact below_al (by assumption) _ | exact below_al (Below.drew (by assumption)) _ | exact cell_al (by assumption) _ | exact cell_ald (by assumption) _
      clear hK K
      try simp only [Act.put, List.getElem_toArray, List.getElem_cons_zero, List.getElem_cons_succ, List.setIfInBounds_toArray, List.set_cons_zero, List.set_cons_succ]
      refine wpAnyH_ready (rs := [3]) (by kernel_rfl) (by simp) ?_
      refine AllReadyH.cons (o := _) rfl (fun K hK => ?_) AllReadyH.nil
      go_simp
      first | refine (has1r 3 2 false rfl _ _ (new_a _ _)).mono ?_ | refine (has1r 3 2 false rfl _ _ (new_d _ _)).mono ?_
      rintro e wn ⟨rfl, hbX⟩
      refine hK.out _ _ ?_ (fun hHeld => ?_)
      · (try dsimp only)
        (try dsimp only at hHeld)
        go_split_ands
        refine ⟨?_, ?_, ?_⟩ <;> first | assumption | exact cell_below (by assumption) hbX | exact below_nx (by assumption) hbX | exact Below.drew (by assumption) | exact below_nx (Below.drew (by assumption)) hbX | exact Below.drew (below_al (by assumption) _) | exact below_al (by assumption) _ | exact below_al (Below.drew (by assumption)) _ | exact cell_al (by assumption) _ | exact cell_ald (by assumption) _
      clear hK K
      try simp only [Act.put, List.getElem_toArray, List.getElem_cons_zero, List.getElem_cons_succ, List.setIfInBounds_toArray, List.set_cons_zero, List.set_cons_succ]
      refine wpAnyH_take (i := 4) (oi := _) (v := ?qv204) rfl (by kernel_rfl) (by kernel_rfl) (by kernel_rfl) (fun _ _ _ h => h) (Or.inl ⟨?qw204, ?qy204⟩) (by assumption) ?_
      case qw204 => rfl
      case qy204 =>
        intro wz hSw
        (try dsimp only at hSw)
        go_simp
        try with_reducible rfl
      try simp only [Act.put, List.getElem_toArray, List.getElem_cons_zero, List.getElem_cons_succ, List.setIfInBounds_toArray, List.set_cons_zero, List.set_cons_succ]
      refine wpAnyH_take (i := 5) (oi := _) (v := ?qv205) rfl (by kernel_rfl) (by kernel_rfl) (by kernel_rfl) (fun _ _ _ h => h) (Or.inl ⟨?qw205, ?qy205⟩) (by assumption) ?_
      case qw205 => rfl
      case qy205 =>
        intro wz hSw
        (try dsimp only at hSw)
        go_simp
        try with_reducible rfl
      try simp only [Act.put, List.getElem_toArray, List.getElem_cons_zero, List.getElem_cons_succ, List.setIfInBounds_toArray, List.set_cons_zero, List.set_cons_succ]
      refine wpAnyH_take (i := 6) (oi := _) (v := ?qv206) rfl (by kernel_rfl) (by kernel_rfl) (by kernel_rfl) (fun _ _ _ h => h) (Or.inl ⟨?qw206, ?qy206⟩) (by assumption) ?_
      case qw206 => rfl
      case qy206 =>
        intro wz hSw
        (try dsimp only at hSw)
        go_simp
        try with_reducible rfl
      try simp only [Act.put, List.getElem_toArray, List.getElem_cons_zero, List.getElem_cons_succ, List.setIfInBounds_toArray, List.set_cons_zero, List.set_cons_succ]
      refine wpAnyH_ready (rs := [7]) (by kernel_rfl) (by simp) ?_
      refine AllReadyH.cons (o := _) rfl (fun K hK => ?_) AllReadyH.nil
      go_simp
      refine hK.out _ _ ?_ (fun hHeld => ?_)
      · (try dsimp only)
        (try dsimp only at hHeld)
        go_split_ands
        refine ⟨?_, ?_, ?_⟩ <;> first | assumption | exact cell_below (by assumption) hbX | exact below_nx (by assumption) hbX | exact Below.drew (by assumption) | exact below_nx (Below.drew (by assumption)) hbX | exact Below.drew (below_al (by assumption) _) | exact below_al (by assumption) _ | exact below_al (Below.drew (by assumption)) _ | exact cell_al (by assumption) _ | exact cell_ald (by assumption) _
      clear hK K
      try simp only [Act.put, List.getElem_toArray, List.getElem_cons_zero, List.getElem_cons_succ, List.setIfInBounds_toArray, List.set_cons_zero, List.set_cons_succ]
      refine wpAnyH_ready (rs := [8]) (by kernel_rfl) (by simp) ?_
      refine AllReadyH.cons (o := _) rfl (fun K hK => ?_) AllReadyH.nil
      go_simp
      first | refine (has1r 3 3 true rfl _ _ (new_a _ _)).mono ?_ | refine (has1r 3 3 true rfl _ _ (new_d _ _)).mono ?_
      rintro e wn ⟨rfl, hbX⟩
      refine hK.out _ _ ?_ (fun hHeld => ?_)
      · (try dsimp only)
        (try dsimp only at hHeld)
        go_split_ands
        refine ⟨?_, ?_, ?_⟩ <;> first | assumption | exact cell_below (by assumption) hbX | exact below_nx (by assumption) hbX | exact Below.drew (by assumption) | exact below_nx (Below.drew (by assumption)) hbX | exact Below.drew (below_al (by assumption) _) | exact below_al (by assumption) _ | exact below_al (Below.drew (by assumption)) _ | exact cell_al (by assumption) _ | exact cell_ald (by assumption) _
      clear hK K
      try simp only [Act.put, List.getElem_toArray, List.getElem_cons_zero, List.getElem_cons_succ, List.setIfInBounds_toArray, List.set_cons_zero, List.set_cons_succ]
      refine wpAnyH_take (i := 9) (oi := _) (v := ?qv209) rfl (by kernel_rfl) (by kernel_rfl) (by kernel_rfl) (fun _ _ _ h => h) (Or.inl ⟨?qw209, ?qy209⟩) (by assumption) ?_
      case qw209 => rfl
      case qy209 =>
        intro wz hSw
        (try dsimp only at hSw)
        go_simp
        try with_reducible rfl
      try simp only [Act.put, List.getElem_toArray, List.getElem_cons_zero, List.getElem_cons_succ, List.setIfInBounds_toArray, List.set_cons_zero, List.set_cons_succ]
      refine wpAnyH_take (i := 10) (oi := _) (v := ?qv210) rfl (by kernel_rfl) (by kernel_rfl) (by kernel_rfl) (fun _ _ _ h => h) (Or.inl ⟨?qw210, ?qy210⟩) (by assumption) ?_
      case qw210 => rfl
      case qy210 =>
        intro wz hSw
        (try dsimp only at hSw)
        go_simp
        try with_reducible rfl
      try simp only [Act.put, List.getElem_toArray, List.getElem_cons_zero, List.getElem_cons_succ, List.setIfInBounds_toArray, List.set_cons_zero, List.set_cons_succ]
      refine wpAnyH_take (i := 12) (oi := _) (v := ?qv212) rfl (by kernel_rfl) (by kernel_rfl) (by kernel_rfl) (fun _ _ _ h => h) (Or.inl ⟨?qw212, ?qy212⟩) (by assumption) ?_
      case qw212 => rfl
      case qy212 =>
        intro wz hSw
        (try dsimp only at hSw)
        go_simp
        try with_reducible rfl
      try simp only [Act.put, List.getElem_toArray, List.getElem_cons_zero, List.getElem_cons_succ, List.setIfInBounds_toArray, List.set_cons_zero, List.set_cons_succ]
      refine wpAnyH_take (i := 13) (oi := _) (v := ?qv213) rfl (by kernel_rfl) (by kernel_rfl) (by kernel_rfl) (fun _ _ _ h => h) (Or.inl ⟨?qw213, ?qy213⟩) (by assumption) ?_
      case qw213 => rfl
      case qy213 =>
        intro wz hSw
        (try dsimp only at hSw)
        go_simp
        try with_reducible rfl
      try simp only [Act.put, List.getElem_toArray, List.getElem_cons_zero, List.getElem_cons_succ, List.setIfInBounds_toArray, List.set_cons_zero, List.set_cons_succ]
      refine wpAnyH_ready (rs := [11]) (by kernel_rfl) (by simp) ?_
      refine AllReadyH.cons (o := _) rfl (fun K hK => ?_) AllReadyH.nil
      go_simp
      refine (hle _).mono ?_
      rintro e wn ⟨rfl, hbX⟩
      refine hK.out _ _ ?_ (fun hHeld => ?_)
      · (try dsimp only)
        (try dsimp only at hHeld)
        go_split_ands
        refine ⟨?_, ?_, ?_⟩ <;> first | assumption | exact cell_below (by assumption) hbX | exact below_nx (by assumption) hbX | exact Below.drew (by assumption) | exact below_nx (Below.drew (by assumption)) hbX | exact Below.drew (below_al (by assumption) _) | exact below_al (by assumption) _ | exact below_al (Below.drew (by assumption)) _ | exact cell_al (by assumption) _ | exact cell_ald (by assumption) _
      clear hK K
      try simp only [Act.put, List.getElem_toArray, List.getElem_cons_zero, List.getElem_cons_succ, List.setIfInBounds_toArray, List.set_cons_zero, List.set_cons_succ]
      refine wpAnyH_take (i := 14) (oi := _) (v := ?qv214) rfl (by kernel_rfl) (by kernel_rfl) (by kernel_rfl) (fun _ _ _ h => h) (Or.inl ⟨?qw214, ?qy214⟩) (by assumption) ?_
      case qw214 => rfl
      case qy214 =>
        intro wz hSw
        (try dsimp only at hSw)
        go_simp
        try with_reducible rfl
      try simp only [Act.put, List.getElem_toArray, List.getElem_cons_zero, List.getElem_cons_succ, List.setIfInBounds_toArray, List.set_cons_zero, List.set_cons_succ]
      refine wpAnyH_take (i := 15) (oi := _) (v := ?qv215) rfl (by kernel_rfl) (by kernel_rfl) (by kernel_rfl) (fun _ _ _ h => h) (Or.inl ⟨?qw215, ?qy215⟩) (by assumption) ?_
      case qw215 => rfl
      case qy215 =>
        intro wz hSw
        (try dsimp only at hSw)
        go_simp
        try with_reducible rfl
      try simp only [Act.put, List.getElem_toArray, List.getElem_cons_zero, List.getElem_cons_succ, List.setIfInBounds_toArray, List.set_cons_zero, List.set_cons_succ]
      refine wpAnyH_take (i := 16) (oi := _) (v := ?qv216) rfl (by kernel_rfl) (by kernel_rfl) (by kernel_rfl) (fun _ _ _ h => h) (Or.inl ⟨?qw216, ?qy216⟩) (by assumption) ?_
      case qw216 => rfl
      case qy216 =>
        intro wz hSw
        (try dsimp only at hSw)
        go_simp
        try with_reducible rfl
      try simp only [Act.put, List.getElem_toArray, List.getElem_cons_zero, List.getElem_cons_succ, List.setIfInBounds_toArray, List.set_cons_zero, List.set_cons_succ]
      refine wpAnyH_take (i := 17) (oi := _) (v := ?qv217) rfl (by kernel_rfl) (by kernel_rfl) (by kernel_rfl) (fun _ _ _ h => h) (Or.inl ⟨?qw217, ?qy217⟩) (by assumption) ?_
      case qw217 => rfl
      case qy217 =>
        intro wz hSw
        (try dsimp only at hSw)
        go_simp
        try with_reducible rfl
      try simp only [Act.put, List.getElem_toArray, List.getElem_cons_zero, List.getElem_cons_succ, List.setIfInBounds_toArray, List.set_cons_zero, List.set_cons_succ]
      refine wpAnyH_take (i := 18) (oi := _) (v := undef) rfl (by kernel_rfl) (by kernel_rfl) (by kernel_rfl) (fun _ _ _ h => h) (Or.inr ⟨?qw218, rfl⟩) (by assumption) ?_
      case qw218 => rfl
      try simp only [Act.put, List.getElem_toArray, List.getElem_cons_zero, List.getElem_cons_succ, List.setIfInBounds_toArray, List.set_cons_zero, List.set_cons_succ]
      refine wpAnyH_take (i := 19) (oi := _) (v := undef) rfl (by kernel_rfl) (by kernel_rfl) (by kernel_rfl) (fun _ _ _ h => h) (Or.inr ⟨?qw219, rfl⟩) (by assumption) ?_
      case qw219 => rfl
      try simp only [Act.put, List.getElem_toArray, List.getElem_cons_zero, List.getElem_cons_succ, List.setIfInBounds_toArray, List.set_cons_zero, List.set_cons_succ]
      refine wpAnyH_take (i := 20) (oi := _) (v := undef) rfl (by kernel_rfl) (by kernel_rfl) (by kernel_rfl) (fun _ _ _ h => h) (Or.inr ⟨?qw220, rfl⟩) (by assumption) ?_
      case qw220 => rfl
      try simp only [Act.put, List.getElem_toArray, List.getElem_cons_zero, List.getElem_cons_succ, List.setIfInBounds_toArray, List.set_cons_zero, List.set_cons_succ]
      refine wpAnyH_take (i := 21) (oi := _) (v := undef) rfl (by kernel_rfl) (by kernel_rfl) (by kernel_rfl) (fun _ _ _ h => h) (Or.inr ⟨?qw221, rfl⟩) (by assumption) ?_
      case qw221 => rfl
      try simp only [Act.put, List.getElem_toArray, List.getElem_cons_zero, List.getElem_cons_succ, List.setIfInBounds_toArray, List.set_cons_zero, List.set_cons_succ]
      refine wpAnyH_take (i := 22) (oi := _) (v := undef) rfl (by kernel_rfl) (by kernel_rfl) (by kernel_rfl) (fun _ _ _ h => h) (Or.inr ⟨?qw222, rfl⟩) (by assumption) ?_
      case qw222 => rfl
      try simp only [Act.put, List.getElem_toArray, List.getElem_cons_zero, List.getElem_cons_succ, List.setIfInBounds_toArray, List.set_cons_zero, List.set_cons_succ]
      refine wpAnyH_take (i := 23) (oi := _) (v := undef) rfl (by kernel_rfl) (by kernel_rfl) (by kernel_rfl) (fun _ _ _ h => h) (Or.inr ⟨?qw223, rfl⟩) (by assumption) ?_
      case qw223 => rfl
      try simp only [Act.put, List.getElem_toArray, List.getElem_cons_zero, List.getElem_cons_succ, List.setIfInBounds_toArray, List.set_cons_zero, List.set_cons_succ]
      refine wpAnyH_take (i := 24) (oi := _) (v := undef) rfl (by kernel_rfl) (by kernel_rfl) (by kernel_rfl) (fun _ _ _ h => h) (Or.inr ⟨?qw224, rfl⟩) (by assumption) ?_
      case qw224 => rfl
      try simp only [Act.put, List.getElem_toArray, List.getElem_cons_zero, List.getElem_cons_succ, List.setIfInBounds_toArray, List.set_cons_zero, List.set_cons_succ]
      refine wpAnyH_take (i := 25) (oi := _) (v := undef) rfl (by kernel_rfl) (by kernel_rfl) (by kernel_rfl) (fun _ _ _ h => h) (Or.inr ⟨?qw225, rfl⟩) (by assumption) ?_
      case qw225 => rfl
      try simp only [Act.put, List.getElem_toArray, List.getElem_cons_zero, List.getElem_cons_succ, List.setIfInBounds_toArray, List.set_cons_zero, List.set_cons_succ]
      refine wpAnyH_take (i := 26) (oi := _) (v := undef) rfl (by kernel_rfl) (by kernel_rfl) (by kernel_rfl) (fun _ _ _ h => h) (Or.inr ⟨?qw226, rfl⟩) (by assumption) ?_
      case qw226 => rfl
      try simp only [Act.put, List.getElem_toArray, List.getElem_cons_zero, List.getElem_cons_succ, List.setIfInBounds_toArray, List.set_cons_zero, List.set_cons_succ]
      refine wpAnyH_take (i := 27) (oi := _) (v := ?qv227) rfl (by kernel_rfl) (by kernel_rfl) (by kernel_rfl) (fun _ _ _ h => h) (Or.inl ⟨?qw227, ?qy227⟩) (by assumption) ?_
      case qw227 => rfl
      case qy227 =>
        intro wz hSw
        (try dsimp only at hSw)
        go_simp
        try with_reducible rfl
      try simp only [Act.put, List.getElem_toArray, List.getElem_cons_zero, List.getElem_cons_succ, List.setIfInBounds_toArray, List.set_cons_zero, List.set_cons_succ]
      refine wpAnyH_take (i := 28) (oi := _) (v := ?qv228) rfl (by kernel_rfl) (by kernel_rfl) (by kernel_rfl) (fun _ _ _ h => h) (Or.inl ⟨?qw228, ?qy228⟩) (by assumption) ?_
      case qw228 => rfl
      case qy228 =>
        intro wz hSw
        (try dsimp only at hSw)
        go_simp
        try with_reducible rfl
      try simp only [Act.put, List.getElem_toArray, List.getElem_cons_zero, List.getElem_cons_succ, List.setIfInBounds_toArray, List.set_cons_zero, List.set_cons_succ]
      refine wpAnyH_done (by kernel_rfl) ?_ _
      go_wp2
      go_ret
      (try dsimp only at hHeld)
      go_split_ands
      exact ⟨by first | rfl | (simp [formB]; done) | (simp [formB, *]; done), by assumption⟩
    · have hlb : (ls == p.w) = false := by rw [beq_eq_false_iff_ne]; exact hlw
      go_wp2_with fail
      refine wp_region_held_drew (S := fun w' => w'.cell? ⟨w.heap.size, 0, none⟩ = some (.int .i64 3) ∧ w'.cell? ⟨w.heap.size + 1, 6, none⟩ = some (.int .i64 p.w) ∧ Below w.heap.size w w') (by kernel_rfl) (by refine ⟨?_, ?_, ?_⟩ <;> first | assumption | exact cell_below (by assumption) hbX | exact below_nx (by assumption) hbX | exact Below.drew (by assumption) | exact below_nx (Below.drew (by assumption)) hbX | exact Below.drew (below_al (by assumption) _) | exact below_al (by assumption) _ | exact below_al (Below.drew (by assumption)) _ | exact cell_al (by assumption) _ | exact cell_ald (by assumption) _) (fun hHeld => ?_)
      refine wpAnyH_take (i := 0) (oi := _) (v := ?qv300) rfl (by kernel_rfl) (by kernel_rfl) (by kernel_rfl) (fun _ _ _ h => h) (Or.inl ⟨?qw300, ?qy300⟩) (by assumption) ?_
      case qw300 => rfl
      case qy300 =>
        intro wz hSw
        (try dsimp only at hSw)
        go_simp
        try with_reducible rfl
      try simp only [Act.put, List.getElem_toArray, List.getElem_cons_zero, List.setIfInBounds_toArray, List.set_cons_zero, List.set_cons_succ]
      refine wpAnyH_take (i := 1) (oi := _) (v := ?qv301) rfl (by kernel_rfl) (by kernel_rfl) (by kernel_rfl) (fun _ _ _ h => h) (Or.inl ⟨?qw301, ?qy301⟩) (by assumption) ?_
      case qw301 => rfl
      case qy301 =>
        intro wz hSw
        (try dsimp only at hSw)
        go_simp
        try with_reducible rfl
      try simp only [Act.put, List.getElem_toArray, List.getElem_cons_zero, List.getElem_cons_succ, List.setIfInBounds_toArray, List.set_cons_zero, List.set_cons_succ]
      refine wpAnyH_ready (rs := [2]) (by kernel_rfl) (by simp) ?_
      refine AllReadyH.cons (o := _) rfl (fun K hK => ?_) AllReadyH.nil
      go_simp
      refine hK.out _ _ ?_ (fun hHeld => ?_)
      · (try dsimp only)
        (try dsimp only at hHeld)
        go_split_ands
        refine ⟨?_, ?_, ?_⟩ <;> first | assumption | exact cell_below (by assumption) hbX | exact below_nx (by assumption) hbX | exact Below.drew (by assumption) | exact below_nx (Below.drew (by assumption)) hbX | exact Below.drew (below_al (by assumption) _) | exact below_al (by assumption) _ | exact below_al (Below.drew (by assumption)) _ | exact cell_al (by assumption) _ | exact cell_ald (by assumption) _
      clear hK K
      try simp only [Act.put, List.getElem_toArray, List.getElem_cons_zero, List.getElem_cons_succ, List.setIfInBounds_toArray, List.set_cons_zero, List.set_cons_succ]
      refine wpAnyH_ready (rs := [3]) (by kernel_rfl) (by simp) ?_
      refine AllReadyH.cons (o := _) rfl (fun K hK => ?_) AllReadyH.nil
      go_simp
      first | refine (has1r 3 2 false rfl _ _ (new_a _ _)).mono ?_ | refine (has1r 3 2 false rfl _ _ (new_d _ _)).mono ?_
      rintro e wn ⟨rfl, hbX⟩
      refine hK.out _ _ ?_ (fun hHeld => ?_)
      · (try dsimp only)
        (try dsimp only at hHeld)
        go_split_ands
        refine ⟨?_, ?_, ?_⟩ <;> first | assumption | exact cell_below (by assumption) hbX | exact below_nx (by assumption) hbX | exact Below.drew (by assumption) | exact below_nx (Below.drew (by assumption)) hbX | exact Below.drew (below_al (by assumption) _) | exact below_al (by assumption) _ | exact below_al (Below.drew (by assumption)) _ | exact cell_al (by assumption) _ | exact cell_ald (by assumption) _
      clear hK K
      try simp only [Act.put, List.getElem_toArray, List.getElem_cons_zero, List.getElem_cons_succ, List.setIfInBounds_toArray, List.set_cons_zero, List.set_cons_succ]
      refine wpAnyH_take (i := 4) (oi := _) (v := ?qv304) rfl (by kernel_rfl) (by kernel_rfl) (by kernel_rfl) (fun _ _ _ h => h) (Or.inl ⟨?qw304, ?qy304⟩) (by assumption) ?_
      case qw304 => rfl
      case qy304 =>
        intro wz hSw
        (try dsimp only at hSw)
        go_simp
        try with_reducible rfl
      try simp only [Act.put, List.getElem_toArray, List.getElem_cons_zero, List.getElem_cons_succ, List.setIfInBounds_toArray, List.set_cons_zero, List.set_cons_succ]
      refine wpAnyH_take (i := 5) (oi := _) (v := ?qv305) rfl (by kernel_rfl) (by kernel_rfl) (by kernel_rfl) (fun _ _ _ h => h) (Or.inl ⟨?qw305, ?qy305⟩) (by assumption) ?_
      case qw305 => rfl
      case qy305 =>
        intro wz hSw
        (try dsimp only at hSw)
        go_simp
        try with_reducible rfl
      try simp only [Act.put, List.getElem_toArray, List.getElem_cons_zero, List.getElem_cons_succ, List.setIfInBounds_toArray, List.set_cons_zero, List.set_cons_succ]
      refine wpAnyH_take (i := 6) (oi := _) (v := ?qv306) rfl (by kernel_rfl) (by kernel_rfl) (by kernel_rfl) (fun _ _ _ h => h) (Or.inl ⟨?qw306, ?qy306⟩) (by assumption) ?_
      case qw306 => rfl
      case qy306 =>
        intro wz hSw
        (try dsimp only at hSw)
        go_simp
        try with_reducible rfl
      try simp only [Act.put, List.getElem_toArray, List.getElem_cons_zero, List.getElem_cons_succ, List.setIfInBounds_toArray, List.set_cons_zero, List.set_cons_succ]
      refine wpAnyH_ready (rs := [7]) (by kernel_rfl) (by simp) ?_
      refine AllReadyH.cons (o := _) rfl (fun K hK => ?_) AllReadyH.nil
      go_simp
      refine hK.out _ _ ?_ (fun hHeld => ?_)
      · (try dsimp only)
        (try dsimp only at hHeld)
        go_split_ands
        refine ⟨?_, ?_, ?_⟩ <;> first | assumption | exact cell_below (by assumption) hbX | exact below_nx (by assumption) hbX | exact Below.drew (by assumption) | exact below_nx (Below.drew (by assumption)) hbX | exact Below.drew (below_al (by assumption) _) | exact below_al (by assumption) _ | exact below_al (Below.drew (by assumption)) _ | exact cell_al (by assumption) _ | exact cell_ald (by assumption) _
      clear hK K
      try simp only [Act.put, List.getElem_toArray, List.getElem_cons_zero, List.getElem_cons_succ, List.setIfInBounds_toArray, List.set_cons_zero, List.set_cons_succ]
      refine wpAnyH_ready (rs := [8]) (by kernel_rfl) (by simp) ?_
      refine AllReadyH.cons (o := _) rfl (fun K hK => ?_) AllReadyH.nil
      go_simp
      first | refine (has1r 3 3 true rfl _ _ (new_a _ _)).mono ?_ | refine (has1r 3 3 true rfl _ _ (new_d _ _)).mono ?_
      rintro e wn ⟨rfl, hbX⟩
      refine hK.out _ _ ?_ (fun hHeld => ?_)
      · (try dsimp only)
        (try dsimp only at hHeld)
        go_split_ands
        refine ⟨?_, ?_, ?_⟩ <;> first | assumption | exact cell_below (by assumption) hbX | exact below_nx (by assumption) hbX | exact Below.drew (by assumption) | exact below_nx (Below.drew (by assumption)) hbX | exact Below.drew (below_al (by assumption) _) | exact below_al (by assumption) _ | exact below_al (Below.drew (by assumption)) _ | exact cell_al (by assumption) _ | exact cell_ald (by assumption) _
      clear hK K
      try simp only [Act.put, List.getElem_toArray, List.getElem_cons_zero, List.getElem_cons_succ, List.setIfInBounds_toArray, List.set_cons_zero, List.set_cons_succ]
      refine wpAnyH_take (i := 9) (oi := _) (v := ?qv309) rfl (by kernel_rfl) (by kernel_rfl) (by kernel_rfl) (fun _ _ _ h => h) (Or.inl ⟨?qw309, ?qy309⟩) (by assumption) ?_
      case qw309 => rfl
      case qy309 =>
        intro wz hSw
        (try dsimp only at hSw)
        go_simp
        try with_reducible rfl
      try simp only [Act.put, List.getElem_toArray, List.getElem_cons_zero, List.getElem_cons_succ, List.setIfInBounds_toArray, List.set_cons_zero, List.set_cons_succ]
      refine wpAnyH_take (i := 10) (oi := _) (v := ?qv310) rfl (by kernel_rfl) (by kernel_rfl) (by kernel_rfl) (fun _ _ _ h => h) (Or.inl ⟨?qw310, ?qy310⟩) (by assumption) ?_
      case qw310 => rfl
      case qy310 =>
        intro wz hSw
        (try dsimp only at hSw)
        go_simp
        try with_reducible rfl
      try simp only [Act.put, List.getElem_toArray, List.getElem_cons_zero, List.getElem_cons_succ, List.setIfInBounds_toArray, List.set_cons_zero, List.set_cons_succ]
      refine wpAnyH_take (i := 12) (oi := _) (v := ?qv312) rfl (by kernel_rfl) (by kernel_rfl) (by kernel_rfl) (fun _ _ _ h => h) (Or.inl ⟨?qw312, ?qy312⟩) (by assumption) ?_
      case qw312 => rfl
      case qy312 =>
        intro wz hSw
        (try dsimp only at hSw)
        go_simp
        try with_reducible rfl
      try simp only [Act.put, List.getElem_toArray, List.getElem_cons_zero, List.getElem_cons_succ, List.setIfInBounds_toArray, List.set_cons_zero, List.set_cons_succ]
      refine wpAnyH_take (i := 13) (oi := _) (v := ?qv313) rfl (by kernel_rfl) (by kernel_rfl) (by kernel_rfl) (fun _ _ _ h => h) (Or.inl ⟨?qw313, ?qy313⟩) (by assumption) ?_
      case qw313 => rfl
      case qy313 =>
        intro wz hSw
        (try dsimp only at hSw)
        go_simp
        try with_reducible rfl
      try simp only [Act.put, List.getElem_toArray, List.getElem_cons_zero, List.getElem_cons_succ, List.setIfInBounds_toArray, List.set_cons_zero, List.set_cons_succ]
      refine wpAnyH_ready (rs := [11]) (by kernel_rfl) (by simp) ?_
      refine AllReadyH.cons (o := _) rfl (fun K hK => ?_) AllReadyH.nil
      go_simp
      refine (hle _).mono ?_
      rintro e wn ⟨rfl, hbX⟩
      refine hK.out _ _ ?_ (fun hHeld => ?_)
      · (try dsimp only)
        (try dsimp only at hHeld)
        go_split_ands
        refine ⟨?_, ?_, ?_⟩ <;> first | assumption | exact cell_below (by assumption) hbX | exact below_nx (by assumption) hbX | exact Below.drew (by assumption) | exact below_nx (Below.drew (by assumption)) hbX | exact Below.drew (below_al (by assumption) _) | exact below_al (by assumption) _ | exact below_al (Below.drew (by assumption)) _ | exact cell_al (by assumption) _ | exact cell_ald (by assumption) _
      clear hK K
      try simp only [Act.put, List.getElem_toArray, List.getElem_cons_zero, List.getElem_cons_succ, List.setIfInBounds_toArray, List.set_cons_zero, List.set_cons_succ]
      refine wpAnyH_take (i := 14) (oi := _) (v := ?qv314) rfl (by kernel_rfl) (by kernel_rfl) (by kernel_rfl) (fun _ _ _ h => h) (Or.inl ⟨?qw314, ?qy314⟩) (by assumption) ?_
      case qw314 => rfl
      case qy314 =>
        intro wz hSw
        (try dsimp only at hSw)
        go_simp
        try with_reducible rfl
      try simp only [Act.put, List.getElem_toArray, List.getElem_cons_zero, List.getElem_cons_succ, List.setIfInBounds_toArray, List.set_cons_zero, List.set_cons_succ]
      refine wpAnyH_take (i := 15) (oi := _) (v := ?qv315) rfl (by kernel_rfl) (by kernel_rfl) (by kernel_rfl) (fun _ _ _ h => h) (Or.inl ⟨?qw315, ?qy315⟩) (by assumption) ?_
      case qw315 => rfl
      case qy315 =>
        intro wz hSw
        (try dsimp only at hSw)
        go_simp
        try with_reducible rfl
      try simp only [Act.put, List.getElem_toArray, List.getElem_cons_zero, List.getElem_cons_succ, List.setIfInBounds_toArray, List.set_cons_zero, List.set_cons_succ]
      refine wpAnyH_take (i := 16) (oi := _) (v := ?qv316) rfl (by kernel_rfl) (by kernel_rfl) (by kernel_rfl) (fun _ _ _ h => h) (Or.inl ⟨?qw316, ?qy316⟩) (by assumption) ?_
      case qw316 => rfl
      case qy316 =>
        intro wz hSw
        (try dsimp only at hSw)
        go_simp
        try with_reducible rfl
      try simp only [Act.put, List.getElem_toArray, List.getElem_cons_zero, List.getElem_cons_succ, List.setIfInBounds_toArray, List.set_cons_zero, List.set_cons_succ]
      refine wpAnyH_take (i := 17) (oi := _) (v := ?qv317) rfl (by kernel_rfl) (by kernel_rfl) (by kernel_rfl) (fun _ _ _ h => h) (Or.inl ⟨?qw317, ?qy317⟩) (by assumption) ?_
      case qw317 => rfl
      case qy317 =>
        intro wz hSw
        (try dsimp only at hSw)
        go_simp
        try with_reducible rfl
      try simp only [Act.put, List.getElem_toArray, List.getElem_cons_zero, List.getElem_cons_succ, List.setIfInBounds_toArray, List.set_cons_zero, List.set_cons_succ]
      refine wpAnyH_take (i := 18) (oi := _) (v := ?qv318) rfl (by kernel_rfl) (by kernel_rfl) (by kernel_rfl) (fun _ _ _ h => h) (Or.inl ⟨?qw318, ?qy318⟩) (by assumption) ?_
      case qw318 => rfl
      case qy318 =>
        intro wz hSw
        (try dsimp only at hSw)
        go_simp
        try with_reducible rfl
      try simp only [Act.put, List.getElem_toArray, List.getElem_cons_zero, List.getElem_cons_succ, List.setIfInBounds_toArray, List.set_cons_zero, List.set_cons_succ]
      refine wpAnyH_take (i := 19) (oi := _) (v := ?qv319) rfl (by kernel_rfl) (by kernel_rfl) (by kernel_rfl) (fun _ _ _ h => h) (Or.inl ⟨?qw319, ?qy319⟩) (by assumption) ?_
      case qw319 => rfl
      case qy319 =>
        intro wz hSw
        (try dsimp only at hSw)
        go_simp
        try with_reducible rfl
      try simp only [Act.put, List.getElem_toArray, List.getElem_cons_zero, List.getElem_cons_succ, List.setIfInBounds_toArray, List.set_cons_zero, List.set_cons_succ]
      refine wpAnyH_ready (rs := [20]) (by kernel_rfl) (by simp) ?_
      refine AllReadyH.cons (o := _) rfl (fun K hK => ?_) AllReadyH.nil
      go_simp
      refine hK.out _ _ ?_ (fun hHeld => ?_)
      · (try dsimp only)
        (try dsimp only at hHeld)
        go_split_ands
        refine ⟨?_, ?_, ?_⟩ <;> first | assumption | exact cell_below (by assumption) hbX | exact below_nx (by assumption) hbX | exact Below.drew (by assumption) | exact below_nx (Below.drew (by assumption)) hbX | exact Below.drew (below_al (by assumption) _) | exact below_al (by assumption) _ | exact below_al (Below.drew (by assumption)) _ | exact cell_al (by assumption) _ | exact cell_ald (by assumption) _
      clear hK K
      try simp only [Act.put, List.getElem_toArray, List.getElem_cons_zero, List.getElem_cons_succ, List.setIfInBounds_toArray, List.set_cons_zero, List.set_cons_succ]
      refine wpAnyH_ready (rs := [21]) (by kernel_rfl) (by simp) ?_
      refine AllReadyH.cons (o := _) rfl (fun K hK => ?_) AllReadyH.nil
      go_simp
      first | refine (has1r 3 4 false rfl _ _ (new_a _ _)).mono ?_ | refine (has1r 3 4 false rfl _ _ (new_d _ _)).mono ?_
      rintro e wn ⟨rfl, hbX⟩
      refine hK.out _ _ ?_ (fun hHeld => ?_)
      · (try dsimp only)
        (try dsimp only at hHeld)
        go_split_ands
        refine ⟨?_, ?_, ?_⟩ <;> first | assumption | exact cell_below (by assumption) hbX | exact below_nx (by assumption) hbX | exact Below.drew (by assumption) | exact below_nx (Below.drew (by assumption)) hbX | exact Below.drew (below_al (by assumption) _) | exact below_al (by assumption) _ | exact below_al (Below.drew (by assumption)) _ | exact cell_al (by assumption) _ | exact cell_ald (by assumption) _
      clear hK K
      try simp only [Act.put, List.getElem_toArray, List.getElem_cons_zero, List.getElem_cons_succ, List.setIfInBounds_toArray, List.set_cons_zero, List.set_cons_succ]
      refine wpAnyH_take (i := 22) (oi := _) (v := ?qv322) rfl (by kernel_rfl) (by kernel_rfl) (by kernel_rfl) (fun _ _ _ h => h) (Or.inl ⟨?qw322, ?qy322⟩) (by assumption) ?_
      case qw322 => rfl
      case qy322 =>
        intro wz hSw
        (try dsimp only at hSw)
        go_simp
        try with_reducible rfl
      try simp only [Act.put, List.getElem_toArray, List.getElem_cons_zero, List.getElem_cons_succ, List.setIfInBounds_toArray, List.set_cons_zero, List.set_cons_succ]
      refine wpAnyH_take (i := 23) (oi := _) (v := undef) rfl (by kernel_rfl) (by kernel_rfl) (by kernel_rfl) (fun _ _ _ h => h) (Or.inr ⟨?qw323, rfl⟩) (by assumption) ?_
      case qw323 => rfl
      try simp only [Act.put, List.getElem_toArray, List.getElem_cons_zero, List.getElem_cons_succ, List.setIfInBounds_toArray, List.set_cons_zero, List.set_cons_succ]
      refine wpAnyH_take (i := 24) (oi := _) (v := undef) rfl (by kernel_rfl) (by kernel_rfl) (by kernel_rfl) (fun _ _ _ h => h) (Or.inr ⟨?qw324, rfl⟩) (by assumption) ?_
      case qw324 => rfl
      try simp only [Act.put, List.getElem_toArray, List.getElem_cons_zero, List.getElem_cons_succ, List.setIfInBounds_toArray, List.set_cons_zero, List.set_cons_succ]
      refine wpAnyH_take (i := 25) (oi := _) (v := undef) rfl (by kernel_rfl) (by kernel_rfl) (by kernel_rfl) (fun _ _ _ h => h) (Or.inr ⟨?qw325, rfl⟩) (by assumption) ?_
      case qw325 => rfl
      try simp only [Act.put, List.getElem_toArray, List.getElem_cons_zero, List.getElem_cons_succ, List.setIfInBounds_toArray, List.set_cons_zero, List.set_cons_succ]
      refine wpAnyH_take (i := 26) (oi := _) (v := ?qv326) rfl (by kernel_rfl) (by kernel_rfl) (by kernel_rfl) (fun _ _ _ h => h) (Or.inl ⟨?qw326, ?qy326⟩) (by assumption) ?_
      case qw326 => rfl
      case qy326 =>
        intro wz hSw
        (try dsimp only at hSw)
        go_simp
        try with_reducible rfl
      try simp only [Act.put, List.getElem_toArray, List.getElem_cons_zero, List.getElem_cons_succ, List.setIfInBounds_toArray, List.set_cons_zero, List.set_cons_succ]
      refine wpAnyH_take (i := 27) (oi := _) (v := ?qv327) rfl (by kernel_rfl) (by kernel_rfl) (by kernel_rfl) (fun _ _ _ h => h) (Or.inl ⟨?qw327, ?qy327⟩) (by assumption) ?_
      case qw327 => rfl
      case qy327 =>
        intro wz hSw
        (try dsimp only at hSw)
        go_simp
        try with_reducible rfl
      try simp only [Act.put, List.getElem_toArray, List.getElem_cons_zero, List.getElem_cons_succ, List.setIfInBounds_toArray, List.set_cons_zero, List.set_cons_succ]
      refine wpAnyH_take (i := 28) (oi := _) (v := ?qv328) rfl (by kernel_rfl) (by kernel_rfl) (by kernel_rfl) (fun _ _ _ h => h) (Or.inl ⟨?qw328, ?qy328⟩) (by assumption) ?_
      case qw328 => rfl
      case qy328 =>
        intro wz hSw
        (try dsimp only at hSw)
        go_simp
        try with_reducible rfl
      try simp only [Act.put, List.getElem_toArray, List.getElem_cons_zero, List.getElem_cons_succ, List.setIfInBounds_toArray, List.set_cons_zero, List.set_cons_succ]
      refine wpAnyH_done (by kernel_rfl) ?_ _
      go_wp2
      go_ret
      (try dsimp only at hHeld)
      go_split_ands
      exact ⟨by first | rfl | (simp [formB]; done) | (simp [formB, *]; done), by assumption⟩
  by_cases h4 : f = 4
  · subst h4
    by_cases hw16 : p.w = 16
    · have hn : ¬ (16 : Int) < p.w := by omega
      go_wp2_with fail
      refine wp_region_held_drew (S := fun w' => w'.cell? ⟨w.heap.size, 0, none⟩ = some (.int .i64 4) ∧ w'.cell? ⟨w.heap.size + 1, 6, none⟩ = some (.int .i64 p.w) ∧ Below w.heap.size w w') (by kernel_rfl) (by refine ⟨?_, ?_, ?_⟩ <;> first | assumption | exact cell_below (by assumption) hbX | exact below_nx (by assumption) hbX | exact Below.drew (by assumption) | exact below_nx (Below.drew (by assumption)) hbX | exact Below.drew (below_al (by assumption) _) | exact below_al (by assumption) _ | exact below_al (Below.drew (by assumption)) _ | exact cell_al (by assumption) _ | exact cell_ald (by assumption) _) (fun hHeld => ?_)
      refine wpAnyH_take (i := 0) (oi := _) (v := ?qv400) rfl (by kernel_rfl) (by kernel_rfl) (by kernel_rfl) (fun _ _ _ h => h) (Or.inl ⟨?qw400, ?qy400⟩) (by assumption) ?_
      case qw400 => rfl
      case qy400 =>
        intro wz hSw
        (try dsimp only at hSw)
        go_simp
        try with_reducible rfl
      try simp only [Act.put, List.getElem_toArray, List.getElem_cons_zero, List.setIfInBounds_toArray, List.set_cons_zero, List.set_cons_succ]
      refine wpAnyH_take (i := 1) (oi := _) (v := ?qv401) rfl (by kernel_rfl) (by kernel_rfl) (by kernel_rfl) (fun _ _ _ h => h) (Or.inl ⟨?qw401, ?qy401⟩) (by assumption) ?_
      case qw401 => rfl
      case qy401 =>
        intro wz hSw
        (try dsimp only at hSw)
        go_simp
        try with_reducible rfl
      try simp only [Act.put, List.getElem_toArray, List.getElem_cons_zero, List.getElem_cons_succ, List.setIfInBounds_toArray, List.set_cons_zero, List.set_cons_succ]
      refine wpAnyH_ready (rs := [2]) (by kernel_rfl) (by simp) ?_
      refine AllReadyH.cons (o := _) rfl (fun K hK => ?_) AllReadyH.nil
      go_simp
      refine hK.out _ _ ?_ (fun hHeld => ?_)
      · (try dsimp only)
        (try dsimp only at hHeld)
        go_split_ands
        refine ⟨?_, ?_, ?_⟩ <;> first | assumption | exact cell_below (by assumption) hbX | exact below_nx (by assumption) hbX | exact Below.drew (by assumption) | exact below_nx (Below.drew (by assumption)) hbX | exact Below.drew (below_al (by assumption) _) | exact below_al (by assumption) _ | exact below_al (Below.drew (by assumption)) _ | exact cell_al (by assumption) _ | exact cell_ald (by assumption) _
      clear hK K
      try simp only [Act.put, List.getElem_toArray, List.getElem_cons_zero, List.getElem_cons_succ, List.setIfInBounds_toArray, List.set_cons_zero, List.set_cons_succ]
      refine wpAnyH_ready (rs := [3]) (by kernel_rfl) (by simp) ?_
      refine AllReadyH.cons (o := _) rfl (fun K hK => ?_) AllReadyH.nil
      go_simp
      first | refine (has1r 4 2 false rfl _ _ (new_a _ _)).mono ?_ | refine (has1r 4 2 false rfl _ _ (new_d _ _)).mono ?_
      rintro e wn ⟨rfl, hbX⟩
      refine hK.out _ _ ?_ (fun hHeld => ?_)
      · (try dsimp only)
        (try dsimp only at hHeld)
        go_split_ands
        refine ⟨?_, ?_, ?_⟩ <;> first | assumption | exact cell_below (by assumption) hbX | exact below_nx (by assumption) hbX | exact Below.drew (by assumption) | exact below_nx (Below.drew (by assumption)) hbX | exact Below.drew (below_al (by assumption) _) | exact below_al (by assumption) _ | exact below_al (Below.drew (by assumption)) _ | exact cell_al (by assumption) _ | exact cell_ald (by assumption) _
      clear hK K
      try simp only [Act.put, List.getElem_toArray, List.getElem_cons_zero, List.getElem_cons_succ, List.setIfInBounds_toArray, List.set_cons_zero, List.set_cons_succ]
      refine wpAnyH_take (i := 4) (oi := _) (v := ?qv404) rfl (by kernel_rfl) (by kernel_rfl) (by kernel_rfl) (fun _ _ _ h => h) (Or.inl ⟨?qw404, ?qy404⟩) (by assumption) ?_
      case qw404 => rfl
      case qy404 =>
        intro wz hSw
        (try dsimp only at hSw)
        go_simp
        try with_reducible rfl
      try simp only [Act.put, List.getElem_toArray, List.getElem_cons_zero, List.getElem_cons_succ, List.setIfInBounds_toArray, List.set_cons_zero, List.set_cons_succ]
      refine wpAnyH_take (i := 5) (oi := _) (v := ?qv405) rfl (by kernel_rfl) (by kernel_rfl) (by kernel_rfl) (fun _ _ _ h => h) (Or.inl ⟨?qw405, ?qy405⟩) (by assumption) ?_
      case qw405 => rfl
      case qy405 =>
        intro wz hSw
        (try dsimp only at hSw)
        go_simp
        try with_reducible rfl
      try simp only [Act.put, List.getElem_toArray, List.getElem_cons_zero, List.getElem_cons_succ, List.setIfInBounds_toArray, List.set_cons_zero, List.set_cons_succ]
      refine wpAnyH_take (i := 6) (oi := _) (v := ?qv406) rfl (by kernel_rfl) (by kernel_rfl) (by kernel_rfl) (fun _ _ _ h => h) (Or.inl ⟨?qw406, ?qy406⟩) (by assumption) ?_
      case qw406 => rfl
      case qy406 =>
        intro wz hSw
        (try dsimp only at hSw)
        go_simp
        try with_reducible rfl
      try simp only [Act.put, List.getElem_toArray, List.getElem_cons_zero, List.getElem_cons_succ, List.setIfInBounds_toArray, List.set_cons_zero, List.set_cons_succ]
      refine wpAnyH_ready (rs := [7]) (by kernel_rfl) (by simp) ?_
      refine AllReadyH.cons (o := _) rfl (fun K hK => ?_) AllReadyH.nil
      go_simp
      refine hK.out _ _ ?_ (fun hHeld => ?_)
      · (try dsimp only)
        (try dsimp only at hHeld)
        go_split_ands
        refine ⟨?_, ?_, ?_⟩ <;> first | assumption | exact cell_below (by assumption) hbX | exact below_nx (by assumption) hbX | exact Below.drew (by assumption) | exact below_nx (Below.drew (by assumption)) hbX | exact Below.drew (below_al (by assumption) _) | exact below_al (by assumption) _ | exact below_al (Below.drew (by assumption)) _ | exact cell_al (by assumption) _ | exact cell_ald (by assumption) _
      clear hK K
      try simp only [Act.put, List.getElem_toArray, List.getElem_cons_zero, List.getElem_cons_succ, List.setIfInBounds_toArray, List.set_cons_zero, List.set_cons_succ]
      refine wpAnyH_ready (rs := [8]) (by kernel_rfl) (by simp) ?_
      refine AllReadyH.cons (o := _) rfl (fun K hK => ?_) AllReadyH.nil
      go_simp
      first | refine (has1r 4 3 false rfl _ _ (new_a _ _)).mono ?_ | refine (has1r 4 3 false rfl _ _ (new_d _ _)).mono ?_
      rintro e wn ⟨rfl, hbX⟩
      refine hK.out _ _ ?_ (fun hHeld => ?_)
      · (try dsimp only)
        (try dsimp only at hHeld)
        go_split_ands
        refine ⟨?_, ?_, ?_⟩ <;> first | assumption | exact cell_below (by assumption) hbX | exact below_nx (by assumption) hbX | exact Below.drew (by assumption) | exact below_nx (Below.drew (by assumption)) hbX | exact Below.drew (below_al (by assumption) _) | exact below_al (by assumption) _ | exact below_al (Below.drew (by assumption)) _ | exact cell_al (by assumption) _ | exact cell_ald (by assumption) _
      clear hK K
      try simp only [Act.put, List.getElem_toArray, List.getElem_cons_zero, List.getElem_cons_succ, List.setIfInBounds_toArray, List.set_cons_zero, List.set_cons_succ]
      refine wpAnyH_take (i := 9) (oi := _) (v := ?qv409) rfl (by kernel_rfl) (by kernel_rfl) (by kernel_rfl) (fun _ _ _ h => h) (Or.inl ⟨?qw409, ?qy409⟩) (by assumption) ?_
      case qw409 => rfl
      case qy409 =>
        intro wz hSw
        (try dsimp only at hSw)
        go_simp
        try with_reducible rfl
      try simp only [Act.put, List.getElem_toArray, List.getElem_cons_zero, List.getElem_cons_succ, List.setIfInBounds_toArray, List.set_cons_zero, List.set_cons_succ]
      refine wpAnyH_take (i := 10) (oi := _) (v := undef) rfl (by kernel_rfl) (by kernel_rfl) (by kernel_rfl) (fun _ _ _ h => h) (Or.inr ⟨?qw410, rfl⟩) (by assumption) ?_
      case qw410 => rfl
      try simp only [Act.put, List.getElem_toArray, List.getElem_cons_zero, List.getElem_cons_succ, List.setIfInBounds_toArray, List.set_cons_zero, List.set_cons_succ]
      refine wpAnyH_take (i := 11) (oi := _) (v := undef) rfl (by kernel_rfl) (by kernel_rfl) (by kernel_rfl) (fun _ _ _ h => h) (Or.inr ⟨?qw411, rfl⟩) (by assumption) ?_
      case qw411 => rfl
      try simp only [Act.put, List.getElem_toArray, List.getElem_cons_zero, List.getElem_cons_succ, List.setIfInBounds_toArray, List.set_cons_zero, List.set_cons_succ]
      refine wpAnyH_take (i := 12) (oi := _) (v := undef) rfl (by kernel_rfl) (by kernel_rfl) (by kernel_rfl) (fun _ _ _ h => h) (Or.inr ⟨?qw412, rfl⟩) (by assumption) ?_
      case qw412 => rfl
      try simp only [Act.put, List.getElem_toArray, List.getElem_cons_zero, List.getElem_cons_succ, List.setIfInBounds_toArray, List.set_cons_zero, List.set_cons_succ]
      refine wpAnyH_take (i := 13) (oi := _) (v := undef) rfl (by kernel_rfl) (by kernel_rfl) (by kernel_rfl) (fun _ _ _ h => h) (Or.inr ⟨?qw413, rfl⟩) (by assumption) ?_
      case qw413 => rfl
      try simp only [Act.put, List.getElem_toArray, List.getElem_cons_zero, List.getElem_cons_succ, List.setIfInBounds_toArray, List.set_cons_zero, List.set_cons_succ]
      refine wpAnyH_take (i := 14) (oi := _) (v := undef) rfl (by kernel_rfl) (by kernel_rfl) (by kernel_rfl) (fun _ _ _ h => h) (Or.inr ⟨?qw414, rfl⟩) (by assumption) ?_
      case qw414 => rfl
      try simp only [Act.put, List.getElem_toArray, List.getElem_cons_zero, List.getElem_cons_succ, List.setIfInBounds_toArray, List.set_cons_zero, List.set_cons_succ]
      refine wpAnyH_take (i := 15) (oi := _) (v := ?qv415) rfl (by kernel_rfl) (by kernel_rfl) (by kernel_rfl) (fun _ _ _ h => h) (Or.inl ⟨?qw415, ?qy415⟩) (by assumption) ?_
      case qw415 => rfl
      case qy415 =>
        intro wz hSw
        (try dsimp only at hSw)
        go_simp
        try with_reducible rfl
      try simp only [Act.put, List.getElem_toArray, List.getElem_cons_zero, List.getElem_cons_succ, List.setIfInBounds_toArray, List.set_cons_zero, List.set_cons_succ]
      refine wpAnyH_take (i := 16) (oi := _) (v := ?qv416) rfl (by kernel_rfl) (by kernel_rfl) (by kernel_rfl) (fun _ _ _ h => h) (Or.inl ⟨?qw416, ?qy416⟩) (by assumption) ?_
      case qw416 => rfl
      case qy416 =>
        intro wz hSw
        (try dsimp only at hSw)
        go_simp
        try with_reducible rfl
      try simp only [Act.put, List.getElem_toArray, List.getElem_cons_zero, List.getElem_cons_succ, List.setIfInBounds_toArray, List.set_cons_zero, List.set_cons_succ]
      refine wpAnyH_take (i := 17) (oi := _) (v := ?qv417) rfl (by kernel_rfl) (by kernel_rfl) (by kernel_rfl) (fun _ _ _ h => h) (Or.inl ⟨?qw417, ?qy417⟩) (by assumption) ?_
      case qw417 => rfl
      case qy417 =>
        intro wz hSw
        (try dsimp only at hSw)
        go_simp
        try with_reducible rfl
      try simp only [Act.put, List.getElem_toArray, List.getElem_cons_zero, List.getElem_cons_succ, List.setIfInBounds_toArray, List.set_cons_zero, List.set_cons_succ]
      refine wpAnyH_take (i := 18) (oi := _) (v := ?qv418) rfl (by kernel_rfl) (by kernel_rfl) (by kernel_rfl) (fun _ _ _ h => h) (Or.inl ⟨?qw418, ?qy418⟩) (by assumption) ?_
      case qw418 => rfl
      case qy418 =>
        intro wz hSw
        (try dsimp only at hSw)
        go_simp
        try with_reducible rfl
      try simp only [Act.put, List.getElem_toArray, List.getElem_cons_zero, List.getElem_cons_succ, List.setIfInBounds_toArray, List.set_cons_zero, List.set_cons_succ]
      refine wpAnyH_take (i := 19) (oi := _) (v := ?qv419) rfl (by kernel_rfl) (by kernel_rfl) (by kernel_rfl) (fun _ _ _ h => h) (Or.inl ⟨?qw419, ?qy419⟩) (by assumption) ?_
      case qw419 => rfl
      case qy419 =>
        intro wz hSw
        (try dsimp only at hSw)
        go_simp
        try with_reducible rfl
      try simp only [Act.put, List.getElem_toArray, List.getElem_cons_zero, List.getElem_cons_succ, List.setIfInBounds_toArray, List.set_cons_zero, List.set_cons_succ]
      refine wpAnyH_ready (rs := [20]) (by kernel_rfl) (by simp) ?_
      refine AllReadyH.cons (o := _) rfl (fun K hK => ?_) AllReadyH.nil
      go_simp
      refine hK.out _ _ ?_ (fun hHeld => ?_)
      · (try dsimp only)
        (try dsimp only at hHeld)
        go_split_ands
        refine ⟨?_, ?_, ?_⟩ <;> first | assumption | exact cell_below (by assumption) hbX | exact below_nx (by assumption) hbX | exact Below.drew (by assumption) | exact below_nx (Below.drew (by assumption)) hbX | exact Below.drew (below_al (by assumption) _) | exact below_al (by assumption) _ | exact below_al (Below.drew (by assumption)) _ | exact cell_al (by assumption) _ | exact cell_ald (by assumption) _
      clear hK K
      try simp only [Act.put, List.getElem_toArray, List.getElem_cons_zero, List.getElem_cons_succ, List.setIfInBounds_toArray, List.set_cons_zero, List.set_cons_succ]
      refine wpAnyH_ready (rs := [21]) (by kernel_rfl) (by simp) ?_
      refine AllReadyH.cons (o := _) rfl (fun K hK => ?_) AllReadyH.nil
      go_simp
      first | refine (has1r 4 4 true rfl _ _ (new_a _ _)).mono ?_ | refine (has1r 4 4 true rfl _ _ (new_d _ _)).mono ?_
      rintro e wn ⟨rfl, hbX⟩
      refine hK.out _ _ ?_ (fun hHeld => ?_)
      · (try dsimp only)
        (try dsimp only at hHeld)
        go_split_ands
        refine ⟨?_, ?_, ?_⟩ <;> first | assumption | exact cell_below (by assumption) hbX | exact below_nx (by assumption) hbX | exact Below.drew (by assumption) | exact below_nx (Below.drew (by assumption)) hbX | exact Below.drew (below_al (by assumption) _) | exact below_al (by assumption) _ | exact below_al (Below.drew (by assumption)) _ | exact cell_al (by assumption) _ | exact cell_ald (by assumption) _
      clear hK K
      try simp only [Act.put, List.getElem_toArray, List.getElem_cons_zero, List.getElem_cons_succ, List.setIfInBounds_toArray, List.set_cons_zero, List.set_cons_succ]
      refine wpAnyH_take (i := 22) (oi := _) (v := ?qv422) rfl (by kernel_rfl) (by kernel_rfl) (by kernel_rfl) (fun _ _ _ h => h) (Or.inl ⟨?qw422, ?qy422⟩) (by assumption) ?_
      case qw422 => rfl
      case qy422 =>
        intro wz hSw
        (try dsimp only at hSw)
        go_simp
        try with_reducible rfl
      try simp only [Act.put, List.getElem_toArray, List.getElem_cons_zero, List.getElem_cons_succ, List.setIfInBounds_toArray, List.set_cons_zero, List.set_cons_succ]
      refine wpAnyH_take (i := 23) (oi := _) (v := ?qv423) rfl (by kernel_rfl) (by kernel_rfl) (by kernel_rfl) (fun _ _ _ h => h) (Or.inl ⟨?qw423, ?qy423⟩) (by assumption) ?_
      case qw423 => rfl
      case qy423 =>
        intro wz hSw
        (try dsimp only at hSw)
        go_simp
        try with_reducible rfl
      try simp only [Act.put, List.getElem_toArray, List.getElem_cons_zero, List.getElem_cons_succ, List.setIfInBounds_toArray, List.set_cons_zero, List.set_cons_succ]
      refine wpAnyH_take (i := 24) (oi := _) (v := ?qv424) rfl (by kernel_rfl) (by kernel_rfl) (by kernel_rfl) (fun _ _ _ h => h) (Or.inl ⟨?qw424, ?qy424⟩) (by assumption) ?_
      case qw424 => rfl
      case qy424 =>
        intro wz hSw
        (try dsimp only at hSw)
        go_simp
        try with_reducible rfl
      try simp only [Act.put, List.getElem_toArray, List.getElem_cons_zero, List.getElem_cons_succ, List.setIfInBounds_toArray, List.set_cons_zero, List.set_cons_succ]
      refine wpAnyH_take (i := 25) (oi := _) (v := ?qv425) rfl (by kernel_rfl) (by kernel_rfl) (by kernel_rfl) (fun _ _ _ h => h) (Or.inl ⟨?qw425, ?qy425⟩) (by assumption) ?_
      case qw425 => rfl
      case qy425 =>
        intro wz hSw
        (try dsimp only at hSw)
        go_simp
        try with_reducible rfl
      try simp only [Act.put, List.getElem_toArray, List.getElem_cons_zero, List.getElem_cons_succ, List.setIfInBounds_toArray, List.set_cons_zero, List.set_cons_succ]
      refine wpAnyH_take (i := 26) (oi := _) (v := ?qv426) rfl (by kernel_rfl) (by kernel_rfl) (by kernel_rfl) (fun _ _ _ h => h) (Or.inl ⟨?qw426, ?qy426⟩) (by assumption) ?_
      case qw426 => rfl
      case qy426 =>
        intro wz hSw
        (try dsimp only at hSw)
        go_simp
        try with_reducible rfl
      try simp only [Act.put, List.getElem_toArray, List.getElem_cons_zero, List.getElem_cons_succ, List.setIfInBounds_toArray, List.set_cons_zero, List.set_cons_succ]
      refine wpAnyH_take (i := 27) (oi := _) (v := ?qv427) rfl (by kernel_rfl) (by kernel_rfl) (by kernel_rfl) (fun _ _ _ h => h) (Or.inl ⟨?qw427, ?qy427⟩) (by assumption) ?_
      case qw427 => rfl
      case qy427 =>
        intro wz hSw
        (try dsimp only at hSw)
        go_simp
        try with_reducible rfl
      try simp only [Act.put, List.getElem_toArray, List.getElem_cons_zero, List.getElem_cons_succ, List.setIfInBounds_toArray, List.set_cons_zero, List.set_cons_succ]
      refine wpAnyH_take (i := 28) (oi := _) (v := ?qv428) rfl (by kernel_rfl) (by kernel_rfl) (by kernel_rfl) (fun _ _ _ h => h) (Or.inl ⟨?qw428, ?qy428⟩) (by assumption) ?_
      case qw428 => rfl
      case qy428 =>
        intro wz hSw
        (try dsimp only at hSw)
        go_simp
        try with_reducible rfl
      try simp only [Act.put, List.getElem_toArray, List.getElem_cons_zero, List.getElem_cons_succ, List.setIfInBounds_toArray, List.set_cons_zero, List.set_cons_succ]
      refine wpAnyH_done (by kernel_rfl) ?_ _
      go_wp2
      go_ret
      (try dsimp only at hHeld)
      go_split_ands
      exact ⟨by first | rfl | (simp [formB]; done) | (simp [formB, *]; done), by assumption⟩
    · have hn : (16 : Int) < p.w := by omega
      go_wp2_with fail
      refine wp_region_held_drew (S := fun w' => w'.cell? ⟨w.heap.size, 0, none⟩ = some (.int .i64 4) ∧ w'.cell? ⟨w.heap.size + 1, 6, none⟩ = some (.int .i64 p.w) ∧ Below w.heap.size w w') (by kernel_rfl) (by refine ⟨?_, ?_, ?_⟩ <;> first | assumption | exact cell_below (by assumption) hbX | exact below_nx (by assumption) hbX | exact Below.drew (by assumption) | exact below_nx (Below.drew (by assumption)) hbX | exact Below.drew (below_al (by assumption) _) | exact below_al (by assumption) _ | exact below_al (Below.drew (by assumption)) _ | exact cell_al (by assumption) _ | exact cell_ald (by assumption) _) (fun hHeld => ?_)
      refine wpAnyH_take (i := 0) (oi := _) (v := ?qv500) rfl (by kernel_rfl) (by kernel_rfl) (by kernel_rfl) (fun _ _ _ h => h) (Or.inl ⟨?qw500, ?qy500⟩) (by assumption) ?_
      case qw500 => rfl
      case qy500 =>
        intro wz hSw
        (try dsimp only at hSw)
        go_simp
        try with_reducible rfl
      try simp only [Act.put, List.getElem_toArray, List.getElem_cons_zero, List.setIfInBounds_toArray, List.set_cons_zero, List.set_cons_succ]
      refine wpAnyH_take (i := 1) (oi := _) (v := ?qv501) rfl (by kernel_rfl) (by kernel_rfl) (by kernel_rfl) (fun _ _ _ h => h) (Or.inl ⟨?qw501, ?qy501⟩) (by assumption) ?_
      case qw501 => rfl
      case qy501 =>
        intro wz hSw
        (try dsimp only at hSw)
        go_simp
        try with_reducible rfl
      try simp only [Act.put, List.getElem_toArray, List.getElem_cons_zero, List.getElem_cons_succ, List.setIfInBounds_toArray, List.set_cons_zero, List.set_cons_succ]
      refine wpAnyH_ready (rs := [2]) (by kernel_rfl) (by simp) ?_
      refine AllReadyH.cons (o := _) rfl (fun K hK => ?_) AllReadyH.nil
      go_simp
      refine hK.out _ _ ?_ (fun hHeld => ?_)
      · (try dsimp only)
        (try dsimp only at hHeld)
        go_split_ands
        refine ⟨?_, ?_, ?_⟩ <;> first | assumption | exact cell_below (by assumption) hbX | exact below_nx (by assumption) hbX | exact Below.drew (by assumption) | exact below_nx (Below.drew (by assumption)) hbX | exact Below.drew (below_al (by assumption) _) | exact below_al (by assumption) _ | exact below_al (Below.drew (by assumption)) _ | exact cell_al (by assumption) _ | exact cell_ald (by assumption) _
      clear hK K
      try simp only [Act.put, List.getElem_toArray, List.getElem_cons_zero, List.getElem_cons_succ, List.setIfInBounds_toArray, List.set_cons_zero, List.set_cons_succ]
      refine wpAnyH_ready (rs := [3]) (by kernel_rfl) (by simp) ?_
      refine AllReadyH.cons (o := _) rfl (fun K hK => ?_) AllReadyH.nil
      go_simp
      first | refine (has1r 4 2 false rfl _ _ (new_a _ _)).mono ?_ | refine (has1r 4 2 false rfl _ _ (new_d _ _)).mono ?_
      rintro e wn ⟨rfl, hbX⟩
      refine hK.out _ _ ?_ (fun hHeld => ?_)
      · (try dsimp only)
        (try dsimp only at hHeld)
        go_split_ands
        refine ⟨?_, ?_, ?_⟩ <;> first | assumption | exact cell_below (by assumption) hbX | exact below_nx (by assumption) hbX | exact Below.drew (by assumption) | exact below_nx (Below.drew (by assumption)) hbX | exact Below.drew (below_al (by assumption) _) | exact below_al (by assumption) _ | exact below_al (Below.drew (by assumption)) _ | exact cell_al (by assumption) _ | exact cell_ald (by assumption) _
      clear hK K
      try simp only [Act.put, List.getElem_toArray, List.getElem_cons_zero, List.getElem_cons_succ, List.setIfInBounds_toArray, List.set_cons_zero, List.set_cons_succ]
      refine wpAnyH_take (i := 4) (oi := _) (v := ?qv504) rfl (by kernel_rfl) (by kernel_rfl) (by kernel_rfl) (fun _ _ _ h => h) (Or.inl ⟨?qw504, ?qy504⟩) (by assumption) ?_
      case qw504 => rfl
      case qy504 =>
        intro wz hSw
        (try dsimp only at hSw)
        go_simp
        try with_reducible rfl
      try simp only [Act.put, List.getElem_toArray, List.getElem_cons_zero, List.getElem_cons_succ, List.setIfInBounds_toArray, List.set_cons_zero, List.set_cons_succ]
      refine wpAnyH_take (i := 5) (oi := _) (v := ?qv505) rfl (by kernel_rfl) (by kernel_rfl) (by kernel_rfl) (fun _ _ _ h => h) (Or.inl ⟨?qw505, ?qy505⟩) (by assumption) ?_
      case qw505 => rfl
      case qy505 =>
        intro wz hSw
        (try dsimp only at hSw)
        go_simp
        try with_reducible rfl
      try simp only [Act.put, List.getElem_toArray, List.getElem_cons_zero, List.getElem_cons_succ, List.setIfInBounds_toArray, List.set_cons_zero, List.set_cons_succ]
      refine wpAnyH_take (i := 6) (oi := _) (v := ?qv506) rfl (by kernel_rfl) (by kernel_rfl) (by kernel_rfl) (fun _ _ _ h => h) (Or.inl ⟨?qw506, ?qy506⟩) (by assumption) ?_
      case qw506 => rfl
      case qy506 =>
        intro wz hSw
        (try dsimp only at hSw)
        go_simp
        try with_reducible rfl
      try simp only [Act.put, List.getElem_toArray, List.getElem_cons_zero, List.getElem_cons_succ, List.setIfInBounds_toArray, List.set_cons_zero, List.set_cons_succ]
      refine wpAnyH_ready (rs := [7]) (by kernel_rfl) (by simp) ?_
      refine AllReadyH.cons (o := _) rfl (fun K hK => ?_) AllReadyH.nil
      go_simp
      refine hK.out _ _ ?_ (fun hHeld => ?_)
      · (try dsimp only)
        (try dsimp only at hHeld)
        go_split_ands
        refine ⟨?_, ?_, ?_⟩ <;> first | assumption | exact cell_below (by assumption) hbX | exact below_nx (by assumption) hbX | exact Below.drew (by assumption) | exact below_nx (Below.drew (by assumption)) hbX | exact Below.drew (below_al (by assumption) _) | exact below_al (by assumption) _ | exact below_al (Below.drew (by assumption)) _ | exact cell_al (by assumption) _ | exact cell_ald (by assumption) _
      clear hK K
      try simp only [Act.put, List.getElem_toArray, List.getElem_cons_zero, List.getElem_cons_succ, List.setIfInBounds_toArray, List.set_cons_zero, List.set_cons_succ]
      refine wpAnyH_ready (rs := [8]) (by kernel_rfl) (by simp) ?_
      refine AllReadyH.cons (o := _) rfl (fun K hK => ?_) AllReadyH.nil
      go_simp
      first | refine (has1r 4 3 false rfl _ _ (new_a _ _)).mono ?_ | refine (has1r 4 3 false rfl _ _ (new_d _ _)).mono ?_
      rintro e wn ⟨rfl, hbX⟩
      refine hK.out _ _ ?_ (fun hHeld => ?_)
      · (try dsimp only)
        (try dsimp only at hHeld)
        go_split_ands
        refine ⟨?_, ?_, ?_⟩ <;> first | assumption | exact cell_below (by assumption) hbX | exact below_nx (by assumption) hbX | exact Below.drew (by assumption) | exact below_nx (Below.drew (by assumption)) hbX | exact Below.drew (below_al (by assumption) _) | exact below_al (by assumption) _ | exact below_al (Below.drew (by assumption)) _ | exact cell_al (by assumption) _ | exact cell_ald (by assumption) _
      clear hK K
      try simp only [Act.put, List.getElem_toArray, List.getElem_cons_zero, List.getElem_cons_succ, List.setIfInBounds_toArray, List.set_cons_zero, List.set_cons_succ]
      refine wpAnyH_take (i := 9) (oi := _) (v := ?qv509) rfl (by kernel_rfl) (by kernel_rfl) (by kernel_rfl) (fun _ _ _ h => h) (Or.inl ⟨?qw509, ?qy509⟩) (by assumption) ?_
      case qw509 => rfl
      case qy509 =>
        intro wz hSw
        (try dsimp only at hSw)
        go_simp
        try with_reducible rfl
      try simp only [Act.put, List.getElem_toArray, List.getElem_cons_zero, List.getElem_cons_succ, List.setIfInBounds_toArray, List.set_cons_zero, List.set_cons_succ]
      refine wpAnyH_take (i := 10) (oi := _) (v := undef) rfl (by kernel_rfl) (by kernel_rfl) (by kernel_rfl) (fun _ _ _ h => h) (Or.inr ⟨?qw510, rfl⟩) (by assumption) ?_
      case qw510 => rfl
      try simp only [Act.put, List.getElem_toArray, List.getElem_cons_zero, List.getElem_cons_succ, List.setIfInBounds_toArray, List.set_cons_zero, List.set_cons_succ]
      refine wpAnyH_take (i := 11) (oi := _) (v := undef) rfl (by kernel_rfl) (by kernel_rfl) (by kernel_rfl) (fun _ _ _ h => h) (Or.inr ⟨?qw511, rfl⟩) (by assumption) ?_
      case qw511 => rfl
      try simp only [Act.put, List.getElem_toArray, List.getElem_cons_zero, List.getElem_cons_succ, List.setIfInBounds_toArray, List.set_cons_zero, List.set_cons_succ]
      refine wpAnyH_take (i := 12) (oi := _) (v := undef) rfl (by kernel_rfl) (by kernel_rfl) (by kernel_rfl) (fun _ _ _ h => h) (Or.inr ⟨?qw512, rfl⟩) (by assumption) ?_
      case qw512 => rfl
      try simp only [Act.put, List.getElem_toArray, List.getElem_cons_zero, List.getElem_cons_succ, List.setIfInBounds_toArray, List.set_cons_zero, List.set_cons_succ]
      refine wpAnyH_take (i := 13) (oi := _) (v := undef) rfl (by kernel_rfl) (by kernel_rfl) (by kernel_rfl) (fun _ _ _ h => h) (Or.inr ⟨?qw513, rfl⟩) (by assumption) ?_
      case qw513 => rfl
      try simp only [Act.put, List.getElem_toArray, List.getElem_cons_zero, List.getElem_cons_succ, List.setIfInBounds_toArray, List.set_cons_zero, List.set_cons_succ]
      refine wpAnyH_take (i := 14) (oi := _) (v := undef) rfl (by kernel_rfl) (by kernel_rfl) (by kernel_rfl) (fun _ _ _ h => h) (Or.inr ⟨?qw514, rfl⟩) (by assumption) ?_
      case qw514 => rfl
      try simp only [Act.put, List.getElem_toArray, List.getElem_cons_zero, List.getElem_cons_succ, List.setIfInBounds_toArray, List.set_cons_zero, List.set_cons_succ]
      refine wpAnyH_take (i := 15) (oi := _) (v := ?qv515) rfl (by kernel_rfl) (by kernel_rfl) (by kernel_rfl) (fun _ _ _ h => h) (Or.inl ⟨?qw515, ?qy515⟩) (by assumption) ?_
      case qw515 => rfl
      case qy515 =>
        intro wz hSw
        (try dsimp only at hSw)
        go_simp
        try with_reducible rfl
      try simp only [Act.put, List.getElem_toArray, List.getElem_cons_zero, List.getElem_cons_succ, List.setIfInBounds_toArray, List.set_cons_zero, List.set_cons_succ]
      refine wpAnyH_take (i := 16) (oi := _) (v := ?qv516) rfl (by kernel_rfl) (by kernel_rfl) (by kernel_rfl) (fun _ _ _ h => h) (Or.inl ⟨?qw516, ?qy516⟩) (by assumption) ?_
      case qw516 => rfl
      case qy516 =>
        intro wz hSw
        (try dsimp only at hSw)
        go_simp
        try with_reducible rfl
      try simp only [Act.put, List.getElem_toArray, List.getElem_cons_zero, List.getElem_cons_succ, List.setIfInBounds_toArray, List.set_cons_zero, List.set_cons_succ]
      refine wpAnyH_take (i := 17) (oi := _) (v := ?qv517) rfl (by kernel_rfl) (by kernel_rfl) (by kernel_rfl) (fun _ _ _ h => h) (Or.inl ⟨?qw517, ?qy517⟩) (by assumption) ?_
      case qw517 => rfl
      case qy517 =>
        intro wz hSw
        (try dsimp only at hSw)
        go_simp
        try with_reducible rfl
      try simp only [Act.put, List.getElem_toArray, List.getElem_cons_zero, List.getElem_cons_succ, List.setIfInBounds_toArray, List.set_cons_zero, List.set_cons_succ]
      refine wpAnyH_take (i := 18) (oi := _) (v := ?qv518) rfl (by kernel_rfl) (by kernel_rfl) (by kernel_rfl) (fun _ _ _ h => h) (Or.inl ⟨?qw518, ?qy518⟩) (by assumption) ?_
      case qw518 => rfl
      case qy518 =>
        intro wz hSw
        (try dsimp only at hSw)
        go_simp
        try with_reducible rfl
      try simp only [Act.put, List.getElem_toArray, List.getElem_cons_zero, List.getElem_cons_succ, List.setIfInBounds_toArray, List.set_cons_zero, List.set_cons_succ]
      refine wpAnyH_take (i := 19) (oi := _) (v := ?qv519) rfl (by kernel_rfl) (by kernel_rfl) (by kernel_rfl) (fun _ _ _ h => h) (Or.inl ⟨?qw519, ?qy519⟩) (by assumption) ?_
      case qw519 => rfl
      case qy519 =>
        intro wz hSw
        (try dsimp only at hSw)
        go_simp
        try with_reducible rfl
      try simp only [Act.put, List.getElem_toArray, List.getElem_cons_zero, List.getElem_cons_succ, List.setIfInBounds_toArray, List.set_cons_zero, List.set_cons_succ]
      refine wpAnyH_ready (rs := [20]) (by kernel_rfl) (by simp) ?_
      refine AllReadyH.cons (o := _) rfl (fun K hK => ?_) AllReadyH.nil
      go_simp
      refine hK.out _ _ ?_ (fun hHeld => ?_)
      · (try dsimp only)
        (try dsimp only at hHeld)
        go_split_ands
        refine ⟨?_, ?_, ?_⟩ <;> first | assumption | exact cell_below (by assumption) hbX | exact below_nx (by assumption) hbX | exact Below.drew (by assumption) | exact below_nx (Below.drew (by assumption)) hbX | exact Below.drew (below_al (by assumption) _) | exact below_al (by assumption) _ | exact below_al (Below.drew (by assumption)) _ | exact cell_al (by assumption) _ | exact cell_ald (by assumption) _
      clear hK K
      try simp only [Act.put, List.getElem_toArray, List.getElem_cons_zero, List.getElem_cons_succ, List.setIfInBounds_toArray, List.set_cons_zero, List.set_cons_succ]
      refine wpAnyH_ready (rs := [21]) (by kernel_rfl) (by simp) ?_
      refine AllReadyH.cons (o := _) rfl (fun K hK => ?_) AllReadyH.nil
      go_simp
      first | refine (has1r 4 4 true rfl _ _ (new_a _ _)).mono ?_ | refine (has1r 4 4 true rfl _ _ (new_d _ _)).mono ?_
      rintro e wn ⟨rfl, hbX⟩
      refine hK.out _ _ ?_ (fun hHeld => ?_)
      · (try dsimp only)
        (try dsimp only at hHeld)
        go_split_ands
        refine ⟨?_, ?_, ?_⟩ <;> first | assumption | exact cell_below (by assumption) hbX | exact below_nx (by assumption) hbX | exact Below.drew (by assumption) | exact below_nx (Below.drew (by assumption)) hbX | exact Below.drew (below_al (by assumption) _) | exact below_al (by assumption) _ | exact below_al (Below.drew (by assumption)) _ | exact cell_al (by assumption) _ | exact cell_ald (by assumption) _
      clear hK K
      try simp only [Act.put, List.getElem_toArray, List.getElem_cons_zero, List.getElem_cons_succ, List.setIfInBounds_toArray, List.set_cons_zero, List.set_cons_succ]
      refine wpAnyH_take (i := 22) (oi := _) (v := ?qv522) rfl (by kernel_rfl) (by kernel_rfl) (by kernel_rfl) (fun _ _ _ h => h) (Or.inl ⟨?qw522, ?qy522⟩) (by assumption) ?_
      case qw522 => rfl
      case qy522 =>
        intro wz hSw
        (try dsimp only at hSw)
        go_simp
        try with_reducible rfl
      try simp only [Act.put, List.getElem_toArray, List.getElem_cons_zero, List.getElem_cons_succ, List.setIfInBounds_toArray, List.set_cons_zero, List.set_cons_succ]
      refine wpAnyH_take (i := 23) (oi := _) (v := ?qv523) rfl (by kernel_rfl) (by kernel_rfl) (by kernel_rfl) (fun _ _ _ h => h) (Or.inl ⟨?qw523, ?qy523⟩) (by assumption) ?_
      case qw523 => rfl
      case qy523 =>
        intro wz hSw
        (try dsimp only at hSw)
        go_simp
        try with_reducible rfl
      try simp only [Act.put, List.getElem_toArray, List.getElem_cons_zero, List.getElem_cons_succ, List.setIfInBounds_toArray, List.set_cons_zero, List.set_cons_succ]
      refine wpAnyH_take (i := 24) (oi := _) (v := ?qv524) rfl (by kernel_rfl) (by kernel_rfl) (by kernel_rfl) (fun _ _ _ h => h) (Or.inl ⟨?qw524, ?qy524⟩) (by assumption) ?_
      case qw524 => rfl
      case qy524 =>
        intro wz hSw
        (try dsimp only at hSw)
        go_simp
        try with_reducible rfl
      try simp only [Act.put, List.getElem_toArray, List.getElem_cons_zero, List.getElem_cons_succ, List.setIfInBounds_toArray, List.set_cons_zero, List.set_cons_succ]
      refine wpAnyH_take (i := 25) (oi := _) (v := ?qv525) rfl (by kernel_rfl) (by kernel_rfl) (by kernel_rfl) (fun _ _ _ h => h) (Or.inl ⟨?qw525, ?qy525⟩) (by assumption) ?_
      case qw525 => rfl
      case qy525 =>
        intro wz hSw
        (try dsimp only at hSw)
        go_simp
        try with_reducible rfl
      try simp only [Act.put, List.getElem_toArray, List.getElem_cons_zero, List.getElem_cons_succ, List.setIfInBounds_toArray, List.set_cons_zero, List.set_cons_succ]
      refine wpAnyH_take (i := 26) (oi := _) (v := ?qv526) rfl (by kernel_rfl) (by kernel_rfl) (by kernel_rfl) (fun _ _ _ h => h) (Or.inl ⟨?qw526, ?qy526⟩) (by assumption) ?_
      case qw526 => rfl
      case qy526 =>
        intro wz hSw
        (try dsimp only at hSw)
        go_simp
        try with_reducible rfl
      try simp only [Act.put, List.getElem_toArray, List.getElem_cons_zero, List.getElem_cons_succ, List.setIfInBounds_toArray, List.set_cons_zero, List.set_cons_succ]
      refine wpAnyH_take (i := 27) (oi := _) (v := ?qv527) rfl (by kernel_rfl) (by kernel_rfl) (by kernel_rfl) (fun _ _ _ h => h) (Or.inl ⟨?qw527, ?qy527⟩) (by assumption) ?_
      case qw527 => rfl
      case qy527 =>
        intro wz hSw
        (try dsimp only at hSw)
        go_simp
        try with_reducible rfl
      try simp only [Act.put, List.getElem_toArray, List.getElem_cons_zero, List.getElem_cons_succ, List.setIfInBounds_toArray, List.set_cons_zero, List.set_cons_succ]
      refine wpAnyH_take (i := 28) (oi := _) (v := ?qv528) rfl (by kernel_rfl) (by kernel_rfl) (by kernel_rfl) (fun _ _ _ h => h) (Or.inl ⟨?qw528, ?qy528⟩) (by assumption) ?_
      case qw528 => rfl
      case qy528 =>
        intro wz hSw
        (try dsimp only at hSw)
        go_simp
        try with_reducible rfl
      try simp only [Act.put, List.getElem_toArray, List.getElem_cons_zero, List.getElem_cons_succ, List.setIfInBounds_toArray, List.set_cons_zero, List.set_cons_succ]
      refine wpAnyH_done (by kernel_rfl) ?_ _
      go_wp2
      go_ret
      (try dsimp only at hHeld)
      go_split_ands
      exact ⟨by first | rfl | (simp [formB]; done) | (simp [formB, *]; done), by assumption⟩
  have f2 : (f == 2) = false := by rw [beq_eq_false_iff_ne]; exact h2
  have f3 : (f == 3) = false := by rw [beq_eq_false_iff_ne]; exact h3
  have f4 : (f == 4) = false := by rw [beq_eq_false_iff_ne]; exact h4
  have hfb : (formB f && decide (f ≠ 1)) = false := by
    rw [formB_or, f2, f3, f4, Bool.eq_false_iff]
    simp
  go_wp2_with fail
  refine wp_region_held_drew (S := fun w' => w'.cell? ⟨w.heap.size, 0, none⟩ = some (.int .i64 f) ∧ w'.cell? ⟨w.heap.size + 1, 6, none⟩ = some (.int .i64 p.w) ∧ Below w.heap.size w w') (by kernel_rfl) (by refine ⟨?_, ?_, ?_⟩ <;> first | assumption | exact cell_below (by assumption) hbX | exact below_nx (by assumption) hbX | exact Below.drew (by assumption) | exact below_nx (Below.drew (by assumption)) hbX | exact Below.drew (below_al (by assumption) _) | exact below_al (by assumption) _ | exact below_al (Below.drew (by assumption)) _ | exact cell_al (by assumption) _ | exact cell_ald (by assumption) _) (fun hHeld => ?_)
  refine wpAnyH_take (i := 0) (oi := _) (v := ?qv600) rfl (by kernel_rfl) (by kernel_rfl) (by kernel_rfl) (fun _ _ _ h => h) (Or.inl ⟨?qw600, ?qy600⟩) (by assumption) ?_
  case qw600 => rfl
  case qy600 =>
    intro wz hSw
    (try dsimp only at hSw)
    go_simp
    try with_reducible rfl
  try simp only [Act.put, List.getElem_toArray, List.getElem_cons_zero, List.setIfInBounds_toArray, List.set_cons_zero, List.set_cons_succ]
  refine wpAnyH_take (i := 1) (oi := _) (v := ?qv601) rfl (by kernel_rfl) (by kernel_rfl) (by kernel_rfl) (fun _ _ _ h => h) (Or.inl ⟨?qw601, ?qy601⟩) (by assumption) ?_
  case qw601 => rfl
  case qy601 =>
    intro wz hSw
    (try dsimp only at hSw)
    go_simp
    try with_reducible rfl
  try simp only [Act.put, List.getElem_toArray, List.getElem_cons_zero, List.getElem_cons_succ, List.setIfInBounds_toArray, List.set_cons_zero, List.set_cons_succ]
  refine wpAnyH_ready (rs := [2]) (by kernel_rfl) (by simp) ?_
  refine AllReadyH.cons (o := _) rfl (fun K hK => ?_) AllReadyH.nil
  go_simp
  refine hK.out _ _ ?_ (fun hHeld => ?_)
  · (try dsimp only)
    (try dsimp only at hHeld)
    go_split_ands
    refine ⟨?_, ?_, ?_⟩ <;> first | assumption | exact cell_below (by assumption) hbX | exact below_nx (by assumption) hbX | exact Below.drew (by assumption) | exact below_nx (Below.drew (by assumption)) hbX | exact Below.drew (below_al (by assumption) _) | exact below_al (by assumption) _ | exact below_al (Below.drew (by assumption)) _ | exact cell_al (by assumption) _ | exact cell_ald (by assumption) _
  clear hK K
  try simp only [Act.put, List.getElem_toArray, List.getElem_cons_zero, List.getElem_cons_succ, List.setIfInBounds_toArray, List.set_cons_zero, List.set_cons_succ]
  refine wpAnyH_ready (rs := [3]) (by kernel_rfl) (by simp) ?_
  refine AllReadyH.cons (o := _) rfl (fun K hK => ?_) AllReadyH.nil
  go_simp
  first | refine (has1r f 2 false f2 _ _ (new_a _ _)).mono ?_ | refine (has1r f 2 false f2 _ _ (new_d _ _)).mono ?_
  rintro e wn ⟨rfl, hbX⟩
  refine hK.out _ _ ?_ (fun hHeld => ?_)
  · (try dsimp only)
    (try dsimp only at hHeld)
    go_split_ands
    refine ⟨?_, ?_, ?_⟩ <;> first | assumption | exact cell_below (by assumption) hbX | exact below_nx (by assumption) hbX | exact Below.drew (by assumption) | exact below_nx (Below.drew (by assumption)) hbX | exact Below.drew (below_al (by assumption) _) | exact below_al (by assumption) _ | exact below_al (Below.drew (by assumption)) _ | exact cell_al (by assumption) _ | exact cell_ald (by assumption) _
  clear hK K
  try simp only [Act.put, List.getElem_toArray, List.getElem_cons_zero, List.getElem_cons_succ, List.setIfInBounds_toArray, List.set_cons_zero, List.set_cons_succ]
  refine wpAnyH_take (i := 4) (oi := _) (v := ?qv604) rfl (by kernel_rfl) (by kernel_rfl) (by kernel_rfl) (fun _ _ _ h => h) (Or.inl ⟨?qw604, ?qy604⟩) (by assumption) ?_
  case qw604 => rfl
  case qy604 =>
    intro wz hSw
    (try dsimp only at hSw)
    go_simp
    try with_reducible rfl
  try simp only [Act.put, List.getElem_toArray, List.getElem_cons_zero, List.getElem_cons_succ, List.setIfInBounds_toArray, List.set_cons_zero, List.set_cons_succ]
  refine wpAnyH_take (i := 5) (oi := _) (v := ?qv605) rfl (by kernel_rfl) (by kernel_rfl) (by kernel_rfl) (fun _ _ _ h => h) (Or.inl ⟨?qw605, ?qy605⟩) (by assumption) ?_
  case qw605 => rfl
  case qy605 =>
    intro wz hSw
    (try dsimp only at hSw)
    go_simp
    try with_reducible rfl
  try simp only [Act.put, List.getElem_toArray, List.getElem_cons_zero, List.getElem_cons_succ, List.setIfInBounds_toArray, List.set_cons_zero, List.set_cons_succ]
  refine wpAnyH_take (i := 6) (oi := _) (v := ?qv606) rfl (by kernel_rfl) (by kernel_rfl) (by kernel_rfl) (fun _ _ _ h => h) (Or.inl ⟨?qw606, ?qy606⟩) (by assumption) ?_
  case qw606 => rfl
  case qy606 =>
    intro wz hSw
    (try dsimp only at hSw)
    go_simp
    try with_reducible rfl
  try simp only [Act.put, List.getElem_toArray, List.getElem_cons_zero, List.getElem_cons_succ, List.setIfInBounds_toArray, List.set_cons_zero, List.set_cons_succ]
  refine wpAnyH_ready (rs := [7]) (by kernel_rfl) (by simp) ?_
  refine AllReadyH.cons (o := _) rfl (fun K hK => ?_) AllReadyH.nil
  go_simp
  refine hK.out _ _ ?_ (fun hHeld => ?_)
  · (try dsimp only)
    (try dsimp only at hHeld)
    go_split_ands
    refine ⟨?_, ?_, ?_⟩ <;> first | assumption | exact cell_below (by assumption) hbX | exact below_nx (by assumption) hbX | exact Below.drew (by assumption) | exact below_nx (Below.drew (by assumption)) hbX | exact Below.drew (below_al (by assumption) _) | exact below_al (by assumption) _ | exact below_al (Below.drew (by assumption)) _ | exact cell_al (by assumption) _ | exact cell_ald (by assumption) _
  clear hK K
  try simp only [Act.put, List.getElem_toArray, List.getElem_cons_zero, List.getElem_cons_succ, List.setIfInBounds_toArray, List.set_cons_zero, List.set_cons_succ]
  refine wpAnyH_ready (rs := [8]) (by kernel_rfl) (by simp) ?_
  refine AllReadyH.cons (o := _) rfl (fun K hK => ?_) AllReadyH.nil
  go_simp
  first | refine (has1r f 3 false f3 _ _ (new_a _ _)).mono ?_ | refine (has1r f 3 false f3 _ _ (new_d _ _)).mono ?_
  rintro e wn ⟨rfl, hbX⟩
  refine hK.out _ _ ?_ (fun hHeld => ?_)
  · (try dsimp only)
    (try dsimp only at hHeld)
    go_split_ands
    refine ⟨?_, ?_, ?_⟩ <;> first | assumption | exact cell_below (by assumption) hbX | exact below_nx (by assumption) hbX | exact Below.drew (by assumption) | exact below_nx (Below.drew (by assumption)) hbX | exact Below.drew (below_al (by assumption) _) | exact below_al (by assumption) _ | exact below_al (Below.drew (by assumption)) _ | exact cell_al (by assumption) _ | exact cell_ald (by assumption) _
  clear hK K
  try simp only [Act.put, List.getElem_toArray, List.getElem_cons_zero, List.getElem_cons_succ, List.setIfInBounds_toArray, List.set_cons_zero, List.set_cons_succ]
  refine wpAnyH_take (i := 9) (oi := _) (v := ?qv609) rfl (by kernel_rfl) (by kernel_rfl) (by kernel_rfl) (fun _ _ _ h => h) (Or.inl ⟨?qw609, ?qy609⟩) (by assumption) ?_
  case qw609 => rfl
  case qy609 =>
    intro wz hSw
    (try dsimp only at hSw)
    go_simp
    try with_reducible rfl
  try simp only [Act.put, List.getElem_toArray, List.getElem_cons_zero, List.getElem_cons_succ, List.setIfInBounds_toArray, List.set_cons_zero, List.set_cons_succ]
  refine wpAnyH_take (i := 10) (oi := _) (v := undef) rfl (by kernel_rfl) (by kernel_rfl) (by kernel_rfl) (fun _ _ _ h => h) (Or.inr ⟨?qw610, rfl⟩) (by assumption) ?_
  case qw610 => rfl
  try simp only [Act.put, List.getElem_toArray, List.getElem_cons_zero, List.getElem_cons_succ, List.setIfInBounds_toArray, List.set_cons_zero, List.set_cons_succ]
  refine wpAnyH_take (i := 11) (oi := _) (v := undef) rfl (by kernel_rfl) (by kernel_rfl) (by kernel_rfl) (fun _ _ _ h => h) (Or.inr ⟨?qw611, rfl⟩) (by assumption) ?_
  case qw611 => rfl
  try simp only [Act.put, List.getElem_toArray, List.getElem_cons_zero, List.getElem_cons_succ, List.setIfInBounds_toArray, List.set_cons_zero, List.set_cons_succ]
  refine wpAnyH_take (i := 12) (oi := _) (v := undef) rfl (by kernel_rfl) (by kernel_rfl) (by kernel_rfl) (fun _ _ _ h => h) (Or.inr ⟨?qw612, rfl⟩) (by assumption) ?_
  case qw612 => rfl
  try simp only [Act.put, List.getElem_toArray, List.getElem_cons_zero, List.getElem_cons_succ, List.setIfInBounds_toArray, List.set_cons_zero, List.set_cons_succ]
  refine wpAnyH_take (i := 13) (oi := _) (v := undef) rfl (by kernel_rfl) (by kernel_rfl) (by kernel_rfl) (fun _ _ _ h => h) (Or.inr ⟨?qw613, rfl⟩) (by assumption) ?_
  case qw613 => rfl
  try simp only [Act.put, List.getElem_toArray, List.getElem_cons_zero, List.getElem_cons_succ, List.setIfInBounds_toArray, List.set_cons_zero, List.set_cons_succ]
  refine wpAnyH_take (i := 14) (oi := _) (v := undef) rfl (by kernel_rfl) (by kernel_rfl) (by kernel_rfl) (fun _ _ _ h => h) (Or.inr ⟨?qw614, rfl⟩) (by assumption) ?_
  case qw614 => rfl
  try simp only [Act.put, List.getElem_toArray, List.getElem_cons_zero, List.getElem_cons_succ, List.setIfInBounds_toArray, List.set_cons_zero, List.set_cons_succ]
  refine wpAnyH_take (i := 15) (oi := _) (v := ?qv615) rfl (by kernel_rfl) (by kernel_rfl) (by kernel_rfl) (fun _ _ _ h => h) (Or.inl ⟨?qw615, ?qy615⟩) (by assumption) ?_
  case qw615 => rfl
  case qy615 =>
    intro wz hSw
    (try dsimp only at hSw)
    go_simp
    try with_reducible rfl
  try simp only [Act.put, List.getElem_toArray, List.getElem_cons_zero, List.getElem_cons_succ, List.setIfInBounds_toArray, List.set_cons_zero, List.set_cons_succ]
  refine wpAnyH_take (i := 16) (oi := _) (v := ?qv616) rfl (by kernel_rfl) (by kernel_rfl) (by kernel_rfl) (fun _ _ _ h => h) (Or.inl ⟨?qw616, ?qy616⟩) (by assumption) ?_
  case qw616 => rfl
  case qy616 =>
    intro wz hSw
    (try dsimp only at hSw)
    go_simp
    try with_reducible rfl
  try simp only [Act.put, List.getElem_toArray, List.getElem_cons_zero, List.getElem_cons_succ, List.setIfInBounds_toArray, List.set_cons_zero, List.set_cons_succ]
  refine wpAnyH_take (i := 17) (oi := _) (v := ?qv617) rfl (by kernel_rfl) (by kernel_rfl) (by kernel_rfl) (fun _ _ _ h => h) (Or.inl ⟨?qw617, ?qy617⟩) (by assumption) ?_
  case qw617 => rfl
  case qy617 =>
    intro wz hSw
    (try dsimp only at hSw)
    go_simp
    try with_reducible rfl
  try simp only [Act.put, List.getElem_toArray, List.getElem_cons_zero, List.getElem_cons_succ, List.setIfInBounds_toArray, List.set_cons_zero, List.set_cons_succ]
  refine wpAnyH_take (i := 18) (oi := _) (v := ?qv618) rfl (by kernel_rfl) (by kernel_rfl) (by kernel_rfl) (fun _ _ _ h => h) (Or.inl ⟨?qw618, ?qy618⟩) (by assumption) ?_
  case qw618 => rfl
  case qy618 =>
    intro wz hSw
    (try dsimp only at hSw)
    go_simp
    try with_reducible rfl
  try simp only [Act.put, List.getElem_toArray, List.getElem_cons_zero, List.getElem_cons_succ, List.setIfInBounds_toArray, List.set_cons_zero, List.set_cons_succ]
  refine wpAnyH_take (i := 19) (oi := _) (v := ?qv619) rfl (by kernel_rfl) (by kernel_rfl) (by kernel_rfl) (fun _ _ _ h => h) (Or.inl ⟨?qw619, ?qy619⟩) (by assumption) ?_
  case qw619 => rfl
  case qy619 =>
    intro wz hSw
    (try dsimp only at hSw)
    go_simp
    try with_reducible rfl
  try simp only [Act.put, List.getElem_toArray, List.getElem_cons_zero, List.getElem_cons_succ, List.setIfInBounds_toArray, List.set_cons_zero, List.set_cons_succ]
  refine wpAnyH_ready (rs := [20]) (by kernel_rfl) (by simp) ?_
  refine AllReadyH.cons (o := _) rfl (fun K hK => ?_) AllReadyH.nil
  go_simp
  refine hK.out _ _ ?_ (fun hHeld => ?_)
  · (try dsimp only)
    (try dsimp only at hHeld)
    go_split_ands
    refine ⟨?_, ?_, ?_⟩ <;> first | assumption | exact cell_below (by assumption) hbX | exact below_nx (by assumption) hbX | exact Below.drew (by assumption) | exact below_nx (Below.drew (by assumption)) hbX | exact Below.drew (below_al (by assumption) _) | exact below_al (by assumption) _ | exact below_al (Below.drew (by assumption)) _ | exact cell_al (by assumption) _ | exact cell_ald (by assumption) _
  clear hK K
  try simp only [Act.put, List.getElem_toArray, List.getElem_cons_zero, List.getElem_cons_succ, List.setIfInBounds_toArray, List.set_cons_zero, List.set_cons_succ]
  refine wpAnyH_ready (rs := [21]) (by kernel_rfl) (by simp) ?_
  refine AllReadyH.cons (o := _) rfl (fun K hK => ?_) AllReadyH.nil
  go_simp
  first | refine (has1r f 4 false f4 _ _ (new_a _ _)).mono ?_ | refine (has1r f 4 false f4 _ _ (new_d _ _)).mono ?_
  rintro e wn ⟨rfl, hbX⟩
  refine hK.out _ _ ?_ (fun hHeld => ?_)
  · (try dsimp only)
    (try dsimp only at hHeld)
    go_split_ands
    refine ⟨?_, ?_, ?_⟩ <;> first | assumption | exact cell_below (by assumption) hbX | exact below_nx (by assumption) hbX | exact Below.drew (by assumption) | exact below_nx (Below.drew (by assumption)) hbX | exact Below.drew (below_al (by assumption) _) | exact below_al (by assumption) _ | exact below_al (Below.drew (by assumption)) _ | exact cell_al (by assumption) _ | exact cell_ald (by assumption) _
  clear hK K
  try simp only [Act.put, List.getElem_toArray, List.getElem_cons_zero, List.getElem_cons_succ, List.setIfInBounds_toArray, List.set_cons_zero, List.set_cons_succ]
  refine wpAnyH_take (i := 22) (oi := _) (v := ?qv622) rfl (by kernel_rfl) (by kernel_rfl) (by kernel_rfl) (fun _ _ _ h => h) (Or.inl ⟨?qw622, ?qy622⟩) (by assumption) ?_
  case qw622 => rfl
  case qy622 =>
    intro wz hSw
    (try dsimp only at hSw)
    go_simp
    try with_reducible rfl
  try simp only [Act.put, List.getElem_toArray, List.getElem_cons_zero, List.getElem_cons_succ, List.setIfInBounds_toArray, List.set_cons_zero, List.set_cons_succ]
  refine wpAnyH_take (i := 23) (oi := _) (v := undef) rfl (by kernel_rfl) (by kernel_rfl) (by kernel_rfl) (fun _ _ _ h => h) (Or.inr ⟨?qw623, rfl⟩) (by assumption) ?_
  case qw623 => rfl
  try simp only [Act.put, List.getElem_toArray, List.getElem_cons_zero, List.getElem_cons_succ, List.setIfInBounds_toArray, List.set_cons_zero, List.set_cons_succ]
  refine wpAnyH_take (i := 24) (oi := _) (v := undef) rfl (by kernel_rfl) (by kernel_rfl) (by kernel_rfl) (fun _ _ _ h => h) (Or.inr ⟨?qw624, rfl⟩) (by assumption) ?_
  case qw624 => rfl
  try simp only [Act.put, List.getElem_toArray, List.getElem_cons_zero, List.getElem_cons_succ, List.setIfInBounds_toArray, List.set_cons_zero, List.set_cons_succ]
  refine wpAnyH_take (i := 25) (oi := _) (v := undef) rfl (by kernel_rfl) (by kernel_rfl) (by kernel_rfl) (fun _ _ _ h => h) (Or.inr ⟨?qw625, rfl⟩) (by assumption) ?_
  case qw625 => rfl
  try simp only [Act.put, List.getElem_toArray, List.getElem_cons_zero, List.getElem_cons_succ, List.setIfInBounds_toArray, List.set_cons_zero, List.set_cons_succ]
  refine wpAnyH_take (i := 26) (oi := _) (v := ?qv626) rfl (by kernel_rfl) (by kernel_rfl) (by kernel_rfl) (fun _ _ _ h => h) (Or.inl ⟨?qw626, ?qy626⟩) (by assumption) ?_
  case qw626 => rfl
  case qy626 =>
    intro wz hSw
    (try dsimp only at hSw)
    go_simp
    try with_reducible rfl
  try simp only [Act.put, List.getElem_toArray, List.getElem_cons_zero, List.getElem_cons_succ, List.setIfInBounds_toArray, List.set_cons_zero, List.set_cons_succ]
  refine wpAnyH_take (i := 27) (oi := _) (v := ?qv627) rfl (by kernel_rfl) (by kernel_rfl) (by kernel_rfl) (fun _ _ _ h => h) (Or.inl ⟨?qw627, ?qy627⟩) (by assumption) ?_
  case qw627 => rfl
  case qy627 =>
    intro wz hSw
    (try dsimp only at hSw)
    go_simp
    try with_reducible rfl
  try simp only [Act.put, List.getElem_toArray, List.getElem_cons_zero, List.getElem_cons_succ, List.setIfInBounds_toArray, List.set_cons_zero, List.set_cons_succ]
  refine wpAnyH_take (i := 28) (oi := _) (v := ?qv628) rfl (by kernel_rfl) (by kernel_rfl) (by kernel_rfl) (fun _ _ _ h => h) (Or.inl ⟨?qw628, ?qy628⟩) (by assumption) ?_
  case qw628 => rfl
  case qy628 =>
    intro wz hSw
    (try dsimp only at hSw)
    go_simp
    try with_reducible rfl
  try simp only [Act.put, List.getElem_toArray, List.getElem_cons_zero, List.getElem_cons_succ, List.setIfInBounds_toArray, List.set_cons_zero, List.set_cons_succ]
  refine wpAnyH_done (by kernel_rfl) ?_ _
  go_wp2
  go_ret
  (try dsimp only at hHeld)
  go_split_ands
  exact ⟨by first | rfl | (rw [← Bool.and_assoc, hfb]; rfl) | (simp [formB]; done) | (simp [formB, *]; done), by assumption⟩

theorem fits_calls (f : Int) (p : Pay) (l : List Tr) (hfin : (Tr.nd p l).fine) (hown : ownP p l = true) (sl : Value) (w : World) (hT : Tabs w) (hin : InT w (ndV p sl) (.nd p l)) :
    Calls Tryz.prog 54 #[.agg #[.int .i64 f], ndV p sl] w fun e w' => e = .returned (.bool (fitN p l f)) ∧ Below w.heap.size w w' := by
  by_cases h4 : p.k = 4
  · exact fits4 f p l hfin sl w (own_wid hown h4) hin h4
  by_cases h3 : p.k = 3
  · exact fits3 f p l hfin sl w hT hin h3
  by_cases h6 : p.k = 6
  · exact fits6 f p l hfin sl w hin h6
  by_cases h9 : p.k = 9
  · exact fits9 f p l hfin sl w hin h9
  by_cases h10 : p.k = 10
  · exact fits10 f p l hfin sl w hin h10
  by_cases h11 : p.k = 11
  · exact fits11 f p l hfin sl w hin h11
  by_cases h8 : p.k = 8
  · exact fits8 f p l hfin sl w hT hin h8
  exact fitsE f p l hfin sl w hin ⟨h4, h3, h6, h9, h10, h11, h8⟩
end Go.Proofs.YtpjlepkdiaohiaaGreatDoor

/- Package tree: checked: walked. -/
namespace Go.Proofs.YtpjlepkdiaohiaaGreatDoor
open Go.RowKit
attribute [local go_sem] Oper.semAt_some

/-- what the walks are given of the package-level variables. -/
structure TabT (w : World) (ea eb : Addr) : Prop where
  tabs : Tabs w
  utf : Lib.Utf8Tabs 5 6 w
  c0 : w.cell? ⟨0, 0, none⟩ = some (.iface 251 (.pointer (some ea)))
  c1 : w.cell? ⟨1, 0, none⟩ = some (.iface 251 (.pointer (some eb)))
  h0 : ∃ c t, w.heap[ea.block]? = some (.cells c t (0, 0))
  h1 : ∃ c t, w.heap[eb.block]? = some (.cells c t (0, 0))
  ne : ea ≠ eb
theorem heap_kept {w w' : World} (hb : Below w.heap.size w w') {k : Nat} {o : Obj} (h : w.heap[k]? = some o) : w'.heap[k]? = some o := (hb.block k (Array.getElem?_eq_some_iff.1 h).1).trans h
theorem TabT.below {w w' : World} {ea eb : Addr} (h : TabT w ea eb) (hb : Below w.heap.size w w') : TabT w' ea eb :=
  ⟨h.tabs.below hb, Utf8Tabs_up h.utf hb, cell_below h.c0 hb, cell_below h.c1 hb, h.h0.imp fun _ h => h.imp fun _ h => heap_kept hb h, h.h1.imp fun _ h => h.imp fun _ h => heap_kept hb h, h.ne⟩

def kindF (k : Int) : Option Nat := if k = 1 then some 78 else if k = 2 then some 79 else if k = 3 then some 80 else if k = 4 then some 81 else if k = 5 then some 82 else if k = 6 then some 83
  else if k = 7 then some 84 else if k = 8 then some 85 else if k = 9 then some 86 else if k = 10 then some 87 else if k = 11 then some 88 else none
theorem kindF_cases (k : Int) : (∃ i : Fin 11, k = (i.val : Int) + 1) ∨ ((∀ i : Fin 11, k ≠ (i.val : Int) + 1) ∧ kindF k = none) := by
  by_cases h : 1 ≤ k ∧ k ≤ 11
  · exact .inl ⟨⟨(k - 1).toNat, by omega⟩, by simp; omega⟩
  · refine .inr ⟨fun i e => ?_, ?_⟩
    · have := i.isLt
      omega
    · unfold kindF
      rw [if_neg (by omega), if_neg (by omega), if_neg (by omega), if_neg (by omega), if_neg (by omega), if_neg (by omega), if_neg (by omega), if_neg (by omega), if_neg (by omega), if_neg (by omega), if_neg (by omega)]
theorem zero_kind (w : World) : (zeroValue 102).run Tryz.prog w = .ok .nilFunc w := by kernel_rfl
theorem kind_look (k : Int) (w : World) (b : Nat) (h : MapI w b kindL) :
    (Instr.lookup 97 (.map (some b)) (.int .i64 k) true).run Tryz.prog w = .ok (.tuple #[(kindF k).elim .nilFunc (fun F => .func (.func F) #[] #[]), .bool (kindF k).isSome]) w := by
  rw [run_look Tryz.underlying97 Tryz.underlying3 zero_kind w b kindL h k]
  congr 2
  rcases kindF_cases k with ⟨i, rfl⟩ | ⟨h1, h2⟩
  · rcases i with ⟨i, hi⟩
    rcases (show i = 0 ∨ i = 1 ∨ i = 2 ∨ i = 3 ∨ i = 4 ∨ i = 5 ∨ i = 6 ∨ i = 7 ∨ i = 8 ∨ i = 9 ∨ i = 10 by omega) with rfl | rfl | rfl | rfl | rfl | rfl | rfl | rfl | rfl | rfl | rfl <;> rfl
  · rw [h2]
    have : kindL.findIdx? (fun p => p.1 == k) = none := by
      rw [List.findIdx?_eq_none_iff]
      intro p hp
      simp only [kindL, List.mem_cons, List.not_mem_nil, or_false] at hp
      rw [beq_eq_false_iff_ne]
      intro e
      have g := fun n (hn : n < 11) => h1 ⟨n, hn⟩
      rcases hp with rfl | rfl | rfl | rfl | rfl | rfl | rfl | rfl | rfl | rfl | rfl <;> (simp only at e; subst e)
      · exact g 0 (by omega) rfl
      · exact g 1 (by omega) rfl
      · exact g 2 (by omega) rfl
      · exact g 3 (by omega) rfl
      · exact g 4 (by omega) rfl
      · exact g 5 (by omega) rfl
      · exact g 6 (by omega) rfl
      · exact g 7 (by omega) rfl
      · exact g 8 (by omega) rfl
      · exact g 9 (by omega) rfl
      · exact g 10 (by omega) rfl
    rw [this]
    rfl
theorem kindF_enters {k : Int} {F : Nat} (h : kindF k = some F) : ∀ args w, (callFunc F args).run Tryz.prog w = .ok (.enter F args) w := by
  rcases kindF_cases k with ⟨i, rfl⟩ | ⟨h1, h2⟩
  · rcases i with ⟨i, hi⟩
    rcases (show i = 0 ∨ i = 1 ∨ i = 2 ∨ i = 3 ∨ i = 4 ∨ i = 5 ∨ i = 6 ∨ i = 7 ∨ i = 8 ∨ i = 9 ∨ i = 10 by omega) with rfl | rfl | rfl | rfl | rfl | rfl | rfl | rfl | rfl | rfl | rfl
    · obtain rfl := Option.some.inj (show some 78 = some F from h); exact enters_of Tryz.func78 (by kernel_rfl) rfl
    · obtain rfl := Option.some.inj (show some 79 = some F from h); exact enters_of Tryz.func79 (by kernel_rfl) rfl
    · obtain rfl := Option.some.inj (show some 80 = some F from h); exact enters_of Tryz.func80 (by kernel_rfl) rfl
    · obtain rfl := Option.some.inj (show some 81 = some F from h); exact enters_of Tryz.func81 (by kernel_rfl) rfl
    · obtain rfl := Option.some.inj (show some 82 = some F from h); exact enters_of Tryz.func82 (by kernel_rfl) rfl
    · obtain rfl := Option.some.inj (show some 83 = some F from h); exact enters_of Tryz.func83 (by kernel_rfl) rfl
    · obtain rfl := Option.some.inj (show some 84 = some F from h); exact enters_of Tryz.func84 (by kernel_rfl) rfl
    · obtain rfl := Option.some.inj (show some 85 = some F from h); exact enters_of Tryz.func85 (by kernel_rfl) rfl
    · obtain rfl := Option.some.inj (show some 86 = some F from h); exact enters_of Tryz.func86 (by kernel_rfl) rfl
    · obtain rfl := Option.some.inj (show some 87 = some F from h); exact enters_of Tryz.func87 (by kernel_rfl) rfl
    · obtain rfl := Option.some.inj (show some 88 = some F from h); exact enters_of Tryz.func88 (by kernel_rfl) rfl
  · rw [h2] at h; cases h
theorem is_calls (f : Int) (p : Pay) (l : List Tr) (hfin : (Tr.nd p l).fine) (sl : Value) (w : World) {ea eb : Addr} (hT : TabT w ea eb) (hin : InT w (ndV p sl) (.nd p l)) {F : Nat} (h : kindF p.k = some F) :
    Calls Tryz.prog F #[.agg #[.int .i64 f], ndV p sl] w fun e w' => e = .returned (.bool (ownP p l)) ∧ Below w.heap.size w w' := by
  rcases kindF_cases p.k with ⟨i, hi0⟩ | ⟨h1, h2⟩
  · rcases i with ⟨i, hi⟩
    unfold ownP
    rcases (show i = 0 ∨ i = 1 ∨ i = 2 ∨ i = 3 ∨ i = 4 ∨ i = 5 ∨ i = 6 ∨ i = 7 ∨ i = 8 ∨ i = 9 ∨ i = 10 by omega) with rfl | rfl | rfl | rfl | rfl | rfl | rfl | rfl | rfl | rfl | rfl <;> (simp only [hi0] at h ⊢)
    · obtain rfl := Option.some.inj (show some 78 = some F from h)
      exact isNull_calls f p l hfin sl w hin
    · obtain rfl := Option.some.inj (show some 79 = some F from h)
      exact isBool_calls f p l hfin sl w hin
    · obtain rfl := Option.some.inj (show some 80 = some F from h)
      refine (isNum_calls f p l hfin sl w hin).mono ?_
      rintro e w' ⟨rfl, hb⟩
      exact ⟨by rw [Bool.and_assoc]; rfl, hb⟩
    · obtain rfl := Option.some.inj (show some 81 = some F from h)
      refine (isFloat_calls f p l hfin sl w hin).mono ?_
      rintro e w' ⟨rfl, hb⟩
      exact ⟨by rw [Bool.and_assoc]; rfl, hb⟩
    · obtain rfl := Option.some.inj (show some 82 = some F from h)
      refine (isText_calls f p l hfin sl w hT.utf hin).mono ?_
      rintro e w' ⟨rfl, hb⟩
      exact ⟨by rw [Bool.and_assoc]; rfl, hb⟩
    · obtain rfl := Option.some.inj (show some 83 = some F from h)
      refine (isBytes_calls f p l hfin sl w hin).mono ?_
      rintro e w' ⟨rfl, hb⟩
      exact ⟨by rw [Bool.and_assoc]; rfl, hb⟩
    · obtain rfl := Option.some.inj (show some 84 = some F from h)
      exact isArray_calls f p l hfin sl w hin
    · obtain rfl := Option.some.inj (show some 85 = some F from h)
      exact isMap_calls f p l hfin sl w hin
    · obtain rfl := Option.some.inj (show some 86 = some F from h)
      refine (isTag_calls f p l hfin sl w hin).mono ?_
      rintro e w' ⟨rfl, hb⟩
      exact ⟨by rw [Bool.and_comm]; rfl, hb⟩
    · obtain rfl := Option.some.inj (show some 87 = some F from h)
      refine (isSimple_calls f p l hfin sl w hin).mono ?_
      rintro e w' ⟨rfl, hb⟩
      refine ⟨?_, hb⟩
      have : (decide (p.u ≤ 255) && (decide (p.u ≤ 19) || (decide (p.u = 23) || decide (32 ≤ p.u)))) = (decide (p.u ≤ 19) || (decide (p.u = 23) || (decide (32 ≤ p.u) && decide (p.u ≤ 255)))) := by
        rw [Bool.eq_iff_iff]
        simp only [Bool.and_eq_true, Bool.or_eq_true, decide_eq_true_eq]
        omega
      rw [this, Bool.and_assoc]; rfl
    · obtain rfl := Option.some.inj (show some 88 = some F from h)
      refine (isExt_calls f p l hfin sl w hin).mono ?_
      rintro e w' ⟨rfl, hb⟩
      exact ⟨by rw [Bool.and_assoc]; rfl, hb⟩
  · rw [h2] at h; cases h
end Go.Proofs.YtpjlepkdiaohiaaGreatDoor

