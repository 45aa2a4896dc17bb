/- Package nat: of: the limbs of texts. -/
import Derived.Test.YtdppcpiepippoaaGreatDoorNatF
namespace Go.Proofs.YtdppcpiepippoaaGreatDoor
open Go.RowKit Go.Shelf
attribute [local go_sem] Oper.semAt_some

theorem info_limbs : (Tryz.prog.info? 46).map (fun i => (i.zero, i.size, i.bytes)) = some (some (.slice none 0 0), 1, 24) := by kernel_rfl

def mark (D : Nat) : Deferred := { target := .collected D, args := #[] }

/-- WHAT of HANDS BACK: limbs, of texts that are naturals; or an error. -/
def OfPost (w : World) (ss : List ByteArray) (e : Ending) (w' : World) : Prop :=
  Below w.heap.size w w' ∧
    (((∀ s ∈ ss, isRt s.data.toList = true) ∧ ∃ (ov : Value) (vs : List Value), e = .returned (.tuple #[ov, .int .i64 0]) ∧ w'.ownsRow w.heap.size 46 1 ov ss.length vs ∧
        ∀ (j : Nat) (s : ByteArray), ss[j]? = some s → ∃ v, vs[j]? = some v ∧ Lim w' v (lim (nv s.data.toList))) ∨
      ((∃ s ∈ ss, isRt s.data.toList = false) ∧ e = .returned (.tuple #[.slice none 0 0, .int .i64 10])))

theorem leaves_marks {P : Program} {fn : Func} {tmps : Array Value} {R : Ending → World → Prop} {v : Value} {n₀ : Nat} : ∀ (Ds : List Nat) (W : World), Ds.Nodup → (∀ D ∈ Ds, n₀ ≤ D ∧ W.heap[D]? = some (.deferred (some []))) →
    (∀ W', CellsKept W W' → Below n₀ W W' → (results fn tmps).run P W' = .ok v W' ∧ R (.returned v) W') → LeavesInM Fence.wide 9 P fn tmps R (Ds.map mark) .returning W
  | [], W, _, _, h => ⟨v, h W (fun _ _ _ _ h => h) (Below.refl _ _)⟩
  | D :: Ds, W, hn, hD, h => by
    have hd := hD D (by simp)
    have hk : CellsKept W (W.putObj D (.deferred none)) := CellsKept.putObj _ hd.2 rfl
    have hlt := (Array.getElem?_eq_some_iff.1 hd.2).1
    have hb : Below n₀ W (W.putObj D (.deferred none)) := (Below.refl n₀ W).grown (grownBy_putObj' W D _) (by omega) (fun k e => by cases e; exact hd.1)
    refine ⟨by simp, .inl ⟨D, _, rfl, run_takeDeferred hd.2, leaves_marks Ds _ (List.nodup_cons.1 hn).2 (fun E hE => ⟨(hD E (by simp [hE])).1, ?_⟩) fun W' h1 h2 => h W' (hk.trans h1) (hb.trans h2)⟩⟩
    have hne : E ≠ D := fun e => (List.nodup_cons.1 hn).1 (by rw [← e]; exact hE)
    exact (World.putObj_heap_other hne).trans (hD E (by simp [hE])).2

theorem World.ownsRow.cellsKept {A B : World} {base : Nat} {e : TypeId} {size : Nat} {v : Value} {n : Nat} {xs : List Value} (h : A.ownsRow base e size v n xs) (hk : CellsKept A B) : B.ownsRow base e size v n xs := by
  refine ⟨h.1, ?_⟩
  rcases h.2 with hn | ⟨g, cap, cur, rfl, hb, hg, rest⟩
  · exact .inl hn
  · exact .inr ⟨g, cap, cur, rfl, hb, hk _ _ _ _ hg, rest⟩

def OfInv (w1 : World) (pre : List ByteArray) (W : World) : Prop :=
  (∃ v, Boxed W w1.heap.size 46 v ∧ W.ownsRow w1.heap.size 37 1 v pre.length ((pre.map fun x => nv x.data.toList).map fun x => Value.int .u32 (x : Nat))) ∧
    (∃ u, Boxed W (w1.heap.size + 1) 9 u) ∧ Below w1.heap.size w1 W ∧ w1.heap.size + 2 ≤ W.heap.size

theorem ofInv_own (w1 : World) : OwnFrom (w1.heap.size + 2) (OfInv w1) :=
  ownFrom_of (fun s W W' ⟨⟨v, h1, h2⟩, ⟨u, h3⟩, h4, h5⟩ hk hb => ⟨⟨v, hk.boxed h1, World.ownsRow.cellsKept h2 hk⟩, ⟨u, hk.boxed h3⟩, h4.trans (hb.mono (by omega)), Nat.le_trans h5 hb.size⟩) (fun s W h => h.2.2.2)

theorem ofInv_it (w1 : World) : ∀ (s : List ByteArray) (A B : World), OfInv w1 s A → (∃ u, A.setCell ⟨w1.heap.size + 1, 0, none⟩ u = B) → OfInv w1 s B := by
  rintro s A B ⟨⟨v, h1, h2⟩, ⟨u, h3⟩, h4, h5⟩ ⟨u', rfl⟩
  refine ⟨⟨v, boxed_other h1 (by omega) _, ?_⟩, ⟨u', h3.set u'⟩, h4.setCell (by show _ ≤ w1.heap.size + 1; omega) _, Nat.le_trans h5 (KeepsOthers.setCell _ _ _).size⟩
  exact h2.kept (grownBy_setCell' A _ _) (.inr (h3.not_row (by decide) h2).symm)

set_option maxRecDepth 100000 in
set_option maxHeartbeats 4000000 in
theorem of_calls (b off cap : Nat) (ss : List ByteArray) (hmax : ss.length ≤ 1000) (hsz : ∀ s ∈ ss, s.size ≤ 140737488355328) (w : World) (hT : Tabs w) (hb : b < w.heap.size)
    (hc : ∀ j s, ss[j]? = some s → w.cell? ⟨b, off + j, none⟩ = some (.string s)) :
    Calls Tryz.prog 25 #[.slice (some ⟨b, off, none⟩) ss.length cap] w (OfPost w ss) := by
  obtain ⟨i0, hi, hz0, hz1, hz2⟩ := info_parts info_u32
  obtain ⟨j0, hj, hjz0, hjz1, hjz2⟩ := info_parts info_limbs
  refine calls_marks Tryz.func25 rfl ?_
  simp only [Tryz.ntmps25, List.size_toArray, List.length_cons, List.length_nil, Nat.reduceAdd, Nat.reduceSub, Array.replicate_succ, Array.replicate_zero, List.push_toArray, List.append_toArray, List.nil_append, List.cons_append]
  go_wp2
  refine wp_loop (fun a' wr => ∃ (k : Nat) (ov : Value) (vs : List Value) (Ds : List Nat) (u6 u7 u8 u9 u10 u14 u15 u16 u17 u18 u19 u20 u21 u22 u23 u24 u25 u26 u27 u28 u29 u30 u31 u32 u33 u34 u35 u36 u37 u38 : Value),
      a' = { tmps := #[.slice (some ⟨b, off, none⟩) ss.length cap, undef, .slice none 0 0, .int .i64 0, ov, undef, u6, u7, u8, u9, u10, .slice (some ⟨b, off, none⟩) ss.length cap, .int .i64 ss.length, .int .i64 k,
        u14, u15, u16, u17, u18, u19, u20, u21, u22, u23, u24, u25, u26, u27, u28, u29, u30, u31, u32, u33, u34, u35, u36, u37, u38, undef], defers := Ds.map mark } ∧
      k ≤ ss.length ∧ (∀ j s, j < k → ss[j]? = some s → isRt s.data.toList = true ∧ ∃ v, vs[j]? = some v ∧ Lim wr v (lim (nv s.data.toList))) ∧
      wr.ownsRow w.heap.size 46 1 ov k vs ∧ Below w.heap.size w wr ∧ (Ds.Nodup ∧ ∀ D ∈ Ds, w.heap.size ≤ D ∧ wr.heap[D]? = some (.deferred (some []))))
    (fun a' _ => ss.length - (intOf (a'.tmps.getD 13 undef)).toNat) ?start ?round
  case start =>
    exact ⟨0, .slice none 0 0, [], [], undef, undef, undef, undef, undef, undef, undef, undef, undef, undef, undef, undef, undef, undef, undef, undef, undef, undef, undef, undef, undef, undef, undef, undef, undef, undef, undef, undef, undef, undef, rfl, Nat.zero_le _, fun j s hj => by omega, World.ownsRow_nil _ _ _ _, Below.refl _ _, List.nodup_nil, fun D hD => by cases hD⟩
  case round =>
    rintro a' wr ⟨k, ov, vs, Ds, u6, u7, u8, u9, u10, u14, u15, u16, u17, u18, u19, u20, u21, u22, u23, u24, u25, u26, u27, u28, u29, u30, u31, u32, u33, u34, u35, u36, u37, u38, rfl, hk, hvs, hown, hB, hnd, hDs⟩
    by_cases hlt : k < ss.length
    · obtain ⟨s, hs⟩ : ∃ s, ss[k]? = some s := ⟨_, List.getElem?_eq_getElem hlt⟩
      have hcs := (hB.cell (p := ⟨b, off + k, none⟩) hb).trans (hc k s hs)
      have hss := hsz s (List.mem_of_getElem? hs)
      have hright := right_calls s wr hss
      cases hrt : isRt s.data.toList with
      | false =>
        rw [hrt] at hright
        have hright' := hright
        have HS := hid (And.intro hs hrt)
        have HD := hid (And.intro hnd hDs)
        clear hs hnd hDs hc hvs hsz hright hrt
        go_wp2_with fail
        refine hright'.mono ?_
        rintro e w1 ⟨rfl, hb1⟩
        go_wp2
        obtain ⟨hnd, hDs⟩ := HD.out
        have hB1 : Below w.heap.size w w1 := hB.trans (hb1.mono hB.size)
        refine leaves_marks (v := .tuple #[.slice none 0 0, .int .i64 10]) (n₀ := w.heap.size) Ds w1 hnd (fun D hD => ⟨(hDs D hD).1, (hb1.block D (Array.getElem?_eq_some_iff.1 (hDs D hD).2).1).trans (hDs D hD).2⟩) fun W' h1 h2 => ?_
        exact ⟨results_tmp2 (t := 2) (u := 3) rfl _ _ _, hB1.trans h2, .inr ⟨⟨s, List.mem_of_getElem? HS.out.1, HS.out.2⟩, rfl⟩⟩
      | true =>
        rw [hrt] at hright
        have hright' := hright
        have HS := hid (And.intro hs hrt)
        have HD := hid (And.intro hnd hDs)
        have HV := hid hvs
        clear hs hnd hDs hc hvs hsz hright hrt
        go_wp2_with fail
        refine hright'.mono ?_
        rintro e w1 ⟨rfl, hb1⟩
        go_wp2_with (go_at_call 45; refine (groups_calls _ _).mono ?_; rintro e w' ⟨rfl, rfl⟩)
        have hB1 : Below w.heap.size w w1 := hB.trans (hb1.mono hB.size)
        obtain ⟨W0, hW0, hsz0, hI0, hbS⟩ : ∃ W0, ((w1.alloc (.cells #[.slice none 0 0] 46)).alloc (.cells #[.string s] 9)) = W0 ∧ W0.heap.size = w1.heap.size + 2 ∧ OfInv w1 [] W0 ∧ Boxed W0 (w1.heap.size + 1) 9 (.string s) := by
          have b1 := Boxed.new w1 46 (.slice none 0 0)
          have b2 := Boxed.new (w1.alloc (.cells #[.slice none 0 0] 46)) 9 (.string s)
          simp only [World.size_alloc] at b2
          exact ⟨_, rfl, by simp, ⟨⟨_, b1.alloc _, World.ownsRow_nil _ _ _ _⟩, ⟨_, b2⟩, ((Below.refl _ w1).alloc (Nat.le_refl _) _).alloc (by simp) _, by simp⟩, b2⟩
        rw [hW0]
        clear hW0
        have hrt := (isRt_iff _).1 HS.out.2
        have hs4 : s.size ≤ 400 := by rw [← len_str]; exact hrt.2
        refine rangeOverP (gf := 63) (lb := #[.pointer (some ⟨w1.heap.size + 1, 0, none⟩)]) rfl (enters_of Tryz.func63 (by kernel_rfl) rfl)
          (groups_iter (w1.heap.size + 1) s (by omega) W0 hbS) (Below.refl _ _) (fun _ => rfl)
          (fun A B ⟨u, e⟩ => by subst e; exact ⟨(KeepsOthers.setCell _ _ _).size, fun k o _ hk ho => (KeepsOthers.setCell _ _ _).same k o hk ho⟩) (fun h k => h.trans k)
          (fun W l o o' hl h _ _ => KeptAt.putObj W l o' (by show ¬ l = _; omega))
          (ownFrom_pure _ _) (ownFrom_pure _ _)
          (OfInv w1) (fun _ _ _ => False) (by rw [hsz0]; exact ofInv_own w1) (fun _ _ _ _ _ hs _ _ => hs) (ofInv_it w1) (fun _ _ _ _ h _ => h) hI0
          (fun x a' _ => a' = { tmps := #[.slice (some ⟨b, off, none⟩) ss.length cap, undef, .slice none 0 0, .int .i64 0, ov, undef, .string s, .pointer (some ⟨w1.heap.size, 0, none⟩), .string x, u9, u10, .slice (some ⟨b, off, none⟩) ss.length cap, .int .i64 ss.length, .int .i64 k,
            .bool true, .pointer (some ⟨b, off + k, none⟩), .string s, .string s, .bool true, .bool false, .string s, .func (.func 63) #[] #[.pointer (some ⟨w1.heap.size + 1, 0, none⟩)], .string x, u23, u24, u25, u26, u27, u28, u29, u30, u31, u32, u33, u34, u35, u36, u37, u38, undef], defers := [] })
          (fun _ _ _ _ _ _ hs _ _ => hs) ?assign ?body ?done ?stop
        case assign =>
          intro l pre x W K hi hok hK
          unfold encG
          gi_wp2
          exact hK _ _ (KeepsFrom.refl _ _) (KeptAt.refl _ _) hi rfl
        case body =>
          rintro l pre x a' W hl ⟨⟨v, f1, f2⟩, ⟨u, f3⟩, f4, f5⟩ rfl ⟨rest, hch⟩
          have hmem : x.data.toList ∈ chunks s.data.toList := by rw [hch]; simp
          have hdg : ∀ c ∈ x.data.toList, isDg c = true := fun c hc => by
            have h1 := chunk_mem hmem c hc
            rw [hrt.1] at h1
            exact dec_isDg _ c h1
          have hxl := chunk_length hmem
          have hxn : x.data.toList ≠ [] := fun e => by rw [e] at hxl; simp at hxl
          have hy : nv x.data.toList < 1000000000 := by
            have h1 := nv_lt hdg
            have h2 : (10 : Nat) ^ x.data.toList.length ≤ 10 ^ 9 := Nat.pow_le_pow_right (by omega) hxl.2
            omega
          have hpl : pre.length ≤ 400 := by
            have h1 := congrArg List.length hch
            have h2 := chunks_len s.data.toList
            rw [len_str] at h2
            simp at h1
            omega
          have hparse := Tryz.strconv_ParseUint_10_at32_ok x (by rw [← len_str]; omega) (nv x.data.toList) (parse32 hxn hdg hy) W
          obtain ⟨y, hy'⟩ : ∃ y, nv x.data.toList = y := ⟨_, rfl⟩
          rw [hy'] at hparse hy
          have HY := hid hy'
          clear hy' hch hmem hdg hxl hxn
          gi_wp2_with fail
          refine callR hparse ?_
          rintro e w2 ⟨rfl, hw2⟩
          have hb2 : Below W.heap.size W w2 := by
            rcases hw2 with rfl | rfl
            · exact Below.refl _ _
            · exact Lib.bytesWorld_below W _ x
          clear hw2
          have hk2 := CellsKept.below hb2
          have g1 := hk2.boxed f1
          have g2 := World.ownsRow.cellsKept f2 hk2
          have g3 := hk2.boxed f3
          have g4 : Below w1.heap.size w1 w2 := f4.trans (hb2.mono f4.size)
          have hcv := g1.cell
          have hsz2 := hb2.size
          gi_wp2_with (gi_at_builtin; refine wpListIn_append_own _ rfl _ _ 46 rfl w1.heap.size 37 i0 (.int .u32 0) 1 4 Tryz.underlying46 hi hz0 hz1 hz2 rfl (by decide) _ _ _ rfl (g2.alloc _) ⟨w2.heap.size, 0, none⟩ 1 1 [.int .u32 (y : Nat)] rfl rfl (cell_one_new _ _ _) (by simp [Value.oneCell']) (by simp only [maxLen]; omega) (by omega) (by simp; omega) ?_)
          intro v' w3 hown' hgrow _
          obtain ⟨g', cap', rfl⟩ := ownsRow_succ hown'
          obtain ⟨hv1, hv2, hr2, hko2, hbb2⟩ := g1.appended (by decide) g2 g4.size (Nat.le_refl _) hown' hgrow
          have hc1 := hv1.cell
          have hf1 := hv1.frozen
          have hS3 : Boxed w3 (w1.heap.size + 1) 9 u := (g3.alloc _).kept hgrow (g3.not_row (by decide) g2)
          gi_wp2
          refine ⟨((keeps_below hb2).trans hko2).from _, fun k e => by subst e; exact (boxed_other hS3 (by omega) _).trans (Eq.symm f3), ⟨_, hv2, ?_⟩, ⟨u, boxed_other hS3 (by omega) _⟩, g4.trans hbb2, Nat.le_trans f5 (Nat.le_trans hb2.size hko2.size)⟩
          have := hr2
          rw [← HY.out] at this
          simpa using this
        case done =>
          rintro D ys W hD hys ⟨⟨v, f1, f2⟩, _, f4, f5⟩ hK
          obtain ⟨xs, hxs⟩ : ∃ xs, (ys.map fun x => nv x.data.toList) = xs := ⟨_, rfl⟩
          have hxl : xs.length = ys.length := by rw [← hxs]; simp
          have hxe : xs = (chunks s.data.toList).map nv := by rw [← hxs, ← show ys.map (·.data.toList) = chunks s.data.toList from hys, List.map_map]; rfl
          rw [hxs, ← hxl] at f2
          have hLv := Lim.of_owns f2
          have hdg : ∀ c ∈ s.data.toList, isDg c = true := fun c hc => by rw [hrt.1] at hc; exact dec_isDg _ c hc
          obtain ⟨t, ht1, ht2⟩ := trim_at v xs (by rw [hxe]; exact grp_chunks hdg) W hLv
          rw [hxe, val_chunks] at ht1
          have ht1' := ht1
          obtain ⟨ta, tc, rfl, _⟩ := ht1
          obtain ⟨tn, htn⟩ : ∃ tn, (lim (nv s.data.toList)).length = tn := ⟨_, rfl⟩
          rw [htn] at ht1' ht2
          have ht3 := ht2.mono (R' := fun e w' => e = _ ∧ W = w') (fun _ _ h => ⟨h.1, h.2.symm⟩)
          have hcv := f1.cell
          have hkW := (CellsKept.below hb1).trans (CellsKept.below f4)
          have howW := World.ownsRow.cellsKept hown hkW
          have hBW : Below w.heap.size w W := hB1.trans (f4.mono hB1.size)
          have hszW := hBW.size
          have HX := hid (And.intro hxs (And.intro hxe hys))
          clear hxs hxe hys hxl hdg
          go_wp2_with (first
            | (go_at_call 46; refine ht3.mono ?_; rintro e w' ⟨rfl, rfl⟩)
            | (at_builtin; refine wpList_append_own _ rfl _ _ 41 rfl w.heap.size 46 j0 (.slice none 0 0) 1 24 Tryz.underlying41 hj hjz0 hjz1 hjz2 rfl (by decide) _ _ _ rfl (howW.alloc _) ⟨_, 0, none⟩ 1 1 [.slice ta tn tc] rfl rfl (cell_one_new _ _ _) (by simp [Value.oneCell']) (by simp only [maxLen]; omega) (by omega) (by simp; omega) ?_))
          intro v' w2 hown' hgrow _
          have hB2 : Below w.heap.size w w2 := (hBW.alloc hszW _).grown hgrow (by simp; omega) (fun j e => (howW.lt j e).1)
          have hlim : ∀ v xs, Lim W v xs → Lim w2 v xs := fun v xs h => (h.below (below_alloc W _)).grown hgrow (howW.alloc _) (by decide)
          have hDs2 : Hid ((D :: Ds).Nodup ∧ ∀ E ∈ D :: Ds, w.heap.size ≤ E ∧ w2.heap[E]? = some (.deferred (some []))) := by
            obtain ⟨hnd, hDs⟩ := HD.out
            have hsz1 := hb1.size
            have hszw := hB.size
            have hgr : ∀ E, W.heap[E]? = some (Obj.deferred (some [])) → w2.heap[E]? = some (Obj.deferred (some [])) := fun E hE => by
              refine (hgrow.block E (by have := (Array.getElem?_eq_some_iff.1 hE).1; simp; omega) ?_).trans ((Below.heap_alloc _ _ _ (Array.getElem?_eq_some_iff.1 hE).1).trans hE)
              intro e2
              rcases howW.2 with ⟨rfl, _⟩ | ⟨g, cap, cur, rfl, _, hgg, _⟩
              · simp [Value.ownBlock] at e2
              · obtain rfl : E = g := by simpa [Value.ownBlock] using e2
                rw [hgg] at hE
                cases hE
            refine ⟨List.nodup_cons.2 ⟨fun h => ?_, hnd⟩, fun E hE => ?_⟩
            · have := (Array.getElem?_eq_some_iff.1 (hDs D h).2).1
              omega
            · rcases List.mem_cons.1 hE with rfl | hE
              · exact ⟨by omega, hgr _ hK⟩
              · have h1 := hDs E hE
                have h2 := (Array.getElem?_eq_some_iff.1 h1.2).1
                exact ⟨h1.1, hgr E ((f4.block E (by omega)).trans ((hb1.block E h2).trans h1.2))⟩
          have hvs2 : Hid (∀ (j : Nat) (s' : ByteArray), j < k + 1 → ss[j]? = some s' → isRt s'.data.toList = true ∧ ∃ v, (vs ++ [Value.slice ta tn tc])[j]? = some v ∧ Lim w2 v (lim (nv s'.data.toList))) := by
            intro j s' hj hs'
            have hvl : vs.length = k := by have := howW.1; omega
            by_cases hjk : j < k
            · obtain ⟨h1, v, h2, h3⟩ := HV.out j s' hjk hs'
              exact ⟨h1, v, by rw [List.getElem?_append_left (by omega)]; exact h2, hlim _ _ (h3.kept hkW (Nat.le_trans hb1.size f4.size))⟩
            · obtain rfl : j = k := by omega
              obtain rfl : s' = s := by have := HS.out.1; rw [hs'] at this; exact Option.some.inj this
              exact ⟨HS.out.2, _, by rw [List.getElem?_append_right (by omega), hvl, Nat.sub_self]; rfl, hlim _ _ ht1'⟩
          have hown2 := hid hown'
          clear hown' hgrow howW hlim HV HD hkW hown
          go_wp2
          rw [show ((k : Int) + 1) = ((k + 1 : Nat) : Int) from by omega]
          refine ⟨⟨k + 1, v', vs ++ [Value.slice ta tn tc], D :: Ds, _, _, _, _, _, _, _, _, _, _, _, _, _, _, _, _, _, _, _, _, _, _, _, _, _, _, _, _, _, _, rfl, hlt, hvs2.out, hown2.out, hB2, hDs2.out⟩, ?_⟩
          simp [intOf]
          omega
        case stop =>
          rintro D c pre W _ _ h _
          exact h.elim
    · obtain rfl : k = ss.length := by omega
      have HD := hid (And.intro hnd hDs)
      have HV := hid hvs
      have HO := hid hown
      clear hnd hDs hc hvs hsz hlt hown
      go_wp2
      obtain ⟨hnd, hDs⟩ := HD.out
      refine leaves_marks (v := .tuple #[ov, .int .i64 0]) (n₀ := w.heap.size) Ds wr hnd hDs fun W' h1 h2 => ?_
      refine ⟨results_tmp2 (t := 2) (u := 3) rfl _ _ _, hB.trans h2, .inl ⟨fun s hs => ?_, ov, vs, rfl, World.ownsRow.cellsKept HO.out h1, fun j s hs => ?_⟩⟩
      · obtain ⟨j, hj⟩ := List.getElem?_of_mem hs
        exact (HV.out j s (by have := (List.getElem?_eq_some_iff.1 hj).1; omega) hj).1
      · obtain ⟨_, v, e1, e2⟩ := HV.out j s (by have := (List.getElem?_eq_some_iff.1 hs).1; omega) hs
        exact ⟨v, e1, e2.kept h1 h2.size⟩
end Go.Proofs.YtdppcpiepippoaaGreatDoor
