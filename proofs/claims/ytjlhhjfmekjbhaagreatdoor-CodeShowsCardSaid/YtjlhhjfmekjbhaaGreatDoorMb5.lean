/- Lemmas for the claims of this seat (own texts, packed; what the claims do not use is left out). No condition. -/
import Derived.Laws.Cover1
import Derived.Test.YtjlhhjfmekjbhaaGreatDoorMb0
import Derived.Test.YtjlhhjfmekjbhaaGreatDoorMb1
import Derived.Test.YtjlhhjfmekjbhaaGreatDoorMb4
/- gumshoeref06.Two: what it answers. No condition. -/
namespace Go.Proofs.YtjlhhjfmekjbhaaGreatDoor.Va
open Go.RowKit Go.Proofs.YtjlhhjfmekjbhaaGreatDoorW.PrintWords Go.Proofs.YtjlhhjfmekjbhaaGreatDoorW.PrintLast Go.Proofs.YtjlhhjfmekjbhaaGreatDoorW.PrintMore Go.Proofs.YtjlhhjfmekjbhaaGreatDoor.Pr Go.Proofs.YtjlhhjfmekjbhaaGreatDoor.Ev
set_option linter.unusedVariables false
set_option linter.unusedSimpArgs false
structure TwoS (w W' : World) (a b : VR) : Prop where
  ba : W'.heap[w.heap.size]? = some (.cells #[.int .i64 a.1, .int .i64 a.2.1, .string a.2.2] 83 (0, 0))
  bb : W'.heap[w.heap.size + 1]? = some (.cells #[.int .i64 b.1, .int .i64 b.2.1, .string b.2.2] 83 (0, 0))
  bk : W'.heap[w.heap.size + 1 + 1]? = some (.cells #[.int .i64 0, .int .i64 0, .string ⟨#[]⟩] 83 (0, 0))
  bel : Below w.heap.size w W'
theorem TwoS.step {w W W' : World} {a b : VR} (h : TwoS w W a b) (hb : Below W.heap.size W W') : TwoS w W' a b :=
  ⟨blk_below h.ba hb, blk_below h.bb hb, blk_below h.bk hb, below_step h.bel hb⟩
theorem TwoS.drew {w W : World} {a b : VR} (h : TwoS w W a b) : TwoS w W.drew a b := ⟨h.ba, h.bb, h.bk, below_drew1 h.bel⟩
theorem TwoS.boxes (w : World) (a b : VR) : TwoS w (((w.alloc (.cells #[.int .i64 a.1, .int .i64 a.2.1, .string a.2.2] 83)).alloc (.cells #[.int .i64 b.1, .int .i64 b.2.1, .string b.2.2] 83)).alloc (.cells #[.int .i64 0, .int .i64 0, .string ⟨#[]⟩] 83)) a b :=
  ⟨(three_boxes w _ _ _).1, (three_boxes w _ _ _).2.1, (three_boxes w _ _ _).2.2.1, (three_boxes w _ _ _).2.2.2⟩
theorem TwoS.res {w W' : World} {a b : VR} (h : TwoS w W' a b) : (W'.cell? ⟨w.heap.size + 1 + 1, 0, none⟩ = some (.int .i64 0) ∧ W'.cell? ⟨w.heap.size + 1 + 1, 1, none⟩ = some (.int .i64 0) ∧ W'.cell? ⟨w.heap.size + 1 + 1, 2, none⟩ = some (.string ⟨#[]⟩)) ∧
    (W'.frozen? ⟨w.heap.size + 1 + 1, 0, none⟩ = false ∧ W'.frozen? ⟨w.heap.size + 1 + 1, 1, none⟩ = false ∧ W'.frozen? ⟨w.heap.size + 1 + 1, 2, none⟩ = false) :=
  ⟨⟨(blk_cell h.bk 0).trans rfl, (blk_cell h.bk 1).trans rfl, (blk_cell h.bk 2).trans rfl⟩, blk_frozen h.bk 0, blk_frozen h.bk 1, blk_frozen h.bk 2⟩
def TwoPost (w : World) (r : VR × Int) (e : Ending) (w' : World) : Prop := e = .returned (.tuple #[agg r.1, .int .i64 r.2]) ∧ Below w.heap.size w w'
set_option maxHeartbeats 4000000 in
set_option maxRecDepth 100000 in
theorem rtwo_lss (s : ByteArray) (a b : VR) (ha : Fits a) (hb : Fits b) (hs : s.toList = [60]) (w : World) :
    Calls Tryz.prog 90 #[.string s, agg a, agg b] w (TwoPost w (boolS (decide (cmpS a b < 0)), 0)) := by
  have HR := Aside0.mk (fun W => rless_run a b ha hb W)
  have HBO := Aside0.mk (fun x W => rbool_run x W)
  have HX := Aside0.mk (TwoS.boxes w a b)
  obtain ⟨a0, a1, a2⟩ := a
  obtain ⟨b0, b1, b2⟩ := b
  clear ha hb
  generalize hc : cmpS (a0, a1, a2) (b0, b1, b2) = c at *
  clear hc
  unfold agg at *
  simp only at HR HX
  have e0 : (s.toList == [43]) = false := by rw [hs]; decide
  have e1 : (s.toList == [45]) = false := by rw [hs]; decide
  have e2 : (s.toList == [42]) = false := by rw [hs]; decide
  have e3 : (s.toList == [60]) = true := by rw [hs]; decide
  clear hs
  go_enter Tryz.func90, Tryz.ntmps90
  go_wp2_with (first | (go_at_call 112; refine (HR.out _).mono ?_; rintro e w1 ⟨rfl, hb⟩; have HX1 := Aside0.mk (HX.out.step hb); clear hb) | (go_at_call 111; refine (HBO.out _ _).mono ?_; rintro e w2 ⟨rfl, hb⟩; have HX2 := Aside0.mk (HX1.out.step hb); obtain ⟨⟨hc0, hc1, hc2⟩, hf0, hf1, hf2⟩ := HX2.out.res; clear hb))
  refine bodyPost_ret (results_ct rfl _ _ (w.heap.size + 1 + 1) 83 #[_, _, _] (0, 0) _ rfl (blk_set (blk_set (blk_set HX2.out.bk 0 _) 1 _) 2 _) Tryz.underlying83 rfl (by kernel_rfl)) rfl ⟨rfl, below_set (below_set (below_set HX2.out.bel (by omega)) (by omega)) (by omega)⟩
set_option maxHeartbeats 4000000 in
set_option maxRecDepth 100000 in
theorem rtwo_leq (s : ByteArray) (a b : VR) (ha : Fits a) (hb : Fits b) (hs : s.toList = [60, 61]) (w : World) :
    Calls Tryz.prog 90 #[.string s, agg a, agg b] w (TwoPost w (boolS (decide (cmpS a b ≤ 0)), 0)) := by
  have HR := Aside0.mk (fun W => rless_run a b ha hb W)
  have HBO := Aside0.mk (fun x W => rbool_run x W)
  have HX := Aside0.mk (TwoS.boxes w a b)
  obtain ⟨a0, a1, a2⟩ := a
  obtain ⟨b0, b1, b2⟩ := b
  clear ha hb
  generalize hc : cmpS (a0, a1, a2) (b0, b1, b2) = c at *
  clear hc
  unfold agg at *
  simp only at HR HX
  have e0 : (s.toList == [43]) = false := by rw [hs]; decide
  have e1 : (s.toList == [45]) = false := by rw [hs]; decide
  have e2 : (s.toList == [42]) = false := by rw [hs]; decide
  have e3 : (s.toList == [60]) = false := by rw [hs]; decide
  have e4 : (s.toList == [60, 61]) = true := by rw [hs]; decide
  clear hs
  go_enter Tryz.func90, Tryz.ntmps90
  go_wp2_with (first | (go_at_call 112; refine (HR.out _).mono ?_; rintro e w1 ⟨rfl, hb⟩; have HX1 := Aside0.mk (HX.out.step hb); clear hb) | (go_at_call 111; refine (HBO.out _ _).mono ?_; rintro e w2 ⟨rfl, hb⟩; have HX2 := Aside0.mk (HX1.out.step hb); obtain ⟨⟨hc0, hc1, hc2⟩, hf0, hf1, hf2⟩ := HX2.out.res; clear hb))
  refine bodyPost_ret (results_ct rfl _ _ (w.heap.size + 1 + 1) 83 #[_, _, _] (0, 0) _ rfl (blk_set (blk_set (blk_set HX2.out.bk 0 _) 1 _) 2 _) Tryz.underlying83 rfl (by kernel_rfl)) rfl ⟨rfl, below_set (below_set (below_set HX2.out.bel (by omega)) (by omega)) (by omega)⟩
set_option maxHeartbeats 4000000 in
set_option maxRecDepth 100000 in
theorem rtwo_eql (s : ByteArray) (a b : VR) (ha : Fits a) (hb : Fits b) (hs : s.toList = [61, 61, 61]) (w : World) :
    Calls Tryz.prog 90 #[.string s, agg a, agg b] w (TwoPost w (boolS (eqS a b), 0)) := by
  have HBO := Aside0.mk (fun x W => rbool_run x W)
  have HX := Aside0.mk (TwoS.boxes w a b)
  have hu23 := Tryz.underlying83
  obtain ⟨a0, a1, a2⟩ := a
  obtain ⟨b0, b1, b2⟩ := b
  clear ha hb
  unfold agg eqS at *
  simp only at HX ⊢
  have e0 : (s.toList == [43]) = false := by rw [hs]; decide
  have e1 : (s.toList == [45]) = false := by rw [hs]; decide
  have e2 : (s.toList == [42]) = false := by rw [hs]; decide
  have e3 : (s.toList == [60]) = false := by rw [hs]; decide
  have e4 : (s.toList == [60, 61]) = false := by rw [hs]; decide
  have e5 : (s.toList == [61, 61, 61]) = true := by rw [hs]; decide
  clear hs
  by_cases h0 : a0 = b0
  case neg =>
    have f0 : (a0 == b0) = false := beq_eq_false_iff_ne.mpr h0
    have ev : ((a0 == b0) && ((a1 == b1) && (a2.toList == b2.toList))) = false := by simp [*]
    rw [ev]
    clear ev
    go_enter Tryz.func90, Tryz.ntmps90
    go_wp2_with (first | (go_at_call 111; refine (HBO.out _ _).mono ?_; rintro e w2 ⟨rfl, hb⟩; have HX2 := Aside0.mk (HX.out.step hb); obtain ⟨⟨hc0, hc1, hc2⟩, hf0, hf1, hf2⟩ := HX2.out.res; clear hb))
    refine bodyPost_ret (results_ct rfl _ _ (w.heap.size + 1 + 1) 83 #[_, _, _] (0, 0) _ rfl (blk_set (blk_set (blk_set HX2.out.bk 0 _) 1 _) 2 _) Tryz.underlying83 rfl (by kernel_rfl)) rfl ⟨rfl, below_set (below_set (below_set HX2.out.bel (by omega)) (by omega)) (by omega)⟩
  subst h0
  by_cases h1 : a1 = b1
  case neg =>
    have f1 : (a1 == b1) = false := beq_eq_false_iff_ne.mpr h1
    have ev : ((a0 == a0) && ((a1 == b1) && (a2.toList == b2.toList))) = false := by simp [*]
    rw [ev]
    clear ev
    go_enter Tryz.func90, Tryz.ntmps90
    go_wp2_with (first | (go_at_call 111; refine (HBO.out _ _).mono ?_; rintro e w2 ⟨rfl, hb⟩; have HX2 := Aside0.mk (HX.out.step hb); obtain ⟨⟨hc0, hc1, hc2⟩, hf0, hf1, hf2⟩ := HX2.out.res; clear hb))
    refine bodyPost_ret (results_ct rfl _ _ (w.heap.size + 1 + 1) 83 #[_, _, _] (0, 0) _ rfl (blk_set (blk_set (blk_set HX2.out.bk 0 _) 1 _) 2 _) Tryz.underlying83 rfl (by kernel_rfl)) rfl ⟨rfl, below_set (below_set (below_set HX2.out.bel (by omega)) (by omega)) (by omega)⟩
  subst h1
  by_cases h2 : a2.toList = b2.toList
  case neg =>
    have f2 : (a2.toList == b2.toList) = false := beq_eq_false_iff_ne.mpr h2
    have ev : ((a0 == a0) && ((a1 == a1) && (a2.toList == b2.toList))) = false := by simp [*]
    rw [ev]
    clear ev
    go_enter Tryz.func90, Tryz.ntmps90
    go_wp2_with (first | (go_at_call 111; refine (HBO.out _ _).mono ?_; rintro e w2 ⟨rfl, hb⟩; have HX2 := Aside0.mk (HX.out.step hb); obtain ⟨⟨hc0, hc1, hc2⟩, hf0, hf1, hf2⟩ := HX2.out.res; clear hb))
    refine bodyPost_ret (results_ct rfl _ _ (w.heap.size + 1 + 1) 83 #[_, _, _] (0, 0) _ rfl (blk_set (blk_set (blk_set HX2.out.bk 0 _) 1 _) 2 _) Tryz.underlying83 rfl (by kernel_rfl)) rfl ⟨rfl, below_set (below_set (below_set HX2.out.bel (by omega)) (by omega)) (by omega)⟩
  obtain rfl : a2 = b2 := by
    rw [ByteArray.toList_eq, ByteArray.toList_eq] at h2
    cases a2; cases b2; simpa using h2
  have ev : ((a0 == a0) && ((a1 == a1) && (a2.toList == a2.toList))) = true := by simp [*]
  rw [ev]
  clear ev
  go_enter Tryz.func90, Tryz.ntmps90
  go_wp2_with (first | (go_at_call 111; refine (HBO.out _ _).mono ?_; rintro e w2 ⟨rfl, hb⟩; have HX2 := Aside0.mk (HX.out.step hb); obtain ⟨⟨hc0, hc1, hc2⟩, hf0, hf1, hf2⟩ := HX2.out.res; clear hb))
  refine bodyPost_ret (results_ct rfl _ _ (w.heap.size + 1 + 1) 83 #[_, _, _] (0, 0) _ rfl (blk_set (blk_set (blk_set HX2.out.bk 0 _) 1 _) 2 _) Tryz.underlying83 rfl (by kernel_rfl)) rfl ⟨rfl, below_set (below_set (below_set HX2.out.bel (by omega)) (by omega)) (by omega)⟩
set_option maxHeartbeats 4000000 in
set_option maxRecDepth 100000 in
theorem rtwo_neq (s : ByteArray) (a b : VR) (ha : Fits a) (hb : Fits b) (hs : s.toList = [33, 61, 61]) (w : World) :
    Calls Tryz.prog 90 #[.string s, agg a, agg b] w (TwoPost w (boolS (!eqS a b), 0)) := by
  have HBO := Aside0.mk (fun x W => rbool_run x W)
  have HX := Aside0.mk (TwoS.boxes w a b)
  have hu23 := Tryz.underlying83
  obtain ⟨a0, a1, a2⟩ := a
  obtain ⟨b0, b1, b2⟩ := b
  clear ha hb
  unfold agg eqS at *
  simp only at HX ⊢
  have e0 : (s.toList == [43]) = false := by rw [hs]; decide
  have e1 : (s.toList == [45]) = false := by rw [hs]; decide
  have e2 : (s.toList == [42]) = false := by rw [hs]; decide
  have e3 : (s.toList == [60]) = false := by rw [hs]; decide
  have e4 : (s.toList == [60, 61]) = false := by rw [hs]; decide
  have e5 : (s.toList == [61, 61, 61]) = false := by rw [hs]; decide
  have e6 : (s.toList == [33, 61, 61]) = true := by rw [hs]; decide
  clear hs
  by_cases h0 : a0 = b0
  case neg =>
    have f0 : (a0 == b0) = false := beq_eq_false_iff_ne.mpr h0
    have ev : ((a0 == b0) && ((a1 == b1) && (a2.toList == b2.toList))) = false := by simp [*]
    rw [ev]
    clear ev
    go_enter Tryz.func90, Tryz.ntmps90
    go_wp2_with (first | (go_at_call 111; refine (HBO.out _ _).mono ?_; rintro e w2 ⟨rfl, hb⟩; have HX2 := Aside0.mk (HX.out.step hb); obtain ⟨⟨hc0, hc1, hc2⟩, hf0, hf1, hf2⟩ := HX2.out.res; clear hb))
    refine bodyPost_ret (results_ct rfl _ _ (w.heap.size + 1 + 1) 83 #[_, _, _] (0, 0) _ rfl (blk_set (blk_set (blk_set HX2.out.bk 0 _) 1 _) 2 _) Tryz.underlying83 rfl (by kernel_rfl)) rfl ⟨rfl, below_set (below_set (below_set HX2.out.bel (by omega)) (by omega)) (by omega)⟩
  subst h0
  by_cases h1 : a1 = b1
  case neg =>
    have f1 : (a1 == b1) = false := beq_eq_false_iff_ne.mpr h1
    have ev : ((a0 == a0) && ((a1 == b1) && (a2.toList == b2.toList))) = false := by simp [*]
    rw [ev]
    clear ev
    go_enter Tryz.func90, Tryz.ntmps90
    go_wp2_with (first | (go_at_call 111; refine (HBO.out _ _).mono ?_; rintro e w2 ⟨rfl, hb⟩; have HX2 := Aside0.mk (HX.out.step hb); obtain ⟨⟨hc0, hc1, hc2⟩, hf0, hf1, hf2⟩ := HX2.out.res; clear hb))
    refine bodyPost_ret (results_ct rfl _ _ (w.heap.size + 1 + 1) 83 #[_, _, _] (0, 0) _ rfl (blk_set (blk_set (blk_set HX2.out.bk 0 _) 1 _) 2 _) Tryz.underlying83 rfl (by kernel_rfl)) rfl ⟨rfl, below_set (below_set (below_set HX2.out.bel (by omega)) (by omega)) (by omega)⟩
  subst h1
  by_cases h2 : a2.toList = b2.toList
  case neg =>
    have f2 : (a2.toList == b2.toList) = false := beq_eq_false_iff_ne.mpr h2
    have ev : ((a0 == a0) && ((a1 == a1) && (a2.toList == b2.toList))) = false := by simp [*]
    rw [ev]
    clear ev
    go_enter Tryz.func90, Tryz.ntmps90
    go_wp2_with (first | (go_at_call 111; refine (HBO.out _ _).mono ?_; rintro e w2 ⟨rfl, hb⟩; have HX2 := Aside0.mk (HX.out.step hb); obtain ⟨⟨hc0, hc1, hc2⟩, hf0, hf1, hf2⟩ := HX2.out.res; clear hb))
    refine bodyPost_ret (results_ct rfl _ _ (w.heap.size + 1 + 1) 83 #[_, _, _] (0, 0) _ rfl (blk_set (blk_set (blk_set HX2.out.bk 0 _) 1 _) 2 _) Tryz.underlying83 rfl (by kernel_rfl)) rfl ⟨rfl, below_set (below_set (below_set HX2.out.bel (by omega)) (by omega)) (by omega)⟩
  obtain rfl : a2 = b2 := by
    rw [ByteArray.toList_eq, ByteArray.toList_eq] at h2
    cases a2; cases b2; simpa using h2
  have ev : ((a0 == a0) && ((a1 == a1) && (a2.toList == a2.toList))) = true := by simp [*]
  rw [ev]
  clear ev
  go_enter Tryz.func90, Tryz.ntmps90
  go_wp2_with (first | (go_at_call 111; refine (HBO.out _ _).mono ?_; rintro e w2 ⟨rfl, hb⟩; have HX2 := Aside0.mk (HX.out.step hb); obtain ⟨⟨hc0, hc1, hc2⟩, hf0, hf1, hf2⟩ := HX2.out.res; clear hb))
  refine bodyPost_ret (results_ct rfl _ _ (w.heap.size + 1 + 1) 83 #[_, _, _] (0, 0) _ rfl (blk_set (blk_set (blk_set HX2.out.bk 0 _) 1 _) 2 _) Tryz.underlying83 rfl (by kernel_rfl)) rfl ⟨rfl, below_set (below_set (below_set HX2.out.bel (by omega)) (by omega)) (by omega)⟩
set_option maxHeartbeats 4000000 in
set_option maxRecDepth 100000 in
theorem rtwo_none (s : ByteArray) (a b : VR) (hs : sign s.data.toList = none) (w : World) :
    Calls Tryz.prog 90 #[.string s, agg a, agg b] w (TwoPost w ((0, 0, ⟨#[]⟩), 60)) := by
  have HX := Aside0.mk (TwoS.boxes w a b)
  obtain ⟨⟨hc0, hc1, hc2⟩, hf0, hf1, hf2⟩ := HX.out.res
  obtain ⟨a0, a1, a2⟩ := a
  obtain ⟨b0, b1, b2⟩ := b
  unfold agg at *
  simp only at HX ⊢
  have e0 : (s.toList == [43]) = false := beq_eq_false_iff_ne.mpr (fun e => by rw [ByteArray.toList_eq] at e; rw [e] at hs; revert hs; decide)
  have e1 : (s.toList == [45]) = false := beq_eq_false_iff_ne.mpr (fun e => by rw [ByteArray.toList_eq] at e; rw [e] at hs; revert hs; decide)
  have e2 : (s.toList == [42]) = false := beq_eq_false_iff_ne.mpr (fun e => by rw [ByteArray.toList_eq] at e; rw [e] at hs; revert hs; decide)
  have e3 : (s.toList == [60]) = false := beq_eq_false_iff_ne.mpr (fun e => by rw [ByteArray.toList_eq] at e; rw [e] at hs; revert hs; decide)
  have e4 : (s.toList == [60, 61]) = false := beq_eq_false_iff_ne.mpr (fun e => by rw [ByteArray.toList_eq] at e; rw [e] at hs; revert hs; decide)
  have e5 : (s.toList == [61, 61, 61]) = false := beq_eq_false_iff_ne.mpr (fun e => by rw [ByteArray.toList_eq] at e; rw [e] at hs; revert hs; decide)
  have e6 : (s.toList == [33, 61, 61]) = false := beq_eq_false_iff_ne.mpr (fun e => by rw [ByteArray.toList_eq] at e; rw [e] at hs; revert hs; decide)
  clear hs
  go_enter Tryz.func90, Tryz.ntmps90
  go_wp2
  refine bodyPost_ret (results_ct rfl _ _ (w.heap.size + 1 + 1) 83 #[_, _, _] (0, 0) _ rfl HX.out.bk Tryz.underlying83 rfl (by kernel_rfl)) rfl ⟨rfl, HX.out.bel⟩
theorem TwoS.six {w W' : World} {a0 a1 b0 b1 : Int} {a2 b2 : ByteArray} (h : TwoS w W' (a0, a1, a2) (b0, b1, b2)) : W'.cell? ⟨w.heap.size, 0, none⟩ = some (.int .i64 a0) ∧ W'.cell? ⟨w.heap.size, 1, none⟩ = some (.int .i64 a1) ∧ W'.cell? ⟨w.heap.size, 2, none⟩ = some (.string a2) ∧ W'.cell? ⟨w.heap.size + 1, 0, none⟩ = some (.int .i64 b0) ∧ W'.cell? ⟨w.heap.size + 1, 1, none⟩ = some (.int .i64 b1) ∧ W'.cell? ⟨w.heap.size + 1, 2, none⟩ = some (.string b2) :=
  ⟨(blk_cell h.ba 0).trans rfl, (blk_cell h.ba 1).trans rfl, (blk_cell h.ba 2).trans rfl, (blk_cell h.bb 0).trans rfl, (blk_cell h.bb 1).trans rfl, (blk_cell h.bb 2).trans rfl⟩
def rT8 : Bool × List (List Nat × List Nat) := (true, [([], []), ([0], [0]), ([], []), ([2, 1], [2]), ([1, 3], [1, 3]), ([4], [4]), ([5, 3, 0, 1, 2, 3, 4, 5], [5]), ([6, 0, 1, 2, 3, 4, 5, 6], [])])
def rB8 : List Nat := [0, 1, 0, 7, 15, 31, 63, 127]
theorem rtab8 : rtab .any (opsOf Tryz.f90 8) = rT8 := by kernel_rfl
theorem rbits8 : waitsOk rT8.2 rB8 = true := by kernel_rfl
def rT10 : Bool × List (List Nat × List Nat) := (true, [([], []), ([0], [0]), ([], []), ([2, 1], [2]), ([1, 3], [1, 3]), ([4], [4]), ([5, 3, 0, 1, 2, 3, 4, 5], [5]), ([6, 0, 1, 2, 3, 4, 5, 6], [])])
def rB10 : List Nat := [0, 1, 0, 7, 15, 31, 63, 127]
theorem rtab10 : rtab .any (opsOf Tryz.f90 10) = rT10 := by kernel_rfl
theorem rbits10 : waitsOk rT10.2 rB10 = true := by kernel_rfl
def rT12 : Bool × List (List Nat × List Nat) := (true, [([], []), ([0], [0]), ([], []), ([2, 1], [2]), ([1, 3], [1, 3]), ([4], [4]), ([5, 3, 0, 1, 2, 3, 4, 5], [5]), ([6, 0, 1, 2, 3, 4, 5, 6], [])])
def rB12 : List Nat := [0, 1, 0, 7, 15, 31, 63, 127]
theorem rtab12 : rtab .any (opsOf Tryz.f90 12) = rT12 := by kernel_rfl
theorem rbits12 : waitsOk rT12.2 rB12 = true := by kernel_rfl
set_option maxHeartbeats 4000000 in
set_option maxRecDepth 100000 in
theorem rtwo_sub (s : ByteArray) (a b : VR) (ha : Fits a) (hb : Fits b) (hs : s.toList = [45]) (w : World) :
    Calls Tryz.prog 90 #[.string s, agg a, agg b] w (TwoPost w ((3, wrap64 (numS a.1 a.2.1 a.2.2 - numS b.1 b.2.1 b.2.2), ⟨#[]⟩), 0)) := by
  have HNA := Aside0.mk (fun W => rnum_run a ha W)
  have HNB := Aside0.mk (fun W => rnum_run b hb W)
  have HX := Aside0.mk (TwoS.boxes w a b)
  obtain ⟨a0, a1, a2⟩ := a
  obtain ⟨b0, b1, b2⟩ := b
  clear ha hb
  generalize hx : numS (a0, a1, a2).1 (a0, a1, a2).2.1 (a0, a1, a2).2.2 = x at *
  generalize hy : numS (b0, b1, b2).1 (b0, b1, b2).2.1 (b0, b1, b2).2.2 = y at *
  clear hx hy
  unfold agg at *
  simp only at HNA HNB HX ⊢
  have e0 : (s.toList == [43]) = false := by rw [hs]; decide
  have e1 : (s.toList == [45]) = true := by rw [hs]; decide
  clear hs
  go_enter Tryz.func90, Tryz.ntmps90
  go_wp2
  have hS := Aside0.mk HX.out.drew
  refine start_ (n := 8) (S := fun W' => W'.cell? ⟨w.heap.size, 0, none⟩ = some (.int .i64 a0) ∧ W'.cell? ⟨w.heap.size, 1, none⟩ = some (.int .i64 a1) ∧ W'.cell? ⟨w.heap.size, 2, none⟩ = some (.string a2) ∧ W'.cell? ⟨w.heap.size + 1, 0, none⟩ = some (.int .i64 b0) ∧ W'.cell? ⟨w.heap.size + 1, 1, none⟩ = some (.int .i64 b1) ∧ W'.cell? ⟨w.heap.size + 1, 2, none⟩ = some (.string b2)) (ds := [6]) #[false, false, false, false, false, false, false, false] (by kernel_rfl) rfl rfl hS.out.six (fun hHeld => ?_)
  refine with_tabW rtab10 rbits10 (fun HT_ HW_ => ?_)
  generalize ((((w.alloc (.cells #[.int .i64 a0, .int .i64 a1, .string a2] 83)).alloc (.cells #[.int .i64 b0, .int .i64 b1, .string b2] 83)).alloc (.cells #[.int .i64 0, .int .i64 0, .string ⟨#[]⟩] 83))).drew = w0 at hS hHeld ⊢
  clear HX
  refine take_ (i := 0) (N := some 39) (v := ?_) (a' := ?_) #[true, false, false, false, false, false, false, false] rfl rfl (take_ofW HT_.out HW_.out (by kernel_rfl)) (fun _ _ _ h => h) (Or.inl ⟨by rfl, ?_⟩) hHeld ?_ ?_
  rotate_left
  · rintro w' ⟨s0, s1, s2, s3, s4, s5⟩
    go_simp
    with_reducible rfl
  rotate_left
  · simp only [Act.put, List.setIfInBounds_toArray, List.set_cons_zero, List.set_cons_succ, i64_w, i32_w]
    rfl
  refine take_ (i := 2) (N := some 41) (v := ?_) (a' := ?_) #[true, false, true, false, false, false, false, false] rfl rfl (take_ofW HT_.out HW_.out (by kernel_rfl)) (fun _ _ _ h => h) (Or.inl ⟨by rfl, ?_⟩) hHeld ?_ ?_
  rotate_left
  · rintro w' ⟨s0, s1, s2, s3, s4, s5⟩
    go_simp
    with_reducible rfl
  rotate_left
  · simp only [Act.put, List.setIfInBounds_toArray, List.set_cons_zero, List.set_cons_succ, i64_w, i32_w]
    rfl
  refine one_ (i := 1) (N := some 40) #[true, true, true, false, false, false, false, false] rfl rfl (one_of HT_.out (by kernel_rfl)) (by decide) (fun K hK => ?_)
  refine goes_ Tryz.func110 (by kernel_rfl) rfl #[.agg #[.int .i64 a0, .int .i64 a1, .string a2]] (by rfl) rfl rfl (by (try simp only [List.map_toArray, List.map_cons, List.map_nil]); first | done | rfl) ?_
  refine (HNA.out _).mono ?_
  rintro e w1 ⟨rfl, hb⟩
  refine ⟨_, rfl, ?_⟩
  have hS1 := Aside0.mk (hS.out.step hb)
  clear hb hS
  refine hK.out _ _ hS1.out.six (fun hHeld => ?_)
  clear hK K
  refine norm_ (a' := ?_) ?_ ?_
  rotate_left
  · show Act.put _ (some 40) _ = _
    simp only [Act.put, List.setIfInBounds_toArray, List.set_cons_zero, List.set_cons_succ, i64_w, i32_w]
    rfl
  refine one_ (i := 3) (N := some 42) #[true, true, true, true, false, false, false, false] rfl rfl (one_of HT_.out (by kernel_rfl)) (by decide) (fun K hK => ?_)
  refine goes_ Tryz.func110 (by kernel_rfl) rfl #[.agg #[.int .i64 b0, .int .i64 b1, .string b2]] (by rfl) rfl rfl (by (try simp only [List.map_toArray, List.map_cons, List.map_nil]); first | done | rfl) ?_
  refine (HNB.out _).mono ?_
  rintro e w3 ⟨rfl, hb⟩
  refine ⟨_, rfl, ?_⟩
  have hS3 := Aside0.mk (hS1.out.step hb)
  clear hb hS1
  refine hK.out _ _ hS3.out.six (fun hHeld => ?_)
  clear hK K
  refine norm_ (a' := ?_) ?_ ?_
  rotate_left
  · show Act.put _ (some 42) _ = _
    simp only [Act.put, List.setIfInBounds_toArray, List.set_cons_zero, List.set_cons_succ, i64_w, i32_w]
    rfl
  refine pure_ (i := 4) (N := some 43) (v := ?_) (a' := ?_) #[true, true, true, true, true, false, false, false] rfl rfl (any_of HT_.out (by kernel_rfl)) (fun _ _ _ h => h) (Or.inl ⟨by rfl, ?_⟩) ?_ ?_
  rotate_left
  · intro w'
    go_simp
    with_reducible rfl
  rotate_left
  · simp only [Act.put, List.setIfInBounds_toArray, List.set_cons_zero, List.set_cons_succ, i64_w, i32_w]
    rfl
  refine pure_ (i := 5) (N := some 44) (v := ?_) (a' := ?_) #[true, true, true, true, true, true, false, false] rfl rfl (any_of HT_.out (by kernel_rfl)) (fun _ _ _ h => h) (Or.inl ⟨by rfl, ?_⟩) ?_ ?_
  rotate_left
  · intro w'
    go_simp
    with_reducible rfl
  rotate_left
  · simp only [Act.put, List.setIfInBounds_toArray, List.set_cons_zero, List.set_cons_succ, i64_w, i32_w]
    rfl
  refine last_ (i := 6) (N := none) #[true, true, true, true, true, true, true, false] rfl rfl (one_of HT_.out (by kernel_rfl)) (by decide) (fun K hK => ?_)
  obtain ⟨⟨hc0, hc1, hc2⟩, hf0, hf1, hf2⟩ := hS3.out.res
  refine skip_ (w1 := ?_) (by rfl) rfl ?_ ?_
  rotate_left
  · go_simp
    rfl
  refine hK.out _ _ ?_
  clear hK K
  refine pure_ (i := 7) (N := some 7) (v := ?_) (a' := ?_) #[true, true, true, true, true, true, true, true] rfl rfl (any_of HT_.out (by kernel_rfl)) (fun _ _ _ h => h) (Or.inl ⟨by rfl, ?_⟩) ?_ ?_
  rotate_left
  · intro w'
    go_simp
    with_reducible rfl
  rotate_left
  · simp only [Act.put, List.setIfInBounds_toArray, List.set_cons_zero, List.set_cons_succ, i64_w, i32_w]
    rfl
  refine done_ (done_of HT_.out (by kernel_rfl)) ?_
  try go_wp2
  refine bodyPost_ret (results_ct rfl _ _ (w.heap.size + 1 + 1) 83 #[_, _, _] (0, 0) _ rfl (blk_set (blk_set (blk_set hS3.out.bk 0 _) 1 _) 2 _) Tryz.underlying83 rfl (by kernel_rfl)) rfl ⟨rfl, below_set (below_set (below_set hS3.out.bel (by omega)) (by omega)) (by omega)⟩
set_option maxHeartbeats 4000000 in
set_option maxRecDepth 100000 in
theorem rtwo_mul (s : ByteArray) (a b : VR) (ha : Fits a) (hb : Fits b) (hs : s.toList = [42]) (w : World) :
    Calls Tryz.prog 90 #[.string s, agg a, agg b] w (TwoPost w ((3, wrap64 (numS a.1 a.2.1 a.2.2 * numS b.1 b.2.1 b.2.2), ⟨#[]⟩), 0)) := by
  have HNA := Aside0.mk (fun W => rnum_run a ha W)
  have HNB := Aside0.mk (fun W => rnum_run b hb W)
  have HX := Aside0.mk (TwoS.boxes w a b)
  obtain ⟨a0, a1, a2⟩ := a
  obtain ⟨b0, b1, b2⟩ := b
  clear ha hb
  generalize hx : numS (a0, a1, a2).1 (a0, a1, a2).2.1 (a0, a1, a2).2.2 = x at *
  generalize hy : numS (b0, b1, b2).1 (b0, b1, b2).2.1 (b0, b1, b2).2.2 = y at *
  clear hx hy
  unfold agg at *
  simp only at HNA HNB HX ⊢
  have e0 : (s.toList == [43]) = false := by rw [hs]; decide
  have e1 : (s.toList == [45]) = false := by rw [hs]; decide
  have e2 : (s.toList == [42]) = true := by rw [hs]; decide
  clear hs
  go_enter Tryz.func90, Tryz.ntmps90
  go_wp2
  have hS := Aside0.mk HX.out.drew
  refine start_ (n := 8) (S := fun W' => W'.cell? ⟨w.heap.size, 0, none⟩ = some (.int .i64 a0) ∧ W'.cell? ⟨w.heap.size, 1, none⟩ = some (.int .i64 a1) ∧ W'.cell? ⟨w.heap.size, 2, none⟩ = some (.string a2) ∧ W'.cell? ⟨w.heap.size + 1, 0, none⟩ = some (.int .i64 b0) ∧ W'.cell? ⟨w.heap.size + 1, 1, none⟩ = some (.int .i64 b1) ∧ W'.cell? ⟨w.heap.size + 1, 2, none⟩ = some (.string b2)) (ds := [6]) #[false, false, false, false, false, false, false, false] (by kernel_rfl) rfl rfl hS.out.six (fun hHeld => ?_)
  refine with_tabW rtab12 rbits12 (fun HT_ HW_ => ?_)
  generalize ((((w.alloc (.cells #[.int .i64 a0, .int .i64 a1, .string a2] 83)).alloc (.cells #[.int .i64 b0, .int .i64 b1, .string b2] 83)).alloc (.cells #[.int .i64 0, .int .i64 0, .string ⟨#[]⟩] 83))).drew = w0 at hS hHeld ⊢
  clear HX
  refine take_ (i := 0) (N := some 47) (v := ?_) (a' := ?_) #[true, false, false, false, false, false, false, false] rfl rfl (take_ofW HT_.out HW_.out (by kernel_rfl)) (fun _ _ _ h => h) (Or.inl ⟨by rfl, ?_⟩) hHeld ?_ ?_
  rotate_left
  · rintro w' ⟨s0, s1, s2, s3, s4, s5⟩
    go_simp
    with_reducible rfl
  rotate_left
  · simp only [Act.put, List.setIfInBounds_toArray, List.set_cons_zero, List.set_cons_succ, i64_w, i32_w]
    rfl
  refine take_ (i := 2) (N := some 49) (v := ?_) (a' := ?_) #[true, false, true, false, false, false, false, false] rfl rfl (take_ofW HT_.out HW_.out (by kernel_rfl)) (fun _ _ _ h => h) (Or.inl ⟨by rfl, ?_⟩) hHeld ?_ ?_
  rotate_left
  · rintro w' ⟨s0, s1, s2, s3, s4, s5⟩
    go_simp
    with_reducible rfl
  rotate_left
  · simp only [Act.put, List.setIfInBounds_toArray, List.set_cons_zero, List.set_cons_succ, i64_w, i32_w]
    rfl
  refine one_ (i := 1) (N := some 48) #[true, true, true, false, false, false, false, false] rfl rfl (one_of HT_.out (by kernel_rfl)) (by decide) (fun K hK => ?_)
  refine goes_ Tryz.func110 (by kernel_rfl) rfl #[.agg #[.int .i64 a0, .int .i64 a1, .string a2]] (by rfl) rfl rfl (by (try simp only [List.map_toArray, List.map_cons, List.map_nil]); first | done | rfl) ?_
  refine (HNA.out _).mono ?_
  rintro e w1 ⟨rfl, hb⟩
  refine ⟨_, rfl, ?_⟩
  have hS1 := Aside0.mk (hS.out.step hb)
  clear hb hS
  refine hK.out _ _ hS1.out.six (fun hHeld => ?_)
  clear hK K
  refine norm_ (a' := ?_) ?_ ?_
  rotate_left
  · show Act.put _ (some 48) _ = _
    simp only [Act.put, List.setIfInBounds_toArray, List.set_cons_zero, List.set_cons_succ, i64_w, i32_w]
    rfl
  refine one_ (i := 3) (N := some 50) #[true, true, true, true, false, false, false, false] rfl rfl (one_of HT_.out (by kernel_rfl)) (by decide) (fun K hK => ?_)
  refine goes_ Tryz.func110 (by kernel_rfl) rfl #[.agg #[.int .i64 b0, .int .i64 b1, .string b2]] (by rfl) rfl rfl (by (try simp only [List.map_toArray, List.map_cons, List.map_nil]); first | done | rfl) ?_
  refine (HNB.out _).mono ?_
  rintro e w3 ⟨rfl, hb⟩
  refine ⟨_, rfl, ?_⟩
  have hS3 := Aside0.mk (hS1.out.step hb)
  clear hb hS1
  refine hK.out _ _ hS3.out.six (fun hHeld => ?_)
  clear hK K
  refine norm_ (a' := ?_) ?_ ?_
  rotate_left
  · show Act.put _ (some 50) _ = _
    simp only [Act.put, List.setIfInBounds_toArray, List.set_cons_zero, List.set_cons_succ, i64_w, i32_w]
    rfl
  refine pure_ (i := 4) (N := some 51) (v := ?_) (a' := ?_) #[true, true, true, true, true, false, false, false] rfl rfl (any_of HT_.out (by kernel_rfl)) (fun _ _ _ h => h) (Or.inl ⟨by rfl, ?_⟩) ?_ ?_
  rotate_left
  · intro w'
    go_simp
    with_reducible rfl
  rotate_left
  · simp only [Act.put, List.setIfInBounds_toArray, List.set_cons_zero, List.set_cons_succ, i64_w, i32_w]
    rfl
  refine pure_ (i := 5) (N := some 52) (v := ?_) (a' := ?_) #[true, true, true, true, true, true, false, false] rfl rfl (any_of HT_.out (by kernel_rfl)) (fun _ _ _ h => h) (Or.inl ⟨by rfl, ?_⟩) ?_ ?_
  rotate_left
  · intro w'
    go_simp
    with_reducible rfl
  rotate_left
  · simp only [Act.put, List.setIfInBounds_toArray, List.set_cons_zero, List.set_cons_succ, i64_w, i32_w]
    rfl
  refine last_ (i := 6) (N := none) #[true, true, true, true, true, true, true, false] rfl rfl (one_of HT_.out (by kernel_rfl)) (by decide) (fun K hK => ?_)
  obtain ⟨⟨hc0, hc1, hc2⟩, hf0, hf1, hf2⟩ := hS3.out.res
  refine skip_ (w1 := ?_) (by rfl) rfl ?_ ?_
  rotate_left
  · go_simp
    rfl
  refine hK.out _ _ ?_
  clear hK K
  refine pure_ (i := 7) (N := some 7) (v := ?_) (a' := ?_) #[true, true, true, true, true, true, true, true] rfl rfl (any_of HT_.out (by kernel_rfl)) (fun _ _ _ h => h) (Or.inl ⟨by rfl, ?_⟩) ?_ ?_
  rotate_left
  · intro w'
    go_simp
    with_reducible rfl
  rotate_left
  · simp only [Act.put, List.setIfInBounds_toArray, List.set_cons_zero, List.set_cons_succ, i64_w, i32_w]
    rfl
  refine done_ (done_of HT_.out (by kernel_rfl)) ?_
  try go_wp2
  refine bodyPost_ret (results_ct rfl _ _ (w.heap.size + 1 + 1) 83 #[_, _, _] (0, 0) _ rfl (blk_set (blk_set (blk_set hS3.out.bk 0 _) 1 _) 2 _) Tryz.underlying83 rfl (by kernel_rfl)) rfl ⟨rfl, below_set (below_set (below_set hS3.out.bel (by omega)) (by omega)) (by omega)⟩
set_option maxHeartbeats 4000000 in
set_option maxRecDepth 100000 in
theorem rtwo_add (s : ByteArray) (a b : VR) (ha : Fits a) (hb : Fits b) (hs : s.toList = [43]) (hg : ¬ (a.1 = 4 ∨ b.1 = 4)) (w : World) :
    Calls Tryz.prog 90 #[.string s, agg a, agg b] w (TwoPost w ((3, wrap64 (numS a.1 a.2.1 a.2.2 + numS b.1 b.2.1 b.2.2), ⟨#[]⟩), 0)) := by
  have HNA := Aside0.mk (fun W => rnum_run a ha W)
  have HNB := Aside0.mk (fun W => rnum_run b hb W)
  have HX := Aside0.mk (TwoS.boxes w a b)
  obtain ⟨a0, a1, a2⟩ := a
  obtain ⟨b0, b1, b2⟩ := b
  clear ha hb
  generalize hx : numS (a0, a1, a2).1 (a0, a1, a2).2.1 (a0, a1, a2).2.2 = x at *
  generalize hy : numS (b0, b1, b2).1 (b0, b1, b2).2.1 (b0, b1, b2).2.2 = y at *
  clear hx hy
  unfold agg at *
  simp only at HNA HNB HX hg ⊢
  have g1 : (a0 == 4) = false := beq_eq_false_iff_ne.mpr (fun e => hg (.inl e))
  have g2 : (b0 == 4) = false := beq_eq_false_iff_ne.mpr (fun e => hg (.inr e))
  clear hg
  have e0 : (s.toList == [43]) = true := by rw [hs]; decide
  clear hs
  go_enter Tryz.func90, Tryz.ntmps90
  go_wp2
  have hS := Aside0.mk HX.out.drew
  refine start_ (n := 8) (S := fun W' => W'.cell? ⟨w.heap.size, 0, none⟩ = some (.int .i64 a0) ∧ W'.cell? ⟨w.heap.size, 1, none⟩ = some (.int .i64 a1) ∧ W'.cell? ⟨w.heap.size, 2, none⟩ = some (.string a2) ∧ W'.cell? ⟨w.heap.size + 1, 0, none⟩ = some (.int .i64 b0) ∧ W'.cell? ⟨w.heap.size + 1, 1, none⟩ = some (.int .i64 b1) ∧ W'.cell? ⟨w.heap.size + 1, 2, none⟩ = some (.string b2)) (ds := [6]) #[false, false, false, false, false, false, false, false] (by kernel_rfl) rfl rfl hS.out.six (fun hHeld => ?_)
  refine with_tabW rtab8 rbits8 (fun HT_ HW_ => ?_)
  generalize ((((w.alloc (.cells #[.int .i64 a0, .int .i64 a1, .string a2] 83)).alloc (.cells #[.int .i64 b0, .int .i64 b1, .string b2] 83)).alloc (.cells #[.int .i64 0, .int .i64 0, .string ⟨#[]⟩] 83))).drew = w0 at hS hHeld ⊢
  clear HX
  refine take_ (i := 0) (N := some 31) (v := ?_) (a' := ?_) #[true, false, false, false, false, false, false, false] rfl rfl (take_ofW HT_.out HW_.out (by kernel_rfl)) (fun _ _ _ h => h) (Or.inl ⟨by rfl, ?_⟩) hHeld ?_ ?_
  rotate_left
  · rintro w' ⟨s0, s1, s2, s3, s4, s5⟩
    go_simp
    with_reducible rfl
  rotate_left
  · simp only [Act.put, List.setIfInBounds_toArray, List.set_cons_zero, List.set_cons_succ, i64_w, i32_w]
    rfl
  refine take_ (i := 2) (N := some 33) (v := ?_) (a' := ?_) #[true, false, true, false, false, false, false, false] rfl rfl (take_ofW HT_.out HW_.out (by kernel_rfl)) (fun _ _ _ h => h) (Or.inl ⟨by rfl, ?_⟩) hHeld ?_ ?_
  rotate_left
  · rintro w' ⟨s0, s1, s2, s3, s4, s5⟩
    go_simp
    with_reducible rfl
  rotate_left
  · simp only [Act.put, List.setIfInBounds_toArray, List.set_cons_zero, List.set_cons_succ, i64_w, i32_w]
    rfl
  refine one_ (i := 1) (N := some 32) #[true, true, true, false, false, false, false, false] rfl rfl (one_of HT_.out (by kernel_rfl)) (by decide) (fun K hK => ?_)
  refine goes_ Tryz.func110 (by kernel_rfl) rfl #[.agg #[.int .i64 a0, .int .i64 a1, .string a2]] (by rfl) rfl rfl (by (try simp only [List.map_toArray, List.map_cons, List.map_nil]); first | done | rfl) ?_
  refine (HNA.out _).mono ?_
  rintro e w1 ⟨rfl, hb⟩
  refine ⟨_, rfl, ?_⟩
  have hS1 := Aside0.mk (hS.out.step hb)
  clear hb hS
  refine hK.out _ _ hS1.out.six (fun hHeld => ?_)
  clear hK K
  refine norm_ (a' := ?_) ?_ ?_
  rotate_left
  · show Act.put _ (some 32) _ = _
    simp only [Act.put, List.setIfInBounds_toArray, List.set_cons_zero, List.set_cons_succ, i64_w, i32_w]
    rfl
  refine one_ (i := 3) (N := some 34) #[true, true, true, true, false, false, false, false] rfl rfl (one_of HT_.out (by kernel_rfl)) (by decide) (fun K hK => ?_)
  refine goes_ Tryz.func110 (by kernel_rfl) rfl #[.agg #[.int .i64 b0, .int .i64 b1, .string b2]] (by rfl) rfl rfl (by (try simp only [List.map_toArray, List.map_cons, List.map_nil]); first | done | rfl) ?_
  refine (HNB.out _).mono ?_
  rintro e w3 ⟨rfl, hb⟩
  refine ⟨_, rfl, ?_⟩
  have hS3 := Aside0.mk (hS1.out.step hb)
  clear hb hS1
  refine hK.out _ _ hS3.out.six (fun hHeld => ?_)
  clear hK K
  refine norm_ (a' := ?_) ?_ ?_
  rotate_left
  · show Act.put _ (some 34) _ = _
    simp only [Act.put, List.setIfInBounds_toArray, List.set_cons_zero, List.set_cons_succ, i64_w, i32_w]
    rfl
  refine pure_ (i := 4) (N := some 35) (v := ?_) (a' := ?_) #[true, true, true, true, true, false, false, false] rfl rfl (any_of HT_.out (by kernel_rfl)) (fun _ _ _ h => h) (Or.inl ⟨by rfl, ?_⟩) ?_ ?_
  rotate_left
  · intro w'
    go_simp
    with_reducible rfl
  rotate_left
  · simp only [Act.put, List.setIfInBounds_toArray, List.set_cons_zero, List.set_cons_succ, i64_w, i32_w]
    rfl
  refine pure_ (i := 5) (N := some 36) (v := ?_) (a' := ?_) #[true, true, true, true, true, true, false, false] rfl rfl (any_of HT_.out (by kernel_rfl)) (fun _ _ _ h => h) (Or.inl ⟨by rfl, ?_⟩) ?_ ?_
  rotate_left
  · intro w'
    go_simp
    with_reducible rfl
  rotate_left
  · simp only [Act.put, List.setIfInBounds_toArray, List.set_cons_zero, List.set_cons_succ, i64_w, i32_w]
    rfl
  refine last_ (i := 6) (N := none) #[true, true, true, true, true, true, true, false] rfl rfl (one_of HT_.out (by kernel_rfl)) (by decide) (fun K hK => ?_)
  obtain ⟨⟨hc0, hc1, hc2⟩, hf0, hf1, hf2⟩ := hS3.out.res
  refine skip_ (w1 := ?_) (by rfl) rfl ?_ ?_
  rotate_left
  · go_simp
    rfl
  refine hK.out _ _ ?_
  clear hK K
  refine pure_ (i := 7) (N := some 7) (v := ?_) (a' := ?_) #[true, true, true, true, true, true, true, true] rfl rfl (any_of HT_.out (by kernel_rfl)) (fun _ _ _ h => h) (Or.inl ⟨by rfl, ?_⟩) ?_ ?_
  rotate_left
  · intro w'
    go_simp
    with_reducible rfl
  rotate_left
  · simp only [Act.put, List.setIfInBounds_toArray, List.set_cons_zero, List.set_cons_succ, i64_w, i32_w]
    rfl
  refine done_ (done_of HT_.out (by kernel_rfl)) ?_
  try go_wp2
  refine bodyPost_ret (results_ct rfl _ _ (w.heap.size + 1 + 1) 83 #[_, _, _] (0, 0) _ rfl (blk_set (blk_set (blk_set hS3.out.bk 0 _) 1 _) 2 _) Tryz.underlying83 rfl (by kernel_rfl)) rfl ⟨rfl, below_set (below_set (below_set hS3.out.bel (by omega)) (by omega)) (by omega)⟩
set_option maxHeartbeats 4000000 in
set_option maxRecDepth 100000 in
theorem rtwo_texta (s : ByteArray) (a b : VR) (ha : Fits a) (hb : Fits b) (hs : s.toList = [43]) (hg : a.1 = 4) (w : World) :
    Calls Tryz.prog 90 #[.string s, agg a, agg b] w (TwoPost w (if 65536 < (keyS a.1 a.2.1 a.2.2 ++ keyS b.1 b.2.1 b.2.2).size then ((0, 0, ⟨#[]⟩), 61) else ((4, 0, keyS a.1 a.2.1 a.2.2 ++ keyS b.1 b.2.1 b.2.2), 0))) := by
  have HNA := Aside0.mk (fun W => rkey_run a ha W)
  have HNB := Aside0.mk (fun W => rkey_run b hb W)
  have HX := Aside0.mk (TwoS.boxes w a b)
  have hz1 := keyS_size a.1 a.2.1 a.2.2 ha.num
  have hz2 := keyS_size b.1 b.2.1 b.2.2 hb.num
  have hz3 := ha.size
  have hz4 := hb.size
  have hz : (keyS a.1 a.2.1 a.2.2).size + (keyS b.1 b.2.1 b.2.2).size ≤ 9223372036854775807 := by omega
  obtain ⟨a0, a1, a2⟩ := a
  obtain ⟨b0, b1, b2⟩ := b
  clear ha hb hz1 hz2 hz3 hz4
  generalize hx : keyS (a0, a1, a2).1 (a0, a1, a2).2.1 (a0, a1, a2).2.2 = x at *
  generalize hy : keyS (b0, b1, b2).1 (b0, b1, b2).2.1 (b0, b1, b2).2.2 = y at *
  clear hx hy
  unfold agg at *
  simp only at HNA HNB HX hg ⊢
  have hzn : ¬ 9223372036854775807 < x.size + y.size := by omega
  have g1 : (a0 == 4) = true := beq_iff_eq.mpr hg
  clear hg
  have e0 : (s.toList == [43]) = true := by rw [hs]; decide
  clear hs
  by_cases h65 : 65536 < (x ++ y).size
  case pos =>
    rw [if_pos h65]
    have H65 := Aside0.mk h65
    clear h65
    go_enter Tryz.func90, Tryz.ntmps90
    go_wp2
    have hS := Aside0.mk HX.out.drew
    refine start_ (n := 6) (S := fun W' => W'.cell? ⟨w.heap.size, 0, none⟩ = some (.int .i64 a0) ∧ W'.cell? ⟨w.heap.size, 1, none⟩ = some (.int .i64 a1) ∧ W'.cell? ⟨w.heap.size, 2, none⟩ = some (.string a2) ∧ W'.cell? ⟨w.heap.size + 1, 0, none⟩ = some (.int .i64 b0) ∧ W'.cell? ⟨w.heap.size + 1, 1, none⟩ = some (.int .i64 b1) ∧ W'.cell? ⟨w.heap.size + 1, 2, none⟩ = some (.string b2)) (ds := []) #[false, false, false, false, false, false] (by kernel_rfl) rfl rfl hS.out.six (fun hHeld => ?_)
    generalize ((((w.alloc (.cells #[.int .i64 a0, .int .i64 a1, .string a2] 83)).alloc (.cells #[.int .i64 b0, .int .i64 b1, .string b2] 83)).alloc (.cells #[.int .i64 0, .int .i64 0, .string ⟨#[]⟩] 83))).drew = w0 at hS hHeld ⊢
    clear HX
    refine take_ (i := 0) (N := some 20) (v := ?_) (a' := ?_) #[true, false, false, false, false, false] rfl rfl (by kernel_rfl) (fun _ _ _ h => h) (Or.inl ⟨by rfl, ?_⟩) hHeld ?_ ?_
    rotate_left
    · rintro w' ⟨s0, s1, s2, s3, s4, s5⟩
      go_simp
      with_reducible rfl
    rotate_left
    · simp only [Act.put, List.setIfInBounds_toArray, List.set_cons_zero, List.set_cons_succ, i64_w, i32_w]
      rfl
    refine take_ (i := 2) (N := some 22) (v := ?_) (a' := ?_) #[true, false, true, false, false, false] rfl rfl (by kernel_rfl) (fun _ _ _ h => h) (Or.inl ⟨by rfl, ?_⟩) hHeld ?_ ?_
    rotate_left
    · rintro w' ⟨s0, s1, s2, s3, s4, s5⟩
      go_simp
      with_reducible rfl
    rotate_left
    · simp only [Act.put, List.setIfInBounds_toArray, List.set_cons_zero, List.set_cons_succ, i64_w, i32_w]
      rfl
    refine one_ (i := 1) (N := some 21) #[true, true, true, false, false, false] rfl rfl (by kernel_rfl) (by decide) (fun K hK => ?_)
    refine goes_ Tryz.func84 (by kernel_rfl) rfl #[.agg #[.int .i64 a0, .int .i64 a1, .string a2]] (by rfl) rfl rfl (by (try simp only [List.map_toArray, List.map_cons, List.map_nil]); first | done | rfl) ?_
    refine (HNA.out _).mono ?_
    rintro e w1 ⟨rfl, hb⟩
    refine ⟨_, rfl, ?_⟩
    have hS1 := Aside0.mk (hS.out.step hb)
    clear hb hS
    refine hK.out _ _ hS1.out.six (fun hHeld => ?_)
    clear hK K
    refine norm_ (a' := ?_) ?_ ?_
    rotate_left
    · show Act.put _ (some 21) _ = _
      simp only [Act.put, List.setIfInBounds_toArray, List.set_cons_zero, List.set_cons_succ, i64_w, i32_w]
      rfl
    refine one_ (i := 3) (N := some 23) #[true, true, true, true, false, false] rfl rfl (by kernel_rfl) (by decide) (fun K hK => ?_)
    refine goes_ Tryz.func84 (by kernel_rfl) rfl #[.agg #[.int .i64 b0, .int .i64 b1, .string b2]] (by rfl) rfl rfl (by (try simp only [List.map_toArray, List.map_cons, List.map_nil]); first | done | rfl) ?_
    refine (HNB.out _).mono ?_
    rintro e w3 ⟨rfl, hb⟩
    refine ⟨_, rfl, ?_⟩
    have hS3 := Aside0.mk (hS1.out.step hb)
    clear hb hS1
    refine hK.out _ _ hS3.out.six (fun hHeld => ?_)
    clear hK K
    refine norm_ (a' := ?_) ?_ ?_
    rotate_left
    · show Act.put _ (some 23) _ = _
      simp only [Act.put, List.setIfInBounds_toArray, List.set_cons_zero, List.set_cons_succ, i64_w, i32_w]
      rfl
    refine pure_ (i := 4) (N := some 24) (v := ?_) (a' := ?_) #[true, true, true, true, true, false] rfl rfl (by kernel_rfl) (fun _ _ _ h => h) (Or.inl ⟨by rfl, ?_⟩) ?_ ?_
    rotate_left
    · intro w'
      go_simp
      first | with_reducible rfl | (rw [if_neg hzn])
    rotate_left
    · simp only [Act.put, List.setIfInBounds_toArray, List.set_cons_zero, List.set_cons_succ, i64_w, i32_w]
      rfl
    refine pure_ (i := 5) (N := some 8) (v := ?_) (a' := ?_) #[true, true, true, true, true, true] rfl rfl (by kernel_rfl) (fun _ _ _ h => h) (Or.inl ⟨by rfl, ?_⟩) ?_ ?_
    rotate_left
    · intro w'
      go_simp
      first | with_reducible rfl | (rw [if_neg hzn])
    rotate_left
    · simp only [Act.put, List.setIfInBounds_toArray, List.set_cons_zero, List.set_cons_succ, i64_w, i32_w]
      rfl
    refine done_ (by kernel_rfl) ?_
    have hz' : (x ++ y).size ≤ 9223372036854775807 := by rw [ByteArray.size_append]; exact hz
    clear hz hzn
    generalize x ++ y = t at *
    obtain ⟨⟨hc0, hc1, hc2⟩, hf0, hf1, hf2⟩ := hS3.out.res
    have h65 := H65.out
    have hgt : (65536 : Int) < (t.size : Int) := by omega
    go_wp2
    refine bodyPost_ret (results_ct rfl _ _ (w.heap.size + 1 + 1) 83 #[_, _, _] (0, 0) _ rfl (blk_set (blk_set (blk_set hS3.out.bk 0 _) 1 _) 2 _) Tryz.underlying83 rfl (by kernel_rfl)) rfl ⟨rfl, below_set (below_set (below_set hS3.out.bel (by omega)) (by omega)) (by omega)⟩
  case neg =>
    rw [if_neg h65]
    have H65 := Aside0.mk h65
    clear h65
    go_enter Tryz.func90, Tryz.ntmps90
    go_wp2
    have hS := Aside0.mk HX.out.drew
    refine start_ (n := 6) (S := fun W' => W'.cell? ⟨w.heap.size, 0, none⟩ = some (.int .i64 a0) ∧ W'.cell? ⟨w.heap.size, 1, none⟩ = some (.int .i64 a1) ∧ W'.cell? ⟨w.heap.size, 2, none⟩ = some (.string a2) ∧ W'.cell? ⟨w.heap.size + 1, 0, none⟩ = some (.int .i64 b0) ∧ W'.cell? ⟨w.heap.size + 1, 1, none⟩ = some (.int .i64 b1) ∧ W'.cell? ⟨w.heap.size + 1, 2, none⟩ = some (.string b2)) (ds := []) #[false, false, false, false, false, false] (by kernel_rfl) rfl rfl hS.out.six (fun hHeld => ?_)
    generalize ((((w.alloc (.cells #[.int .i64 a0, .int .i64 a1, .string a2] 83)).alloc (.cells #[.int .i64 b0, .int .i64 b1, .string b2] 83)).alloc (.cells #[.int .i64 0, .int .i64 0, .string ⟨#[]⟩] 83))).drew = w0 at hS hHeld ⊢
    clear HX
    refine take_ (i := 0) (N := some 20) (v := ?_) (a' := ?_) #[true, false, false, false, false, false] rfl rfl (by kernel_rfl) (fun _ _ _ h => h) (Or.inl ⟨by rfl, ?_⟩) hHeld ?_ ?_
    rotate_left
    · rintro w' ⟨s0, s1, s2, s3, s4, s5⟩
      go_simp
      with_reducible rfl
    rotate_left
    · simp only [Act.put, List.setIfInBounds_toArray, List.set_cons_zero, List.set_cons_succ, i64_w, i32_w]
      rfl
    refine take_ (i := 2) (N := some 22) (v := ?_) (a' := ?_) #[true, false, true, false, false, false] rfl rfl (by kernel_rfl) (fun _ _ _ h => h) (Or.inl ⟨by rfl, ?_⟩) hHeld ?_ ?_
    rotate_left
    · rintro w' ⟨s0, s1, s2, s3, s4, s5⟩
      go_simp
      with_reducible rfl
    rotate_left
    · simp only [Act.put, List.setIfInBounds_toArray, List.set_cons_zero, List.set_cons_succ, i64_w, i32_w]
      rfl
    refine one_ (i := 1) (N := some 21) #[true, true, true, false, false, false] rfl rfl (by kernel_rfl) (by decide) (fun K hK => ?_)
    refine goes_ Tryz.func84 (by kernel_rfl) rfl #[.agg #[.int .i64 a0, .int .i64 a1, .string a2]] (by rfl) rfl rfl (by (try simp only [List.map_toArray, List.map_cons, List.map_nil]); first | done | rfl) ?_
    refine (HNA.out _).mono ?_
    rintro e w1 ⟨rfl, hb⟩
    refine ⟨_, rfl, ?_⟩
    have hS1 := Aside0.mk (hS.out.step hb)
    clear hb hS
    refine hK.out _ _ hS1.out.six (fun hHeld => ?_)
    clear hK K
    refine norm_ (a' := ?_) ?_ ?_
    rotate_left
    · show Act.put _ (some 21) _ = _
      simp only [Act.put, List.setIfInBounds_toArray, List.set_cons_zero, List.set_cons_succ, i64_w, i32_w]
      rfl
    refine one_ (i := 3) (N := some 23) #[true, true, true, true, false, false] rfl rfl (by kernel_rfl) (by decide) (fun K hK => ?_)
    refine goes_ Tryz.func84 (by kernel_rfl) rfl #[.agg #[.int .i64 b0, .int .i64 b1, .string b2]] (by rfl) rfl rfl (by (try simp only [List.map_toArray, List.map_cons, List.map_nil]); first | done | rfl) ?_
    refine (HNB.out _).mono ?_
    rintro e w3 ⟨rfl, hb⟩
    refine ⟨_, rfl, ?_⟩
    have hS3 := Aside0.mk (hS1.out.step hb)
    clear hb hS1
    refine hK.out _ _ hS3.out.six (fun hHeld => ?_)
    clear hK K
    refine norm_ (a' := ?_) ?_ ?_
    rotate_left
    · show Act.put _ (some 23) _ = _
      simp only [Act.put, List.setIfInBounds_toArray, List.set_cons_zero, List.set_cons_succ, i64_w, i32_w]
      rfl
    refine pure_ (i := 4) (N := some 24) (v := ?_) (a' := ?_) #[true, true, true, true, true, false] rfl rfl (by kernel_rfl) (fun _ _ _ h => h) (Or.inl ⟨by rfl, ?_⟩) ?_ ?_
    rotate_left
    · intro w'
      go_simp
      first | with_reducible rfl | (rw [if_neg hzn])
    rotate_left
    · simp only [Act.put, List.setIfInBounds_toArray, List.set_cons_zero, List.set_cons_succ, i64_w, i32_w]
      rfl
    refine pure_ (i := 5) (N := some 8) (v := ?_) (a' := ?_) #[true, true, true, true, true, true] rfl rfl (by kernel_rfl) (fun _ _ _ h => h) (Or.inl ⟨by rfl, ?_⟩) ?_ ?_
    rotate_left
    · intro w'
      go_simp
      first | with_reducible rfl | (rw [if_neg hzn])
    rotate_left
    · simp only [Act.put, List.setIfInBounds_toArray, List.set_cons_zero, List.set_cons_succ, i64_w, i32_w]
      rfl
    refine done_ (by kernel_rfl) ?_
    have hz' : (x ++ y).size ≤ 9223372036854775807 := by rw [ByteArray.size_append]; exact hz
    clear hz hzn
    generalize x ++ y = t at *
    obtain ⟨⟨hc0, hc1, hc2⟩, hf0, hf1, hf2⟩ := hS3.out.res
    have h65 := H65.out
    have hgt : ¬ (65536 : Int) < (t.size : Int) := by omega
    go_wp2
    refine bodyPost_ret (results_ct rfl _ _ (w.heap.size + 1 + 1) 83 #[_, _, _] (0, 0) _ rfl (blk_set (blk_set (blk_set hS3.out.bk 0 _) 1 _) 2 _) Tryz.underlying83 rfl (by kernel_rfl)) rfl ⟨rfl, below_set (below_set (below_set hS3.out.bel (by omega)) (by omega)) (by omega)⟩
set_option maxHeartbeats 4000000 in
set_option maxRecDepth 100000 in
theorem rtwo_textb (s : ByteArray) (a b : VR) (ha : Fits a) (hb : Fits b) (hs : s.toList = [43]) (hg : ¬ a.1 = 4 ∧ b.1 = 4) (w : World) :
    Calls Tryz.prog 90 #[.string s, agg a, agg b] w (TwoPost w (if 65536 < (keyS a.1 a.2.1 a.2.2 ++ keyS b.1 b.2.1 b.2.2).size then ((0, 0, ⟨#[]⟩), 61) else ((4, 0, keyS a.1 a.2.1 a.2.2 ++ keyS b.1 b.2.1 b.2.2), 0))) := by
  have HNA := Aside0.mk (fun W => rkey_run a ha W)
  have HNB := Aside0.mk (fun W => rkey_run b hb W)
  have HX := Aside0.mk (TwoS.boxes w a b)
  have hz1 := keyS_size a.1 a.2.1 a.2.2 ha.num
  have hz2 := keyS_size b.1 b.2.1 b.2.2 hb.num
  have hz3 := ha.size
  have hz4 := hb.size
  have hz : (keyS a.1 a.2.1 a.2.2).size + (keyS b.1 b.2.1 b.2.2).size ≤ 9223372036854775807 := by omega
  obtain ⟨a0, a1, a2⟩ := a
  obtain ⟨b0, b1, b2⟩ := b
  clear ha hb hz1 hz2 hz3 hz4
  generalize hx : keyS (a0, a1, a2).1 (a0, a1, a2).2.1 (a0, a1, a2).2.2 = x at *
  generalize hy : keyS (b0, b1, b2).1 (b0, b1, b2).2.1 (b0, b1, b2).2.2 = y at *
  clear hx hy
  unfold agg at *
  simp only at HNA HNB HX hg ⊢
  have hzn : ¬ 9223372036854775807 < x.size + y.size := by omega
  have g1 : (a0 == 4) = false := beq_eq_false_iff_ne.mpr hg.1
  have g2 : (b0 == 4) = true := beq_iff_eq.mpr hg.2
  clear hg
  have e0 : (s.toList == [43]) = true := by rw [hs]; decide
  clear hs
  by_cases h65 : 65536 < (x ++ y).size
  case pos =>
    rw [if_pos h65]
    have H65 := Aside0.mk h65
    clear h65
    go_enter Tryz.func90, Tryz.ntmps90
    go_wp2
    have hS := Aside0.mk HX.out.drew
    refine start_ (n := 6) (S := fun W' => W'.cell? ⟨w.heap.size, 0, none⟩ = some (.int .i64 a0) ∧ W'.cell? ⟨w.heap.size, 1, none⟩ = some (.int .i64 a1) ∧ W'.cell? ⟨w.heap.size, 2, none⟩ = some (.string a2) ∧ W'.cell? ⟨w.heap.size + 1, 0, none⟩ = some (.int .i64 b0) ∧ W'.cell? ⟨w.heap.size + 1, 1, none⟩ = some (.int .i64 b1) ∧ W'.cell? ⟨w.heap.size + 1, 2, none⟩ = some (.string b2)) (ds := []) #[false, false, false, false, false, false] (by kernel_rfl) rfl rfl hS.out.six (fun hHeld => ?_)
    generalize ((((w.alloc (.cells #[.int .i64 a0, .int .i64 a1, .string a2] 83)).alloc (.cells #[.int .i64 b0, .int .i64 b1, .string b2] 83)).alloc (.cells #[.int .i64 0, .int .i64 0, .string ⟨#[]⟩] 83))).drew = w0 at hS hHeld ⊢
    clear HX
    refine take_ (i := 0) (N := some 20) (v := ?_) (a' := ?_) #[true, false, false, false, false, false] rfl rfl (by kernel_rfl) (fun _ _ _ h => h) (Or.inl ⟨by rfl, ?_⟩) hHeld ?_ ?_
    rotate_left
    · rintro w' ⟨s0, s1, s2, s3, s4, s5⟩
      go_simp
      with_reducible rfl
    rotate_left
    · simp only [Act.put, List.setIfInBounds_toArray, List.set_cons_zero, List.set_cons_succ, i64_w, i32_w]
      rfl
    refine take_ (i := 2) (N := some 22) (v := ?_) (a' := ?_) #[true, false, true, false, false, false] rfl rfl (by kernel_rfl) (fun _ _ _ h => h) (Or.inl ⟨by rfl, ?_⟩) hHeld ?_ ?_
    rotate_left
    · rintro w' ⟨s0, s1, s2, s3, s4, s5⟩
      go_simp
      with_reducible rfl
    rotate_left
    · simp only [Act.put, List.setIfInBounds_toArray, List.set_cons_zero, List.set_cons_succ, i64_w, i32_w]
      rfl
    refine one_ (i := 1) (N := some 21) #[true, true, true, false, false, false] rfl rfl (by kernel_rfl) (by decide) (fun K hK => ?_)
    refine goes_ Tryz.func84 (by kernel_rfl) rfl #[.agg #[.int .i64 a0, .int .i64 a1, .string a2]] (by rfl) rfl rfl (by (try simp only [List.map_toArray, List.map_cons, List.map_nil]); first | done | rfl) ?_
    refine (HNA.out _).mono ?_
    rintro e w1 ⟨rfl, hb⟩
    refine ⟨_, rfl, ?_⟩
    have hS1 := Aside0.mk (hS.out.step hb)
    clear hb hS
    refine hK.out _ _ hS1.out.six (fun hHeld => ?_)
    clear hK K
    refine norm_ (a' := ?_) ?_ ?_
    rotate_left
    · show Act.put _ (some 21) _ = _
      simp only [Act.put, List.setIfInBounds_toArray, List.set_cons_zero, List.set_cons_succ, i64_w, i32_w]
      rfl
    refine one_ (i := 3) (N := some 23) #[true, true, true, true, false, false] rfl rfl (by kernel_rfl) (by decide) (fun K hK => ?_)
    refine goes_ Tryz.func84 (by kernel_rfl) rfl #[.agg #[.int .i64 b0, .int .i64 b1, .string b2]] (by rfl) rfl rfl (by (try simp only [List.map_toArray, List.map_cons, List.map_nil]); first | done | rfl) ?_
    refine (HNB.out _).mono ?_
    rintro e w3 ⟨rfl, hb⟩
    refine ⟨_, rfl, ?_⟩
    have hS3 := Aside0.mk (hS1.out.step hb)
    clear hb hS1
    refine hK.out _ _ hS3.out.six (fun hHeld => ?_)
    clear hK K
    refine norm_ (a' := ?_) ?_ ?_
    rotate_left
    · show Act.put _ (some 23) _ = _
      simp only [Act.put, List.setIfInBounds_toArray, List.set_cons_zero, List.set_cons_succ, i64_w, i32_w]
      rfl
    refine pure_ (i := 4) (N := some 24) (v := ?_) (a' := ?_) #[true, true, true, true, true, false] rfl rfl (by kernel_rfl) (fun _ _ _ h => h) (Or.inl ⟨by rfl, ?_⟩) ?_ ?_
    rotate_left
    · intro w'
      go_simp
      first | with_reducible rfl | (rw [if_neg hzn])
    rotate_left
    · simp only [Act.put, List.setIfInBounds_toArray, List.set_cons_zero, List.set_cons_succ, i64_w, i32_w]
      rfl
    refine pure_ (i := 5) (N := some 8) (v := ?_) (a' := ?_) #[true, true, true, true, true, true] rfl rfl (by kernel_rfl) (fun _ _ _ h => h) (Or.inl ⟨by rfl, ?_⟩) ?_ ?_
    rotate_left
    · intro w'
      go_simp
      first | with_reducible rfl | (rw [if_neg hzn])
    rotate_left
    · simp only [Act.put, List.setIfInBounds_toArray, List.set_cons_zero, List.set_cons_succ, i64_w, i32_w]
      rfl
    refine done_ (by kernel_rfl) ?_
    have hz' : (x ++ y).size ≤ 9223372036854775807 := by rw [ByteArray.size_append]; exact hz
    clear hz hzn
    generalize x ++ y = t at *
    obtain ⟨⟨hc0, hc1, hc2⟩, hf0, hf1, hf2⟩ := hS3.out.res
    have h65 := H65.out
    have hgt : (65536 : Int) < (t.size : Int) := by omega
    go_wp2
    refine bodyPost_ret (results_ct rfl _ _ (w.heap.size + 1 + 1) 83 #[_, _, _] (0, 0) _ rfl (blk_set (blk_set (blk_set hS3.out.bk 0 _) 1 _) 2 _) Tryz.underlying83 rfl (by kernel_rfl)) rfl ⟨rfl, below_set (below_set (below_set hS3.out.bel (by omega)) (by omega)) (by omega)⟩
  case neg =>
    rw [if_neg h65]
    have H65 := Aside0.mk h65
    clear h65
    go_enter Tryz.func90, Tryz.ntmps90
    go_wp2
    have hS := Aside0.mk HX.out.drew
    refine start_ (n := 6) (S := fun W' => W'.cell? ⟨w.heap.size, 0, none⟩ = some (.int .i64 a0) ∧ W'.cell? ⟨w.heap.size, 1, none⟩ = some (.int .i64 a1) ∧ W'.cell? ⟨w.heap.size, 2, none⟩ = some (.string a2) ∧ W'.cell? ⟨w.heap.size + 1, 0, none⟩ = some (.int .i64 b0) ∧ W'.cell? ⟨w.heap.size + 1, 1, none⟩ = some (.int .i64 b1) ∧ W'.cell? ⟨w.heap.size + 1, 2, none⟩ = some (.string b2)) (ds := []) #[false, false, false, false, false, false] (by kernel_rfl) rfl rfl hS.out.six (fun hHeld => ?_)
    generalize ((((w.alloc (.cells #[.int .i64 a0, .int .i64 a1, .string a2] 83)).alloc (.cells #[.int .i64 b0, .int .i64 b1, .string b2] 83)).alloc (.cells #[.int .i64 0, .int .i64 0, .string ⟨#[]⟩] 83))).drew = w0 at hS hHeld ⊢
    clear HX
    refine take_ (i := 0) (N := some 20) (v := ?_) (a' := ?_) #[true, false, false, false, false, false] rfl rfl (by kernel_rfl) (fun _ _ _ h => h) (Or.inl ⟨by rfl, ?_⟩) hHeld ?_ ?_
    rotate_left
    · rintro w' ⟨s0, s1, s2, s3, s4, s5⟩
      go_simp
      with_reducible rfl
    rotate_left
    · simp only [Act.put, List.setIfInBounds_toArray, List.set_cons_zero, List.set_cons_succ, i64_w, i32_w]
      rfl
    refine take_ (i := 2) (N := some 22) (v := ?_) (a' := ?_) #[true, false, true, false, false, false] rfl rfl (by kernel_rfl) (fun _ _ _ h => h) (Or.inl ⟨by rfl, ?_⟩) hHeld ?_ ?_
    rotate_left
    · rintro w' ⟨s0, s1, s2, s3, s4, s5⟩
      go_simp
      with_reducible rfl
    rotate_left
    · simp only [Act.put, List.setIfInBounds_toArray, List.set_cons_zero, List.set_cons_succ, i64_w, i32_w]
      rfl
    refine one_ (i := 1) (N := some 21) #[true, true, true, false, false, false] rfl rfl (by kernel_rfl) (by decide) (fun K hK => ?_)
    refine goes_ Tryz.func84 (by kernel_rfl) rfl #[.agg #[.int .i64 a0, .int .i64 a1, .string a2]] (by rfl) rfl rfl (by (try simp only [List.map_toArray, List.map_cons, List.map_nil]); first | done | rfl) ?_
    refine (HNA.out _).mono ?_
    rintro e w1 ⟨rfl, hb⟩
    refine ⟨_, rfl, ?_⟩
    have hS1 := Aside0.mk (hS.out.step hb)
    clear hb hS
    refine hK.out _ _ hS1.out.six (fun hHeld => ?_)
    clear hK K
    refine norm_ (a' := ?_) ?_ ?_
    rotate_left
    · show Act.put _ (some 21) _ = _
      simp only [Act.put, List.setIfInBounds_toArray, List.set_cons_zero, List.set_cons_succ, i64_w, i32_w]
      rfl
    refine one_ (i := 3) (N := some 23) #[true, true, true, true, false, false] rfl rfl (by kernel_rfl) (by decide) (fun K hK => ?_)
    refine goes_ Tryz.func84 (by kernel_rfl) rfl #[.agg #[.int .i64 b0, .int .i64 b1, .string b2]] (by rfl) rfl rfl (by (try simp only [List.map_toArray, List.map_cons, List.map_nil]); first | done | rfl) ?_
    refine (HNB.out _).mono ?_
    rintro e w3 ⟨rfl, hb⟩
    refine ⟨_, rfl, ?_⟩
    have hS3 := Aside0.mk (hS1.out.step hb)
    clear hb hS1
    refine hK.out _ _ hS3.out.six (fun hHeld => ?_)
    clear hK K
    refine norm_ (a' := ?_) ?_ ?_
    rotate_left
    · show Act.put _ (some 23) _ = _
      simp only [Act.put, List.setIfInBounds_toArray, List.set_cons_zero, List.set_cons_succ, i64_w, i32_w]
      rfl
    refine pure_ (i := 4) (N := some 24) (v := ?_) (a' := ?_) #[true, true, true, true, true, false] rfl rfl (by kernel_rfl) (fun _ _ _ h => h) (Or.inl ⟨by rfl, ?_⟩) ?_ ?_
    rotate_left
    · intro w'
      go_simp
      first | with_reducible rfl | (rw [if_neg hzn])
    rotate_left
    · simp only [Act.put, List.setIfInBounds_toArray, List.set_cons_zero, List.set_cons_succ, i64_w, i32_w]
      rfl
    refine pure_ (i := 5) (N := some 8) (v := ?_) (a' := ?_) #[true, true, true, true, true, true] rfl rfl (by kernel_rfl) (fun _ _ _ h => h) (Or.inl ⟨by rfl, ?_⟩) ?_ ?_
    rotate_left
    · intro w'
      go_simp
      first | with_reducible rfl | (rw [if_neg hzn])
    rotate_left
    · simp only [Act.put, List.setIfInBounds_toArray, List.set_cons_zero, List.set_cons_succ, i64_w, i32_w]
      rfl
    refine done_ (by kernel_rfl) ?_
    have hz' : (x ++ y).size ≤ 9223372036854775807 := by rw [ByteArray.size_append]; exact hz
    clear hz hzn
    generalize x ++ y = t at *
    obtain ⟨⟨hc0, hc1, hc2⟩, hf0, hf1, hf2⟩ := hS3.out.res
    have h65 := H65.out
    have hgt : ¬ (65536 : Int) < (t.size : Int) := by omega
    go_wp2
    refine bodyPost_ret (results_ct rfl _ _ (w.heap.size + 1 + 1) 83 #[_, _, _] (0, 0) _ rfl (blk_set (blk_set (blk_set hS3.out.bk 0 _) 1 _) 2 _) Tryz.underlying83 rfl (by kernel_rfl)) rfl ⟨rfl, below_set (below_set (below_set hS3.out.bel (by omega)) (by omega)) (by omega)⟩
end Go.Proofs.YtjlhhjfmekjbhaaGreatDoor.Va

/- gumshoeref06.Two answers what value.Two answers; Neg, Not; the values of a text and of a number. No condition. -/
namespace Go.Proofs.YtjlhhjfmekjbhaaGreatDoor.Va
open Go.RowKit Go.Proofs.YtjlhhjfmekjbhaaGreatDoorW.PrintWords Go.Proofs.YtjlhhjfmekjbhaaGreatDoorW.PrintLast Go.Proofs.YtjlhhjfmekjbhaaGreatDoorW.PrintMore Go.Proofs.YtjlhhjfmekjbhaaGreatDoor.Pr Go.Proofs.YtjlhhjfmekjbhaaGreatDoor.Ev
set_option linter.unusedVariables false
set_option linter.unusedSimpArgs false
theorem small_two (n : Nat) (a b : VR) (h : (mkS n a b).2.2.size = 0) : (if 65536 < (mkS n a b).2.2.size then (((0, 0, ⟨#[]⟩), 61) : VR × Int) else (mkS n a b, 0)) = (mkS n a b, 0) := if_neg (by omega)
theorem rtwo_run (s : ByteArray) (a b : VR) (ha : Fits a) (hb : Fits b) (W : World) : Calls Tryz.prog 90 #[.string s, agg a, agg b] W (TwoPost W (twoS s.data.toList a b)) := by
  have hl : s.toList = s.data.toList := ByteArray.toList_eq s
  by_cases h0 : s.data.toList = [43]
  · have e : sign s.data.toList = some 98 := by rw [h0]; decide
    unfold twoS
    rw [e]
    by_cases hk : a.1 = 4
    · have hm : mkS 98 a b = (4, 0, keyS a.1 a.2.1 a.2.2 ++ keyS b.1 b.2.1 b.2.2) := by unfold mkS; rw [if_pos rfl, if_pos (.inl hk)]
      simp only [hm]
      exact rtwo_texta s a b ha hb (hl.trans h0) hk W
    · by_cases hk2 : b.1 = 4
      · have hm : mkS 98 a b = (4, 0, keyS a.1 a.2.1 a.2.2 ++ keyS b.1 b.2.1 b.2.2) := by unfold mkS; rw [if_pos rfl, if_pos (.inr hk2)]
        simp only [hm]
        exact rtwo_textb s a b ha hb (hl.trans h0) ⟨hk, hk2⟩ W
      · have hm : mkS 98 a b = (3, wrap64 (numS a.1 a.2.1 a.2.2 + numS b.1 b.2.1 b.2.2), ⟨#[]⟩) := by unfold mkS; rw [if_pos rfl, if_neg (fun h => h.elim hk hk2)]
        simp only [small_two _ a b (show (mkS 98 a b).2.2.size = 0 by rw [hm]; rfl), hm]
        exact rtwo_add s a b ha hb (hl.trans h0) (fun h => h.elim hk hk2) W
  by_cases h1 : s.data.toList = [45]
  · have e : sign s.data.toList = some 102 := by rw [h1]; decide
    unfold twoS
    rw [e]
    have hm : mkS 102 a b = (3, wrap64 (numS a.1 a.2.1 a.2.2 - numS b.1 b.2.1 b.2.2), ⟨#[]⟩) := rfl
    simp only [small_two _ a b (show (mkS 102 a b).2.2.size = 0 by rw [hm]; rfl), hm]
    exact rtwo_sub s a b ha hb (hl.trans h1) W
  by_cases h2 : s.data.toList = [42]
  · have e : sign s.data.toList = some 103 := by rw [h2]; decide
    unfold twoS
    rw [e]
    have hm : mkS 103 a b = (3, wrap64 (numS a.1 a.2.1 a.2.2 * numS b.1 b.2.1 b.2.2), ⟨#[]⟩) := rfl
    simp only [small_two _ a b (show (mkS 103 a b).2.2.size = 0 by rw [hm]; rfl), hm]
    exact rtwo_mul s a b ha hb (hl.trans h2) W
  by_cases h3 : s.data.toList = [60]
  · have e : sign s.data.toList = some 104 := by rw [h3]; decide
    unfold twoS
    rw [e]
    have hm : mkS 104 a b = boolS (decide (cmpS a b < 0)) := rfl
    simp only [small_two _ a b (show (mkS 104 a b).2.2.size = 0 by rw [hm]; rfl), hm]
    exact rtwo_lss s a b ha hb (hl.trans h3) W
  by_cases h4 : s.data.toList = [60, 61]
  · have e : sign s.data.toList = some 107 := by rw [h4]; decide
    unfold twoS
    rw [e]
    have hm : mkS 107 a b = boolS (decide (cmpS a b ≤ 0)) := rfl
    simp only [small_two _ a b (show (mkS 107 a b).2.2.size = 0 by rw [hm]; rfl), hm]
    exact rtwo_leq s a b ha hb (hl.trans h4) W
  by_cases h5 : s.data.toList = [61, 61, 61]
  · have e : sign s.data.toList = some 108 := by rw [h5]; decide
    unfold twoS
    rw [e]
    have hm : mkS 108 a b = boolS (eqS a b) := rfl
    simp only [small_two _ a b (show (mkS 108 a b).2.2.size = 0 by rw [hm]; rfl), hm]
    exact rtwo_eql s a b ha hb (hl.trans h5) W
  by_cases h6 : s.data.toList = [33, 61, 61]
  · have e : sign s.data.toList = some 109 := by rw [h6]; decide
    unfold twoS
    rw [e]
    have hm : mkS 109 a b = boolS (!eqS a b) := rfl
    simp only [small_two _ a b (show (mkS 109 a b).2.2.size = 0 by rw [hm]; rfl), hm]
    exact rtwo_neq s a b ha hb (hl.trans h6) W
  have e : sign s.data.toList = none := by
    unfold sign
    rw [if_neg h6, if_neg h5, if_neg h4, if_neg h3, if_neg h2, if_neg h1, if_neg h0]
  have ht : twoS s.data.toList a b = ((0, 0, ⟨#[]⟩), 60) := by unfold twoS; rw [e]
  rw [ht]
  exact rtwo_none s a b e W
end Go.Proofs.YtjlhhjfmekjbhaaGreatDoor.Va

/- The closed forms of the values' functions, as contracts that hprint takes. No condition. -/
namespace Go.Proofs.YtjlhhjfmekjbhaaGreatDoor.Vb
open Go.RowKit Go.Proofs.YtjlhhjfmekjbhaaGreatDoorW.PrintWords Go.Proofs.YtjlhhjfmekjbhaaGreatDoorW.PrintLast Go.Proofs.YtjlhhjfmekjbhaaGreatDoorW.PrintMore Go.Proofs.YtjlhhjfmekjbhaaGreatDoor.Va
set_option linter.unusedVariables false
set_option linter.unusedSimpArgs false
abbrev Laid (w : World) : Prop := Va.Laid w
theorem Laid.below {w w' : World} (h : Laid w) (hb : Below w.heap.size w w') : Laid w' := Va.Laid.below h hb
def FB (n : Int) (s : ByteArray) : Prop := (-9223372036854775808 ≤ n ∧ n ≤ 9223372036854775807) ∧ s.size ≤ 140737488355328
instance (n : Int) (s : ByteArray) : Decidable (FB n s) := inferInstanceAs (Decidable (_ ∧ _))
theorem FB.fits {k n : Int} {s : ByteArray} (h : FB n s) : Fits (k, n, s) := ⟨by have := h.1; simp only [I64]; omega, h.2⟩
def value_Right.f (a0 a1 : Int) (a2 : ByteArray) : Option (Bool) := some (rightS a0 a1 a2)
theorem value_Right.calls (a0_0 a0_1 : Int) (a0_2 : ByteArray) (r : Bool) (w : World) (h : value_Right.f a0_0 a0_1 a0_2 = some r) :
    Calls Tryz.prog 52 #[.agg #[.int .i64 a0_0, .int .i64 a0_1, .string a0_2]] w fun e w' => e = .returned (.bool r) ∧ Below w.heap.size w w' := by
  unfold value_Right.f at h
  cases h
  exact vright_run (a0_0, a0_1, a0_2) w
def value_Key.f (a0 a1 : Int) (a2 : ByteArray) : Option (ByteArray) := if FB a1 a2 then some (keyS a0 a1 a2) else none
def value_Num.f (a0 a1 : Int) (a2 : ByteArray) : Option (Int) := if FB a1 a2 then some (numS a0 a1 a2) else none
def q6_Right.f (a0 a1 : Int) (a2 : ByteArray) : Option (Bool) := some (rightS a0 a1 a2)
theorem q6_Right.calls (a0_0 a0_1 : Int) (a0_2 : ByteArray) (r : Bool) (w : World) (h : q6_Right.f a0_0 a0_1 a0_2 = some r) :
    Calls Tryz.prog 75 #[.agg #[.int .i64 a0_0, .int .i64 a0_1, .string a0_2]] w fun e w' => e = .returned (.bool r) ∧ Below w.heap.size w w' := by
  unfold q6_Right.f at h
  cases h
  exact rright_run (a0_0, a0_1, a0_2) w
def q6_Key.f (a0 a1 : Int) (a2 : ByteArray) : Option (ByteArray) := if FB a1 a2 then some (keyS a0 a1 a2) else none
theorem q6_Key.calls (a0_0 a0_1 : Int) (a0_2 : ByteArray) (r : ByteArray) (w : World) (h : q6_Key.f a0_0 a0_1 a0_2 = some r) :
    Calls Tryz.prog 84 #[.agg #[.int .i64 a0_0, .int .i64 a0_1, .string a0_2]] w fun e w' => e = .returned (.string r) ∧ Below w.heap.size w w' := by
  unfold q6_Key.f at h
  by_cases hc : FB a0_1 a0_2
  case neg => rw [if_neg hc] at h; cases h
  rw [if_pos hc] at h
  cases h
  exact rkey_run (a0_0, a0_1, a0_2) hc.fits w
def q6_Num.f (a0 a1 : Int) (a2 : ByteArray) : Option (Int) := if FB a1 a2 then some (numS a0 a1 a2) else none
def q6_Neg.f (a0 a1 : Int) (a2 : ByteArray) : Option (Int × Int × ByteArray) := if FB a1 a2 then some (negS (a0, a1, a2)) else none
def q6_Not.f (a0 a1 : Int) (a2 : ByteArray) : Option (Int × Int × ByteArray) := if rightS a0 a1 a2 = true then some (boolS (!truthyS a0 a1 a2)) else none
def value_Two.f (s : ByteArray) (a0 a1 : Int) (a2 : ByteArray) (b0 b1 : Int) (b2 : ByteArray) : Option (Int × Int × ByteArray × Int) := if FB a1 a2 ∧ FB b1 b2 ∧ s.size ≤ maxLen then some ((twoS s.data.toList (a0, a1, a2) (b0, b1, b2)).1.1, (twoS s.data.toList (a0, a1, a2) (b0, b1, b2)).1.2.1, (twoS s.data.toList (a0, a1, a2) (b0, b1, b2)).1.2.2, (twoS s.data.toList (a0, a1, a2) (b0, b1, b2)).2) else none
theorem value_Two.calls (s : ByteArray) (a0 a1 : Int) (a2 : ByteArray) (b0 b1 : Int) (b2 : ByteArray) (r1 r2 : Int) (r3 : ByteArray) (r4 : Int) (w : World) (hL : Laid w) (h : value_Two.f s a0 a1 a2 b0 b1 b2 = some (r1, r2, r3, r4)) :
    Calls Tryz.prog 60 #[.string s, .agg #[.int .i64 a0, .int .i64 a1, .string a2], .agg #[.int .i64 b0, .int .i64 b1, .string b2]] w fun e w' => e = .returned (.tuple #[.agg #[.int .i64 r1, .int .i64 r2, .string r3], .int .i64 r4]) ∧ Below w.heap.size w w' := by
  unfold value_Two.f at h
  by_cases hc : FB a1 a2 ∧ FB b1 b2 ∧ s.size ≤ maxLen
  case neg => rw [if_neg hc] at h; cases h
  rw [if_pos hc] at h
  cases h
  exact vtwo_run s (a0, a1, a2) (b0, b1, b2) hc.2.2 hc.1.fits hc.2.1.fits w hL
def q6_Two.f (s : ByteArray) (a0 a1 : Int) (a2 : ByteArray) (b0 b1 : Int) (b2 : ByteArray) : Option (Int × Int × ByteArray × Int) := if FB a1 a2 ∧ FB b1 b2 then some ((twoS s.data.toList (a0, a1, a2) (b0, b1, b2)).1.1, (twoS s.data.toList (a0, a1, a2) (b0, b1, b2)).1.2.1, (twoS s.data.toList (a0, a1, a2) (b0, b1, b2)).1.2.2, (twoS s.data.toList (a0, a1, a2) (b0, b1, b2)).2) else none
theorem q6_Two.calls (s : ByteArray) (a0 a1 : Int) (a2 : ByteArray) (b0 b1 : Int) (b2 : ByteArray) (r1 r2 : Int) (r3 : ByteArray) (r4 : Int) (w : World) (h : q6_Two.f s a0 a1 a2 b0 b1 b2 = some (r1, r2, r3, r4)) :
    Calls Tryz.prog 90 #[.string s, .agg #[.int .i64 a0, .int .i64 a1, .string a2], .agg #[.int .i64 b0, .int .i64 b1, .string b2]] w fun e w' => e = .returned (.tuple #[.agg #[.int .i64 r1, .int .i64 r2, .string r3], .int .i64 r4]) ∧ Below w.heap.size w w' := by
  unfold q6_Two.f at h
  by_cases hc : FB a1 a2 ∧ FB b1 b2
  case neg => rw [if_neg hc] at h; cases h
  rw [if_pos hc] at h
  cases h
  exact rtwo_run s (a0, a1, a2) (b0, b1, b2) hc.1.fits hc.2.fits w
def gumshoelaw06_text.f (s : ByteArray) : Option (Int × Int × ByteArray) := some (4, 0, s)
def gumshoelaw06_num.f (n : Int) : Option (Int × Int × ByteArray) := some (3, n, ⟨#[]⟩)
end Go.Proofs.YtjlhhjfmekjbhaaGreatDoor.Vb

namespace Go.Proofs.YtjlhhjfmekjbhaaGreatDoor.Pq
open Go.RowKit Go.Proofs.YtjlhhjfmekjbhaaGreatDoor.Vb Go.Proofs.YtjlhhjfmekjbhaaGreatDoorW.PrintWords Go.Proofs.YtjlhhjfmekjbhaaGreatDoorW.PrintLast Go.Proofs.YtjlhhjfmekjbhaaGreatDoorW.PrintMore
set_option linter.unusedVariables false
set_option linter.unusedSimpArgs false
/-! ### q9_sign: function 76 -/
def q9_sign.f (a0 : ByteArray) : Option (Bool) := (q6_Two.f a0 0 0 (⟨#[]⟩ : ByteArray) 0 0 (⟨#[]⟩ : ByteArray)).bind fun bt101 => (some (bt101.2.2.2 == 0))
set_option maxHeartbeats 8000000 in
set_option maxRecDepth 100000 in
theorem q9_sign.calls (a0 : ByteArray) (r : Bool) (w : World) (h : q9_sign.f a0 = some r) :
  Calls Tryz.prog 76 #[.string a0] w fun e w' => e = .returned (.bool r) ∧ Below w.heap.size w w' := by
 have hu83 := Tryz.underlying83
 have HB := Aside0.mk (Below.refl w.heap.size w)
 have H : ((q6_Two.f a0 0 0 (⟨#[]⟩ : ByteArray) 0 0 (⟨#[]⟩ : ByteArray)).bind fun bt101 => (some (bt101.2.2.2 == 0))) = some r := h
 clear h
 replace H := Option.bind_eq_some_iff.mp H
 obtain ⟨⟨t101, t102, t103, t104⟩, A20, H⟩ := H
 replace H : (some (t104 == 0)) = some r := H
 have A2 := Aside0.mk A20
 clear A20
 obtain rfl := Option.some.inj H
 go_enter Tryz.func76, Tryz.ntmps76
 go_wp2_with (first | ((with_reducible refine gate_callee (f := 90) rfl ?_); refine goesL_ (some 9) rfl rfl Tryz.func90 (by kernel_rfl) rfl #[.string a0, .agg #[.int .i64 0, .int .i64 0, .string (⟨#[]⟩ : ByteArray)], .agg #[.int .i64 0, .int .i64 0, .string (⟨#[]⟩ : ByteArray)]] rfl zP ?_; (with_reducible refine (q6_Two.calls a0 0 0 (⟨#[]⟩ : ByteArray) 0 0 (⟨#[]⟩ : ByteArray) t101 t102 t103 t104 _ A2.out).mono ?_); rintro e w3 ⟨rfl, hb⟩; refine ⟨_, rfl, ?_⟩; replace HB := Aside0.mk (below_step zB hb); (try clear hb)) | ((with_reducible refine gate_dst (N := 3) rfl ?_); refine zX (N := 3) (cs := #[.int .i64 0, .int .i64 0, .string (⟨#[]⟩ : ByteArray)]) (t := 83) (h := ?_); intro gb105 hg w4 hbox hb; have BK105 := Aside0.mk hbox; have GW105 := Aside0.mk ((zS : w.heap.size ≤ gb105)); have GE105 := Aside0.mk ((zS : w.heap.size ≤ gb105)); replace HB := Aside0.mk (below_step zB hb); clear hb hbox hg; obtain ⟨hcz5_0, hcz5_1, hcz5_2, hfz5_0, hfz5_1, hfz5_2⟩ := zd3 BK105.out (.int .i64 0) (.int .i64 0) (.string (⟨#[]⟩ : ByteArray))))
 go_ret
 exact ⟨zE, zG⟩
end Go.Proofs.YtjlhhjfmekjbhaaGreatDoor.Pq

namespace Go.Proofs.YtjlhhjfmekjbhaaGreatDoor.Pq
open Go.RowKit Go.Proofs.YtjlhhjfmekjbhaaGreatDoorW.PrintWords Go.Proofs.YtjlhhjfmekjbhaaGreatDoorW.PrintLast Go.Proofs.YtjlhhjfmekjbhaaGreatDoorW.PrintMore
set_option linter.unusedVariables false
set_option linter.unusedSimpArgs false
/-! ### q9_number: function 77 -/
def q9_number.f (k : Nat) (a0_0 : Int) (a0_1 : Int) (a0_2 : Int) (a0_3 : Int) (a0_4 : Int) (a0_5 : ByteArray) (a0_6 : Int) (l0_7 : List Int) (a1 : ByteArray) (a2_0 : Int) (l2_1 : List (S31)) (a3 : Int) : Option (Bool) := (q9_has.f k a1 78).bind fun t108 => (if t108 = true then (some true) else ((q9_has.f k a1 118).bind fun t109 => (if t109 = true then (if a0_6 ≥ 0 then (if a0_6 < (wrap64 (a3 * 1000)) then (some (decide ((Int.tmod a0_6 1000) < 200))) else (some false)) else (some false)) else ((q9_has.f k a1 109).bind fun t110 => (if t110 = true then (if a0_6 ≥ 4 then (some (decide (a0_6 ≤ 1000000))) else (some false)) else ((q9_has.f k a1 102).bind fun t111 => (if t111 = true then (if a0_6 > 0 then (some (decide (a0_6 < a3))) else (some false)) else ((q9_has.f k a1 106).bind fun t112 => (if t112 = true then (if a0_6 ≥ 0 then (some (decide (a0_6 < (l2_1.length : Int)))) else (some false)) else (some (a0_6 == 0)))))))))))
set_option maxHeartbeats 8000000 in
set_option maxRecDepth 100000 in
theorem q9_number.calls (k : Nat) (a0_0 : Int) (a0_1 : Int) (a0_2 : Int) (a0_3 : Int) (a0_4 : Int) (a0_5 : ByteArray) (a0_6 : Int) (A0_7 : Option Addr) (c0_7 : Nat) (l0_7 : List Int) (a1 : ByteArray) (a2_0 : Int) (A2_1 : Option Addr) (c2_1 : Nat) (l2_1 : List (S31)) (a3 : Int) (r : Bool) (w : World) (hr0_7 : Kd.C (Kd.int .i64) w A0_7 l0_7.length l0_7) (hc0_7 : l0_7.length ≤ c0_7) (hr2_1 : Kd.C k31 w A2_1 l2_1.length l2_1) (hc2_1 : l2_1.length ≤ c2_1) (h : q9_number.f k a0_0 a0_1 a0_2 a0_3 a0_4 a0_5 a0_6 l0_7 a1 a2_0 l2_1 a3 = some r) :
  Calls Tryz.prog 77 #[.agg #[.int .i64 a0_0, .int .i64 a0_1, .int .i64 a0_2, .int .i64 a0_3, .int .i64 a0_4, .string a0_5, .int .i64 a0_6, .slice A0_7 l0_7.length c0_7], .string a1, .agg #[.int .i64 a2_0, .slice A2_1 l2_1.length c2_1], .int .i64 a3] w fun e w' => e = .returned (.bool r) ∧ Below w.heap.size w w' := by
 have hu31 := Tryz.underlying31
 have hu28 := Tryz.underlying28
 have HR0_7 := Aside0.mk hr0_7
 have HC0_7 := Aside0.mk hc0_7
 clear hr0_7 hc0_7
 have HR2_1 := Aside0.mk hr2_1
 have HC2_1 := Aside0.mk hc2_1
 clear hr2_1 hc2_1
 have HB := Aside0.mk (Below.refl w.heap.size w)
 have H : ((q9_has.f k a1 78).bind fun t108 => (if t108 = true then (some true) else ((q9_has.f k a1 118).bind fun t109 => (if t109 = true then (if a0_6 ≥ 0 then (if a0_6 < (wrap64 (a3 * 1000)) then (some (decide ((Int.tmod a0_6 1000) < 200))) else (some false)) else (some false)) else ((q9_has.f k a1 109).bind fun t110 => (if t110 = true then (if a0_6 ≥ 4 then (some (decide (a0_6 ≤ 1000000))) else (some false)) else ((q9_has.f k a1 102).bind fun t111 => (if t111 = true then (if a0_6 > 0 then (some (decide (a0_6 < a3))) else (some false)) else ((q9_has.f k a1 106).bind fun t112 => (if t112 = true then (if a0_6 ≥ 0 then (some (decide (a0_6 < (l2_1.length : Int)))) else (some false)) else (some (a0_6 == 0)))))))))))) = some r := h
 clear h
 obtain ⟨t108, A5, H⟩ := zO H
 by_cases c6 : t108 = true
 ·subst c6
  rw [if_pos rfl] at H
  obtain rfl := Option.some.inj H
  go_enter Tryz.func77, Tryz.ntmps77
  go_wp2_with (first | ((with_reducible refine gate_dst (N := 4) rfl ?_); (try (refine gate_guard (by rfl) ?_; dsimp only)); refine zX (N := 4) (cs := #[.int .i64 a0_0, .int .i64 a0_1, .int .i64 a0_2, .int .i64 a0_3, .int .i64 a0_4, .string a0_5, .int .i64 a0_6, .slice A0_7 l0_7.length c0_7]) (t := 31) (h := ?_); intro gb106 hg w7 hbox hb; have BK106 := Aside0.mk hbox; have GW106 := Aside0.mk ((zS : w.heap.size ≤ gb106)); have GE106 := Aside0.mk ((zS : w.heap.size ≤ gb106)); replace HB := Aside0.mk (below_step zB hb); clear hb hbox hg) | ((with_reducible refine gate_dst (N := 6) rfl ?_); (try (refine gate_guard (by rfl) ?_; dsimp only)); refine zX (N := 6) (cs := #[.int .i64 a2_0, .slice A2_1 l2_1.length c2_1]) (t := 28) (h := ?_); intro gb107 hg w8 hbox hb; have BK107 := Aside0.mk hbox; have GW107 := Aside0.mk ((zT : w.heap.size ≤ gb107)); have GE107 := Aside0.mk ((zT : w.heap.size ≤ gb107)); have NB106_107 := Aside0.mk ((zL : gb106 ≠ gb107)); have NB107_106 := Aside0.mk ((zM : gb107 ≠ gb106)); replace BK106 := Aside0.mk (blk_below (g := gb106) zK hb); replace HB := Aside0.mk (below_step zG hb); clear hb hbox hg) | ((with_reducible refine gate_callee (f := 74) rfl ?_); refine goesL_ (some 10) rfl rfl Tryz.func74 (by kernel_rfl) rfl #[.string a1, .int .u8 78] rfl zP ?_; (with_reducible refine (q9_has.calls k a1 78 true _ A5.out).mono ?_); rintro e w' ⟨rfl, ⟨nd, rfl⟩⟩; refine ⟨_, rfl, ?_⟩))
  go_ret
  exact ⟨zE, zG⟩
 ·replace c6 := Bool.eq_false_iff.mpr c6
  subst c6
  rw [if_neg (show ¬ (false = true) by decide)] at H
  obtain ⟨t109, A9, H⟩ := zO H
  by_cases c10 : t109 = true
  ·subst c10
   rw [if_pos rfl] at H
   by_cases c11 : a0_6 ≥ 0
   ·rw [if_pos c11] at H
    have c11b0 : decide (0 ≤ a0_6) = true := decide_eq_true c11
    clear c11
    by_cases c12 : a0_6 < (wrap64 (a3 * 1000))
    ·rw [if_pos c12] at H
     have c12b0 : decide (a0_6 < (wrap64 (a3 * 1000))) = true := decide_eq_true c12
     clear c12
     obtain rfl := Option.some.inj H
     go_enter Tryz.func77, Tryz.ntmps77
     go_wp2_with (first | ((with_reducible refine gate_callee (f := 74) rfl ?_); refine goesL_ (some 12) rfl rfl Tryz.func74 (by kernel_rfl) rfl #[.string a1, .int .u8 118] rfl zP ?_; (with_reducible refine (q9_has.calls k a1 118 true _ A9.out).mono ?_); rintro e w' ⟨rfl, ⟨nd, rfl⟩⟩; refine ⟨_, rfl, ?_⟩; have hnb15 := NB106_107.out; have hnc15 := NB107_106.out; obtain ⟨hcz16_0, hcz16_1, hcz16_2, hcz16_3, hcz16_4, hcz16_5, hcz16_6, hcz16_7, hfz16_0, hfz16_1, hfz16_2, hfz16_3, hfz16_4, hfz16_5, hfz16_6, hfz16_7⟩ := zd8 BK106.out (.int .i64 a0_0) (.int .i64 a0_1) (.int .i64 a0_2) (.int .i64 a0_3) (.int .i64 a0_4) (.string a0_5) (.int .i64 a0_6) (.slice A0_7 l0_7.length c0_7)) | ((with_reducible refine gate_callee (f := 74) rfl ?_); refine goesL_ (some 10) rfl rfl Tryz.func74 (by kernel_rfl) rfl #[.string a1, .int .u8 78] rfl zP ?_; (with_reducible refine (q9_has.calls k a1 78 false _ A5.out).mono ?_); rintro e w' ⟨rfl, ⟨nd, rfl⟩⟩; refine ⟨_, rfl, ?_⟩) | ((with_reducible refine gate_dst (N := 6) rfl ?_); (try (refine gate_guard (by rfl) ?_; dsimp only)); refine zX (N := 6) (cs := #[.int .i64 a2_0, .slice A2_1 l2_1.length c2_1]) (t := 28) (h := ?_); intro gb107 hg w14 hbox hb; have BK107 := Aside0.mk hbox; have GW107 := Aside0.mk ((zT : w.heap.size ≤ gb107)); have GE107 := Aside0.mk ((zT : w.heap.size ≤ gb107)); have NB106_107 := Aside0.mk ((zL : gb106 ≠ gb107)); have NB107_106 := Aside0.mk ((zM : gb107 ≠ gb106)); replace BK106 := Aside0.mk (blk_below (g := gb106) zK hb); replace HB := Aside0.mk (below_step zG hb); clear hb hbox hg) | ((with_reducible refine gate_dst (N := 4) rfl ?_); (try (refine gate_guard (by rfl) ?_; dsimp only)); refine zX (N := 4) (cs := #[.int .i64 a0_0, .int .i64 a0_1, .int .i64 a0_2, .int .i64 a0_3, .int .i64 a0_4, .string a0_5, .int .i64 a0_6, .slice A0_7 l0_7.length c0_7]) (t := 31) (h := ?_); intro gb106 hg w13 hbox hb; have BK106 := Aside0.mk hbox; have GW106 := Aside0.mk ((zS : w.heap.size ≤ gb106)); have GE106 := Aside0.mk ((zS : w.heap.size ≤ gb106)); replace HB := Aside0.mk (below_step zB hb); clear hb hbox hg))
     go_ret
     exact ⟨zE, zG⟩
    ·rw [if_neg c12] at H
     have c12b0 : decide (a0_6 < (wrap64 (a3 * 1000))) = false := decide_eq_false c12
     clear c12
     obtain rfl := Option.some.inj H
     go_enter Tryz.func77, Tryz.ntmps77
     go_wp2_with (first | ((with_reducible refine gate_callee (f := 74) rfl ?_); refine goesL_ (some 12) rfl rfl Tryz.func74 (by kernel_rfl) rfl #[.string a1, .int .u8 118] rfl zP ?_; (with_reducible refine (q9_has.calls k a1 118 true _ A9.out).mono ?_); rintro e w' ⟨rfl, ⟨nd, rfl⟩⟩; refine ⟨_, rfl, ?_⟩; have hnb19 := NB106_107.out; have hnc19 := NB107_106.out; obtain ⟨hcz20_0, hcz20_1, hcz20_2, hcz20_3, hcz20_4, hcz20_5, hcz20_6, hcz20_7, hfz20_0, hfz20_1, hfz20_2, hfz20_3, hfz20_4, hfz20_5, hfz20_6, hfz20_7⟩ := zd8 BK106.out (.int .i64 a0_0) (.int .i64 a0_1) (.int .i64 a0_2) (.int .i64 a0_3) (.int .i64 a0_4) (.string a0_5) (.int .i64 a0_6) (.slice A0_7 l0_7.length c0_7)) | ((with_reducible refine gate_callee (f := 74) rfl ?_); refine goesL_ (some 10) rfl rfl Tryz.func74 (by kernel_rfl) rfl #[.string a1, .int .u8 78] rfl zP ?_; (with_reducible refine (q9_has.calls k a1 78 false _ A5.out).mono ?_); rintro e w' ⟨rfl, ⟨nd, rfl⟩⟩; refine ⟨_, rfl, ?_⟩) | ((with_reducible refine gate_dst (N := 6) rfl ?_); (try (refine gate_guard (by rfl) ?_; dsimp only)); refine zX (N := 6) (cs := #[.int .i64 a2_0, .slice A2_1 l2_1.length c2_1]) (t := 28) (h := ?_); intro gb107 hg w18 hbox hb; have BK107 := Aside0.mk hbox; have GW107 := Aside0.mk ((zT : w.heap.size ≤ gb107)); have GE107 := Aside0.mk ((zT : w.heap.size ≤ gb107)); have NB106_107 := Aside0.mk ((zL : gb106 ≠ gb107)); have NB107_106 := Aside0.mk ((zM : gb107 ≠ gb106)); replace BK106 := Aside0.mk (blk_below (g := gb106) zK hb); replace HB := Aside0.mk (below_step zG hb); clear hb hbox hg) | ((with_reducible refine gate_dst (N := 4) rfl ?_); (try (refine gate_guard (by rfl) ?_; dsimp only)); refine zX (N := 4) (cs := #[.int .i64 a0_0, .int .i64 a0_1, .int .i64 a0_2, .int .i64 a0_3, .int .i64 a0_4, .string a0_5, .int .i64 a0_6, .slice A0_7 l0_7.length c0_7]) (t := 31) (h := ?_); intro gb106 hg w17 hbox hb; have BK106 := Aside0.mk hbox; have GW106 := Aside0.mk ((zS : w.heap.size ≤ gb106)); have GE106 := Aside0.mk ((zS : w.heap.size ≤ gb106)); replace HB := Aside0.mk (below_step zB hb); clear hb hbox hg))
     go_ret
     exact ⟨zE, zG⟩
   ·rw [if_neg c11] at H
    have c11b0 : decide (0 ≤ a0_6) = false := decide_eq_false c11
    clear c11
    obtain rfl := Option.some.inj H
    go_enter Tryz.func77, Tryz.ntmps77
    go_wp2_with (first | ((with_reducible refine gate_callee (f := 74) rfl ?_); refine goesL_ (some 12) rfl rfl Tryz.func74 (by kernel_rfl) rfl #[.string a1, .int .u8 118] rfl zP ?_; (with_reducible refine (q9_has.calls k a1 118 true _ A9.out).mono ?_); rintro e w' ⟨rfl, ⟨nd, rfl⟩⟩; refine ⟨_, rfl, ?_⟩; have hnb23 := NB106_107.out; have hnc23 := NB107_106.out; obtain ⟨hcz24_0, hcz24_1, hcz24_2, hcz24_3, hcz24_4, hcz24_5, hcz24_6, hcz24_7, hfz24_0, hfz24_1, hfz24_2, hfz24_3, hfz24_4, hfz24_5, hfz24_6, hfz24_7⟩ := zd8 BK106.out (.int .i64 a0_0) (.int .i64 a0_1) (.int .i64 a0_2) (.int .i64 a0_3) (.int .i64 a0_4) (.string a0_5) (.int .i64 a0_6) (.slice A0_7 l0_7.length c0_7)) | ((with_reducible refine gate_callee (f := 74) rfl ?_); refine goesL_ (some 10) rfl rfl Tryz.func74 (by kernel_rfl) rfl #[.string a1, .int .u8 78] rfl zP ?_; (with_reducible refine (q9_has.calls k a1 78 false _ A5.out).mono ?_); rintro e w' ⟨rfl, ⟨nd, rfl⟩⟩; refine ⟨_, rfl, ?_⟩) | ((with_reducible refine gate_dst (N := 6) rfl ?_); (try (refine gate_guard (by rfl) ?_; dsimp only)); refine zX (N := 6) (cs := #[.int .i64 a2_0, .slice A2_1 l2_1.length c2_1]) (t := 28) (h := ?_); intro gb107 hg w22 hbox hb; have BK107 := Aside0.mk hbox; have GW107 := Aside0.mk ((zT : w.heap.size ≤ gb107)); have GE107 := Aside0.mk ((zT : w.heap.size ≤ gb107)); have NB106_107 := Aside0.mk ((zL : gb106 ≠ gb107)); have NB107_106 := Aside0.mk ((zM : gb107 ≠ gb106)); replace BK106 := Aside0.mk (blk_below (g := gb106) zK hb); replace HB := Aside0.mk (below_step zG hb); clear hb hbox hg) | ((with_reducible refine gate_dst (N := 4) rfl ?_); (try (refine gate_guard (by rfl) ?_; dsimp only)); refine zX (N := 4) (cs := #[.int .i64 a0_0, .int .i64 a0_1, .int .i64 a0_2, .int .i64 a0_3, .int .i64 a0_4, .string a0_5, .int .i64 a0_6, .slice A0_7 l0_7.length c0_7]) (t := 31) (h := ?_); intro gb106 hg w21 hbox hb; have BK106 := Aside0.mk hbox; have GW106 := Aside0.mk ((zS : w.heap.size ≤ gb106)); have GE106 := Aside0.mk ((zS : w.heap.size ≤ gb106)); replace HB := Aside0.mk (below_step zB hb); clear hb hbox hg))
    go_ret
    exact ⟨zE, zG⟩
  ·replace c10 := Bool.eq_false_iff.mpr c10
   subst c10
   rw [if_neg (show ¬ (false = true) by decide)] at H
   obtain ⟨t110, A25, H⟩ := zO H
   by_cases c26 : t110 = true
   ·subst c26
    rw [if_pos rfl] at H
    by_cases c27 : a0_6 ≥ 4
    ·rw [if_pos c27] at H
     have c27b0 : decide (4 ≤ a0_6) = true := decide_eq_true c27
     clear c27
     obtain rfl := Option.some.inj H
     go_enter Tryz.func77, Tryz.ntmps77
     go_wp2_with (first | ((with_reducible refine gate_callee (f := 74) rfl ?_); refine goesL_ (some 30) rfl rfl Tryz.func74 (by kernel_rfl) rfl #[.string a1, .int .u8 109] rfl zP ?_; (with_reducible refine (q9_has.calls k a1 109 true _ A25.out).mono ?_); rintro e w' ⟨rfl, ⟨nd, rfl⟩⟩; refine ⟨_, rfl, ?_⟩; have hnb30 := NB106_107.out; have hnc30 := NB107_106.out; obtain ⟨hcz31_0, hcz31_1, hcz31_2, hcz31_3, hcz31_4, hcz31_5, hcz31_6, hcz31_7, hfz31_0, hfz31_1, hfz31_2, hfz31_3, hfz31_4, hfz31_5, hfz31_6, hfz31_7⟩ := zd8 BK106.out (.int .i64 a0_0) (.int .i64 a0_1) (.int .i64 a0_2) (.int .i64 a0_3) (.int .i64 a0_4) (.string a0_5) (.int .i64 a0_6) (.slice A0_7 l0_7.length c0_7)) | ((with_reducible refine gate_callee (f := 74) rfl ?_); refine goesL_ (some 12) rfl rfl Tryz.func74 (by kernel_rfl) rfl #[.string a1, .int .u8 118] rfl zP ?_; (with_reducible refine (q9_has.calls k a1 118 false _ A9.out).mono ?_); rintro e w' ⟨rfl, ⟨nd, rfl⟩⟩; refine ⟨_, rfl, ?_⟩) | ((with_reducible refine gate_callee (f := 74) rfl ?_); refine goesL_ (some 10) rfl rfl Tryz.func74 (by kernel_rfl) rfl #[.string a1, .int .u8 78] rfl zP ?_; (with_reducible refine (q9_has.calls k a1 78 false _ A5.out).mono ?_); rintro e w' ⟨rfl, ⟨nd, rfl⟩⟩; refine ⟨_, rfl, ?_⟩) | ((with_reducible refine gate_dst (N := 6) rfl ?_); (try (refine gate_guard (by rfl) ?_; dsimp only)); refine zX (N := 6) (cs := #[.int .i64 a2_0, .slice A2_1 l2_1.length c2_1]) (t := 28) (h := ?_); intro gb107 hg w29 hbox hb; have BK107 := Aside0.mk hbox; have GW107 := Aside0.mk ((zT : w.heap.size ≤ gb107)); have GE107 := Aside0.mk ((zT : w.heap.size ≤ gb107)); have NB106_107 := Aside0.mk ((zL : gb106 ≠ gb107)); have NB107_106 := Aside0.mk ((zM : gb107 ≠ gb106)); replace BK106 := Aside0.mk (blk_below (g := gb106) zK hb); replace HB := Aside0.mk (below_step zG hb); clear hb hbox hg) | ((with_reducible refine gate_dst (N := 4) rfl ?_); (try (refine gate_guard (by rfl) ?_; dsimp only)); refine zX (N := 4) (cs := #[.int .i64 a0_0, .int .i64 a0_1, .int .i64 a0_2, .int .i64 a0_3, .int .i64 a0_4, .string a0_5, .int .i64 a0_6, .slice A0_7 l0_7.length c0_7]) (t := 31) (h := ?_); intro gb106 hg w28 hbox hb; have BK106 := Aside0.mk hbox; have GW106 := Aside0.mk ((zS : w.heap.size ≤ gb106)); have GE106 := Aside0.mk ((zS : w.heap.size ≤ gb106)); replace HB := Aside0.mk (below_step zB hb); clear hb hbox hg))
     go_ret
     exact ⟨zE, zG⟩
    ·rw [if_neg c27] at H
     have c27b0 : decide (4 ≤ a0_6) = false := decide_eq_false c27
     clear c27
     obtain rfl := Option.some.inj H
     go_enter Tryz.func77, Tryz.ntmps77
     go_wp2_with (first | ((with_reducible refine gate_callee (f := 74) rfl ?_); refine goesL_ (some 30) rfl rfl Tryz.func74 (by kernel_rfl) rfl #[.string a1, .int .u8 109] rfl zP ?_; (with_reducible refine (q9_has.calls k a1 109 true _ A25.out).mono ?_); rintro e w' ⟨rfl, ⟨nd, rfl⟩⟩; refine ⟨_, rfl, ?_⟩; have hnb34 := NB106_107.out; have hnc34 := NB107_106.out; obtain ⟨hcz35_0, hcz35_1, hcz35_2, hcz35_3, hcz35_4, hcz35_5, hcz35_6, hcz35_7, hfz35_0, hfz35_1, hfz35_2, hfz35_3, hfz35_4, hfz35_5, hfz35_6, hfz35_7⟩ := zd8 BK106.out (.int .i64 a0_0) (.int .i64 a0_1) (.int .i64 a0_2) (.int .i64 a0_3) (.int .i64 a0_4) (.string a0_5) (.int .i64 a0_6) (.slice A0_7 l0_7.length c0_7)) | ((with_reducible refine gate_callee (f := 74) rfl ?_); refine goesL_ (some 12) rfl rfl Tryz.func74 (by kernel_rfl) rfl #[.string a1, .int .u8 118] rfl zP ?_; (with_reducible refine (q9_has.calls k a1 118 false _ A9.out).mono ?_); rintro e w' ⟨rfl, ⟨nd, rfl⟩⟩; refine ⟨_, rfl, ?_⟩) | ((with_reducible refine gate_callee (f := 74) rfl ?_); refine goesL_ (some 10) rfl rfl Tryz.func74 (by kernel_rfl) rfl #[.string a1, .int .u8 78] rfl zP ?_; (with_reducible refine (q9_has.calls k a1 78 false _ A5.out).mono ?_); rintro e w' ⟨rfl, ⟨nd, rfl⟩⟩; refine ⟨_, rfl, ?_⟩) | ((with_reducible refine gate_dst (N := 6) rfl ?_); (try (refine gate_guard (by rfl) ?_; dsimp only)); refine zX (N := 6) (cs := #[.int .i64 a2_0, .slice A2_1 l2_1.length c2_1]) (t := 28) (h := ?_); intro gb107 hg w33 hbox hb; have BK107 := Aside0.mk hbox; have GW107 := Aside0.mk ((zT : w.heap.size ≤ gb107)); have GE107 := Aside0.mk ((zT : w.heap.size ≤ gb107)); have NB106_107 := Aside0.mk ((zL : gb106 ≠ gb107)); have NB107_106 := Aside0.mk ((zM : gb107 ≠ gb106)); replace BK106 := Aside0.mk (blk_below (g := gb106) zK hb); replace HB := Aside0.mk (below_step zG hb); clear hb hbox hg) | ((with_reducible refine gate_dst (N := 4) rfl ?_); (try (refine gate_guard (by rfl) ?_; dsimp only)); refine zX (N := 4) (cs := #[.int .i64 a0_0, .int .i64 a0_1, .int .i64 a0_2, .int .i64 a0_3, .int .i64 a0_4, .string a0_5, .int .i64 a0_6, .slice A0_7 l0_7.length c0_7]) (t := 31) (h := ?_); intro gb106 hg w32 hbox hb; have BK106 := Aside0.mk hbox; have GW106 := Aside0.mk ((zS : w.heap.size ≤ gb106)); have GE106 := Aside0.mk ((zS : w.heap.size ≤ gb106)); replace HB := Aside0.mk (below_step zB hb); clear hb hbox hg))
     go_ret
     exact ⟨zE, zG⟩
   ·replace c26 := Bool.eq_false_iff.mpr c26
    subst c26
    rw [if_neg (show ¬ (false = true) by decide)] at H
    obtain ⟨t111, A36, H⟩ := zO H
    by_cases c37 : t111 = true
    ·subst c37
     rw [if_pos rfl] at H
     by_cases c38 : a0_6 > 0
     ·rw [if_pos c38] at H
      have c38b0 : decide (0 < a0_6) = true := decide_eq_true c38
      clear c38
      obtain rfl := Option.some.inj H
      go_enter Tryz.func77, Tryz.ntmps77
      go_wp2_with (first | ((with_reducible refine gate_callee (f := 74) rfl ?_); refine goesL_ (some 40) rfl rfl Tryz.func74 (by kernel_rfl) rfl #[.string a1, .int .u8 102] rfl zP ?_; (with_reducible refine (q9_has.calls k a1 102 true _ A36.out).mono ?_); rintro e w' ⟨rfl, ⟨nd, rfl⟩⟩; refine ⟨_, rfl, ?_⟩; have hnb41 := NB106_107.out; have hnc41 := NB107_106.out; obtain ⟨hcz42_0, hcz42_1, hcz42_2, hcz42_3, hcz42_4, hcz42_5, hcz42_6, hcz42_7, hfz42_0, hfz42_1, hfz42_2, hfz42_3, hfz42_4, hfz42_5, hfz42_6, hfz42_7⟩ := zd8 BK106.out (.int .i64 a0_0) (.int .i64 a0_1) (.int .i64 a0_2) (.int .i64 a0_3) (.int .i64 a0_4) (.string a0_5) (.int .i64 a0_6) (.slice A0_7 l0_7.length c0_7)) | ((with_reducible refine gate_callee (f := 74) rfl ?_); refine goesL_ (some 30) rfl rfl Tryz.func74 (by kernel_rfl) rfl #[.string a1, .int .u8 109] rfl zP ?_; (with_reducible refine (q9_has.calls k a1 109 false _ A25.out).mono ?_); rintro e w' ⟨rfl, ⟨nd, rfl⟩⟩; refine ⟨_, rfl, ?_⟩) | ((with_reducible refine gate_callee (f := 74) rfl ?_); refine goesL_ (some 12) rfl rfl Tryz.func74 (by kernel_rfl) rfl #[.string a1, .int .u8 118] rfl zP ?_; (with_reducible refine (q9_has.calls k a1 118 false _ A9.out).mono ?_); rintro e w' ⟨rfl, ⟨nd, rfl⟩⟩; refine ⟨_, rfl, ?_⟩) | ((with_reducible refine gate_callee (f := 74) rfl ?_); refine goesL_ (some 10) rfl rfl Tryz.func74 (by kernel_rfl) rfl #[.string a1, .int .u8 78] rfl zP ?_; (with_reducible refine (q9_has.calls k a1 78 false _ A5.out).mono ?_); rintro e w' ⟨rfl, ⟨nd, rfl⟩⟩; refine ⟨_, rfl, ?_⟩) | ((with_reducible refine gate_dst (N := 6) rfl ?_); (try (refine gate_guard (by rfl) ?_; dsimp only)); refine zX (N := 6) (cs := #[.int .i64 a2_0, .slice A2_1 l2_1.length c2_1]) (t := 28) (h := ?_); intro gb107 hg w40 hbox hb; have BK107 := Aside0.mk hbox; have GW107 := Aside0.mk ((zT : w.heap.size ≤ gb107)); have GE107 := Aside0.mk ((zT : w.heap.size ≤ gb107)); have NB106_107 := Aside0.mk ((zL : gb106 ≠ gb107)); have NB107_106 := Aside0.mk ((zM : gb107 ≠ gb106)); replace BK106 := Aside0.mk (blk_below (g := gb106) zK hb); replace HB := Aside0.mk (below_step zG hb); clear hb hbox hg) | ((with_reducible refine gate_dst (N := 4) rfl ?_); (try (refine gate_guard (by rfl) ?_; dsimp only)); refine zX (N := 4) (cs := #[.int .i64 a0_0, .int .i64 a0_1, .int .i64 a0_2, .int .i64 a0_3, .int .i64 a0_4, .string a0_5, .int .i64 a0_6, .slice A0_7 l0_7.length c0_7]) (t := 31) (h := ?_); intro gb106 hg w39 hbox hb; have BK106 := Aside0.mk hbox; have GW106 := Aside0.mk ((zS : w.heap.size ≤ gb106)); have GE106 := Aside0.mk ((zS : w.heap.size ≤ gb106)); replace HB := Aside0.mk (below_step zB hb); clear hb hbox hg))
      go_ret
      exact ⟨zE, zG⟩
     ·rw [if_neg c38] at H
      have c38b0 : decide (0 < a0_6) = false := decide_eq_false c38
      clear c38
      obtain rfl := Option.some.inj H
      go_enter Tryz.func77, Tryz.ntmps77
      go_wp2_with (first | ((with_reducible refine gate_callee (f := 74) rfl ?_); refine goesL_ (some 40) rfl rfl Tryz.func74 (by kernel_rfl) rfl #[.string a1, .int .u8 102] rfl zP ?_; (with_reducible refine (q9_has.calls k a1 102 true _ A36.out).mono ?_); rintro e w' ⟨rfl, ⟨nd, rfl⟩⟩; refine ⟨_, rfl, ?_⟩; have hnb45 := NB106_107.out; have hnc45 := NB107_106.out; obtain ⟨hcz46_0, hcz46_1, hcz46_2, hcz46_3, hcz46_4, hcz46_5, hcz46_6, hcz46_7, hfz46_0, hfz46_1, hfz46_2, hfz46_3, hfz46_4, hfz46_5, hfz46_6, hfz46_7⟩ := zd8 BK106.out (.int .i64 a0_0) (.int .i64 a0_1) (.int .i64 a0_2) (.int .i64 a0_3) (.int .i64 a0_4) (.string a0_5) (.int .i64 a0_6) (.slice A0_7 l0_7.length c0_7)) | ((with_reducible refine gate_callee (f := 74) rfl ?_); refine goesL_ (some 30) rfl rfl Tryz.func74 (by kernel_rfl) rfl #[.string a1, .int .u8 109] rfl zP ?_; (with_reducible refine (q9_has.calls k a1 109 false _ A25.out).mono ?_); rintro e w' ⟨rfl, ⟨nd, rfl⟩⟩; refine ⟨_, rfl, ?_⟩) | ((with_reducible refine gate_callee (f := 74) rfl ?_); refine goesL_ (some 12) rfl rfl Tryz.func74 (by kernel_rfl) rfl #[.string a1, .int .u8 118] rfl zP ?_; (with_reducible refine (q9_has.calls k a1 118 false _ A9.out).mono ?_); rintro e w' ⟨rfl, ⟨nd, rfl⟩⟩; refine ⟨_, rfl, ?_⟩) | ((with_reducible refine gate_callee (f := 74) rfl ?_); refine goesL_ (some 10) rfl rfl Tryz.func74 (by kernel_rfl) rfl #[.string a1, .int .u8 78] rfl zP ?_; (with_reducible refine (q9_has.calls k a1 78 false _ A5.out).mono ?_); rintro e w' ⟨rfl, ⟨nd, rfl⟩⟩; refine ⟨_, rfl, ?_⟩) | ((with_reducible refine gate_dst (N := 6) rfl ?_); (try (refine gate_guard (by rfl) ?_; dsimp only)); refine zX (N := 6) (cs := #[.int .i64 a2_0, .slice A2_1 l2_1.length c2_1]) (t := 28) (h := ?_); intro gb107 hg w44 hbox hb; have BK107 := Aside0.mk hbox; have GW107 := Aside0.mk ((zT : w.heap.size ≤ gb107)); have GE107 := Aside0.mk ((zT : w.heap.size ≤ gb107)); have NB106_107 := Aside0.mk ((zL : gb106 ≠ gb107)); have NB107_106 := Aside0.mk ((zM : gb107 ≠ gb106)); replace BK106 := Aside0.mk (blk_below (g := gb106) zK hb); replace HB := Aside0.mk (below_step zG hb); clear hb hbox hg) | ((with_reducible refine gate_dst (N := 4) rfl ?_); (try (refine gate_guard (by rfl) ?_; dsimp only)); refine zX (N := 4) (cs := #[.int .i64 a0_0, .int .i64 a0_1, .int .i64 a0_2, .int .i64 a0_3, .int .i64 a0_4, .string a0_5, .int .i64 a0_6, .slice A0_7 l0_7.length c0_7]) (t := 31) (h := ?_); intro gb106 hg w43 hbox hb; have BK106 := Aside0.mk hbox; have GW106 := Aside0.mk ((zS : w.heap.size ≤ gb106)); have GE106 := Aside0.mk ((zS : w.heap.size ≤ gb106)); replace HB := Aside0.mk (below_step zB hb); clear hb hbox hg))
      go_ret
      exact ⟨zE, zG⟩
    ·replace c37 := Bool.eq_false_iff.mpr c37
     subst c37
     rw [if_neg (show ¬ (false = true) by decide)] at H
     obtain ⟨t112, A47, H⟩ := zO H
     by_cases c48 : t112 = true
     ·subst c48
      rw [if_pos rfl] at H
      by_cases c49 : a0_6 ≥ 0
      ·rw [if_pos c49] at H
       have c49b0 : decide (0 ≤ a0_6) = true := decide_eq_true c49
       clear c49
       obtain rfl := Option.some.inj H
       go_enter Tryz.func77, Tryz.ntmps77
       go_wp2_with (first | ((with_reducible refine gate_callee (f := 74) rfl ?_); refine goesL_ (some 51) rfl rfl Tryz.func74 (by kernel_rfl) rfl #[.string a1, .int .u8 106] rfl zP ?_; (with_reducible refine (q9_has.calls k a1 106 true _ A47.out).mono ?_); rintro e w' ⟨rfl, ⟨nd, rfl⟩⟩; refine ⟨_, rfl, ?_⟩; have hnb52 := NB106_107.out; have hnc52 := NB107_106.out; obtain ⟨hcz53_0, hcz53_1, hcz53_2, hcz53_3, hcz53_4, hcz53_5, hcz53_6, hcz53_7, hfz53_0, hfz53_1, hfz53_2, hfz53_3, hfz53_4, hfz53_5, hfz53_6, hfz53_7⟩ := zd8 BK106.out (.int .i64 a0_0) (.int .i64 a0_1) (.int .i64 a0_2) (.int .i64 a0_3) (.int .i64 a0_4) (.string a0_5) (.int .i64 a0_6) (.slice A0_7 l0_7.length c0_7); obtain ⟨hcz54_0, hcz54_1, hfz54_0, hfz54_1⟩ := zd2 BK107.out (.int .i64 a2_0) (.slice A2_1 l2_1.length c2_1)) | ((with_reducible refine gate_callee (f := 74) rfl ?_); refine goesL_ (some 40) rfl rfl Tryz.func74 (by kernel_rfl) rfl #[.string a1, .int .u8 102] rfl zP ?_; (with_reducible refine (q9_has.calls k a1 102 false _ A36.out).mono ?_); rintro e w' ⟨rfl, ⟨nd, rfl⟩⟩; refine ⟨_, rfl, ?_⟩) | ((with_reducible refine gate_callee (f := 74) rfl ?_); refine goesL_ (some 30) rfl rfl Tryz.func74 (by kernel_rfl) rfl #[.string a1, .int .u8 109] rfl zP ?_; (with_reducible refine (q9_has.calls k a1 109 false _ A25.out).mono ?_); rintro e w' ⟨rfl, ⟨nd, rfl⟩⟩; refine ⟨_, rfl, ?_⟩) | ((with_reducible refine gate_callee (f := 74) rfl ?_); refine goesL_ (some 12) rfl rfl Tryz.func74 (by kernel_rfl) rfl #[.string a1, .int .u8 118] rfl zP ?_; (with_reducible refine (q9_has.calls k a1 118 false _ A9.out).mono ?_); rintro e w' ⟨rfl, ⟨nd, rfl⟩⟩; refine ⟨_, rfl, ?_⟩) | ((with_reducible refine gate_callee (f := 74) rfl ?_); refine goesL_ (some 10) rfl rfl Tryz.func74 (by kernel_rfl) rfl #[.string a1, .int .u8 78] rfl zP ?_; (with_reducible refine (q9_has.calls k a1 78 false _ A5.out).mono ?_); rintro e w' ⟨rfl, ⟨nd, rfl⟩⟩; refine ⟨_, rfl, ?_⟩) | ((with_reducible refine gate_dst (N := 6) rfl ?_); (try (refine gate_guard (by rfl) ?_; dsimp only)); refine zX (N := 6) (cs := #[.int .i64 a2_0, .slice A2_1 l2_1.length c2_1]) (t := 28) (h := ?_); intro gb107 hg w51 hbox hb; have BK107 := Aside0.mk hbox; have GW107 := Aside0.mk ((zT : w.heap.size ≤ gb107)); have GE107 := Aside0.mk ((zT : w.heap.size ≤ gb107)); have NB106_107 := Aside0.mk ((zL : gb106 ≠ gb107)); have NB107_106 := Aside0.mk ((zM : gb107 ≠ gb106)); replace BK106 := Aside0.mk (blk_below (g := gb106) zK hb); replace HB := Aside0.mk (below_step zG hb); clear hb hbox hg) | ((with_reducible refine gate_dst (N := 4) rfl ?_); (try (refine gate_guard (by rfl) ?_; dsimp only)); refine zX (N := 4) (cs := #[.int .i64 a0_0, .int .i64 a0_1, .int .i64 a0_2, .int .i64 a0_3, .int .i64 a0_4, .string a0_5, .int .i64 a0_6, .slice A0_7 l0_7.length c0_7]) (t := 31) (h := ?_); intro gb106 hg w50 hbox hb; have BK106 := Aside0.mk hbox; have GW106 := Aside0.mk ((zS : w.heap.size ≤ gb106)); have GE106 := Aside0.mk ((zS : w.heap.size ≤ gb106)); replace HB := Aside0.mk (below_step zB hb); clear hb hbox hg))
       go_ret
       exact ⟨zE, zG⟩
      ·rw [if_neg c49] at H
       have c49b0 : decide (0 ≤ a0_6) = false := decide_eq_false c49
       clear c49
       obtain rfl := Option.some.inj H
       go_enter Tryz.func77, Tryz.ntmps77
       go_wp2_with (first | ((with_reducible refine gate_callee (f := 74) rfl ?_); refine goesL_ (some 51) rfl rfl Tryz.func74 (by kernel_rfl) rfl #[.string a1, .int .u8 106] rfl zP ?_; (with_reducible refine (q9_has.calls k a1 106 true _ A47.out).mono ?_); rintro e w' ⟨rfl, ⟨nd, rfl⟩⟩; refine ⟨_, rfl, ?_⟩; have hnb57 := NB106_107.out; have hnc57 := NB107_106.out; obtain ⟨hcz58_0, hcz58_1, hcz58_2, hcz58_3, hcz58_4, hcz58_5, hcz58_6, hcz58_7, hfz58_0, hfz58_1, hfz58_2, hfz58_3, hfz58_4, hfz58_5, hfz58_6, hfz58_7⟩ := zd8 BK106.out (.int .i64 a0_0) (.int .i64 a0_1) (.int .i64 a0_2) (.int .i64 a0_3) (.int .i64 a0_4) (.string a0_5) (.int .i64 a0_6) (.slice A0_7 l0_7.length c0_7)) | ((with_reducible refine gate_callee (f := 74) rfl ?_); refine goesL_ (some 40) rfl rfl Tryz.func74 (by kernel_rfl) rfl #[.string a1, .int .u8 102] rfl zP ?_; (with_reducible refine (q9_has.calls k a1 102 false _ A36.out).mono ?_); rintro e w' ⟨rfl, ⟨nd, rfl⟩⟩; refine ⟨_, rfl, ?_⟩) | ((with_reducible refine gate_callee (f := 74) rfl ?_); refine goesL_ (some 30) rfl rfl Tryz.func74 (by kernel_rfl) rfl #[.string a1, .int .u8 109] rfl zP ?_; (with_reducible refine (q9_has.calls k a1 109 false _ A25.out).mono ?_); rintro e w' ⟨rfl, ⟨nd, rfl⟩⟩; refine ⟨_, rfl, ?_⟩) | ((with_reducible refine gate_callee (f := 74) rfl ?_); refine goesL_ (some 12) rfl rfl Tryz.func74 (by kernel_rfl) rfl #[.string a1, .int .u8 118] rfl zP ?_; (with_reducible refine (q9_has.calls k a1 118 false _ A9.out).mono ?_); rintro e w' ⟨rfl, ⟨nd, rfl⟩⟩; refine ⟨_, rfl, ?_⟩) | ((with_reducible refine gate_callee (f := 74) rfl ?_); refine goesL_ (some 10) rfl rfl Tryz.func74 (by kernel_rfl) rfl #[.string a1, .int .u8 78] rfl zP ?_; (with_reducible refine (q9_has.calls k a1 78 false _ A5.out).mono ?_); rintro e w' ⟨rfl, ⟨nd, rfl⟩⟩; refine ⟨_, rfl, ?_⟩) | ((with_reducible refine gate_dst (N := 6) rfl ?_); (try (refine gate_guard (by rfl) ?_; dsimp only)); refine zX (N := 6) (cs := #[.int .i64 a2_0, .slice A2_1 l2_1.length c2_1]) (t := 28) (h := ?_); intro gb107 hg w56 hbox hb; have BK107 := Aside0.mk hbox; have GW107 := Aside0.mk ((zT : w.heap.size ≤ gb107)); have GE107 := Aside0.mk ((zT : w.heap.size ≤ gb107)); have NB106_107 := Aside0.mk ((zL : gb106 ≠ gb107)); have NB107_106 := Aside0.mk ((zM : gb107 ≠ gb106)); replace BK106 := Aside0.mk (blk_below (g := gb106) zK hb); replace HB := Aside0.mk (below_step zG hb); clear hb hbox hg) | ((with_reducible refine gate_dst (N := 4) rfl ?_); (try (refine gate_guard (by rfl) ?_; dsimp only)); refine zX (N := 4) (cs := #[.int .i64 a0_0, .int .i64 a0_1, .int .i64 a0_2, .int .i64 a0_3, .int .i64 a0_4, .string a0_5, .int .i64 a0_6, .slice A0_7 l0_7.length c0_7]) (t := 31) (h := ?_); intro gb106 hg w55 hbox hb; have BK106 := Aside0.mk hbox; have GW106 := Aside0.mk ((zS : w.heap.size ≤ gb106)); have GE106 := Aside0.mk ((zS : w.heap.size ≤ gb106)); replace HB := Aside0.mk (below_step zB hb); clear hb hbox hg))
       go_ret
       exact ⟨zE, zG⟩
     ·replace c48 := Bool.eq_false_iff.mpr c48
      subst c48
      rw [if_neg (show ¬ (false = true) by decide)] at H
      obtain rfl := Option.some.inj H
      go_enter Tryz.func77, Tryz.ntmps77
      go_wp2_with (first | ((with_reducible refine gate_callee (f := 74) rfl ?_); refine goesL_ (some 51) rfl rfl Tryz.func74 (by kernel_rfl) rfl #[.string a1, .int .u8 106] rfl zP ?_; (with_reducible refine (q9_has.calls k a1 106 false _ A47.out).mono ?_); rintro e w' ⟨rfl, ⟨nd, rfl⟩⟩; refine ⟨_, rfl, ?_⟩; have hnb61 := NB106_107.out; have hnc61 := NB107_106.out; obtain ⟨hcz62_0, hcz62_1, hcz62_2, hcz62_3, hcz62_4, hcz62_5, hcz62_6, hcz62_7, hfz62_0, hfz62_1, hfz62_2, hfz62_3, hfz62_4, hfz62_5, hfz62_6, hfz62_7⟩ := zd8 BK106.out (.int .i64 a0_0) (.int .i64 a0_1) (.int .i64 a0_2) (.int .i64 a0_3) (.int .i64 a0_4) (.string a0_5) (.int .i64 a0_6) (.slice A0_7 l0_7.length c0_7)) | ((with_reducible refine gate_callee (f := 74) rfl ?_); refine goesL_ (some 40) rfl rfl Tryz.func74 (by kernel_rfl) rfl #[.string a1, .int .u8 102] rfl zP ?_; (with_reducible refine (q9_has.calls k a1 102 false _ A36.out).mono ?_); rintro e w' ⟨rfl, ⟨nd, rfl⟩⟩; refine ⟨_, rfl, ?_⟩) | ((with_reducible refine gate_callee (f := 74) rfl ?_); refine goesL_ (some 30) rfl rfl Tryz.func74 (by kernel_rfl) rfl #[.string a1, .int .u8 109] rfl zP ?_; (with_reducible refine (q9_has.calls k a1 109 false _ A25.out).mono ?_); rintro e w' ⟨rfl, ⟨nd, rfl⟩⟩; refine ⟨_, rfl, ?_⟩) | ((with_reducible refine gate_callee (f := 74) rfl ?_); refine goesL_ (some 12) rfl rfl Tryz.func74 (by kernel_rfl) rfl #[.string a1, .int .u8 118] rfl zP ?_; (with_reducible refine (q9_has.calls k a1 118 false _ A9.out).mono ?_); rintro e w' ⟨rfl, ⟨nd, rfl⟩⟩; refine ⟨_, rfl, ?_⟩) | ((with_reducible refine gate_callee (f := 74) rfl ?_); refine goesL_ (some 10) rfl rfl Tryz.func74 (by kernel_rfl) rfl #[.string a1, .int .u8 78] rfl zP ?_; (with_reducible refine (q9_has.calls k a1 78 false _ A5.out).mono ?_); rintro e w' ⟨rfl, ⟨nd, rfl⟩⟩; refine ⟨_, rfl, ?_⟩) | ((with_reducible refine gate_dst (N := 6) rfl ?_); (try (refine gate_guard (by rfl) ?_; dsimp only)); refine zX (N := 6) (cs := #[.int .i64 a2_0, .slice A2_1 l2_1.length c2_1]) (t := 28) (h := ?_); intro gb107 hg w60 hbox hb; have BK107 := Aside0.mk hbox; have GW107 := Aside0.mk ((zT : w.heap.size ≤ gb107)); have GE107 := Aside0.mk ((zT : w.heap.size ≤ gb107)); have NB106_107 := Aside0.mk ((zL : gb106 ≠ gb107)); have NB107_106 := Aside0.mk ((zM : gb107 ≠ gb106)); replace BK106 := Aside0.mk (blk_below (g := gb106) zK hb); replace HB := Aside0.mk (below_step zG hb); clear hb hbox hg) | ((with_reducible refine gate_dst (N := 4) rfl ?_); (try (refine gate_guard (by rfl) ?_; dsimp only)); refine zX (N := 4) (cs := #[.int .i64 a0_0, .int .i64 a0_1, .int .i64 a0_2, .int .i64 a0_3, .int .i64 a0_4, .string a0_5, .int .i64 a0_6, .slice A0_7 l0_7.length c0_7]) (t := 31) (h := ?_); intro gb106 hg w59 hbox hb; have BK106 := Aside0.mk hbox; have GW106 := Aside0.mk ((zS : w.heap.size ≤ gb106)); have GE106 := Aside0.mk ((zS : w.heap.size ≤ gb106)); replace HB := Aside0.mk (below_step zB hb); clear hb hbox hg))
      go_ret
      exact ⟨zE, zG⟩
end Go.Proofs.YtjlhhjfmekjbhaaGreatDoor.Pq

