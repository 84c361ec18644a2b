/- Lemmas for the claims of this seat (own texts, packed; what the claims do not use is left out). No condition. -/
import Derived.Test.YtjlhhjfmekjbhaaGreatDoorMb0
import Derived.Test.YtjlhhjfmekjbhaaGreatDoorMb1
import Derived.Test.YtjlhhjfmekjbhaaGreatDoorMb5
namespace Go.Proofs.YtjlhhjfmekjbhaaGreatDoor.Pq
open Go.RowKit Go.Proofs.YtjlhhjfmekjbhaaGreatDoor.Vb Go.Proofs.YtjlhhjfmekjbhaaGreatDoorW.PrintWords Go.Proofs.YtjlhhjfmekjbhaaGreatDoorW.PrintLast Go.Proofs.YtjlhhjfmekjbhaaGreatDoorW.PrintMore
set_option linter.unusedVariables false
set_option linter.unusedSimpArgs false
/-! ### q9_ins: function 26 -/
mutual
def q9_ins.j0 : Nat → Int → ByteArray → Bool → Int → Int → Int → Int → Int → ByteArray → Int → List Int → Int → List (S31) → Option (Bool)
 | 0, _, _, _, _, _, _, _, _, _, _, _, _, _ => none
 | k + 1, x2, x7, x8, x114000, x114001, x114002, x114003, x114004, x114005, x114006, x114007, x115000, x115001 => (q9_has.f k x7 114).bind fun t121 => (if t121 = true then (if x114002 ≥ (-1) then (q9_ins.j1 k x2 x7 (decide (x114002 < x115000)) x114000 x114001 x114002 x114003 x114004 x114005 x114006 x114007 x115000 x115001) else (q9_ins.j1 k x2 x7 false x114000 x114001 x114002 x114003 x114004 x114005 x114006 x114007 x115000 x115001)) else (q9_ins.j1 k x2 x7 x8 x114000 x114001 x114002 x114003 x114004 x114005 x114006 x114007 x115000 x115001))
def q9_ins.j1 : Nat → Int → ByteArray → Bool → Int → Int → Int → Int → Int → ByteArray → Int → List Int → Int → List (S31) → Option (Bool)
 | 0, _, _, _, _, _, _, _, _, _, _, _, _, _ => none
 | k + 1, x2, x7, x8, x114000, x114001, x114002, x114003, x114004, x114005, x114006, x114007, x115000, x115001 => (q9_has.f k x7 66).bind fun t122 => ((q9_reg.f x114003 t122 x115000).bind fun t123 => ((q9_has.f k x7 98).bind fun t124 => (if t124 = true then (if x114003 ≥ (-1) then (q9_ins.j2 k x2 x7 x8 (decide (x114003 < x115000)) x114000 x114001 x114002 x114003 x114004 x114005 x114006 x114007 x115000 x115001) else (q9_ins.j2 k x2 x7 x8 false x114000 x114001 x114002 x114003 x114004 x114005 x114006 x114007 x115000 x115001)) else (q9_ins.j2 k x2 x7 x8 t123 x114000 x114001 x114002 x114003 x114004 x114005 x114006 x114007 x115000 x115001))))
def q9_ins.j2 : Nat → Int → ByteArray → Bool → Bool → Int → Int → Int → Int → Int → ByteArray → Int → List Int → Int → List (S31) → Option (Bool)
 | 0, _, _, _, _, _, _, _, _, _, _, _, _, _, _ => none
 | k + 1, x2, x7, x8, x11, x114000, x114001, x114002, x114003, x114004, x114005, x114006, x114007, x115000, x115001 => if x114005.toList = ([] : List UInt8) then (q9_ins.j3 k x2 x7 x8 x11 true x114000 x114001 x114002 x114003 x114004 x114005 x114006 x114007 x115000 x115001) else ((q9_has.f k x7 83).bind fun t125 => (q9_ins.j3 k x2 x7 x8 x11 t125 x114000 x114001 x114002 x114003 x114004 x114005 x114006 x114007 x115000 x115001))
def q9_ins.j3 : Nat → Int → ByteArray → Bool → Bool → Bool → Int → Int → Int → Int → Int → ByteArray → Int → List Int → Int → List (S31) → Option (Bool)
 | 0, _, _, _, _, _, _, _, _, _, _, _, _, _, _, _ => none
 | k + 1, x2, x7, x8, x11, x12, x114000, x114001, x114002, x114003, x114004, x114005, x114006, x114007, x115000, x115001 => (q9_has.f k x7 115).bind fun t126 => (if t126 = true then ((q9_sign.f x114005).bind fun t127 => (q9_ins.j4 k x2 x7 x8 x11 t127 x114000 x114001 x114002 x114003 x114004 x114005 x114006 x114007 x115000 x115001)) else (q9_ins.j4 k x2 x7 x8 x11 x12 x114000 x114001 x114002 x114003 x114004 x114005 x114006 x114007 x115000 x115001))
def q9_ins.j4 : Nat → Int → ByteArray → Bool → Bool → Bool → Int → Int → Int → Int → Int → ByteArray → Int → List Int → Int → List (S31) → Option (Bool)
 | 0, _, _, _, _, _, _, _, _, _, _, _, _, _, _, _ => none
 | k + 1, x2, x7, x8, x11, x12, x114000, x114001, x114002, x114003, x114004, x114005, x114006, x114007, x115000, x115001 => if (x114007.length : Int) > 0 then ((q9_has.f k x7 76).bind fun t128 => (q9_ins.j5 k x2 x7 x8 x11 x12 (!t128) x114000 x114001 x114002 x114003 x114004 x114005 x114006 x114007 x115000 x115001)) else (q9_ins.j5 k x2 x7 x8 x11 x12 false x114000 x114001 x114002 x114003 x114004 x114005 x114006 x114007 x115000 x115001)
def q9_ins.j5 : Nat → Int → ByteArray → Bool → Bool → Bool → Bool → Int → Int → Int → Int → Int → ByteArray → Int → List Int → Int → List (S31) → Option (Bool)
 | 0, _, _, _, _, _, _, _, _, _, _, _, _, _, _, _, _ => none
 | k + 1, x2, x7, x8, x11, x12, x95, x114000, x114001, x114002, x114003, x114004, x114005, x114006, x114007, x115000, x115001 => if x95 = true then (some false) else (q9_ins.l0 k x2 x7 x8 x11 x12 0 x114000 x114001 x114002 x114003 x114004 x114005 x114006 x114007 x115000 x115001)
def q9_ins.l0 : Nat → Int → ByteArray → Bool → Bool → Bool → Int → Int → Int → Int → Int → Int → ByteArray → Int → List Int → Int → List (S31) → Option (Bool)
 | 0, _, _, _, _, _, _, _, _, _, _, _, _, _, _, _, _ => none
 | k + 1, x2, x7, x8, x11, x12, x13, x114000, x114001, x114002, x114003, x114004, x114005, x114006, x114007, x115000, x115001 => if x13 < (x114007.length : Int) then (if 0 ≤ x13 then (if (rd x114007 x13) < 0 then (some false) else (if (rd x114007 x13) ≥ x115000 then (some false) else (q9_ins.l0 k x2 x7 x8 x11 x12 (wrap64 (x13 + 1)) x114000 x114001 x114002 x114003 x114004 x114005 x114006 x114007 x115000 x115001))) else (none)) else ((q9_number.f k x114000 x114001 x114002 x114003 x114004 x114005 x114006 x114007 x7 x115000 x115001 x2).bind fun t131 => (if x8 = true then (if x11 = true then (if x12 = true then (if t131 = true then ((q9_has.f k x7 68).bind fun t132 => ((q9_reg.f x114001 t132 x115000).bind fun t133 => (if t133 = true then ((q9_has.f k x7 67).bind fun t134 => ((q9_reg.f x114004 t134 x115000).bind fun t135 => (some t135))) else (some false)))) else (some false)) else (some false)) else (some false)) else (some false)))
end
def q9_ins.f (k : Nat) (a0_0 : Int) (a0_1 : Int) (a0_2 : Int) (a0_3 : Int) (a0_4 : Int) (a0_5 : ByteArray) (a0_6 : Int) (l0_7 : List Int) (a1_0 : Int) (l1_1 : List (S31)) (a2 : Int) : Option (Bool) := (q9_names.f k a0_0).bind fun t115 => (if t115.toList = ([45] : List UInt8) then (some false) else ((q9_has.f k t115 65).bind fun t116 => ((q9_reg.f a0_2 t116 a1_0).bind fun t117 => ((q9_has.f k t115 97).bind fun t118 => (if t118 = true then ((q6_Right.f a0_2 a0_6 a0_5).bind fun t120 => (if t120 = true then (q9_ins.j0 k a2 t115 (a0_2 != 5) a0_0 a0_1 a0_2 a0_3 a0_4 a0_5 a0_6 l0_7 a1_0 l1_1) else (q9_ins.j0 k a2 t115 false a0_0 a0_1 a0_2 a0_3 a0_4 a0_5 a0_6 l0_7 a1_0 l1_1))) else (q9_ins.j0 k a2 t115 t117 a0_0 a0_1 a0_2 a0_3 a0_4 a0_5 a0_6 l0_7 a1_0 l1_1))))))
set_option maxHeartbeats 8000000 in
set_option maxRecDepth 100000 in
theorem q9_ins.calls (k : Nat) (a0_0 : Int) (a0_1 : Int) (a0_2 : Int) (a0_3 : Int) (a0_4 : Int) (a0_5 : ByteArray) (a0_6 : Int) (A0_7 : Option Addr) (c0_7 : Nat) (l0_7 : List Int) (a1_0 : Int) (A1_1 : Option Addr) (c1_1 : Nat) (l1_1 : List (S31)) (a2 : Int) (r : Bool) (w : World) (hr0_7 : Kd.C (Kd.int .i64) w A0_7 l0_7.length l0_7) (hc0_7 : l0_7.length ≤ c0_7) (hr1_1 : Kd.C k31 w A1_1 l1_1.length l1_1) (hc1_1 : l1_1.length ≤ c1_1) (h : q9_ins.f k a0_0 a0_1 a0_2 a0_3 a0_4 a0_5 a0_6 l0_7 a1_0 l1_1 a2 = some r) :
  Calls Tryz.prog 26 #[.agg #[.int .i64 a0_0, .int .i64 a0_1, .int .i64 a0_2, .int .i64 a0_3, .int .i64 a0_4, .string a0_5, .int .i64 a0_6, .slice A0_7 l0_7.length c0_7], .agg #[.int .i64 a1_0, .slice A1_1 l1_1.length c1_1], .int .i64 a2] w fun e w' => e = .returned (.bool r) ∧ Below w.heap.size w w' := by
 have hu31 := Tryz.underlying31
 have hu28 := Tryz.underlying28
 have hu83 := Tryz.underlying83
 have HR0_7 := Aside0.mk hr0_7
 have HC0_7 := Aside0.mk hc0_7
 clear hr0_7 hc0_7
 have HR1_1 := Aside0.mk hr1_1
 have HC1_1 := Aside0.mk hc1_1
 clear hr1_1 hc1_1
 have HB := Aside0.mk (Below.refl w.heap.size w)
 have H : ((q9_names.f k a0_0).bind fun t115 => (if t115.toList = ([45] : List UInt8) then (some false) else ((q9_has.f k t115 65).bind fun t116 => ((q9_reg.f a0_2 t116 a1_0).bind fun t117 => ((q9_has.f k t115 97).bind fun t118 => (if t118 = true then ((q6_Right.f a0_2 a0_6 a0_5).bind fun t120 => (if t120 = true then (q9_ins.j0 k a2 t115 (a0_2 != 5) a0_0 a0_1 a0_2 a0_3 a0_4 a0_5 a0_6 l0_7 a1_0 l1_1) else (q9_ins.j0 k a2 t115 false a0_0 a0_1 a0_2 a0_3 a0_4 a0_5 a0_6 l0_7 a1_0 l1_1))) else (q9_ins.j0 k a2 t115 t117 a0_0 a0_1 a0_2 a0_3 a0_4 a0_5 a0_6 l0_7 a1_0 l1_1))))))) = some r := h
 clear h
 obtain ⟨t115, A4, H⟩ := zO H
 by_cases c5 : t115.toList = ([45] : List UInt8)
 ·rw [if_pos c5] at H
  have c5b0 : (t115.toList == ([45] : List UInt8)) = true := beq_iff_eq.mpr c5
  have c5b1 : (t115.toList != ([45] : List UInt8)) = false := bne_eq_false_iff_eq.mpr c5
  clear c5
  obtain rfl := Option.some.inj H
  go_enter Tryz.func26, Tryz.ntmps26
  go_wp2_with (first | ((with_reducible refine gate_dst (N := 3) rfl ?_); refine zX (N := 3) (cs := #[.int .i64 a0_0, .int .i64 a0_1, .int .i64 a0_2, .int .i64 a0_3, .int .i64 a0_4, .string a0_5, .int .i64 a0_6, .slice A0_7 l0_7.length c0_7]) (t := 31) (h := ?_); intro gb113 hg w6 hbox hb; have BK113 := Aside0.mk hbox; have GW113 := Aside0.mk ((by rw [hg]; exact (below_size zB) : w.heap.size ≤ gb113)); have GE113 := Aside0.mk ((by rw [hg]; exact (below_size zB) : w.heap.size ≤ gb113)); replace HB := Aside0.mk (below_step zB hb); clear hb hbox hg) | ((with_reducible refine gate_dst (N := 4) rfl ?_); refine zX (N := 4) (cs := #[.int .i64 a1_0, .slice A1_1 l1_1.length c1_1]) (t := 28) (h := ?_); intro gb114 hg w7 hbox hb; have BK114 := Aside0.mk hbox; have GW114 := Aside0.mk ((by rw [hg]; exact (below_size zG) : w.heap.size ≤ gb114)); have GE114 := Aside0.mk ((by rw [hg]; exact (below_size zG) : w.heap.size ≤ gb114)); have NB113_114 := Aside0.mk ((by rw [hg]; exact Nat.ne_of_lt (blk_lt (g := gb113) (o := .cells #[.int .i64 a0_0, .int .i64 a0_1, .int .i64 a0_2, .int .i64 a0_3, .int .i64 a0_4, .string a0_5, .int .i64 a0_6, .slice A0_7 l0_7.length c0_7] 31 (0, 0)) zK) : gb113 ≠ gb114)); have NB114_113 := Aside0.mk ((by rw [hg]; exact Nat.ne_of_gt (blk_lt (g := gb113) (o := .cells #[.int .i64 a0_0, .int .i64 a0_1, .int .i64 a0_2, .int .i64 a0_3, .int .i64 a0_4, .string a0_5, .int .i64 a0_6, .slice A0_7 l0_7.length c0_7] 31 (0, 0)) zK) : gb114 ≠ gb113)); replace BK113 := Aside0.mk (blk_below (g := gb113) (o := .cells #[.int .i64 a0_0, .int .i64 a0_1, .int .i64 a0_2, .int .i64 a0_3, .int .i64 a0_4, .string a0_5, .int .i64 a0_6, .slice A0_7 l0_7.length c0_7] 31 (0, 0)) zK hb); replace HB := Aside0.mk (below_step zG hb); clear hb hbox hg; have hnb8 := NB113_114.out; have hnc8 := NB114_113.out; obtain ⟨hcz9_0, hcz9_1, hcz9_2, hcz9_3, hcz9_4, hcz9_5, hcz9_6, hcz9_7, hfz9_0, hfz9_1, hfz9_2, hfz9_3, hfz9_4, hfz9_5, hfz9_6, hfz9_7⟩ := zd8 BK113.out (.int .i64 a0_0) (.int .i64 a0_1) (.int .i64 a0_2) (.int .i64 a0_3) (.int .i64 a0_4) (.string a0_5) (.int .i64 a0_6) (.slice A0_7 l0_7.length c0_7)) | (go_at_call 72; (with_reducible refine (q9_names.calls k a0_0 t115 _ A4.out).mono ?_); rintro e w' ⟨rfl, ⟨nd, rfl⟩⟩; (try first | exact ⟨rfl, _, World.drewN_drewN _ _ _⟩ | exact ⟨rfl, _, Eq.trans (World.drewN_drewN _ _ _) (congrArg (World.drewN _) (Nat.add_assoc _ _ _))⟩)))
  repeat (go_quiet (fail); try go_wp2_with (fail))
  go_ret
  exact ⟨zE, zG⟩
 ·rw [if_neg c5] at H
  have c5b0 : (t115.toList == ([45] : List UInt8)) = false := beq_eq_false_iff_ne.mpr c5
  have c5b1 : (t115.toList != ([45] : List UInt8)) = true := bne_iff_ne.mpr c5
  obtain ⟨t116, A10, H⟩ := zO H
  obtain ⟨t117, A11, H⟩ := zO H
  obtain ⟨t118, A12, H⟩ := zO H
  have HC13 := Aside0.mk H
  clear H
  go_enter Tryz.func26, Tryz.ntmps26
  go_upto_if 28 with (first | ((with_reducible refine gate_dst (N := 3) rfl ?_); refine zX (N := 3) (cs := #[.int .i64 a0_0, .int .i64 a0_1, .int .i64 a0_2, .int .i64 a0_3, .int .i64 a0_4, .string a0_5, .int .i64 a0_6, .slice A0_7 l0_7.length c0_7]) (t := 31) (h := ?_); intro gb113 hg w14 hbox hb; have BK113 := Aside0.mk hbox; have GW113 := Aside0.mk ((by rw [hg]; exact (below_size zB) : w.heap.size ≤ gb113)); have GE113 := Aside0.mk ((by rw [hg]; exact (below_size zB) : w.heap.size ≤ gb113)); replace HB := Aside0.mk (below_step zB hb); clear hb hbox hg) | ((with_reducible refine gate_dst (N := 4) rfl ?_); refine zX (N := 4) (cs := #[.int .i64 a1_0, .slice A1_1 l1_1.length c1_1]) (t := 28) (h := ?_); intro gb114 hg w15 hbox hb; have BK114 := Aside0.mk hbox; have GW114 := Aside0.mk ((by rw [hg]; exact (below_size zG) : w.heap.size ≤ gb114)); have GE114 := Aside0.mk ((by rw [hg]; exact (below_size zG) : w.heap.size ≤ gb114)); have NB113_114 := Aside0.mk ((by rw [hg]; exact Nat.ne_of_lt (blk_lt (g := gb113) (o := .cells #[.int .i64 a0_0, .int .i64 a0_1, .int .i64 a0_2, .int .i64 a0_3, .int .i64 a0_4, .string a0_5, .int .i64 a0_6, .slice A0_7 l0_7.length c0_7] 31 (0, 0)) zK) : gb113 ≠ gb114)); have NB114_113 := Aside0.mk ((by rw [hg]; exact Nat.ne_of_gt (blk_lt (g := gb113) (o := .cells #[.int .i64 a0_0, .int .i64 a0_1, .int .i64 a0_2, .int .i64 a0_3, .int .i64 a0_4, .string a0_5, .int .i64 a0_6, .slice A0_7 l0_7.length c0_7] 31 (0, 0)) zK) : gb114 ≠ gb113)); replace BK113 := Aside0.mk (blk_below (g := gb113) (o := .cells #[.int .i64 a0_0, .int .i64 a0_1, .int .i64 a0_2, .int .i64 a0_3, .int .i64 a0_4, .string a0_5, .int .i64 a0_6, .slice A0_7 l0_7.length c0_7] 31 (0, 0)) zK hb); replace HB := Aside0.mk (below_step zG hb); clear hb hbox hg; have hnb16 := NB113_114.out; have hnc16 := NB114_113.out; obtain ⟨hcz17_0, hcz17_1, hcz17_2, hcz17_3, hcz17_4, hcz17_5, hcz17_6, hcz17_7, hfz17_0, hfz17_1, hfz17_2, hfz17_3, hfz17_4, hfz17_5, hfz17_6, hfz17_7⟩ := zd8 BK113.out (.int .i64 a0_0) (.int .i64 a0_1) (.int .i64 a0_2) (.int .i64 a0_3) (.int .i64 a0_4) (.string a0_5) (.int .i64 a0_6) (.slice A0_7 l0_7.length c0_7)) | (go_at_call 72; (with_reducible refine (q9_names.calls k a0_0 t115 _ A4.out).mono ?_); rintro e w' ⟨rfl, ⟨nd, rfl⟩⟩; (try first | exact ⟨rfl, _, World.drewN_drewN _ _ _⟩ | exact ⟨rfl, _, Eq.trans (World.drewN_drewN _ _ _) (congrArg (World.drewN _) (Nat.add_assoc _ _ _))⟩)))
  repeat (go_quiet (first | (go_at_call 74; (with_reducible refine (q9_has.calls k t115 65 t116 _ A10.out).mono ?_); rintro e w' ⟨rfl, ⟨nd, rfl⟩⟩; (try first | exact ⟨rfl, _, World.drewN_drewN _ _ _⟩ | exact ⟨rfl, _, Eq.trans (World.drewN_drewN _ _ _) (congrArg (World.drewN _) (Nat.add_assoc _ _ _))⟩); obtain ⟨hcz18_0, hcz18_1, hfz18_0, hfz18_1⟩ := zd2 BK114.out (.int .i64 a1_0) (.slice A1_1 l1_1.length c1_1)) | (go_at_call 73; (with_reducible refine (q9_reg.calls a0_2 t116 a1_0 t117 _ A11.out).mono ?_); rintro e w' ⟨rfl, ⟨nd, rfl⟩⟩; (try first | exact ⟨rfl, _, World.drewN_drewN _ _ _⟩ | exact ⟨rfl, _, Eq.trans (World.drewN_drewN _ _ _) (congrArg (World.drewN _) (Nat.add_assoc _ _ _))⟩))); go_upto_if 28 with (first | (go_at_call 74; (with_reducible refine (q9_has.calls k t115 97 t118 _ A12.out).mono ?_); rintro e w' ⟨rfl, ⟨nd, rfl⟩⟩; (try first | exact ⟨rfl, _, World.drewN_drewN _ _ _⟩ | exact ⟨rfl, _, Eq.trans (World.drewN_drewN _ _ _) (congrArg (World.drewN _) (Nat.add_assoc _ _ _))⟩))))
  (try simp only [Act.put, List.setIfInBounds_toArray, List.set_cons_zero, List.set_cons_succ])
  go_cut [8] (fun v8 wc => ∃ (kq : Nat) (x8_12 : Bool), v8 = .bool x8_12 ∧ Aside0 (q9_ins.j0 kq a2 t115 x8_12 a0_0 a0_1 a0_2 a0_3 a0_4 a0_5 a0_6 l0_7 a1_0 l1_1 = some r) ∧ Aside0 (kq ≤ k) ∧ Aside0 (wc.heap[gb113]? = some (.cells #[.int .i64 a0_0, .int .i64 a0_1, .int .i64 a0_2, .int .i64 a0_3, .int .i64 a0_4, .string a0_5, .int .i64 a0_6, (.slice A0_7 l0_7.length c0_7)] 31 (0, 0))) ∧ Aside0 (wc.heap[gb114]? = some (.cells #[.int .i64 a1_0, (.slice A1_1 l1_1.length c1_1)] 28 (0, 0))) ∧ Aside0 (Below w.heap.size w wc))
  case first =>
   have H := HC13.out
   clear HC13
   by_cases c19 : t118 = true
   ·subst c19
    rw [if_pos rfl] at H
    obtain ⟨t120, A20, H⟩ := zO H
    by_cases c21 : t120 = true
    ·subst c21
     rw [if_pos rfl] at H
     have H' := Aside0.mk H
     clear H
     have hnb22 := NB113_114.out
     have hnc22 := NB114_113.out
     obtain ⟨hcz23_0, hcz23_1, hcz23_2, hcz23_3, hcz23_4, hcz23_5, hcz23_6, hcz23_7, hfz23_0, hfz23_1, hfz23_2, hfz23_3, hfz23_4, hfz23_5, hfz23_6, hfz23_7⟩ := zd8 BK113.out (.int .i64 a0_0) (.int .i64 a0_1) (.int .i64 a0_2) (.int .i64 a0_3) (.int .i64 a0_4) (.string a0_5) (.int .i64 a0_6) (.slice A0_7 l0_7.length c0_7)
     go_wp2_with (first | ((with_reducible refine gate_dst (N := 9) rfl ?_); refine zX (N := 9) (cs := #[.int .i64 0, .int .i64 0, .string (⟨#[]⟩ : ByteArray)]) (t := 83) (h := ?_); intro gb119 hg w24 hbox hb; have BK119 := Aside0.mk hbox; have GW119 := Aside0.mk ((by rw [hg]; exact (below_size zG) : w.heap.size ≤ gb119)); have GE119 := Aside0.mk ((by rw [hg]; exact (below_size zG) : w.heap.size ≤ gb119)); have NB113_119 := Aside0.mk ((by rw [hg]; exact Nat.ne_of_lt (blk_lt (g := gb113) (o := .cells #[.int .i64 a0_0, .int .i64 a0_1, .int .i64 a0_2, .int .i64 a0_3, .int .i64 a0_4, .string a0_5, .int .i64 a0_6, .slice A0_7 l0_7.length c0_7] 31 (0, 0)) zK) : gb113 ≠ gb119)); have NB119_113 := Aside0.mk ((by rw [hg]; exact Nat.ne_of_gt (blk_lt (g := gb113) (o := .cells #[.int .i64 a0_0, .int .i64 a0_1, .int .i64 a0_2, .int .i64 a0_3, .int .i64 a0_4, .string a0_5, .int .i64 a0_6, .slice A0_7 l0_7.length c0_7] 31 (0, 0)) zK) : gb119 ≠ gb113)); have NB114_119 := Aside0.mk ((by rw [hg]; exact Nat.ne_of_lt (blk_lt (g := gb114) (o := .cells #[.int .i64 a1_0, .slice A1_1 l1_1.length c1_1] 28 (0, 0)) zK) : gb114 ≠ gb119)); have NB119_114 := Aside0.mk ((by rw [hg]; exact Nat.ne_of_gt (blk_lt (g := gb114) (o := .cells #[.int .i64 a1_0, .slice A1_1 l1_1.length c1_1] 28 (0, 0)) zK) : gb119 ≠ gb114)); replace BK113 := Aside0.mk (blk_below (g := gb113) (o := .cells #[.int .i64 a0_0, .int .i64 a0_1, .int .i64 a0_2, .int .i64 a0_3, .int .i64 a0_4, .string a0_5, .int .i64 a0_6, .slice A0_7 l0_7.length c0_7] 31 (0, 0)) zK hb); replace BK114 := Aside0.mk (blk_below (g := gb114) (o := .cells #[.int .i64 a1_0, .slice A1_1 l1_1.length c1_1] 28 (0, 0)) zK hb); replace HB := Aside0.mk (below_step zG hb); clear hb hbox hg; have hnb25 := NB119_113.out; have hnc25 := NB113_119.out; have hnb26 := NB119_114.out; have hnc26 := NB114_119.out; obtain ⟨hcz27_0, hcz27_1, hcz27_2, hfz27_0, hfz27_1, hfz27_2⟩ := zd3 BK119.out (.int .i64 0) (.int .i64 0) (.string (⟨#[]⟩ : ByteArray))) | (go_at_call 75; (with_reducible refine (q6_Right.calls a0_2 a0_6 a0_5 true _ A20.out).mono ?_); rintro e w28 ⟨rfl, hb⟩; replace BK113 := Aside0.mk (blk_below (g := gb113) (o := .cells #[.int .i64 a0_0, .int .i64 a0_1, .int .i64 a0_2, .int .i64 a0_3, .int .i64 a0_4, .string a0_5, .int .i64 a0_6, .slice A0_7 l0_7.length c0_7] 31 (0, 0)) (by (with_reducible repeat (first | refine blk_drewN ?_ _ | refine blk_drew ?_ | refine blk_alloc ?_ _)); refine blk_far ?_ NB113_119.out _; (with_reducible repeat (first | refine blk_drewN ?_ _ | refine blk_drew ?_ | refine blk_alloc ?_ _)); refine blk_far ?_ NB113_119.out _; (with_reducible repeat (first | refine blk_drewN ?_ _ | refine blk_drew ?_ | refine blk_alloc ?_ _)); refine blk_far ?_ NB113_119.out _; (with_reducible repeat (first | refine blk_drewN ?_ _ | refine blk_drew ?_ | refine blk_alloc ?_ _)); exact BK113.out) hb); replace BK114 := Aside0.mk (blk_below (g := gb114) (o := .cells #[.int .i64 a1_0, .slice A1_1 l1_1.length c1_1] 28 (0, 0)) (by (with_reducible repeat (first | refine blk_drewN ?_ _ | refine blk_drew ?_ | refine blk_alloc ?_ _)); refine blk_far ?_ NB114_119.out _; (with_reducible repeat (first | refine blk_drewN ?_ _ | refine blk_drew ?_ | refine blk_alloc ?_ _)); refine blk_far ?_ NB114_119.out _; (with_reducible repeat (first | refine blk_drewN ?_ _ | refine blk_drew ?_ | refine blk_alloc ?_ _)); refine blk_far ?_ NB114_119.out _; (with_reducible repeat (first | refine blk_drewN ?_ _ | refine blk_drew ?_ | refine blk_alloc ?_ _)); exact BK114.out) hb); replace BK119 := Aside0.mk (blk_below (g := gb119) (o := .cells #[.int .i64 a0_2, .int .i64 a0_6, .string a0_5] 83 (0, 0)) (by (with_reducible repeat (first | refine blk_drewN ?_ _ | refine blk_drew ?_ | refine blk_alloc ?_ _)); refine blk_put (cs := #[.int .i64 a0_2, .int .i64 a0_6, .string (⟨#[]⟩ : ByteArray)]) ?_ 2 _ rfl; (with_reducible repeat (first | refine blk_drewN ?_ _ | refine blk_drew ?_ | refine blk_alloc ?_ _)); refine blk_put (cs := #[.int .i64 a0_2, .int .i64 0, .string (⟨#[]⟩ : ByteArray)]) ?_ 1 _ rfl; (with_reducible repeat (first | refine blk_drewN ?_ _ | refine blk_drew ?_ | refine blk_alloc ?_ _)); refine blk_put (cs := #[.int .i64 0, .int .i64 0, .string (⟨#[]⟩ : ByteArray)]) ?_ 0 _ rfl; (with_reducible repeat (first | refine blk_drewN ?_ _ | refine blk_drew ?_ | refine blk_alloc ?_ _)); exact BK119.out) hb); replace HB := Aside0.mk (below_step zG hb); (try clear hb); obtain ⟨hcz29_0, hcz29_1, hcz29_2, hcz29_3, hcz29_4, hcz29_5, hcz29_6, hcz29_7, hfz29_0, hfz29_1, hfz29_2, hfz29_3, hfz29_4, hfz29_5, hfz29_6, hfz29_7⟩ := zd8 BK113.out (.int .i64 a0_0) (.int .i64 a0_1) (.int .i64 a0_2) (.int .i64 a0_3) (.int .i64 a0_4) (.string a0_5) (.int .i64 a0_6) (.slice A0_7 l0_7.length c0_7)))
     repeat (go_quiet (fail); try go_wp2_with (fail))
     go_meet
     case rel => exact ⟨_, ((a0_2 != 5)), zR, H', ⟨by first | omega | exact Nat.le_refl _⟩, ⟨zK⟩, ⟨zK⟩, ⟨zG⟩⟩
    ·replace c21 := Bool.eq_false_iff.mpr c21
     subst c21
     rw [if_neg (show ¬ (false = true) by decide)] at H
     have H' := Aside0.mk H
     clear H
     have hnb30 := NB113_114.out
     have hnc30 := NB114_113.out
     obtain ⟨hcz31_0, hcz31_1, hcz31_2, hcz31_3, hcz31_4, hcz31_5, hcz31_6, hcz31_7, hfz31_0, hfz31_1, hfz31_2, hfz31_3, hfz31_4, hfz31_5, hfz31_6, hfz31_7⟩ := zd8 BK113.out (.int .i64 a0_0) (.int .i64 a0_1) (.int .i64 a0_2) (.int .i64 a0_3) (.int .i64 a0_4) (.string a0_5) (.int .i64 a0_6) (.slice A0_7 l0_7.length c0_7)
     go_wp2_with (first | ((with_reducible refine gate_dst (N := 9) rfl ?_); refine zX (N := 9) (cs := #[.int .i64 0, .int .i64 0, .string (⟨#[]⟩ : ByteArray)]) (t := 83) (h := ?_); intro gb119 hg w32 hbox hb; have BK119 := Aside0.mk hbox; have GW119 := Aside0.mk ((by rw [hg]; exact (below_size zG) : w.heap.size ≤ gb119)); have GE119 := Aside0.mk ((by rw [hg]; exact (below_size zG) : w.heap.size ≤ gb119)); have NB113_119 := Aside0.mk ((by rw [hg]; exact Nat.ne_of_lt (blk_lt (g := gb113) (o := .cells #[.int .i64 a0_0, .int .i64 a0_1, .int .i64 a0_2, .int .i64 a0_3, .int .i64 a0_4, .string a0_5, .int .i64 a0_6, .slice A0_7 l0_7.length c0_7] 31 (0, 0)) zK) : gb113 ≠ gb119)); have NB119_113 := Aside0.mk ((by rw [hg]; exact Nat.ne_of_gt (blk_lt (g := gb113) (o := .cells #[.int .i64 a0_0, .int .i64 a0_1, .int .i64 a0_2, .int .i64 a0_3, .int .i64 a0_4, .string a0_5, .int .i64 a0_6, .slice A0_7 l0_7.length c0_7] 31 (0, 0)) zK) : gb119 ≠ gb113)); have NB114_119 := Aside0.mk ((by rw [hg]; exact Nat.ne_of_lt (blk_lt (g := gb114) (o := .cells #[.int .i64 a1_0, .slice A1_1 l1_1.length c1_1] 28 (0, 0)) zK) : gb114 ≠ gb119)); have NB119_114 := Aside0.mk ((by rw [hg]; exact Nat.ne_of_gt (blk_lt (g := gb114) (o := .cells #[.int .i64 a1_0, .slice A1_1 l1_1.length c1_1] 28 (0, 0)) zK) : gb119 ≠ gb114)); replace BK113 := Aside0.mk (blk_below (g := gb113) (o := .cells #[.int .i64 a0_0, .int .i64 a0_1, .int .i64 a0_2, .int .i64 a0_3, .int .i64 a0_4, .string a0_5, .int .i64 a0_6, .slice A0_7 l0_7.length c0_7] 31 (0, 0)) zK hb); replace BK114 := Aside0.mk (blk_below (g := gb114) (o := .cells #[.int .i64 a1_0, .slice A1_1 l1_1.length c1_1] 28 (0, 0)) zK hb); replace HB := Aside0.mk (below_step zG hb); clear hb hbox hg; have hnb33 := NB119_113.out; have hnc33 := NB113_119.out; have hnb34 := NB119_114.out; have hnc34 := NB114_119.out; obtain ⟨hcz35_0, hcz35_1, hcz35_2, hfz35_0, hfz35_1, hfz35_2⟩ := zd3 BK119.out (.int .i64 0) (.int .i64 0) (.string (⟨#[]⟩ : ByteArray))) | (go_at_call 75; (with_reducible refine (q6_Right.calls a0_2 a0_6 a0_5 false _ A20.out).mono ?_); rintro e w36 ⟨rfl, hb⟩; replace BK113 := Aside0.mk (blk_below (g := gb113) (o := .cells #[.int .i64 a0_0, .int .i64 a0_1, .int .i64 a0_2, .int .i64 a0_3, .int .i64 a0_4, .string a0_5, .int .i64 a0_6, .slice A0_7 l0_7.length c0_7] 31 (0, 0)) (by (with_reducible repeat (first | refine blk_drewN ?_ _ | refine blk_drew ?_ | refine blk_alloc ?_ _)); refine blk_far ?_ NB113_119.out _; (with_reducible repeat (first | refine blk_drewN ?_ _ | refine blk_drew ?_ | refine blk_alloc ?_ _)); refine blk_far ?_ NB113_119.out _; (with_reducible repeat (first | refine blk_drewN ?_ _ | refine blk_drew ?_ | refine blk_alloc ?_ _)); refine blk_far ?_ NB113_119.out _; (with_reducible repeat (first | refine blk_drewN ?_ _ | refine blk_drew ?_ | refine blk_alloc ?_ _)); exact BK113.out) hb); replace BK114 := Aside0.mk (blk_below (g := gb114) (o := .cells #[.int .i64 a1_0, .slice A1_1 l1_1.length c1_1] 28 (0, 0)) (by (with_reducible repeat (first | refine blk_drewN ?_ _ | refine blk_drew ?_ | refine blk_alloc ?_ _)); refine blk_far ?_ NB114_119.out _; (with_reducible repeat (first | refine blk_drewN ?_ _ | refine blk_drew ?_ | refine blk_alloc ?_ _)); refine blk_far ?_ NB114_119.out _; (with_reducible repeat (first | refine blk_drewN ?_ _ | refine blk_drew ?_ | refine blk_alloc ?_ _)); refine blk_far ?_ NB114_119.out _; (with_reducible repeat (first | refine blk_drewN ?_ _ | refine blk_drew ?_ | refine blk_alloc ?_ _)); exact BK114.out) hb); replace BK119 := Aside0.mk (blk_below (g := gb119) (o := .cells #[.int .i64 a0_2, .int .i64 a0_6, .string a0_5] 83 (0, 0)) (by (with_reducible repeat (first | refine blk_drewN ?_ _ | refine blk_drew ?_ | refine blk_alloc ?_ _)); refine blk_put (cs := #[.int .i64 a0_2, .int .i64 a0_6, .string (⟨#[]⟩ : ByteArray)]) ?_ 2 _ rfl; (with_reducible repeat (first | refine blk_drewN ?_ _ | refine blk_drew ?_ | refine blk_alloc ?_ _)); refine blk_put (cs := #[.int .i64 a0_2, .int .i64 0, .string (⟨#[]⟩ : ByteArray)]) ?_ 1 _ rfl; (with_reducible repeat (first | refine blk_drewN ?_ _ | refine blk_drew ?_ | refine blk_alloc ?_ _)); refine blk_put (cs := #[.int .i64 0, .int .i64 0, .string (⟨#[]⟩ : ByteArray)]) ?_ 0 _ rfl; (with_reducible repeat (first | refine blk_drewN ?_ _ | refine blk_drew ?_ | refine blk_alloc ?_ _)); exact BK119.out) hb); replace HB := Aside0.mk (below_step zG hb); (try clear hb)))
     repeat (go_quiet (fail); try go_wp2_with (fail))
     go_meet
     case rel => exact ⟨_, (false), zR, H', ⟨by first | omega | exact Nat.le_refl _⟩, ⟨zK⟩, ⟨zK⟩, ⟨zG⟩⟩
   ·replace c19 := Bool.eq_false_iff.mpr c19
    subst c19
    rw [if_neg (show ¬ (false = true) by decide)] at H
    have H' := Aside0.mk H
    clear H
    go_wp2
    repeat (go_quiet (fail); try go_wp2)
    go_meet
    case rel => exact ⟨_, (t117), zR, H', ⟨by first | omega | exact Nat.le_refl _⟩, ⟨zK⟩, ⟨zK⟩, ⟨zG⟩⟩
  case rest =>
   clear HC13
   clear c5 c5b0 c5b1 hcz17_0 hcz17_1 hcz17_2 hcz17_3 hcz17_4 hcz17_5 hcz17_6 hcz17_7 hcz18_0 hcz18_1 hfz17_0 hfz17_1 hfz17_2 hfz17_3 hfz17_4 hfz17_5 hfz17_6 hfz17_7 hfz18_0 hfz18_1
   obtain ⟨kq, x8_12, rfl, HA, HJ12, BK113, BK114, HB⟩ := hcut
   cases kq with
   | zero => exact absurd HA.out (by simp [q9_ins.j0])
   | succ kj12 =>
    have H := HA.out
    clear HA
    simp only [q9_ins.j0] at H
    obtain ⟨t121, A37, H⟩ := zO H
    have HC38 := Aside0.mk H
    clear H
    go_upto_if 45 with (first | (go_at_call 74; (with_reducible refine (q9_has.calls kj12 t115 114 t121 _ A37.out).mono ?_); rintro e w' ⟨rfl, ⟨nd, rfl⟩⟩; (try first | exact ⟨rfl, _, World.drewN_drewN _ _ _⟩ | exact ⟨rfl, _, Eq.trans (World.drewN_drewN _ _ _) (congrArg (World.drewN _) (Nat.add_assoc _ _ _))⟩)))
    repeat (go_quiet (first | (go_at_call 74; (with_reducible refine (q9_has.calls kj12 t115 114 t121 _ A37.out).mono ?_); rintro e w' ⟨rfl, ⟨nd, rfl⟩⟩; (try first | exact ⟨rfl, _, World.drewN_drewN _ _ _⟩ | exact ⟨rfl, _, Eq.trans (World.drewN_drewN _ _ _) (congrArg (World.drewN _) (Nat.add_assoc _ _ _))⟩))); go_upto_if 45 with (first | (go_at_call 74; (with_reducible refine (q9_has.calls kj12 t115 114 t121 _ A37.out).mono ?_); rintro e w' ⟨rfl, ⟨nd, rfl⟩⟩; (try first | exact ⟨rfl, _, World.drewN_drewN _ _ _⟩ | exact ⟨rfl, _, Eq.trans (World.drewN_drewN _ _ _) (congrArg (World.drewN _) (Nat.add_assoc _ _ _))⟩))))
    (try simp only [Act.put, List.setIfInBounds_toArray, List.set_cons_zero, List.set_cons_succ])
    go_cut [8] (fun v8 wc => ∃ (kq : Nat) (x8_37 : Bool), v8 = .bool x8_37 ∧ Aside0 (q9_ins.j1 kq a2 t115 x8_37 a0_0 a0_1 a0_2 a0_3 a0_4 a0_5 a0_6 l0_7 a1_0 l1_1 = some r) ∧ Aside0 (kq ≤ kj12) ∧ Aside0 (wc.heap[gb113]? = some (.cells #[.int .i64 a0_0, .int .i64 a0_1, .int .i64 a0_2, .int .i64 a0_3, .int .i64 a0_4, .string a0_5, .int .i64 a0_6, (.slice A0_7 l0_7.length c0_7)] 31 (0, 0))) ∧ Aside0 (wc.heap[gb114]? = some (.cells #[.int .i64 a1_0, (.slice A1_1 l1_1.length c1_1)] 28 (0, 0))) ∧ Aside0 (Below w.heap.size w wc))
    case first =>
     have H := HC38.out
     clear HC38
     by_cases c39 : t121 = true
     ·subst c39
      rw [if_pos rfl] at H
      by_cases c40 : a0_2 ≥ (-1)
      ·rw [if_pos c40] at H
       have c40b0 : decide ((-1) ≤ a0_2) = true := decide_eq_true c40
       clear c40
       (first | rw [c40b0] | (simp only [i64_w, i32_w]; rw [c40b0]) | skip)
       have H' := Aside0.mk H
       clear H
       have hnb41 := NB113_114.out
       have hnc41 := NB114_113.out
       obtain ⟨hcz42_0, hcz42_1, hcz42_2, hcz42_3, hcz42_4, hcz42_5, hcz42_6, hcz42_7, hfz42_0, hfz42_1, hfz42_2, hfz42_3, hfz42_4, hfz42_5, hfz42_6, hfz42_7⟩ := zd8 BK113.out (.int .i64 a0_0) (.int .i64 a0_1) (.int .i64 a0_2) (.int .i64 a0_3) (.int .i64 a0_4) (.string a0_5) (.int .i64 a0_6) (.slice A0_7 l0_7.length c0_7)
       obtain ⟨hcz43_0, hcz43_1, hfz43_0, hfz43_1⟩ := zd2 BK114.out (.int .i64 a1_0) (.slice A1_1 l1_1.length c1_1)
       go_wp2
       repeat (go_quiet (fail); try go_wp2)
       go_meet
       case rel => exact ⟨_, (decide (a0_2 < a1_0)), zR, H', ⟨by have := HJ12.out; first | omega | exact Nat.le_refl _⟩, ⟨zK⟩, ⟨zK⟩, ⟨zG⟩⟩
      ·rw [if_neg c40] at H
       have c40b0 : decide ((-1) ≤ a0_2) = false := decide_eq_false c40
       clear c40
       (first | rw [c40b0] | (simp only [i64_w, i32_w]; rw [c40b0]) | skip)
       have H' := Aside0.mk H
       clear H
       have hnb44 := NB113_114.out
       have hnc44 := NB114_113.out
       obtain ⟨hcz45_0, hcz45_1, hcz45_2, hcz45_3, hcz45_4, hcz45_5, hcz45_6, hcz45_7, hfz45_0, hfz45_1, hfz45_2, hfz45_3, hfz45_4, hfz45_5, hfz45_6, hfz45_7⟩ := zd8 BK113.out (.int .i64 a0_0) (.int .i64 a0_1) (.int .i64 a0_2) (.int .i64 a0_3) (.int .i64 a0_4) (.string a0_5) (.int .i64 a0_6) (.slice A0_7 l0_7.length c0_7)
       go_wp2
       repeat (go_quiet (fail); try go_wp2)
       go_meet
       case rel => exact ⟨_, (false), zR, H', ⟨by have := HJ12.out; first | omega | exact Nat.le_refl _⟩, ⟨zK⟩, ⟨zK⟩, ⟨zG⟩⟩
     ·replace c39 := Bool.eq_false_iff.mpr c39
      subst c39
      rw [if_neg (show ¬ (false = true) by decide)] at H
      have H' := Aside0.mk H
      clear H
      go_wp2
      repeat (go_quiet (fail); try go_wp2)
      go_meet
      case rel => exact ⟨_, (x8_12), zR, H', ⟨by have := HJ12.out; first | omega | exact Nat.le_refl _⟩, ⟨zK⟩, ⟨zK⟩, ⟨zG⟩⟩
    case rest =>
     clear HC38
     obtain ⟨kq, x8_37, rfl, HA, HJ37, BK113, BK114, HB⟩ := hcut
     cases kq with
     | zero => exact absurd HA.out (by simp [q9_ins.j1])
     | succ kj37 =>
      have H := HA.out
      clear HA
      simp only [q9_ins.j1] at H
      obtain ⟨t122, A46, H⟩ := zO H
      obtain ⟨t123, A47, H⟩ := zO H
      obtain ⟨t124, A48, H⟩ := zO H
      have HC49 := Aside0.mk H
      clear H
      have hnb50 := NB113_114.out
      have hnc50 := NB114_113.out
      obtain ⟨hcz51_0, hcz51_1, hcz51_2, hcz51_3, hcz51_4, hcz51_5, hcz51_6, hcz51_7, hfz51_0, hfz51_1, hfz51_2, hfz51_3, hfz51_4, hfz51_5, hfz51_6, hfz51_7⟩ := zd8 BK113.out (.int .i64 a0_0) (.int .i64 a0_1) (.int .i64 a0_2) (.int .i64 a0_3) (.int .i64 a0_4) (.string a0_5) (.int .i64 a0_6) (.slice A0_7 l0_7.length c0_7)
      go_upto_if 64 with (fail)
      repeat (go_quiet (first | (go_at_call 74; (with_reducible refine (q9_has.calls kj37 t115 66 t122 _ A46.out).mono ?_); rintro e w' ⟨rfl, ⟨nd, rfl⟩⟩; (try first | exact ⟨rfl, _, World.drewN_drewN _ _ _⟩ | exact ⟨rfl, _, Eq.trans (World.drewN_drewN _ _ _) (congrArg (World.drewN _) (Nat.add_assoc _ _ _))⟩); obtain ⟨hcz52_0, hcz52_1, hfz52_0, hfz52_1⟩ := zd2 BK114.out (.int .i64 a1_0) (.slice A1_1 l1_1.length c1_1)) | (go_at_call 73; (with_reducible refine (q9_reg.calls a0_3 t122 a1_0 t123 _ A47.out).mono ?_); rintro e w' ⟨rfl, ⟨nd, rfl⟩⟩; (try first | exact ⟨rfl, _, World.drewN_drewN _ _ _⟩ | exact ⟨rfl, _, Eq.trans (World.drewN_drewN _ _ _) (congrArg (World.drewN _) (Nat.add_assoc _ _ _))⟩))); go_upto_if 64 with (first | (go_at_call 74; (with_reducible refine (q9_has.calls kj37 t115 98 t124 _ A48.out).mono ?_); rintro e w' ⟨rfl, ⟨nd, rfl⟩⟩; (try first | exact ⟨rfl, _, World.drewN_drewN _ _ _⟩ | exact ⟨rfl, _, Eq.trans (World.drewN_drewN _ _ _) (congrArg (World.drewN _) (Nat.add_assoc _ _ _))⟩))))
      (try simp only [Act.put, List.setIfInBounds_toArray, List.set_cons_zero, List.set_cons_succ])
      go_cut [11] (fun v11 wc => ∃ (kq : Nat) (x11_48 : Bool), v11 = .bool x11_48 ∧ Aside0 (q9_ins.j2 kq a2 t115 x8_37 x11_48 a0_0 a0_1 a0_2 a0_3 a0_4 a0_5 a0_6 l0_7 a1_0 l1_1 = some r) ∧ Aside0 (kq ≤ kj37) ∧ Aside0 (wc.heap[gb113]? = some (.cells #[.int .i64 a0_0, .int .i64 a0_1, .int .i64 a0_2, .int .i64 a0_3, .int .i64 a0_4, .string a0_5, .int .i64 a0_6, (.slice A0_7 l0_7.length c0_7)] 31 (0, 0))) ∧ Aside0 (wc.heap[gb114]? = some (.cells #[.int .i64 a1_0, (.slice A1_1 l1_1.length c1_1)] 28 (0, 0))) ∧ Aside0 (Below w.heap.size w wc))
      case first =>
       have H := HC49.out
       clear HC49
       by_cases c53 : t124 = true
       ·subst c53
        rw [if_pos rfl] at H
        by_cases c54 : a0_3 ≥ (-1)
        ·rw [if_pos c54] at H
         have c54b0 : decide ((-1) ≤ a0_3) = true := decide_eq_true c54
         clear c54
         (first | rw [c54b0] | (simp only [i64_w, i32_w]; rw [c54b0]) | skip)
         have H' := Aside0.mk H
         clear H
         have hnb55 := NB113_114.out
         have hnc55 := NB114_113.out
         obtain ⟨hcz56_0, hcz56_1, hcz56_2, hcz56_3, hcz56_4, hcz56_5, hcz56_6, hcz56_7, hfz56_0, hfz56_1, hfz56_2, hfz56_3, hfz56_4, hfz56_5, hfz56_6, hfz56_7⟩ := zd8 BK113.out (.int .i64 a0_0) (.int .i64 a0_1) (.int .i64 a0_2) (.int .i64 a0_3) (.int .i64 a0_4) (.string a0_5) (.int .i64 a0_6) (.slice A0_7 l0_7.length c0_7)
         obtain ⟨hcz57_0, hcz57_1, hfz57_0, hfz57_1⟩ := zd2 BK114.out (.int .i64 a1_0) (.slice A1_1 l1_1.length c1_1)
         go_wp2
         repeat (go_quiet (fail); try go_wp2)
         go_meet
         case rel => exact ⟨_, (decide (a0_3 < a1_0)), zR, H', ⟨by have := HJ12.out; have := HJ37.out; first | omega | exact Nat.le_refl _⟩, ⟨zK⟩, ⟨zK⟩, ⟨zG⟩⟩
        ·rw [if_neg c54] at H
         have c54b0 : decide ((-1) ≤ a0_3) = false := decide_eq_false c54
         clear c54
         (first | rw [c54b0] | (simp only [i64_w, i32_w]; rw [c54b0]) | skip)
         have H' := Aside0.mk H
         clear H
         have hnb58 := NB113_114.out
         have hnc58 := NB114_113.out
         obtain ⟨hcz59_0, hcz59_1, hcz59_2, hcz59_3, hcz59_4, hcz59_5, hcz59_6, hcz59_7, hfz59_0, hfz59_1, hfz59_2, hfz59_3, hfz59_4, hfz59_5, hfz59_6, hfz59_7⟩ := zd8 BK113.out (.int .i64 a0_0) (.int .i64 a0_1) (.int .i64 a0_2) (.int .i64 a0_3) (.int .i64 a0_4) (.string a0_5) (.int .i64 a0_6) (.slice A0_7 l0_7.length c0_7)
         go_wp2
         repeat (go_quiet (fail); try go_wp2)
         go_meet
         case rel => exact ⟨_, (false), zR, H', ⟨by have := HJ12.out; have := HJ37.out; first | omega | exact Nat.le_refl _⟩, ⟨zK⟩, ⟨zK⟩, ⟨zG⟩⟩
       ·replace c53 := Bool.eq_false_iff.mpr c53
        subst c53
        rw [if_neg (show ¬ (false = true) by decide)] at H
        have H' := Aside0.mk H
        clear H
        go_wp2
        repeat (go_quiet (fail); try go_wp2)
        go_meet
        case rel => exact ⟨_, (t123), zR, H', ⟨by have := HJ12.out; have := HJ37.out; first | omega | exact Nat.le_refl _⟩, ⟨zK⟩, ⟨zK⟩, ⟨zG⟩⟩
      case rest =>
       clear HC49
       clear hcz51_0 hcz51_1 hcz51_2 hcz51_3 hcz51_4 hcz51_5 hcz51_6 hcz51_7 hcz52_0 hcz52_1 hfz51_0 hfz51_1 hfz51_2 hfz51_3 hfz51_4 hfz51_5 hfz51_6 hfz51_7 hfz52_0 hfz52_1
       obtain ⟨kq, x11_48, rfl, HA, HJ48, BK113, BK114, HB⟩ := hcut
       cases kq with
       | zero => exact absurd HA.out (by simp [q9_ins.j2])
       | succ kj48 =>
        have H := HA.out
        clear HA
        simp only [q9_ins.j2] at H
        have HC60 := Aside0.mk H
        clear H
        go_upto_region 14 with (fail)
        repeat (go_quiet (fail); go_upto_region 14 with (fail))
        go_cut [12] (fun v12 wc => ∃ (kq : Nat) (x12_59 : Bool), v12 = .bool x12_59 ∧ Aside0 (q9_ins.j3 kq a2 t115 x8_37 x11_48 x12_59 a0_0 a0_1 a0_2 a0_3 a0_4 a0_5 a0_6 l0_7 a1_0 l1_1 = some r) ∧ Aside0 (kq ≤ kj48) ∧ Aside0 (wc.heap[gb113]? = some (.cells #[.int .i64 a0_0, .int .i64 a0_1, .int .i64 a0_2, .int .i64 a0_3, .int .i64 a0_4, .string a0_5, .int .i64 a0_6, (.slice A0_7 l0_7.length c0_7)] 31 (0, 0))) ∧ Aside0 (wc.heap[gb114]? = some (.cells #[.int .i64 a1_0, (.slice A1_1 l1_1.length c1_1)] 28 (0, 0))) ∧ Aside0 (Below w.heap.size w wc))
        case first =>
         have H := HC60.out
         clear HC60
         by_cases c61 : a0_5.toList = ([] : List UInt8)
         ·rw [if_pos c61] at H
          have c61b0 : (a0_5.toList == ([] : List UInt8)) = true := beq_iff_eq.mpr c61
          have c61b1 : (a0_5.toList != ([] : List UInt8)) = false := bne_eq_false_iff_eq.mpr c61
          clear c61
          (first | rw [c61b0] | (simp only [i64_w, i32_w]; rw [c61b0]) | skip)
          have H' := Aside0.mk H
          clear H
          have hnb62 := NB113_114.out
          have hnc62 := NB114_113.out
          obtain ⟨hcz63_0, hcz63_1, hcz63_2, hcz63_3, hcz63_4, hcz63_5, hcz63_6, hcz63_7, hfz63_0, hfz63_1, hfz63_2, hfz63_3, hfz63_4, hfz63_5, hfz63_6, hfz63_7⟩ := zd8 BK113.out (.int .i64 a0_0) (.int .i64 a0_1) (.int .i64 a0_2) (.int .i64 a0_3) (.int .i64 a0_4) (.string a0_5) (.int .i64 a0_6) (.slice A0_7 l0_7.length c0_7)
          go_wp2
          repeat (go_quiet (fail); try go_wp2)
          go_meet
          case rel => exact ⟨_, (true), zR, H', ⟨by have := HJ12.out; have := HJ37.out; have := HJ48.out; first | omega | exact Nat.le_refl _⟩, ⟨zK⟩, ⟨zK⟩, ⟨zG⟩⟩
         ·rw [if_neg c61] at H
          have c61b0 : (a0_5.toList == ([] : List UInt8)) = false := beq_eq_false_iff_ne.mpr c61
          have c61b1 : (a0_5.toList != ([] : List UInt8)) = true := bne_iff_ne.mpr c61
          (first | rw [c61b0] | (simp only [i64_w, i32_w]; rw [c61b0]) | skip)
          obtain ⟨t125, A64, H⟩ := zO H
          have H' := Aside0.mk H
          clear H
          have hnb65 := NB113_114.out
          have hnc65 := NB114_113.out
          obtain ⟨hcz66_0, hcz66_1, hcz66_2, hcz66_3, hcz66_4, hcz66_5, hcz66_6, hcz66_7, hfz66_0, hfz66_1, hfz66_2, hfz66_3, hfz66_4, hfz66_5, hfz66_6, hfz66_7⟩ := zd8 BK113.out (.int .i64 a0_0) (.int .i64 a0_1) (.int .i64 a0_2) (.int .i64 a0_3) (.int .i64 a0_4) (.string a0_5) (.int .i64 a0_6) (.slice A0_7 l0_7.length c0_7)
          go_wp2_with (first | (go_at_call 74; (with_reducible refine (q9_has.calls kj48 t115 83 t125 _ A64.out).mono ?_); rintro e w' ⟨rfl, ⟨nd, rfl⟩⟩; (try first | exact ⟨rfl, _, World.drewN_drewN _ _ _⟩ | exact ⟨rfl, _, Eq.trans (World.drewN_drewN _ _ _) (congrArg (World.drewN _) (Nat.add_assoc _ _ _))⟩)))
          repeat (go_quiet (first | (go_at_call 74; (with_reducible refine (q9_has.calls kj48 t115 83 t125 _ A64.out).mono ?_); rintro e w' ⟨rfl, ⟨nd, rfl⟩⟩; (try first | exact ⟨rfl, _, World.drewN_drewN _ _ _⟩ | exact ⟨rfl, _, Eq.trans (World.drewN_drewN _ _ _) (congrArg (World.drewN _) (Nat.add_assoc _ _ _))⟩))); try go_wp2_with (first | (go_at_call 74; (with_reducible refine (q9_has.calls kj48 t115 83 t125 _ A64.out).mono ?_); rintro e w' ⟨rfl, ⟨nd, rfl⟩⟩; (try first | exact ⟨rfl, _, World.drewN_drewN _ _ _⟩ | exact ⟨rfl, _, Eq.trans (World.drewN_drewN _ _ _) (congrArg (World.drewN _) (Nat.add_assoc _ _ _))⟩))))
          go_meet
          case rel => exact ⟨_, (t125), zR, H', ⟨by have := HJ12.out; have := HJ37.out; have := HJ48.out; first | omega | exact Nat.le_refl _⟩, ⟨zK⟩, ⟨zK⟩, ⟨zG⟩⟩
        case rest =>
         clear HC60
         obtain ⟨kq, x12_59, rfl, HA, HJ59, BK113, BK114, HB⟩ := hcut
         cases kq with
         | zero => exact absurd HA.out (by simp [q9_ins.j3])
         | succ kj59 =>
          have H := HA.out
          clear HA
          simp only [q9_ins.j3] at H
          obtain ⟨t126, A67, H⟩ := zO H
          have HC68 := Aside0.mk H
          clear H
          go_upto_if 83 with (first | (go_at_call 74; (with_reducible refine (q9_has.calls kj59 t115 115 t126 _ A67.out).mono ?_); rintro e w' ⟨rfl, ⟨nd, rfl⟩⟩; (try first | exact ⟨rfl, _, World.drewN_drewN _ _ _⟩ | exact ⟨rfl, _, Eq.trans (World.drewN_drewN _ _ _) (congrArg (World.drewN _) (Nat.add_assoc _ _ _))⟩)))
          repeat (go_quiet (first | (go_at_call 74; (with_reducible refine (q9_has.calls kj59 t115 115 t126 _ A67.out).mono ?_); rintro e w' ⟨rfl, ⟨nd, rfl⟩⟩; (try first | exact ⟨rfl, _, World.drewN_drewN _ _ _⟩ | exact ⟨rfl, _, Eq.trans (World.drewN_drewN _ _ _) (congrArg (World.drewN _) (Nat.add_assoc _ _ _))⟩))); go_upto_if 83 with (first | (go_at_call 74; (with_reducible refine (q9_has.calls kj59 t115 115 t126 _ A67.out).mono ?_); rintro e w' ⟨rfl, ⟨nd, rfl⟩⟩; (try first | exact ⟨rfl, _, World.drewN_drewN _ _ _⟩ | exact ⟨rfl, _, Eq.trans (World.drewN_drewN _ _ _) (congrArg (World.drewN _) (Nat.add_assoc _ _ _))⟩))))
          (try simp only [Act.put, List.setIfInBounds_toArray, List.set_cons_zero, List.set_cons_succ])
          go_cut [12] (fun v12 wc => ∃ (kq : Nat) (x12_67 : Bool), v12 = .bool x12_67 ∧ Aside0 (q9_ins.j4 kq a2 t115 x8_37 x11_48 x12_67 a0_0 a0_1 a0_2 a0_3 a0_4 a0_5 a0_6 l0_7 a1_0 l1_1 = some r) ∧ Aside0 (kq ≤ kj59) ∧ Aside0 (wc.heap[gb113]? = some (.cells #[.int .i64 a0_0, .int .i64 a0_1, .int .i64 a0_2, .int .i64 a0_3, .int .i64 a0_4, .string a0_5, .int .i64 a0_6, (.slice A0_7 l0_7.length c0_7)] 31 (0, 0))) ∧ Aside0 (wc.heap[gb114]? = some (.cells #[.int .i64 a1_0, (.slice A1_1 l1_1.length c1_1)] 28 (0, 0))) ∧ Aside0 (Below w.heap.size w wc))
          case first =>
           have H := HC68.out
           clear HC68
           by_cases c69 : t126 = true
           ·subst c69
            rw [if_pos rfl] at H
            obtain ⟨t127, A70, H⟩ := zO H
            have H' := Aside0.mk H
            clear H
            have hnb71 := NB113_114.out
            have hnc71 := NB114_113.out
            obtain ⟨hcz72_0, hcz72_1, hcz72_2, hcz72_3, hcz72_4, hcz72_5, hcz72_6, hcz72_7, hfz72_0, hfz72_1, hfz72_2, hfz72_3, hfz72_4, hfz72_5, hfz72_6, hfz72_7⟩ := zd8 BK113.out (.int .i64 a0_0) (.int .i64 a0_1) (.int .i64 a0_2) (.int .i64 a0_3) (.int .i64 a0_4) (.string a0_5) (.int .i64 a0_6) (.slice A0_7 l0_7.length c0_7)
            go_wp2_with (first | (go_at_call 76; (with_reducible refine (q9_sign.calls a0_5 t127 _ A70.out).mono ?_); rintro e w73 ⟨rfl, hb⟩; replace BK113 := Aside0.mk (blk_below (g := gb113) (o := .cells #[.int .i64 a0_0, .int .i64 a0_1, .int .i64 a0_2, .int .i64 a0_3, .int .i64 a0_4, .string a0_5, .int .i64 a0_6, .slice A0_7 l0_7.length c0_7] 31 (0, 0)) zK hb); replace BK114 := Aside0.mk (blk_below (g := gb114) (o := .cells #[.int .i64 a1_0, .slice A1_1 l1_1.length c1_1] 28 (0, 0)) zK hb); replace HB := Aside0.mk (below_step zG hb); (try clear hb)))
            repeat (go_quiet (first | (go_at_call 76; (with_reducible refine (q9_sign.calls a0_5 t127 _ A70.out).mono ?_); rintro e w73 ⟨rfl, hb⟩; replace BK113 := Aside0.mk (blk_below (g := gb113) (o := .cells #[.int .i64 a0_0, .int .i64 a0_1, .int .i64 a0_2, .int .i64 a0_3, .int .i64 a0_4, .string a0_5, .int .i64 a0_6, .slice A0_7 l0_7.length c0_7] 31 (0, 0)) zK hb); replace BK114 := Aside0.mk (blk_below (g := gb114) (o := .cells #[.int .i64 a1_0, .slice A1_1 l1_1.length c1_1] 28 (0, 0)) zK hb); replace HB := Aside0.mk (below_step zG hb))); try go_wp2_with (first | (go_at_call 76; (with_reducible refine (q9_sign.calls a0_5 t127 _ A70.out).mono ?_); rintro e w73 ⟨rfl, hb⟩; replace BK113 := Aside0.mk (blk_below (g := gb113) (o := .cells #[.int .i64 a0_0, .int .i64 a0_1, .int .i64 a0_2, .int .i64 a0_3, .int .i64 a0_4, .string a0_5, .int .i64 a0_6, .slice A0_7 l0_7.length c0_7] 31 (0, 0)) zK hb); replace BK114 := Aside0.mk (blk_below (g := gb114) (o := .cells #[.int .i64 a1_0, .slice A1_1 l1_1.length c1_1] 28 (0, 0)) zK hb); replace HB := Aside0.mk (below_step zG hb))))
            go_meet
            case rel => exact ⟨_, (t127), zR, H', ⟨by have := HJ12.out; have := HJ37.out; have := HJ48.out; have := HJ59.out; first | omega | exact Nat.le_refl _⟩, ⟨zK⟩, ⟨zK⟩, ⟨zG⟩⟩
           ·replace c69 := Bool.eq_false_iff.mpr c69
            subst c69
            rw [if_neg (show ¬ (false = true) by decide)] at H
            have H' := Aside0.mk H
            clear H
            go_wp2
            repeat (go_quiet (fail); try go_wp2)
            go_meet
            case rel => exact ⟨_, (x12_59), zR, H', ⟨by have := HJ12.out; have := HJ37.out; have := HJ48.out; have := HJ59.out; first | omega | exact Nat.le_refl _⟩, ⟨zK⟩, ⟨zK⟩, ⟨zG⟩⟩
          case rest =>
           clear HC68
           obtain ⟨kq, x12_67, rfl, HA, HJ67, BK113, BK114, HB⟩ := hcut
           cases kq with
           | zero => exact absurd HA.out (by simp [q9_ins.j4])
           | succ kj67 =>
            have H := HA.out
            clear HA
            simp only [q9_ins.j4] at H
            have HC74 := Aside0.mk H
            clear H
            go_upto_region 17 with (fail)
            repeat (go_quiet (fail); go_upto_region 17 with (fail))
            go_cut [95] (fun v95 wc => ∃ (kq : Nat) (x95_73 : Bool), v95 = .bool x95_73 ∧ Aside0 (q9_ins.j5 kq a2 t115 x8_37 x11_48 x12_67 x95_73 a0_0 a0_1 a0_2 a0_3 a0_4 a0_5 a0_6 l0_7 a1_0 l1_1 = some r) ∧ Aside0 (kq ≤ kj67) ∧ Aside0 (wc.heap[gb113]? = some (.cells #[.int .i64 a0_0, .int .i64 a0_1, .int .i64 a0_2, .int .i64 a0_3, .int .i64 a0_4, .string a0_5, .int .i64 a0_6, (.slice A0_7 l0_7.length c0_7)] 31 (0, 0))) ∧ Aside0 (wc.heap[gb114]? = some (.cells #[.int .i64 a1_0, (.slice A1_1 l1_1.length c1_1)] 28 (0, 0))) ∧ Aside0 (Below w.heap.size w wc))
            case first =>
             have H := HC74.out
             clear HC74
             by_cases c75 : (l0_7.length : Int) > 0
             ·rw [if_pos c75] at H
              have c75b0 : decide (0 < (l0_7.length : Int)) = true := decide_eq_true c75
              have c75b1 : decide (0 < l0_7.length) = true := decide_eq_true (by omega)
              clear c75
              (first | rw [c75b0] | (simp only [i64_w, i32_w]; rw [c75b0]) | skip)
              obtain ⟨t128, A76, H⟩ := zO H
              have H' := Aside0.mk H
              clear H
              have hnb77 := NB113_114.out
              have hnc77 := NB114_113.out
              obtain ⟨hcz78_0, hcz78_1, hcz78_2, hcz78_3, hcz78_4, hcz78_5, hcz78_6, hcz78_7, hfz78_0, hfz78_1, hfz78_2, hfz78_3, hfz78_4, hfz78_5, hfz78_6, hfz78_7⟩ := zd8 BK113.out (.int .i64 a0_0) (.int .i64 a0_1) (.int .i64 a0_2) (.int .i64 a0_3) (.int .i64 a0_4) (.string a0_5) (.int .i64 a0_6) (.slice A0_7 l0_7.length c0_7)
              go_wp2_with (first | (go_at_call 74; (with_reducible refine (q9_has.calls kj67 t115 76 t128 _ A76.out).mono ?_); rintro e w' ⟨rfl, ⟨nd, rfl⟩⟩; (try first | exact ⟨rfl, _, World.drewN_drewN _ _ _⟩ | exact ⟨rfl, _, Eq.trans (World.drewN_drewN _ _ _) (congrArg (World.drewN _) (Nat.add_assoc _ _ _))⟩)))
              repeat (go_quiet (first | (go_at_call 74; (with_reducible refine (q9_has.calls kj67 t115 76 t128 _ A76.out).mono ?_); rintro e w' ⟨rfl, ⟨nd, rfl⟩⟩; (try first | exact ⟨rfl, _, World.drewN_drewN _ _ _⟩ | exact ⟨rfl, _, Eq.trans (World.drewN_drewN _ _ _) (congrArg (World.drewN _) (Nat.add_assoc _ _ _))⟩))); try go_wp2_with (first | (go_at_call 74; (with_reducible refine (q9_has.calls kj67 t115 76 t128 _ A76.out).mono ?_); rintro e w' ⟨rfl, ⟨nd, rfl⟩⟩; (try first | exact ⟨rfl, _, World.drewN_drewN _ _ _⟩ | exact ⟨rfl, _, Eq.trans (World.drewN_drewN _ _ _) (congrArg (World.drewN _) (Nat.add_assoc _ _ _))⟩))))
              go_meet
              case rel => exact ⟨_, (!t128), zR, H', ⟨by have := HJ12.out; have := HJ37.out; have := HJ48.out; have := HJ59.out; have := HJ67.out; first | omega | exact Nat.le_refl _⟩, ⟨zK⟩, ⟨zK⟩, ⟨zG⟩⟩
             ·rw [if_neg c75] at H
              have c75b0 : decide (0 < (l0_7.length : Int)) = false := decide_eq_false c75
              have c75b1 : decide (0 < l0_7.length) = false := decide_eq_false (by omega)
              clear c75
              (first | rw [c75b0] | (simp only [i64_w, i32_w]; rw [c75b0]) | skip)
              have H' := Aside0.mk H
              clear H
              have hnb79 := NB113_114.out
              have hnc79 := NB114_113.out
              obtain ⟨hcz80_0, hcz80_1, hcz80_2, hcz80_3, hcz80_4, hcz80_5, hcz80_6, hcz80_7, hfz80_0, hfz80_1, hfz80_2, hfz80_3, hfz80_4, hfz80_5, hfz80_6, hfz80_7⟩ := zd8 BK113.out (.int .i64 a0_0) (.int .i64 a0_1) (.int .i64 a0_2) (.int .i64 a0_3) (.int .i64 a0_4) (.string a0_5) (.int .i64 a0_6) (.slice A0_7 l0_7.length c0_7)
              go_wp2
              repeat (go_quiet (fail); try go_wp2)
              go_meet
              case rel => exact ⟨_, (false), zR, H', ⟨by have := HJ12.out; have := HJ37.out; have := HJ48.out; have := HJ59.out; have := HJ67.out; first | omega | exact Nat.le_refl _⟩, ⟨zK⟩, ⟨zK⟩, ⟨zG⟩⟩
            case rest =>
             clear HC74
             obtain ⟨kq, x95_73, rfl, HA, HJ73, BK113, BK114, HB⟩ := hcut
             cases kq with
             | zero => exact absurd HA.out (by simp [q9_ins.j5])
             | succ kj73 =>
              have H := HA.out
              clear HA
              simp only [q9_ins.j5] at H
              by_cases c81 : x95_73 = true
              ·subst c81
               rw [if_pos rfl] at H
               obtain rfl := Option.some.inj H
               go_wp2
               repeat (go_quiet (fail); try go_wp2)
               go_ret
               exact ⟨zE, zG⟩
              ·replace c81 := Bool.eq_false_iff.mpr c81
               subst c81
               rw [if_neg (show ¬ (false = true) by decide)] at H
               have H' := Aside0.mk H
               clear H
               go_wp2
               repeat (go_quiet (fail); try go_wp2)
               go_loopg [13] kj73 (fun kq v13 w' => ∃ (x13_7 : Int), v13 = .int .i64 x13_7 ∧ Aside0 (q9_ins.l0 kq a2 t115 x8_37 x11_48 x12_67 x13_7 a0_0 a0_1 a0_2 a0_3 a0_4 a0_5 a0_6 l0_7 a1_0 l1_1 = some r) ∧ Aside0 (kq ≤ kj73) ∧ Aside0 (w'.heap[gb113]? = some (.cells #[.int .i64 a0_0, .int .i64 a0_1, .int .i64 a0_2, .int .i64 a0_3, .int .i64 a0_4, .string a0_5, .int .i64 a0_6, (.slice A0_7 l0_7.length c0_7)] 31 (0, 0))) ∧ Aside0 (w'.heap[gb114]? = some (.cells #[.int .i64 a1_0, (.slice A1_1 l1_1.length c1_1)] 28 (0, 0))) ∧ Aside0 (Below w.heap.size w w'))
               case atStart => exact ⟨(0), zR, H', ⟨Nat.le_refl _⟩, ⟨zK⟩, ⟨zK⟩, ⟨zG⟩⟩
               case round =>
                clear H'
                obtain ⟨x13_7, rfl, HA, HK7, BK113, BK114, HB⟩ := hrel
                cases gk with
                | zero => exact absurd HA.out (by simp [q9_ins.l0])
                | succ k7 =>
                 have H := HA.out
                 clear HA
                 simp only [q9_ins.l0] at H
                 by_cases c82 : x13_7 < (l0_7.length : Int)
                 ·rw [if_pos c82] at H
                  have c82b0 : decide (x13_7 < (l0_7.length : Int)) = true := decide_eq_true c82
                  clear c82
                  by_cases c83 : 0 ≤ x13_7
                  ·rw [if_pos c83] at H
                   have c83b0 : decide (0 ≤ x13_7) = true := decide_eq_true c83
                   clear c83
                   by_cases c84 : (rd l0_7 x13_7) < 0
                   ·rw [if_pos c84] at H
                    have c84b0 : decide ((rd l0_7 x13_7) < 0) = true := decide_eq_true c84
                    clear c84
                    obtain rfl := Option.some.inj H
                    have hnb85 := NB113_114.out
                    have hnc85 := NB114_113.out
                    obtain ⟨hcz86_0, hcz86_1, hcz86_2, hcz86_3, hcz86_4, hcz86_5, hcz86_6, hcz86_7, hfz86_0, hfz86_1, hfz86_2, hfz86_3, hfz86_4, hfz86_5, hfz86_6, hfz86_7⟩ := zd8 BK113.out (.int .i64 a0_0) (.int .i64 a0_1) (.int .i64 a0_2) (.int .i64 a0_3) (.int .i64 a0_4) (.string a0_5) (.int .i64 a0_6) (.slice A0_7 l0_7.length c0_7)
                    have p129 : 0 ≤ (x13_7 : Int) := of_decide_eq_true zA
                    have q129 : x13_7 < (l0_7.length : Int) := of_decide_eq_true zA
                    obtain ⟨ad129, e129, hx129_0⟩ := Kd.at_int HR0_7.out x13_7 p129 q129
                    cases e129
                    replace hx129_0 := (HB.out.cell (World.block_lt_of_cell? w _ hx129_0)).trans hx129_0
                    replace p129 := eq_true p129
                    replace q129 := eq_true q129
                    go_wp2
                    repeat (go_quiet (fail); try go_wp2)
                    go_ret
                    exact ⟨zE, zG⟩
                   ·rw [if_neg c84] at H
                    have c84b0 : decide ((rd l0_7 x13_7) < 0) = false := decide_eq_false c84
                    clear c84
                    by_cases c87 : (rd l0_7 x13_7) ≥ a1_0
                    ·rw [if_pos c87] at H
                     have c87b0 : decide (a1_0 ≤ (rd l0_7 x13_7)) = true := decide_eq_true c87
                     clear c87
                     obtain rfl := Option.some.inj H
                     have hnb88 := NB113_114.out
                     have hnc88 := NB114_113.out
                     obtain ⟨hcz89_0, hcz89_1, hcz89_2, hcz89_3, hcz89_4, hcz89_5, hcz89_6, hcz89_7, hfz89_0, hfz89_1, hfz89_2, hfz89_3, hfz89_4, hfz89_5, hfz89_6, hfz89_7⟩ := zd8 BK113.out (.int .i64 a0_0) (.int .i64 a0_1) (.int .i64 a0_2) (.int .i64 a0_3) (.int .i64 a0_4) (.string a0_5) (.int .i64 a0_6) (.slice A0_7 l0_7.length c0_7)
                     have p129 : 0 ≤ (x13_7 : Int) := of_decide_eq_true zA
                     have q129 : x13_7 < (l0_7.length : Int) := of_decide_eq_true zA
                     obtain ⟨ad129, e129, hx129_0⟩ := Kd.at_int HR0_7.out x13_7 p129 q129
                     cases e129
                     replace hx129_0 := (HB.out.cell (World.block_lt_of_cell? w _ hx129_0)).trans hx129_0
                     replace p129 := eq_true p129
                     replace q129 := eq_true q129
                     have p130 : 0 ≤ (x13_7 : Int) := of_decide_eq_true zA
                     have q130 : x13_7 < (l0_7.length : Int) := of_decide_eq_true zA
                     obtain ⟨ad130, e130, hx130_0⟩ := Kd.at_int HR0_7.out x13_7 p130 q130
                     obtain rfl : ad129 = ad130 := (by injection e130)
                     replace hx130_0 := (HB.out.cell (World.block_lt_of_cell? w _ hx130_0)).trans hx130_0
                     replace p130 := eq_true p130
                     replace q130 := eq_true q130
                     obtain ⟨hcz90_0, hcz90_1, hfz90_0, hfz90_1⟩ := zd2 BK114.out (.int .i64 a1_0) (.slice A1_1 l1_1.length c1_1)
                     go_wp2
                     repeat (go_quiet (fail); try go_wp2)
                     go_ret
                     exact ⟨zE, zG⟩
                    ·rw [if_neg c87] at H
                     have c87b0 : decide (a1_0 ≤ (rd l0_7 x13_7)) = false := decide_eq_false c87
                     clear c87
                     have H' := Aside0.mk H
                     clear H
                     have hnb91 := NB113_114.out
                     have hnc91 := NB114_113.out
                     obtain ⟨hcz92_0, hcz92_1, hcz92_2, hcz92_3, hcz92_4, hcz92_5, hcz92_6, hcz92_7, hfz92_0, hfz92_1, hfz92_2, hfz92_3, hfz92_4, hfz92_5, hfz92_6, hfz92_7⟩ := zd8 BK113.out (.int .i64 a0_0) (.int .i64 a0_1) (.int .i64 a0_2) (.int .i64 a0_3) (.int .i64 a0_4) (.string a0_5) (.int .i64 a0_6) (.slice A0_7 l0_7.length c0_7)
                     have p129 : 0 ≤ (x13_7 : Int) := of_decide_eq_true zA
                     have q129 : x13_7 < (l0_7.length : Int) := of_decide_eq_true zA
                     obtain ⟨ad129, e129, hx129_0⟩ := Kd.at_int HR0_7.out x13_7 p129 q129
                     cases e129
                     replace hx129_0 := (HB.out.cell (World.block_lt_of_cell? w _ hx129_0)).trans hx129_0
                     replace p129 := eq_true p129
                     replace q129 := eq_true q129
                     have p130 : 0 ≤ (x13_7 : Int) := of_decide_eq_true zA
                     have q130 : x13_7 < (l0_7.length : Int) := of_decide_eq_true zA
                     obtain ⟨ad130, e130, hx130_0⟩ := Kd.at_int HR0_7.out x13_7 p130 q130
                     obtain rfl : ad129 = ad130 := (by injection e130)
                     replace hx130_0 := (HB.out.cell (World.block_lt_of_cell? w _ hx130_0)).trans hx130_0
                     replace p130 := eq_true p130
                     replace q130 := eq_true q130
                     obtain ⟨hcz93_0, hcz93_1, hfz93_0, hfz93_1⟩ := zd2 BK114.out (.int .i64 a1_0) (.slice A1_1 l1_1.length c1_1)
                     go_wp2
                     repeat (go_quiet (fail); try go_wp2)
                     go_roundg k7
                     case measure => have := HJ12.out; have := HJ37.out; have := HJ48.out; have := HJ59.out; have := HJ67.out; have := HJ73.out; have := HK7.out; omega
                     case rel => exact ⟨(wrap64 (x13_7 + 1)), zR, H', ⟨by have := HJ12.out; have := HJ37.out; have := HJ48.out; have := HJ59.out; have := HJ67.out; have := HJ73.out; have := HK7.out; omega⟩, ⟨zK⟩, ⟨zK⟩, ⟨zG⟩⟩
                  ·rw [if_neg c83] at H
                   exact absurd H (by simp)
                 ·rw [if_neg c82] at H
                  have c82b0 : decide (x13_7 < (l0_7.length : Int)) = false := decide_eq_false c82
                  clear c82
                  obtain ⟨t131, A94, H⟩ := zO H
                  by_cases c95 : x8_37 = true
                  ·subst c95
                   rw [if_pos rfl] at H
                   by_cases c96 : x11_48 = true
                   ·subst c96
                    rw [if_pos rfl] at H
                    by_cases c97 : x12_67 = true
                    ·subst c97
                     rw [if_pos rfl] at H
                     by_cases c98 : t131 = true
                     ·subst c98
                      rw [if_pos rfl] at H
                      obtain ⟨t132, A99, H⟩ := zO H
                      obtain ⟨t133, A100, H⟩ := zO H
                      by_cases c101 : t133 = true
                      ·subst c101
                       rw [if_pos rfl] at H
                       obtain ⟨t134, A102, H⟩ := zO H
                       obtain ⟨t135, A103, H⟩ := zO H
                       obtain rfl := Option.some.inj H
                       have hnb104 := NB113_114.out
                       have hnc104 := NB114_113.out
                       obtain ⟨hcz105_0, hcz105_1, hcz105_2, hcz105_3, hcz105_4, hcz105_5, hcz105_6, hcz105_7, hfz105_0, hfz105_1, hfz105_2, hfz105_3, hfz105_4, hfz105_5, hfz105_6, hfz105_7⟩ := zd8 BK113.out (.int .i64 a0_0) (.int .i64 a0_1) (.int .i64 a0_2) (.int .i64 a0_3) (.int .i64 a0_4) (.string a0_5) (.int .i64 a0_6) (.slice A0_7 l0_7.length c0_7)
                       obtain ⟨hcz106_0, hcz106_1, hfz106_0, hfz106_1⟩ := zd2 BK114.out (.int .i64 a1_0) (.slice A1_1 l1_1.length c1_1)
                       go_wp2_with (first | (go_at_call 77; (with_reducible refine (q9_number.calls k7 a0_0 a0_1 a0_2 a0_3 a0_4 a0_5 a0_6 _ _ l0_7 t115 a1_0 _ _ l1_1 a2 true _ ?side1 ?side2 ?side3 ?side4 A94.out).mono ?_); (case side1 => repeat (first | exact (Kd.C_below HR0_7.out HB.out) | (with_reducible refine Kd.C_alloc ?_ _) | (with_reducible refine Kd.C_drewN ?_ _) | (with_reducible refine Kd.C_drew ?_))); (case side2 => exact HC0_7.out); (case side3 => repeat (first | exact (Kd.C_below HR1_1.out HB.out) | (with_reducible refine Kd.C_alloc ?_ _) | (with_reducible refine Kd.C_drewN ?_ _) | (with_reducible refine Kd.C_drew ?_))); (case side4 => exact HC1_1.out); rintro e w107 ⟨rfl, hb⟩; replace BK113 := Aside0.mk (blk_below (g := gb113) (o := .cells #[.int .i64 a0_0, .int .i64 a0_1, .int .i64 a0_2, .int .i64 a0_3, .int .i64 a0_4, .string a0_5, .int .i64 a0_6, .slice A0_7 l0_7.length c0_7] 31 (0, 0)) zK hb); replace BK114 := Aside0.mk (blk_below (g := gb114) (o := .cells #[.int .i64 a1_0, .slice A1_1 l1_1.length c1_1] 28 (0, 0)) zK hb); replace HB := Aside0.mk (below_step zG hb); (try clear hb); obtain ⟨hcz108_0, hcz108_1, hcz108_2, hcz108_3, hcz108_4, hcz108_5, hcz108_6, hcz108_7, hfz108_0, hfz108_1, hfz108_2, hfz108_3, hfz108_4, hfz108_5, hfz108_6, hfz108_7⟩ := zd8 BK113.out (.int .i64 a0_0) (.int .i64 a0_1) (.int .i64 a0_2) (.int .i64 a0_3) (.int .i64 a0_4) (.string a0_5) (.int .i64 a0_6) (.slice A0_7 l0_7.length c0_7)))
                       repeat (go_quiet (first | (go_at_call 74; (with_reducible refine (q9_has.calls k7 t115 68 t132 _ A99.out).mono ?_); rintro e w' ⟨rfl, ⟨nd, rfl⟩⟩; (try first | exact ⟨rfl, _, World.drewN_drewN _ _ _⟩ | exact ⟨rfl, _, Eq.trans (World.drewN_drewN _ _ _) (congrArg (World.drewN _) (Nat.add_assoc _ _ _))⟩); obtain ⟨hcz109_0, hcz109_1, hfz109_0, hfz109_1⟩ := zd2 BK114.out (.int .i64 a1_0) (.slice A1_1 l1_1.length c1_1)) | (go_at_call 73; (with_reducible refine (q9_reg.calls a0_1 t132 a1_0 true _ A100.out).mono ?_); rintro e w' ⟨rfl, ⟨nd, rfl⟩⟩; (try first | exact ⟨rfl, _, World.drewN_drewN _ _ _⟩ | exact ⟨rfl, _, Eq.trans (World.drewN_drewN _ _ _) (congrArg (World.drewN _) (Nat.add_assoc _ _ _))⟩)) | (go_at_call 74; (with_reducible refine (q9_has.calls k7 t115 67 t134 _ A102.out).mono ?_); rintro e w' ⟨rfl, ⟨nd, rfl⟩⟩; (try first | exact ⟨rfl, _, World.drewN_drewN _ _ _⟩ | exact ⟨rfl, _, Eq.trans (World.drewN_drewN _ _ _) (congrArg (World.drewN _) (Nat.add_assoc _ _ _))⟩)) | (go_at_call 73; (with_reducible refine (q9_reg.calls a0_4 t134 a1_0 t135 _ A103.out).mono ?_); rintro e w' ⟨rfl, ⟨nd, rfl⟩⟩; (try first | exact ⟨rfl, _, World.drewN_drewN _ _ _⟩ | exact ⟨rfl, _, Eq.trans (World.drewN_drewN _ _ _) (congrArg (World.drewN _) (Nat.add_assoc _ _ _))⟩))); try go_wp2_with (fail))
                       go_ret
                       exact ⟨zE, zG⟩
                      ·replace c101 := Bool.eq_false_iff.mpr c101
                       subst c101
                       rw [if_neg (show ¬ (false = true) by decide)] at H
                       obtain rfl := Option.some.inj H
                       have hnb110 := NB113_114.out
                       have hnc110 := NB114_113.out
                       obtain ⟨hcz111_0, hcz111_1, hcz111_2, hcz111_3, hcz111_4, hcz111_5, hcz111_6, hcz111_7, hfz111_0, hfz111_1, hfz111_2, hfz111_3, hfz111_4, hfz111_5, hfz111_6, hfz111_7⟩ := zd8 BK113.out (.int .i64 a0_0) (.int .i64 a0_1) (.int .i64 a0_2) (.int .i64 a0_3) (.int .i64 a0_4) (.string a0_5) (.int .i64 a0_6) (.slice A0_7 l0_7.length c0_7)
                       obtain ⟨hcz112_0, hcz112_1, hfz112_0, hfz112_1⟩ := zd2 BK114.out (.int .i64 a1_0) (.slice A1_1 l1_1.length c1_1)
                       go_wp2_with (first | (go_at_call 77; (with_reducible refine (q9_number.calls k7 a0_0 a0_1 a0_2 a0_3 a0_4 a0_5 a0_6 _ _ l0_7 t115 a1_0 _ _ l1_1 a2 true _ ?side1 ?side2 ?side3 ?side4 A94.out).mono ?_); (case side1 => repeat (first | exact (Kd.C_below HR0_7.out HB.out) | (with_reducible refine Kd.C_alloc ?_ _) | (with_reducible refine Kd.C_drewN ?_ _) | (with_reducible refine Kd.C_drew ?_))); (case side2 => exact HC0_7.out); (case side3 => repeat (first | exact (Kd.C_below HR1_1.out HB.out) | (with_reducible refine Kd.C_alloc ?_ _) | (with_reducible refine Kd.C_drewN ?_ _) | (with_reducible refine Kd.C_drew ?_))); (case side4 => exact HC1_1.out); rintro e w113 ⟨rfl, hb⟩; replace BK113 := Aside0.mk (blk_below (g := gb113) (o := .cells #[.int .i64 a0_0, .int .i64 a0_1, .int .i64 a0_2, .int .i64 a0_3, .int .i64 a0_4, .string a0_5, .int .i64 a0_6, .slice A0_7 l0_7.length c0_7] 31 (0, 0)) zK hb); replace BK114 := Aside0.mk (blk_below (g := gb114) (o := .cells #[.int .i64 a1_0, .slice A1_1 l1_1.length c1_1] 28 (0, 0)) zK hb); replace HB := Aside0.mk (below_step zG hb); (try clear hb); obtain ⟨hcz114_0, hcz114_1, hcz114_2, hcz114_3, hcz114_4, hcz114_5, hcz114_6, hcz114_7, hfz114_0, hfz114_1, hfz114_2, hfz114_3, hfz114_4, hfz114_5, hfz114_6, hfz114_7⟩ := zd8 BK113.out (.int .i64 a0_0) (.int .i64 a0_1) (.int .i64 a0_2) (.int .i64 a0_3) (.int .i64 a0_4) (.string a0_5) (.int .i64 a0_6) (.slice A0_7 l0_7.length c0_7)))
                       repeat (go_quiet (first | (go_at_call 74; (with_reducible refine (q9_has.calls k7 t115 68 t132 _ A99.out).mono ?_); rintro e w' ⟨rfl, ⟨nd, rfl⟩⟩; (try first | exact ⟨rfl, _, World.drewN_drewN _ _ _⟩ | exact ⟨rfl, _, Eq.trans (World.drewN_drewN _ _ _) (congrArg (World.drewN _) (Nat.add_assoc _ _ _))⟩); obtain ⟨hcz115_0, hcz115_1, hfz115_0, hfz115_1⟩ := zd2 BK114.out (.int .i64 a1_0) (.slice A1_1 l1_1.length c1_1)) | (go_at_call 73; (with_reducible refine (q9_reg.calls a0_1 t132 a1_0 false _ A100.out).mono ?_); rintro e w' ⟨rfl, ⟨nd, rfl⟩⟩; (try first | exact ⟨rfl, _, World.drewN_drewN _ _ _⟩ | exact ⟨rfl, _, Eq.trans (World.drewN_drewN _ _ _) (congrArg (World.drewN _) (Nat.add_assoc _ _ _))⟩))); try go_wp2_with (fail))
                       go_ret
                       exact ⟨zE, zG⟩
                     ·replace c98 := Bool.eq_false_iff.mpr c98
                      subst c98
                      rw [if_neg (show ¬ (false = true) by decide)] at H
                      obtain rfl := Option.some.inj H
                      have hnb116 := NB113_114.out
                      have hnc116 := NB114_113.out
                      obtain ⟨hcz117_0, hcz117_1, hcz117_2, hcz117_3, hcz117_4, hcz117_5, hcz117_6, hcz117_7, hfz117_0, hfz117_1, hfz117_2, hfz117_3, hfz117_4, hfz117_5, hfz117_6, hfz117_7⟩ := zd8 BK113.out (.int .i64 a0_0) (.int .i64 a0_1) (.int .i64 a0_2) (.int .i64 a0_3) (.int .i64 a0_4) (.string a0_5) (.int .i64 a0_6) (.slice A0_7 l0_7.length c0_7)
                      obtain ⟨hcz118_0, hcz118_1, hfz118_0, hfz118_1⟩ := zd2 BK114.out (.int .i64 a1_0) (.slice A1_1 l1_1.length c1_1)
                      go_wp2_with (first | (go_at_call 77; (with_reducible refine (q9_number.calls k7 a0_0 a0_1 a0_2 a0_3 a0_4 a0_5 a0_6 _ _ l0_7 t115 a1_0 _ _ l1_1 a2 false _ ?side1 ?side2 ?side3 ?side4 A94.out).mono ?_); (case side1 => repeat (first | exact (Kd.C_below HR0_7.out HB.out) | (with_reducible refine Kd.C_alloc ?_ _) | (with_reducible refine Kd.C_drewN ?_ _) | (with_reducible refine Kd.C_drew ?_))); (case side2 => exact HC0_7.out); (case side3 => repeat (first | exact (Kd.C_below HR1_1.out HB.out) | (with_reducible refine Kd.C_alloc ?_ _) | (with_reducible refine Kd.C_drewN ?_ _) | (with_reducible refine Kd.C_drew ?_))); (case side4 => exact HC1_1.out); rintro e w119 ⟨rfl, hb⟩; replace BK113 := Aside0.mk (blk_below (g := gb113) (o := .cells #[.int .i64 a0_0, .int .i64 a0_1, .int .i64 a0_2, .int .i64 a0_3, .int .i64 a0_4, .string a0_5, .int .i64 a0_6, .slice A0_7 l0_7.length c0_7] 31 (0, 0)) zK hb); replace BK114 := Aside0.mk (blk_below (g := gb114) (o := .cells #[.int .i64 a1_0, .slice A1_1 l1_1.length c1_1] 28 (0, 0)) zK hb); replace HB := Aside0.mk (below_step zG hb); (try clear hb)))
                      repeat (go_quiet (first | (go_at_call 77; (with_reducible refine (q9_number.calls k7 a0_0 a0_1 a0_2 a0_3 a0_4 a0_5 a0_6 _ _ l0_7 t115 a1_0 _ _ l1_1 a2 false _ ?side1 ?side2 ?side3 ?side4 A94.out).mono ?_); (case side1 => repeat (first | exact (Kd.C_below HR0_7.out HB.out) | (with_reducible refine Kd.C_alloc ?_ _) | (with_reducible refine Kd.C_drewN ?_ _) | (with_reducible refine Kd.C_drew ?_))); (case side2 => exact HC0_7.out); (case side3 => repeat (first | exact (Kd.C_below HR1_1.out HB.out) | (with_reducible refine Kd.C_alloc ?_ _) | (with_reducible refine Kd.C_drewN ?_ _) | (with_reducible refine Kd.C_drew ?_))); (case side4 => exact HC1_1.out); rintro e w119 ⟨rfl, hb⟩; replace BK113 := Aside0.mk (blk_below (g := gb113) (o := .cells #[.int .i64 a0_0, .int .i64 a0_1, .int .i64 a0_2, .int .i64 a0_3, .int .i64 a0_4, .string a0_5, .int .i64 a0_6, .slice A0_7 l0_7.length c0_7] 31 (0, 0)) zK hb); replace BK114 := Aside0.mk (blk_below (g := gb114) (o := .cells #[.int .i64 a1_0, .slice A1_1 l1_1.length c1_1] 28 (0, 0)) zK hb); replace HB := Aside0.mk (below_step zG hb))); try go_wp2_with (first | (go_at_call 77; (with_reducible refine (q9_number.calls k7 a0_0 a0_1 a0_2 a0_3 a0_4 a0_5 a0_6 _ _ l0_7 t115 a1_0 _ _ l1_1 a2 false _ ?side1 ?side2 ?side3 ?side4 A94.out).mono ?_); (case side1 => repeat (first | exact (Kd.C_below HR0_7.out HB.out) | (with_reducible refine Kd.C_alloc ?_ _) | (with_reducible refine Kd.C_drewN ?_ _) | (with_reducible refine Kd.C_drew ?_))); (case side2 => exact HC0_7.out); (case side3 => repeat (first | exact (Kd.C_below HR1_1.out HB.out) | (with_reducible refine Kd.C_alloc ?_ _) | (with_reducible refine Kd.C_drewN ?_ _) | (with_reducible refine Kd.C_drew ?_))); (case side4 => exact HC1_1.out); rintro e w119 ⟨rfl, hb⟩; replace BK113 := Aside0.mk (blk_below (g := gb113) (o := .cells #[.int .i64 a0_0, .int .i64 a0_1, .int .i64 a0_2, .int .i64 a0_3, .int .i64 a0_4, .string a0_5, .int .i64 a0_6, .slice A0_7 l0_7.length c0_7] 31 (0, 0)) zK hb); replace BK114 := Aside0.mk (blk_below (g := gb114) (o := .cells #[.int .i64 a1_0, .slice A1_1 l1_1.length c1_1] 28 (0, 0)) zK hb); replace HB := Aside0.mk (below_step zG hb))))
                      go_ret
                      exact ⟨zE, zG⟩
                    ·replace c97 := Bool.eq_false_iff.mpr c97
                     subst c97
                     rw [if_neg (show ¬ (false = true) by decide)] at H
                     obtain rfl := Option.some.inj H
                     have hnb120 := NB113_114.out
                     have hnc120 := NB114_113.out
                     obtain ⟨hcz121_0, hcz121_1, hcz121_2, hcz121_3, hcz121_4, hcz121_5, hcz121_6, hcz121_7, hfz121_0, hfz121_1, hfz121_2, hfz121_3, hfz121_4, hfz121_5, hfz121_6, hfz121_7⟩ := zd8 BK113.out (.int .i64 a0_0) (.int .i64 a0_1) (.int .i64 a0_2) (.int .i64 a0_3) (.int .i64 a0_4) (.string a0_5) (.int .i64 a0_6) (.slice A0_7 l0_7.length c0_7)
                     obtain ⟨hcz122_0, hcz122_1, hfz122_0, hfz122_1⟩ := zd2 BK114.out (.int .i64 a1_0) (.slice A1_1 l1_1.length c1_1)
                     go_wp2_with (first | (go_at_call 77; (with_reducible refine (q9_number.calls k7 a0_0 a0_1 a0_2 a0_3 a0_4 a0_5 a0_6 _ _ l0_7 t115 a1_0 _ _ l1_1 a2 t131 _ ?side1 ?side2 ?side3 ?side4 A94.out).mono ?_); (case side1 => repeat (first | exact (Kd.C_below HR0_7.out HB.out) | (with_reducible refine Kd.C_alloc ?_ _) | (with_reducible refine Kd.C_drewN ?_ _) | (with_reducible refine Kd.C_drew ?_))); (case side2 => exact HC0_7.out); (case side3 => repeat (first | exact (Kd.C_below HR1_1.out HB.out) | (with_reducible refine Kd.C_alloc ?_ _) | (with_reducible refine Kd.C_drewN ?_ _) | (with_reducible refine Kd.C_drew ?_))); (case side4 => exact HC1_1.out); rintro e w123 ⟨rfl, hb⟩; replace BK113 := Aside0.mk (blk_below (g := gb113) (o := .cells #[.int .i64 a0_0, .int .i64 a0_1, .int .i64 a0_2, .int .i64 a0_3, .int .i64 a0_4, .string a0_5, .int .i64 a0_6, .slice A0_7 l0_7.length c0_7] 31 (0, 0)) zK hb); replace BK114 := Aside0.mk (blk_below (g := gb114) (o := .cells #[.int .i64 a1_0, .slice A1_1 l1_1.length c1_1] 28 (0, 0)) zK hb); replace HB := Aside0.mk (below_step zG hb); (try clear hb)))
                     repeat (go_quiet (first | (go_at_call 77; (with_reducible refine (q9_number.calls k7 a0_0 a0_1 a0_2 a0_3 a0_4 a0_5 a0_6 _ _ l0_7 t115 a1_0 _ _ l1_1 a2 t131 _ ?side1 ?side2 ?side3 ?side4 A94.out).mono ?_); (case side1 => repeat (first | exact (Kd.C_below HR0_7.out HB.out) | (with_reducible refine Kd.C_alloc ?_ _) | (with_reducible refine Kd.C_drewN ?_ _) | (with_reducible refine Kd.C_drew ?_))); (case side2 => exact HC0_7.out); (case side3 => repeat (first | exact (Kd.C_below HR1_1.out HB.out) | (with_reducible refine Kd.C_alloc ?_ _) | (with_reducible refine Kd.C_drewN ?_ _) | (with_reducible refine Kd.C_drew ?_))); (case side4 => exact HC1_1.out); rintro e w123 ⟨rfl, hb⟩; replace BK113 := Aside0.mk (blk_below (g := gb113) (o := .cells #[.int .i64 a0_0, .int .i64 a0_1, .int .i64 a0_2, .int .i64 a0_3, .int .i64 a0_4, .string a0_5, .int .i64 a0_6, .slice A0_7 l0_7.length c0_7] 31 (0, 0)) zK hb); replace BK114 := Aside0.mk (blk_below (g := gb114) (o := .cells #[.int .i64 a1_0, .slice A1_1 l1_1.length c1_1] 28 (0, 0)) zK hb); replace HB := Aside0.mk (below_step zG hb))); try go_wp2_with (first | (go_at_call 77; (with_reducible refine (q9_number.calls k7 a0_0 a0_1 a0_2 a0_3 a0_4 a0_5 a0_6 _ _ l0_7 t115 a1_0 _ _ l1_1 a2 t131 _ ?side1 ?side2 ?side3 ?side4 A94.out).mono ?_); (case side1 => repeat (first | exact (Kd.C_below HR0_7.out HB.out) | (with_reducible refine Kd.C_alloc ?_ _) | (with_reducible refine Kd.C_drewN ?_ _) | (with_reducible refine Kd.C_drew ?_))); (case side2 => exact HC0_7.out); (case side3 => repeat (first | exact (Kd.C_below HR1_1.out HB.out) | (with_reducible refine Kd.C_alloc ?_ _) | (with_reducible refine Kd.C_drewN ?_ _) | (with_reducible refine Kd.C_drew ?_))); (case side4 => exact HC1_1.out); rintro e w123 ⟨rfl, hb⟩; replace BK113 := Aside0.mk (blk_below (g := gb113) (o := .cells #[.int .i64 a0_0, .int .i64 a0_1, .int .i64 a0_2, .int .i64 a0_3, .int .i64 a0_4, .string a0_5, .int .i64 a0_6, .slice A0_7 l0_7.length c0_7] 31 (0, 0)) zK hb); replace BK114 := Aside0.mk (blk_below (g := gb114) (o := .cells #[.int .i64 a1_0, .slice A1_1 l1_1.length c1_1] 28 (0, 0)) zK hb); replace HB := Aside0.mk (below_step zG hb))))
                     go_ret
                     exact ⟨zE, zG⟩
                   ·replace c96 := Bool.eq_false_iff.mpr c96
                    subst c96
                    rw [if_neg (show ¬ (false = true) by decide)] at H
                    obtain rfl := Option.some.inj H
                    have hnb124 := NB113_114.out
                    have hnc124 := NB114_113.out
                    obtain ⟨hcz125_0, hcz125_1, hcz125_2, hcz125_3, hcz125_4, hcz125_5, hcz125_6, hcz125_7, hfz125_0, hfz125_1, hfz125_2, hfz125_3, hfz125_4, hfz125_5, hfz125_6, hfz125_7⟩ := zd8 BK113.out (.int .i64 a0_0) (.int .i64 a0_1) (.int .i64 a0_2) (.int .i64 a0_3) (.int .i64 a0_4) (.string a0_5) (.int .i64 a0_6) (.slice A0_7 l0_7.length c0_7)
                    obtain ⟨hcz126_0, hcz126_1, hfz126_0, hfz126_1⟩ := zd2 BK114.out (.int .i64 a1_0) (.slice A1_1 l1_1.length c1_1)
                    go_wp2_with (first | (go_at_call 77; (with_reducible refine (q9_number.calls k7 a0_0 a0_1 a0_2 a0_3 a0_4 a0_5 a0_6 _ _ l0_7 t115 a1_0 _ _ l1_1 a2 t131 _ ?side1 ?side2 ?side3 ?side4 A94.out).mono ?_); (case side1 => repeat (first | exact (Kd.C_below HR0_7.out HB.out) | (with_reducible refine Kd.C_alloc ?_ _) | (with_reducible refine Kd.C_drewN ?_ _) | (with_reducible refine Kd.C_drew ?_))); (case side2 => exact HC0_7.out); (case side3 => repeat (first | exact (Kd.C_below HR1_1.out HB.out) | (with_reducible refine Kd.C_alloc ?_ _) | (with_reducible refine Kd.C_drewN ?_ _) | (with_reducible refine Kd.C_drew ?_))); (case side4 => exact HC1_1.out); rintro e w127 ⟨rfl, hb⟩; replace BK113 := Aside0.mk (blk_below (g := gb113) (o := .cells #[.int .i64 a0_0, .int .i64 a0_1, .int .i64 a0_2, .int .i64 a0_3, .int .i64 a0_4, .string a0_5, .int .i64 a0_6, .slice A0_7 l0_7.length c0_7] 31 (0, 0)) zK hb); replace BK114 := Aside0.mk (blk_below (g := gb114) (o := .cells #[.int .i64 a1_0, .slice A1_1 l1_1.length c1_1] 28 (0, 0)) zK hb); replace HB := Aside0.mk (below_step zG hb); (try clear hb)))
                    repeat (go_quiet (first | (go_at_call 77; (with_reducible refine (q9_number.calls k7 a0_0 a0_1 a0_2 a0_3 a0_4 a0_5 a0_6 _ _ l0_7 t115 a1_0 _ _ l1_1 a2 t131 _ ?side1 ?side2 ?side3 ?side4 A94.out).mono ?_); (case side1 => repeat (first | exact (Kd.C_below HR0_7.out HB.out) | (with_reducible refine Kd.C_alloc ?_ _) | (with_reducible refine Kd.C_drewN ?_ _) | (with_reducible refine Kd.C_drew ?_))); (case side2 => exact HC0_7.out); (case side3 => repeat (first | exact (Kd.C_below HR1_1.out HB.out) | (with_reducible refine Kd.C_alloc ?_ _) | (with_reducible refine Kd.C_drewN ?_ _) | (with_reducible refine Kd.C_drew ?_))); (case side4 => exact HC1_1.out); rintro e w127 ⟨rfl, hb⟩; replace BK113 := Aside0.mk (blk_below (g := gb113) (o := .cells #[.int .i64 a0_0, .int .i64 a0_1, .int .i64 a0_2, .int .i64 a0_3, .int .i64 a0_4, .string a0_5, .int .i64 a0_6, .slice A0_7 l0_7.length c0_7] 31 (0, 0)) zK hb); replace BK114 := Aside0.mk (blk_below (g := gb114) (o := .cells #[.int .i64 a1_0, .slice A1_1 l1_1.length c1_1] 28 (0, 0)) zK hb); replace HB := Aside0.mk (below_step zG hb))); try go_wp2_with (first | (go_at_call 77; (with_reducible refine (q9_number.calls k7 a0_0 a0_1 a0_2 a0_3 a0_4 a0_5 a0_6 _ _ l0_7 t115 a1_0 _ _ l1_1 a2 t131 _ ?side1 ?side2 ?side3 ?side4 A94.out).mono ?_); (case side1 => repeat (first | exact (Kd.C_below HR0_7.out HB.out) | (with_reducible refine Kd.C_alloc ?_ _) | (with_reducible refine Kd.C_drewN ?_ _) | (with_reducible refine Kd.C_drew ?_))); (case side2 => exact HC0_7.out); (case side3 => repeat (first | exact (Kd.C_below HR1_1.out HB.out) | (with_reducible refine Kd.C_alloc ?_ _) | (with_reducible refine Kd.C_drewN ?_ _) | (with_reducible refine Kd.C_drew ?_))); (case side4 => exact HC1_1.out); rintro e w127 ⟨rfl, hb⟩; replace BK113 := Aside0.mk (blk_below (g := gb113) (o := .cells #[.int .i64 a0_0, .int .i64 a0_1, .int .i64 a0_2, .int .i64 a0_3, .int .i64 a0_4, .string a0_5, .int .i64 a0_6, .slice A0_7 l0_7.length c0_7] 31 (0, 0)) zK hb); replace BK114 := Aside0.mk (blk_below (g := gb114) (o := .cells #[.int .i64 a1_0, .slice A1_1 l1_1.length c1_1] 28 (0, 0)) zK hb); replace HB := Aside0.mk (below_step zG hb))))
                    go_ret
                    exact ⟨zE, zG⟩
                  ·replace c95 := Bool.eq_false_iff.mpr c95
                   subst c95
                   rw [if_neg (show ¬ (false = true) by decide)] at H
                   obtain rfl := Option.some.inj H
                   have hnb128 := NB113_114.out
                   have hnc128 := NB114_113.out
                   obtain ⟨hcz129_0, hcz129_1, hcz129_2, hcz129_3, hcz129_4, hcz129_5, hcz129_6, hcz129_7, hfz129_0, hfz129_1, hfz129_2, hfz129_3, hfz129_4, hfz129_5, hfz129_6, hfz129_7⟩ := zd8 BK113.out (.int .i64 a0_0) (.int .i64 a0_1) (.int .i64 a0_2) (.int .i64 a0_3) (.int .i64 a0_4) (.string a0_5) (.int .i64 a0_6) (.slice A0_7 l0_7.length c0_7)
                   obtain ⟨hcz130_0, hcz130_1, hfz130_0, hfz130_1⟩ := zd2 BK114.out (.int .i64 a1_0) (.slice A1_1 l1_1.length c1_1)
                   go_wp2_with (first | (go_at_call 77; (with_reducible refine (q9_number.calls k7 a0_0 a0_1 a0_2 a0_3 a0_4 a0_5 a0_6 _ _ l0_7 t115 a1_0 _ _ l1_1 a2 t131 _ ?side1 ?side2 ?side3 ?side4 A94.out).mono ?_); (case side1 => repeat (first | exact (Kd.C_below HR0_7.out HB.out) | (with_reducible refine Kd.C_alloc ?_ _) | (with_reducible refine Kd.C_drewN ?_ _) | (with_reducible refine Kd.C_drew ?_))); (case side2 => exact HC0_7.out); (case side3 => repeat (first | exact (Kd.C_below HR1_1.out HB.out) | (with_reducible refine Kd.C_alloc ?_ _) | (with_reducible refine Kd.C_drewN ?_ _) | (with_reducible refine Kd.C_drew ?_))); (case side4 => exact HC1_1.out); rintro e w131 ⟨rfl, hb⟩; replace BK113 := Aside0.mk (blk_below (g := gb113) (o := .cells #[.int .i64 a0_0, .int .i64 a0_1, .int .i64 a0_2, .int .i64 a0_3, .int .i64 a0_4, .string a0_5, .int .i64 a0_6, .slice A0_7 l0_7.length c0_7] 31 (0, 0)) zK hb); replace BK114 := Aside0.mk (blk_below (g := gb114) (o := .cells #[.int .i64 a1_0, .slice A1_1 l1_1.length c1_1] 28 (0, 0)) zK hb); replace HB := Aside0.mk (below_step zG hb); (try clear hb)))
                   repeat (go_quiet (first | (go_at_call 77; (with_reducible refine (q9_number.calls k7 a0_0 a0_1 a0_2 a0_3 a0_4 a0_5 a0_6 _ _ l0_7 t115 a1_0 _ _ l1_1 a2 t131 _ ?side1 ?side2 ?side3 ?side4 A94.out).mono ?_); (case side1 => repeat (first | exact (Kd.C_below HR0_7.out HB.out) | (with_reducible refine Kd.C_alloc ?_ _) | (with_reducible refine Kd.C_drewN ?_ _) | (with_reducible refine Kd.C_drew ?_))); (case side2 => exact HC0_7.out); (case side3 => repeat (first | exact (Kd.C_below HR1_1.out HB.out) | (with_reducible refine Kd.C_alloc ?_ _) | (with_reducible refine Kd.C_drewN ?_ _) | (with_reducible refine Kd.C_drew ?_))); (case side4 => exact HC1_1.out); rintro e w131 ⟨rfl, hb⟩; replace BK113 := Aside0.mk (blk_below (g := gb113) (o := .cells #[.int .i64 a0_0, .int .i64 a0_1, .int .i64 a0_2, .int .i64 a0_3, .int .i64 a0_4, .string a0_5, .int .i64 a0_6, .slice A0_7 l0_7.length c0_7] 31 (0, 0)) zK hb); replace BK114 := Aside0.mk (blk_below (g := gb114) (o := .cells #[.int .i64 a1_0, .slice A1_1 l1_1.length c1_1] 28 (0, 0)) zK hb); replace HB := Aside0.mk (below_step zG hb))); try go_wp2_with (first | (go_at_call 77; (with_reducible refine (q9_number.calls k7 a0_0 a0_1 a0_2 a0_3 a0_4 a0_5 a0_6 _ _ l0_7 t115 a1_0 _ _ l1_1 a2 t131 _ ?side1 ?side2 ?side3 ?side4 A94.out).mono ?_); (case side1 => repeat (first | exact (Kd.C_below HR0_7.out HB.out) | (with_reducible refine Kd.C_alloc ?_ _) | (with_reducible refine Kd.C_drewN ?_ _) | (with_reducible refine Kd.C_drew ?_))); (case side2 => exact HC0_7.out); (case side3 => repeat (first | exact (Kd.C_below HR1_1.out HB.out) | (with_reducible refine Kd.C_alloc ?_ _) | (with_reducible refine Kd.C_drewN ?_ _) | (with_reducible refine Kd.C_drew ?_))); (case side4 => exact HC1_1.out); rintro e w131 ⟨rfl, hb⟩; replace BK113 := Aside0.mk (blk_below (g := gb113) (o := .cells #[.int .i64 a0_0, .int .i64 a0_1, .int .i64 a0_2, .int .i64 a0_3, .int .i64 a0_4, .string a0_5, .int .i64 a0_6, .slice A0_7 l0_7.length c0_7] 31 (0, 0)) zK hb); replace BK114 := Aside0.mk (blk_below (g := gb114) (o := .cells #[.int .i64 a1_0, .slice A1_1 l1_1.length c1_1] 28 (0, 0)) zK hb); replace HB := Aside0.mk (below_step zG hb))))
                   go_ret
                   exact ⟨zE, zG⟩
end Go.Proofs.YtjlhhjfmekjbhaaGreatDoor.Pq

