/- Lemmas for the claims of this seat (own texts, packed; what the claims do not use is left out). No condition. -/
import Derived.Test.YtjlhhjfmekjbhaaGreatDoorMb0
import Derived.Test.YtjlhhjfmekjbhaaGreatDoorMb1
import Derived.Test.YtjlhhjfmekjbhaaGreatDoorMb5
import Derived.Test.YtjlhhjfmekjbhaaGreatDoorMb6
import Derived.Test.YtjlhhjfmekjbhaaGreatDoorMb7
import Derived.Test.YtjlhhjfmekjbhaaGreatDoorMb8
import Derived.Test.YtjlhhjfmekjbhaaGreatDoorMb9
namespace Go.Proofs.YtjlhhjfmekjbhaaGreatDoor.Pq
open Go.RowKit Go.Proofs.YtjlhhjfmekjbhaaGreatDoor.Vb Go.Proofs.YtjlhhjfmekjbhaaGreatDoorW.PrintWords Go.Proofs.YtjlhhjfmekjbhaaGreatDoorW.PrintLast Go.Proofs.YtjlhhjfmekjbhaaGreatDoorW.PrintMore
set_option linter.unusedVariables false
set_option linter.unusedSimpArgs false
/-! ### code_parts_6: function 49 -/
def code_parts_6.f (a0_0 : Int) (a0_1 : Int) (a0_2 : Int) (a0_3 : Int) (a0_4 : Int) (a0_5 : ByteArray) (a0_6 : Int) (l0_7 : List Int) (a1_0 : Int) (l1_1 : List (S31)) (a1_2 : Int) : Option (Bool) := if a0_2 = (-1) then (some true) else ((code_isReg.f a0_2 a1_0 l1_1 a1_2).bind fun t209 => (some t209))
set_option maxHeartbeats 8000000 in
set_option maxRecDepth 100000 in
theorem code_parts_6.calls (a0_0 : Int) (a0_1 : Int) (a0_2 : Int) (a0_3 : Int) (a0_4 : Int) (a0_5 : ByteArray) (a0_6 : Int) (A0_7 : Option Addr) (c0_7 : Nat) (l0_7 : List Int) (a1_0 : Int) (A1_1 : Option Addr) (c1_1 : Nat) (l1_1 : List (S31)) (a1_2 : Int) (r : Bool) (w : World) (hr0_7 : Kd.C (Kd.int .i64) w A0_7 l0_7.length l0_7) (hc0_7 : l0_7.length ≤ c0_7) (hr1_1 : Kd.C k31 w A1_1 l1_1.length l1_1) (hc1_1 : l1_1.length ≤ c1_1) (h : code_parts_6.f a0_0 a0_1 a0_2 a0_3 a0_4 a0_5 a0_6 l0_7 a1_0 l1_1 a1_2 = some r) :
  Calls Tryz.prog 49 #[.agg #[.int .i64 a0_0, .int .i64 a0_1, .int .i64 a0_2, .int .i64 a0_3, .int .i64 a0_4, .string a0_5, .int .i64 a0_6, .slice A0_7 l0_7.length c0_7], .agg #[.int .i64 a1_0, .slice A1_1 l1_1.length c1_1, .int .i64 a1_2]] w fun e w' => e = .returned (.bool r) ∧ Below w.heap.size w w' := by
 have hu31 := Tryz.underlying31
 have hu49 := Tryz.underlying49
 have HR0_7 := Aside0.mk hr0_7
 have HC0_7 := Aside0.mk hc0_7
 clear hr0_7 hc0_7
 have HR1_1 := Aside0.mk hr1_1
 have HC1_1 := Aside0.mk hc1_1
 clear hr1_1 hc1_1
 have HB := Aside0.mk (Below.refl w.heap.size w)
 have H : (if a0_2 = (-1) then (some true) else ((code_isReg.f a0_2 a1_0 l1_1 a1_2).bind fun t209 => (some t209))) = some r := h
 clear h
 by_cases c3 : a0_2 = (-1)
 ·rw [if_pos c3] at H
  have c3b0 : (a0_2 == (-1)) = true := beq_iff_eq.mpr c3
  have c3b1 : (a0_2 != (-1)) = false := bne_eq_false_iff_eq.mpr c3
  clear c3
  obtain rfl := Option.some.inj H
  go_enter Tryz.func49, Tryz.ntmps49
  go_wp2_with (first | ((with_reducible refine gate_dst (N := 2) rfl ?_); refine zX (N := 2) (cs := #[.int .i64 a0_0, .int .i64 a0_1, .int .i64 a0_2, .int .i64 a0_3, .int .i64 a0_4, .string a0_5, .int .i64 a0_6, .slice A0_7 l0_7.length c0_7]) (t := 31) (h := ?_); intro gb207 hg w4 hbox hb; have BK207 := Aside0.mk hbox; have GW207 := Aside0.mk ((zS : w.heap.size ≤ gb207)); have GE207 := Aside0.mk ((zS : w.heap.size ≤ gb207)); replace HB := Aside0.mk (below_step zB hb); clear hb hbox hg) | ((with_reducible refine gate_dst (N := 3) rfl ?_); refine zX (N := 3) (cs := #[.int .i64 a1_0, .slice A1_1 l1_1.length c1_1, .int .i64 a1_2]) (t := 49) (h := ?_); intro gb208 hg w5 hbox hb; have BK208 := Aside0.mk hbox; have GW208 := Aside0.mk ((zT : w.heap.size ≤ gb208)); have GE208 := Aside0.mk ((zT : w.heap.size ≤ gb208)); have NB207_208 := Aside0.mk ((zL : gb207 ≠ gb208)); have NB208_207 := Aside0.mk ((zM : gb208 ≠ gb207)); replace BK207 := Aside0.mk (blk_below (g := gb207) zK hb); replace HB := Aside0.mk (below_step zG hb); clear hb hbox hg; have hnb6 := NB207_208.out; have hnc6 := NB208_207.out; obtain ⟨hcz7_0, hcz7_1, hcz7_2, hcz7_3, hcz7_4, hcz7_5, hcz7_6, hcz7_7, hfz7_0, hfz7_1, hfz7_2, hfz7_3, hfz7_4, hfz7_5, hfz7_6, hfz7_7⟩ := zd8 BK207.out (.int .i64 a0_0) (.int .i64 a0_1) (.int .i64 a0_2) (.int .i64 a0_3) (.int .i64 a0_4) (.string a0_5) (.int .i64 a0_6) (.slice A0_7 l0_7.length c0_7)))
  go_ret
  exact ⟨zE, zG⟩
 ·rw [if_neg c3] at H
  have c3b0 : (a0_2 == (-1)) = false := beq_eq_false_iff_ne.mpr c3
  have c3b1 : (a0_2 != (-1)) = true := bne_iff_ne.mpr c3
  obtain ⟨t209, A8, H⟩ := zO H
  obtain rfl := Option.some.inj H
  go_enter Tryz.func49, Tryz.ntmps49
  go_wp2_with (first | ((with_reducible refine gate_dst (N := 2) rfl ?_); refine zX (N := 2) (cs := #[.int .i64 a0_0, .int .i64 a0_1, .int .i64 a0_2, .int .i64 a0_3, .int .i64 a0_4, .string a0_5, .int .i64 a0_6, .slice A0_7 l0_7.length c0_7]) (t := 31) (h := ?_); intro gb207 hg w9 hbox hb; have BK207 := Aside0.mk hbox; have GW207 := Aside0.mk ((zS : w.heap.size ≤ gb207)); have GE207 := Aside0.mk ((zS : w.heap.size ≤ gb207)); replace HB := Aside0.mk (below_step zB hb); clear hb hbox hg) | ((with_reducible refine gate_dst (N := 3) rfl ?_); refine zX (N := 3) (cs := #[.int .i64 a1_0, .slice A1_1 l1_1.length c1_1, .int .i64 a1_2]) (t := 49) (h := ?_); intro gb208 hg w10 hbox hb; have BK208 := Aside0.mk hbox; have GW208 := Aside0.mk ((zT : w.heap.size ≤ gb208)); have GE208 := Aside0.mk ((zT : w.heap.size ≤ gb208)); have NB207_208 := Aside0.mk ((zL : gb207 ≠ gb208)); have NB208_207 := Aside0.mk ((zM : gb208 ≠ gb207)); replace BK207 := Aside0.mk (blk_below (g := gb207) zK hb); replace HB := Aside0.mk (below_step zG hb); clear hb hbox hg; have hnb11 := NB207_208.out; have hnc11 := NB208_207.out; obtain ⟨hcz12_0, hcz12_1, hcz12_2, hcz12_3, hcz12_4, hcz12_5, hcz12_6, hcz12_7, hfz12_0, hfz12_1, hfz12_2, hfz12_3, hfz12_4, hfz12_5, hfz12_6, hfz12_7⟩ := zd8 BK207.out (.int .i64 a0_0) (.int .i64 a0_1) (.int .i64 a0_2) (.int .i64 a0_3) (.int .i64 a0_4) (.string a0_5) (.int .i64 a0_6) (.slice A0_7 l0_7.length c0_7); obtain ⟨hcz13_0, hcz13_1, hcz13_2, hfz13_0, hfz13_1, hfz13_2⟩ := zd3 BK208.out (.int .i64 a1_0) (.slice A1_1 l1_1.length c1_1) (.int .i64 a1_2)) | (go_at_call 50; (with_reducible refine (code_isReg.calls a0_2 a1_0 _ _ l1_1 a1_2 t209 _ ?side1 ?side2 A8.out).mono ?_); (case side1 => repeat (first | exact (Kd.C_below HR1_1.out HB.out) | (with_reducible refine Kd.C_alloc ?_ _) | (with_reducible refine Kd.C_drewN ?_ _) | (with_reducible refine Kd.C_drew ?_))); (case side2 => exact HC1_1.out); rintro e w14 ⟨rfl, hb⟩; replace BK207 := Aside0.mk (blk_below (g := gb207) zK hb); replace BK208 := Aside0.mk (blk_below (g := gb208) zK hb); replace HB := Aside0.mk (below_step zG hb); (try clear hb)))
  go_ret
  exact ⟨zE, zG⟩
/-! ### code_parts_7: function 51 -/
def code_parts_7.f (a0_0 : Int) (a0_1 : Int) (a0_2 : Int) (a0_3 : Int) (a0_4 : Int) (a0_5 : ByteArray) (a0_6 : Int) (l0_7 : List Int) (a1_0 : Int) (l1_1 : List (S31)) (a1_2 : Int) : Option (Bool) := if a0_2 = 5 then (some false) else ((value_Right.f a0_2 a0_6 a0_5).bind fun t212 => (some t212))
set_option maxHeartbeats 8000000 in
set_option maxRecDepth 100000 in
theorem code_parts_7.calls (a0_0 : Int) (a0_1 : Int) (a0_2 : Int) (a0_3 : Int) (a0_4 : Int) (a0_5 : ByteArray) (a0_6 : Int) (A0_7 : Option Addr) (c0_7 : Nat) (l0_7 : List Int) (a1_0 : Int) (A1_1 : Option Addr) (c1_1 : Nat) (l1_1 : List (S31)) (a1_2 : Int) (r : Bool) (w : World) (hr0_7 : Kd.C (Kd.int .i64) w A0_7 l0_7.length l0_7) (hc0_7 : l0_7.length ≤ c0_7) (hr1_1 : Kd.C k31 w A1_1 l1_1.length l1_1) (hc1_1 : l1_1.length ≤ c1_1) (h : code_parts_7.f a0_0 a0_1 a0_2 a0_3 a0_4 a0_5 a0_6 l0_7 a1_0 l1_1 a1_2 = some r) :
  Calls Tryz.prog 51 #[.agg #[.int .i64 a0_0, .int .i64 a0_1, .int .i64 a0_2, .int .i64 a0_3, .int .i64 a0_4, .string a0_5, .int .i64 a0_6, .slice A0_7 l0_7.length c0_7], .agg #[.int .i64 a1_0, .slice A1_1 l1_1.length c1_1, .int .i64 a1_2]] w fun e w' => e = .returned (.bool r) ∧ Below w.heap.size w w' := by
 have hu31 := Tryz.underlying31
 have hu49 := Tryz.underlying49
 have hu83 := Tryz.underlying83
 have HR0_7 := Aside0.mk hr0_7
 have HC0_7 := Aside0.mk hc0_7
 clear hr0_7 hc0_7
 have HR1_1 := Aside0.mk hr1_1
 have HC1_1 := Aside0.mk hc1_1
 clear hr1_1 hc1_1
 have HB := Aside0.mk (Below.refl w.heap.size w)
 have H : (if a0_2 = 5 then (some false) else ((value_Right.f a0_2 a0_6 a0_5).bind fun t212 => (some t212))) = some r := h
 clear h
 by_cases c3 : a0_2 = 5
 ·rw [if_pos c3] at H
  have c3b0 : (a0_2 == 5) = true := beq_iff_eq.mpr c3
  have c3b1 : (a0_2 != 5) = false := bne_eq_false_iff_eq.mpr c3
  clear c3
  obtain rfl := Option.some.inj H
  go_enter Tryz.func51, Tryz.ntmps51
  go_wp2_with (first | ((with_reducible refine gate_dst (N := 2) rfl ?_); refine zX (N := 2) (cs := #[.int .i64 a0_0, .int .i64 a0_1, .int .i64 a0_2, .int .i64 a0_3, .int .i64 a0_4, .string a0_5, .int .i64 a0_6, .slice A0_7 l0_7.length c0_7]) (t := 31) (h := ?_); intro gb210 hg w4 hbox hb; have BK210 := Aside0.mk hbox; have GW210 := Aside0.mk ((zS : w.heap.size ≤ gb210)); have GE210 := Aside0.mk ((zS : w.heap.size ≤ gb210)); replace HB := Aside0.mk (below_step zB hb); clear hb hbox hg) | ((with_reducible refine gate_dst (N := 3) rfl ?_); refine zX (N := 3) (cs := #[.int .i64 a1_0, .slice A1_1 l1_1.length c1_1, .int .i64 a1_2]) (t := 49) (h := ?_); intro gb211 hg w5 hbox hb; have BK211 := Aside0.mk hbox; have GW211 := Aside0.mk ((zT : w.heap.size ≤ gb211)); have GE211 := Aside0.mk ((zT : w.heap.size ≤ gb211)); have NB210_211 := Aside0.mk ((zL : gb210 ≠ gb211)); have NB211_210 := Aside0.mk ((zM : gb211 ≠ gb210)); replace BK210 := Aside0.mk (blk_below (g := gb210) zK hb); replace HB := Aside0.mk (below_step zG hb); clear hb hbox hg; have hnb6 := NB210_211.out; have hnc6 := NB211_210.out; obtain ⟨hcz7_0, hcz7_1, hcz7_2, hcz7_3, hcz7_4, hcz7_5, hcz7_6, hcz7_7, hfz7_0, hfz7_1, hfz7_2, hfz7_3, hfz7_4, hfz7_5, hfz7_6, hfz7_7⟩ := zd8 BK210.out (.int .i64 a0_0) (.int .i64 a0_1) (.int .i64 a0_2) (.int .i64 a0_3) (.int .i64 a0_4) (.string a0_5) (.int .i64 a0_6) (.slice A0_7 l0_7.length c0_7)))
  go_ret
  exact ⟨zE, zG⟩
 ·rw [if_neg c3] at H
  have c3b0 : (a0_2 == 5) = false := beq_eq_false_iff_ne.mpr c3
  have c3b1 : (a0_2 != 5) = true := bne_iff_ne.mpr c3
  obtain ⟨t212, A8, H⟩ := zO H
  obtain rfl := Option.some.inj H
  go_enter Tryz.func51, Tryz.ntmps51
  go_wp2_with (first | ((with_reducible refine gate_dst (N := 2) rfl ?_); refine zX (N := 2) (cs := #[.int .i64 a0_0, .int .i64 a0_1, .int .i64 a0_2, .int .i64 a0_3, .int .i64 a0_4, .string a0_5, .int .i64 a0_6, .slice A0_7 l0_7.length c0_7]) (t := 31) (h := ?_); intro gb210 hg w9 hbox hb; have BK210 := Aside0.mk hbox; have GW210 := Aside0.mk ((zS : w.heap.size ≤ gb210)); have GE210 := Aside0.mk ((zS : w.heap.size ≤ gb210)); replace HB := Aside0.mk (below_step zB hb); clear hb hbox hg) | ((with_reducible refine gate_dst (N := 3) rfl ?_); refine zX (N := 3) (cs := #[.int .i64 a1_0, .slice A1_1 l1_1.length c1_1, .int .i64 a1_2]) (t := 49) (h := ?_); intro gb211 hg w10 hbox hb; have BK211 := Aside0.mk hbox; have GW211 := Aside0.mk ((zT : w.heap.size ≤ gb211)); have GE211 := Aside0.mk ((zT : w.heap.size ≤ gb211)); have NB210_211 := Aside0.mk ((zL : gb210 ≠ gb211)); have NB211_210 := Aside0.mk ((zM : gb211 ≠ gb210)); replace BK210 := Aside0.mk (blk_below (g := gb210) zK hb); replace HB := Aside0.mk (below_step zG hb); clear hb hbox hg; have hnb11 := NB210_211.out; have hnc11 := NB211_210.out; obtain ⟨hcz12_0, hcz12_1, hcz12_2, hcz12_3, hcz12_4, hcz12_5, hcz12_6, hcz12_7, hfz12_0, hfz12_1, hfz12_2, hfz12_3, hfz12_4, hfz12_5, hfz12_6, hfz12_7⟩ := zd8 BK210.out (.int .i64 a0_0) (.int .i64 a0_1) (.int .i64 a0_2) (.int .i64 a0_3) (.int .i64 a0_4) (.string a0_5) (.int .i64 a0_6) (.slice A0_7 l0_7.length c0_7)) | (go_at_call 52; (with_reducible refine (value_Right.calls a0_2 a0_6 a0_5 t212 _ A8.out).mono ?_); rintro e w13 ⟨rfl, hb⟩; replace BK210 := Aside0.mk (blk_below (g := gb210) zK hb); replace BK211 := Aside0.mk (blk_below (g := gb211) zK hb); replace HB := Aside0.mk (below_step zG hb); (try clear hb)))
  go_ret
  exact ⟨zE, zG⟩
end Go.Proofs.YtjlhhjfmekjbhaaGreatDoor.Pq

namespace Go.Proofs.YtjlhhjfmekjbhaaGreatDoor.Pq
open Go.RowKit Go.Proofs.YtjlhhjfmekjbhaaGreatDoorW.PrintWords Go.Proofs.YtjlhhjfmekjbhaaGreatDoorW.PrintLast Go.Proofs.YtjlhhjfmekjbhaaGreatDoorW.PrintMore
set_option linter.unusedVariables false
set_option linter.unusedSimpArgs false
/-! ### code_parts_8: function 53 -/
def code_parts_8.f (s0_0 : Int) (s0_1 : Int) (s0_2 : Int) (s0_3 : Int) (s0_4 : Int) (s0_5 : ByteArray) (s0_6 : Int) (s0_7 : List Int) : Option (Int × Int × Int × Int × Int × ByteArray × Int) := some (s0_0, s0_1, 0, s0_3, s0_4, (⟨#[]⟩ : ByteArray), 0)
set_option maxHeartbeats 8000000 in
set_option maxRecDepth 100000 in
theorem code_parts_8.calls (g : Nat) (s0_0 : Int) (s0_1 : Int) (s0_2 : Int) (s0_3 : Int) (s0_4 : Int) (s0_5 : ByteArray) (s0_6 : Int) (s0_7 : List Int) (r1 : Int) (r2 : Int) (r3 : Int) (r4 : Int) (r5 : Int) (r6 : ByteArray) (r7 : Int) (w0 w : World) (hI : IsS31 w0 w g s0_0 s0_1 s0_2 s0_3 s0_4 s0_5 s0_6 s0_7) (hB : Below w0.heap.size w0 w) (h : code_parts_8.f s0_0 s0_1 s0_2 s0_3 s0_4 s0_5 s0_6 s0_7 = some (r1, r2, r3, r4, r5, r6, r7)) :
  Calls Tryz.prog 53 #[.pointer (some ⟨g, 0, none⟩)] w fun e w' => e = .returned (.tuple #[]) ∧ IsS31 w0 w' g r1 r2 r3 r4 r5 r6 r7 s0_7 ∧ Below w0.heap.size w0 w' ∧ KeepBut w w' g none := by
 have HI0 := Aside0.mk hI
 have HK := Aside0.mk (KeepBut.refl w g none)
 have HL := Aside0.mk hB.size
 clear hI
 have HW0 := Aside0.mk hB.size
 have HB := Aside0.mk hB
 clear hB
 have H : (some (s0_0, s0_1, 0, s0_3, s0_4, (⟨#[]⟩ : ByteArray), 0)) = some (r1, r2, r3, r4, r5, r6, r7) := h
 clear h
 simp only [Option.some.injEq, Prod.mk.injEq] at H
 obtain ⟨rfl, rfl, rfl, rfl, rfl, rfl, rfl⟩ := H
 obtain ⟨ASz2_7, cSz2_7, HGz2, hgz2, HSz2_7⟩ := HI0.out
 have hcz2_0 := cellS31_0 HGz2
 have hcz2_1 := cellS31_1 HGz2
 have hcz2_2 := cellS31_2 HGz2
 have hcz2_3 := cellS31_3 HGz2
 have hcz2_4 := cellS31_4 HGz2
 have hcz2_5 := cellS31_5 HGz2
 have hcz2_6 := cellS31_6 HGz2
 have hcz2_7 := cellS31_7 HGz2
 have hfz2_0 := blk_frozen HGz2 0
 have hfz2_1 := blk_frozen HGz2 1
 have hfz2_2 := blk_frozen HGz2 2
 have hfz2_3 := blk_frozen HGz2 3
 have hfz2_4 := blk_frozen HGz2 4
 have hfz2_5 := blk_frozen HGz2 5
 have hfz2_6 := blk_frozen HGz2 6
 clear HGz2 hgz2
 go_enter Tryz.func53, Tryz.ntmps53
 go_wp2
 first | go_end0 | ((try simp only [Exit.inBlock, Exit.then]); refine bodyPost_ret (results_none rfl _ _ _) rfl ?_)
 exact ⟨zE, by repeat (first | (with_reducible first | exact HI0.out | apply IsS31.alloc | apply IsS31.drewN | apply IsS31.drew | apply IsS31.set_0 | apply IsS31.set_1 | apply IsS31.set_2 | apply IsS31.set_3 | apply IsS31.set_4 | apply IsS31.set_5 | apply IsS31.set_6) | exact HI0.out), by repeat (first | (with_reducible first | exact HB.out | apply below_alloc | apply pw_below_drewN | apply below_drew1 | refine below_set ?_ (IsS31.ge HI0.out)) | exact HB.out), by repeat (first | (with_reducible first | exact HK.out | apply KeepBut.set_ | apply keep_drewN | apply keep_drew | apply keep_alloc) | exact HK.out)⟩
/-! ### code_parts_9: function 55 -/
def code_parts_9.f (a0_0 : Int) (a0_1 : Int) (a0_2 : Int) (a0_3 : Int) (a0_4 : Int) (a0_5 : ByteArray) (a0_6 : Int) (l0_7 : List Int) (a1_0 : Int) (l1_1 : List (S31)) (a1_2 : Int) : Option (Bool) := if a0_3 = (-1) then (some true) else ((code_isReg.f a0_3 a1_0 l1_1 a1_2).bind fun t215 => (some t215))
set_option maxHeartbeats 8000000 in
set_option maxRecDepth 100000 in
theorem code_parts_9.calls (a0_0 : Int) (a0_1 : Int) (a0_2 : Int) (a0_3 : Int) (a0_4 : Int) (a0_5 : ByteArray) (a0_6 : Int) (A0_7 : Option Addr) (c0_7 : Nat) (l0_7 : List Int) (a1_0 : Int) (A1_1 : Option Addr) (c1_1 : Nat) (l1_1 : List (S31)) (a1_2 : Int) (r : Bool) (w : World) (hr0_7 : Kd.C (Kd.int .i64) w A0_7 l0_7.length l0_7) (hc0_7 : l0_7.length ≤ c0_7) (hr1_1 : Kd.C k31 w A1_1 l1_1.length l1_1) (hc1_1 : l1_1.length ≤ c1_1) (h : code_parts_9.f a0_0 a0_1 a0_2 a0_3 a0_4 a0_5 a0_6 l0_7 a1_0 l1_1 a1_2 = some r) :
  Calls Tryz.prog 55 #[.agg #[.int .i64 a0_0, .int .i64 a0_1, .int .i64 a0_2, .int .i64 a0_3, .int .i64 a0_4, .string a0_5, .int .i64 a0_6, .slice A0_7 l0_7.length c0_7], .agg #[.int .i64 a1_0, .slice A1_1 l1_1.length c1_1, .int .i64 a1_2]] w fun e w' => e = .returned (.bool r) ∧ Below w.heap.size w w' := by
 have hu31 := Tryz.underlying31
 have hu49 := Tryz.underlying49
 have HR0_7 := Aside0.mk hr0_7
 have HC0_7 := Aside0.mk hc0_7
 clear hr0_7 hc0_7
 have HR1_1 := Aside0.mk hr1_1
 have HC1_1 := Aside0.mk hc1_1
 clear hr1_1 hc1_1
 have HB := Aside0.mk (Below.refl w.heap.size w)
 have H : (if a0_3 = (-1) then (some true) else ((code_isReg.f a0_3 a1_0 l1_1 a1_2).bind fun t215 => (some t215))) = some r := h
 clear h
 by_cases c3 : a0_3 = (-1)
 ·rw [if_pos c3] at H
  have c3b0 : (a0_3 == (-1)) = true := beq_iff_eq.mpr c3
  have c3b1 : (a0_3 != (-1)) = false := bne_eq_false_iff_eq.mpr c3
  clear c3
  obtain rfl := Option.some.inj H
  go_enter Tryz.func55, Tryz.ntmps55
  go_wp2_with (first | ((with_reducible refine gate_dst (N := 2) rfl ?_); refine zX (N := 2) (cs := #[.int .i64 a0_0, .int .i64 a0_1, .int .i64 a0_2, .int .i64 a0_3, .int .i64 a0_4, .string a0_5, .int .i64 a0_6, .slice A0_7 l0_7.length c0_7]) (t := 31) (h := ?_); intro gb213 hg w4 hbox hb; have BK213 := Aside0.mk hbox; have GW213 := Aside0.mk ((zS : w.heap.size ≤ gb213)); have GE213 := Aside0.mk ((zS : w.heap.size ≤ gb213)); replace HB := Aside0.mk (below_step zB hb); clear hb hbox hg) | ((with_reducible refine gate_dst (N := 3) rfl ?_); refine zX (N := 3) (cs := #[.int .i64 a1_0, .slice A1_1 l1_1.length c1_1, .int .i64 a1_2]) (t := 49) (h := ?_); intro gb214 hg w5 hbox hb; have BK214 := Aside0.mk hbox; have GW214 := Aside0.mk ((zT : w.heap.size ≤ gb214)); have GE214 := Aside0.mk ((zT : w.heap.size ≤ gb214)); have NB213_214 := Aside0.mk ((zL : gb213 ≠ gb214)); have NB214_213 := Aside0.mk ((zM : gb214 ≠ gb213)); replace BK213 := Aside0.mk (blk_below (g := gb213) zK hb); replace HB := Aside0.mk (below_step zG hb); clear hb hbox hg; have hnb6 := NB213_214.out; have hnc6 := NB214_213.out; obtain ⟨hcz7_0, hcz7_1, hcz7_2, hcz7_3, hcz7_4, hcz7_5, hcz7_6, hcz7_7, hfz7_0, hfz7_1, hfz7_2, hfz7_3, hfz7_4, hfz7_5, hfz7_6, hfz7_7⟩ := zd8 BK213.out (.int .i64 a0_0) (.int .i64 a0_1) (.int .i64 a0_2) (.int .i64 a0_3) (.int .i64 a0_4) (.string a0_5) (.int .i64 a0_6) (.slice A0_7 l0_7.length c0_7)))
  go_ret
  exact ⟨zE, zG⟩
 ·rw [if_neg c3] at H
  have c3b0 : (a0_3 == (-1)) = false := beq_eq_false_iff_ne.mpr c3
  have c3b1 : (a0_3 != (-1)) = true := bne_iff_ne.mpr c3
  obtain ⟨t215, A8, H⟩ := zO H
  obtain rfl := Option.some.inj H
  go_enter Tryz.func55, Tryz.ntmps55
  go_wp2_with (first | ((with_reducible refine gate_dst (N := 2) rfl ?_); refine zX (N := 2) (cs := #[.int .i64 a0_0, .int .i64 a0_1, .int .i64 a0_2, .int .i64 a0_3, .int .i64 a0_4, .string a0_5, .int .i64 a0_6, .slice A0_7 l0_7.length c0_7]) (t := 31) (h := ?_); intro gb213 hg w9 hbox hb; have BK213 := Aside0.mk hbox; have GW213 := Aside0.mk ((zS : w.heap.size ≤ gb213)); have GE213 := Aside0.mk ((zS : w.heap.size ≤ gb213)); replace HB := Aside0.mk (below_step zB hb); clear hb hbox hg) | ((with_reducible refine gate_dst (N := 3) rfl ?_); refine zX (N := 3) (cs := #[.int .i64 a1_0, .slice A1_1 l1_1.length c1_1, .int .i64 a1_2]) (t := 49) (h := ?_); intro gb214 hg w10 hbox hb; have BK214 := Aside0.mk hbox; have GW214 := Aside0.mk ((zT : w.heap.size ≤ gb214)); have GE214 := Aside0.mk ((zT : w.heap.size ≤ gb214)); have NB213_214 := Aside0.mk ((zL : gb213 ≠ gb214)); have NB214_213 := Aside0.mk ((zM : gb214 ≠ gb213)); replace BK213 := Aside0.mk (blk_below (g := gb213) zK hb); replace HB := Aside0.mk (below_step zG hb); clear hb hbox hg; have hnb11 := NB213_214.out; have hnc11 := NB214_213.out; obtain ⟨hcz12_0, hcz12_1, hcz12_2, hcz12_3, hcz12_4, hcz12_5, hcz12_6, hcz12_7, hfz12_0, hfz12_1, hfz12_2, hfz12_3, hfz12_4, hfz12_5, hfz12_6, hfz12_7⟩ := zd8 BK213.out (.int .i64 a0_0) (.int .i64 a0_1) (.int .i64 a0_2) (.int .i64 a0_3) (.int .i64 a0_4) (.string a0_5) (.int .i64 a0_6) (.slice A0_7 l0_7.length c0_7); obtain ⟨hcz13_0, hcz13_1, hcz13_2, hfz13_0, hfz13_1, hfz13_2⟩ := zd3 BK214.out (.int .i64 a1_0) (.slice A1_1 l1_1.length c1_1) (.int .i64 a1_2)) | (go_at_call 50; (with_reducible refine (code_isReg.calls a0_3 a1_0 _ _ l1_1 a1_2 t215 _ ?side1 ?side2 A8.out).mono ?_); (case side1 => repeat (first | exact (Kd.C_below HR1_1.out HB.out) | (with_reducible refine Kd.C_alloc ?_ _) | (with_reducible refine Kd.C_drewN ?_ _) | (with_reducible refine Kd.C_drew ?_))); (case side2 => exact HC1_1.out); rintro e w14 ⟨rfl, hb⟩; replace BK213 := Aside0.mk (blk_below (g := gb213) zK hb); replace BK214 := Aside0.mk (blk_below (g := gb214) zK hb); replace HB := Aside0.mk (below_step zG hb); (try clear hb)))
  go_ret
  exact ⟨zE, zG⟩
end Go.Proofs.YtjlhhjfmekjbhaaGreatDoor.Pq

namespace Go.Proofs.YtjlhhjfmekjbhaaGreatDoor.Pq
open Go.RowKit Go.Proofs.YtjlhhjfmekjbhaaGreatDoor.Vb Go.Proofs.YtjlhhjfmekjbhaaGreatDoorW.PrintWords Go.Proofs.YtjlhhjfmekjbhaaGreatDoorW.PrintLast Go.Proofs.YtjlhhjfmekjbhaaGreatDoorW.PrintMore
set_option linter.unusedVariables false
set_option linter.unusedSimpArgs false
/-! ### code_parts_10: function 57 -/
def code_parts_10.f (s0_0 : Int) (s0_1 : Int) (s0_2 : Int) (s0_3 : Int) (s0_4 : Int) (s0_5 : ByteArray) (s0_6 : Int) (s0_7 : List Int) : Option (Int × Int × Int × Int × Int × ByteArray × Int) := some (s0_0, s0_1, s0_2, s0_3, 0, s0_5, s0_6)
set_option maxHeartbeats 8000000 in
set_option maxRecDepth 100000 in
theorem code_parts_10.calls (g : Nat) (s0_0 : Int) (s0_1 : Int) (s0_2 : Int) (s0_3 : Int) (s0_4 : Int) (s0_5 : ByteArray) (s0_6 : Int) (s0_7 : List Int) (r1 : Int) (r2 : Int) (r3 : Int) (r4 : Int) (r5 : Int) (r6 : ByteArray) (r7 : Int) (w0 w : World) (hI : IsS31 w0 w g s0_0 s0_1 s0_2 s0_3 s0_4 s0_5 s0_6 s0_7) (hB : Below w0.heap.size w0 w) (h : code_parts_10.f s0_0 s0_1 s0_2 s0_3 s0_4 s0_5 s0_6 s0_7 = some (r1, r2, r3, r4, r5, r6, r7)) :
  Calls Tryz.prog 57 #[.pointer (some ⟨g, 0, none⟩)] w fun e w' => e = .returned (.tuple #[]) ∧ IsS31 w0 w' g r1 r2 r3 r4 r5 r6 r7 s0_7 ∧ Below w0.heap.size w0 w' ∧ KeepBut w w' g none := by
 have HI0 := Aside0.mk hI
 have HK := Aside0.mk (KeepBut.refl w g none)
 have HL := Aside0.mk hB.size
 clear hI
 have HW0 := Aside0.mk hB.size
 have HB := Aside0.mk hB
 clear hB
 have H : (some (s0_0, s0_1, s0_2, s0_3, 0, s0_5, s0_6)) = some (r1, r2, r3, r4, r5, r6, r7) := h
 clear h
 simp only [Option.some.injEq, Prod.mk.injEq] at H
 obtain ⟨rfl, rfl, rfl, rfl, rfl, rfl, rfl⟩ := H
 obtain ⟨ASz2_7, cSz2_7, HGz2, hgz2, HSz2_7⟩ := HI0.out
 have hcz2_0 := cellS31_0 HGz2
 have hcz2_1 := cellS31_1 HGz2
 have hcz2_2 := cellS31_2 HGz2
 have hcz2_3 := cellS31_3 HGz2
 have hcz2_4 := cellS31_4 HGz2
 have hcz2_5 := cellS31_5 HGz2
 have hcz2_6 := cellS31_6 HGz2
 have hcz2_7 := cellS31_7 HGz2
 have hfz2_0 := blk_frozen HGz2 0
 have hfz2_1 := blk_frozen HGz2 1
 have hfz2_2 := blk_frozen HGz2 2
 have hfz2_3 := blk_frozen HGz2 3
 have hfz2_4 := blk_frozen HGz2 4
 have hfz2_5 := blk_frozen HGz2 5
 have hfz2_6 := blk_frozen HGz2 6
 clear HGz2 hgz2
 go_enter Tryz.func57, Tryz.ntmps57
 go_wp2
 first | go_end0 | ((try simp only [Exit.inBlock, Exit.then]); refine bodyPost_ret (results_none rfl _ _ _) rfl ?_)
 exact ⟨zE, by repeat (first | (with_reducible first | exact HI0.out | apply IsS31.alloc | apply IsS31.drewN | apply IsS31.drew | apply IsS31.set_0 | apply IsS31.set_1 | apply IsS31.set_2 | apply IsS31.set_3 | apply IsS31.set_4 | apply IsS31.set_5 | apply IsS31.set_6) | exact HI0.out), by repeat (first | (with_reducible first | exact HB.out | apply below_alloc | apply pw_below_drewN | apply below_drew1 | refine below_set ?_ (IsS31.ge HI0.out)) | exact HB.out), by repeat (first | (with_reducible first | exact HK.out | apply KeepBut.set_ | apply keep_drewN | apply keep_drew | apply keep_alloc) | exact HK.out)⟩
/-! ### code_parts_11: function 58 -/
def code_parts_11.f (a0_0 : Int) (a0_1 : Int) (a0_2 : Int) (a0_3 : Int) (a0_4 : Int) (a0_5 : ByteArray) (a0_6 : Int) (l0_7 : List Int) (a1_0 : Int) (l1_1 : List (S31)) (a1_2 : Int) : Option (Bool) := some true
set_option maxHeartbeats 8000000 in
set_option maxRecDepth 100000 in
theorem code_parts_11.calls (a0_0 : Int) (a0_1 : Int) (a0_2 : Int) (a0_3 : Int) (a0_4 : Int) (a0_5 : ByteArray) (a0_6 : Int) (A0_7 : Option Addr) (c0_7 : Nat) (l0_7 : List Int) (a1_0 : Int) (A1_1 : Option Addr) (c1_1 : Nat) (l1_1 : List (S31)) (a1_2 : Int) (r : Bool) (w : World) (hr0_7 : Kd.C (Kd.int .i64) w A0_7 l0_7.length l0_7) (hc0_7 : l0_7.length ≤ c0_7) (hr1_1 : Kd.C k31 w A1_1 l1_1.length l1_1) (hc1_1 : l1_1.length ≤ c1_1) (h : code_parts_11.f a0_0 a0_1 a0_2 a0_3 a0_4 a0_5 a0_6 l0_7 a1_0 l1_1 a1_2 = some r) :
  Calls Tryz.prog 58 #[.agg #[.int .i64 a0_0, .int .i64 a0_1, .int .i64 a0_2, .int .i64 a0_3, .int .i64 a0_4, .string a0_5, .int .i64 a0_6, .slice A0_7 l0_7.length c0_7], .agg #[.int .i64 a1_0, .slice A1_1 l1_1.length c1_1, .int .i64 a1_2]] w fun e w' => e = .returned (.bool r) ∧ Below w.heap.size w w' := by
 have hu31 := Tryz.underlying31
 have hu49 := Tryz.underlying49
 have HR0_7 := Aside0.mk hr0_7
 have HC0_7 := Aside0.mk hc0_7
 clear hr0_7 hc0_7
 have HR1_1 := Aside0.mk hr1_1
 have HC1_1 := Aside0.mk hc1_1
 clear hr1_1 hc1_1
 have HB := Aside0.mk (Below.refl w.heap.size w)
 have H : (some true) = some r := h
 clear h
 obtain rfl := Option.some.inj H
 go_enter Tryz.func58, Tryz.ntmps58
 go_wp2_with (first | ((with_reducible refine gate_dst (N := 2) rfl ?_); refine zX (N := 2) (cs := #[.int .i64 a0_0, .int .i64 a0_1, .int .i64 a0_2, .int .i64 a0_3, .int .i64 a0_4, .string a0_5, .int .i64 a0_6, .slice A0_7 l0_7.length c0_7]) (t := 31) (h := ?_); intro gb216 hg w3 hbox hb; have BK216 := Aside0.mk hbox; have GW216 := Aside0.mk ((zS : w.heap.size ≤ gb216)); have GE216 := Aside0.mk ((zS : w.heap.size ≤ gb216)); replace HB := Aside0.mk (below_step zB hb); clear hb hbox hg) | ((with_reducible refine gate_dst (N := 3) rfl ?_); refine zX (N := 3) (cs := #[.int .i64 a1_0, .slice A1_1 l1_1.length c1_1, .int .i64 a1_2]) (t := 49) (h := ?_); intro gb217 hg w4 hbox hb; have BK217 := Aside0.mk hbox; have GW217 := Aside0.mk ((zT : w.heap.size ≤ gb217)); have GE217 := Aside0.mk ((zT : w.heap.size ≤ gb217)); have NB216_217 := Aside0.mk ((zL : gb216 ≠ gb217)); have NB217_216 := Aside0.mk ((zM : gb217 ≠ gb216)); replace BK216 := Aside0.mk (blk_below (g := gb216) zK hb); replace HB := Aside0.mk (below_step zG hb); clear hb hbox hg))
 go_ret
 exact ⟨zE, zG⟩
/-! ### code_parts_12: function 59 -/
def code_parts_12.f (a0_0 : Int) (a0_1 : Int) (a0_2 : Int) (a0_3 : Int) (a0_4 : Int) (a0_5 : ByteArray) (a0_6 : Int) (l0_7 : List Int) (a1_0 : Int) (l1_1 : List (S31)) (a1_2 : Int) : Option (Bool) := (value_Two.f a0_5 0 0 (⟨#[]⟩ : ByteArray) 0 0 (⟨#[]⟩ : ByteArray)).bind fun bt220 => (some (bt220.2.2.2 == 0))
set_option maxHeartbeats 8000000 in
set_option maxRecDepth 100000 in
theorem code_parts_12.calls (a0_0 : Int) (a0_1 : Int) (a0_2 : Int) (a0_3 : Int) (a0_4 : Int) (a0_5 : ByteArray) (a0_6 : Int) (A0_7 : Option Addr) (c0_7 : Nat) (l0_7 : List Int) (a1_0 : Int) (A1_1 : Option Addr) (c1_1 : Nat) (l1_1 : List (S31)) (a1_2 : Int) (r : Bool) (w : World) (hL : Laid w) (hr0_7 : Kd.C (Kd.int .i64) w A0_7 l0_7.length l0_7) (hc0_7 : l0_7.length ≤ c0_7) (hr1_1 : Kd.C k31 w A1_1 l1_1.length l1_1) (hc1_1 : l1_1.length ≤ c1_1) (h : code_parts_12.f a0_0 a0_1 a0_2 a0_3 a0_4 a0_5 a0_6 l0_7 a1_0 l1_1 a1_2 = some r) :
  Calls Tryz.prog 59 #[.agg #[.int .i64 a0_0, .int .i64 a0_1, .int .i64 a0_2, .int .i64 a0_3, .int .i64 a0_4, .string a0_5, .int .i64 a0_6, .slice A0_7 l0_7.length c0_7], .agg #[.int .i64 a1_0, .slice A1_1 l1_1.length c1_1, .int .i64 a1_2]] w fun e w' => e = .returned (.bool r) ∧ Below w.heap.size w w' := by
 have HL := Aside0.mk hL
 clear hL
 have hu31 := Tryz.underlying31
 have hu49 := Tryz.underlying49
 have hu83 := Tryz.underlying83
 have HR0_7 := Aside0.mk hr0_7
 have HC0_7 := Aside0.mk hc0_7
 clear hr0_7 hc0_7
 have HR1_1 := Aside0.mk hr1_1
 have HC1_1 := Aside0.mk hc1_1
 clear hr1_1 hc1_1
 have HB := Aside0.mk (Below.refl w.heap.size w)
 have H : ((value_Two.f a0_5 0 0 (⟨#[]⟩ : ByteArray) 0 0 (⟨#[]⟩ : ByteArray)).bind fun bt220 => (some (bt220.2.2.2 == 0))) = some r := h
 clear h
 replace H := Option.bind_eq_some_iff.mp H
 obtain ⟨⟨t220, t221, t222, t223⟩, A30, H⟩ := H
 replace H : (some (t223 == 0)) = some r := H
 have A3 := Aside0.mk A30
 clear A30
 obtain rfl := Option.some.inj H
 go_enter Tryz.func59, Tryz.ntmps59
 go_wp2_with (first | ((with_reducible refine gate_dst (N := 2) rfl ?_); refine zX (N := 2) (cs := #[.int .i64 a0_0, .int .i64 a0_1, .int .i64 a0_2, .int .i64 a0_3, .int .i64 a0_4, .string a0_5, .int .i64 a0_6, .slice A0_7 l0_7.length c0_7]) (t := 31) (h := ?_); intro gb218 hg w4 hbox hb; have BK218 := Aside0.mk hbox; have GW218 := Aside0.mk ((zS : w.heap.size ≤ gb218)); have GE218 := Aside0.mk ((zS : w.heap.size ≤ gb218)); replace HB := Aside0.mk (below_step zB hb); clear hb hbox hg) | ((with_reducible refine gate_dst (N := 3) rfl ?_); refine zX (N := 3) (cs := #[.int .i64 a1_0, .slice A1_1 l1_1.length c1_1, .int .i64 a1_2]) (t := 49) (h := ?_); intro gb219 hg w5 hbox hb; have BK219 := Aside0.mk hbox; have GW219 := Aside0.mk ((zT : w.heap.size ≤ gb219)); have GE219 := Aside0.mk ((zT : w.heap.size ≤ gb219)); have NB218_219 := Aside0.mk ((zL : gb218 ≠ gb219)); have NB219_218 := Aside0.mk ((zM : gb219 ≠ gb218)); replace BK218 := Aside0.mk (blk_below (g := gb218) zK hb); replace HB := Aside0.mk (below_step zG hb); clear hb hbox hg; have hnb6 := NB218_219.out; have hnc6 := NB219_218.out; obtain ⟨hcz7_0, hcz7_1, hcz7_2, hcz7_3, hcz7_4, hcz7_5, hcz7_6, hcz7_7, hfz7_0, hfz7_1, hfz7_2, hfz7_3, hfz7_4, hfz7_5, hfz7_6, hfz7_7⟩ := zd8 BK218.out (.int .i64 a0_0) (.int .i64 a0_1) (.int .i64 a0_2) (.int .i64 a0_3) (.int .i64 a0_4) (.string a0_5) (.int .i64 a0_6) (.slice A0_7 l0_7.length c0_7)) | ((with_reducible refine gate_callee (f := 60) rfl ?_); refine goesL_ (some 12) rfl rfl Tryz.func60 (by kernel_rfl) rfl #[.string a0_5, .agg #[.int .i64 0, .int .i64 0, .string (⟨#[]⟩ : ByteArray)], .agg #[.int .i64 0, .int .i64 0, .string (⟨#[]⟩ : ByteArray)]] rfl zP ?_; (with_reducible refine (value_Two.calls (hL := ?sideL) a0_5 0 0 (⟨#[]⟩ : ByteArray) 0 0 (⟨#[]⟩ : ByteArray) t220 t221 t222 t223 _ A3.out).mono ?_); (case sideL => exact Laid.below HL.out zG); rintro e w8 ⟨rfl, hb⟩; refine ⟨_, rfl, ?_⟩; replace BK218 := Aside0.mk (blk_below (g := gb218) zK hb); replace BK219 := Aside0.mk (blk_below (g := gb219) zK hb); replace HB := Aside0.mk (below_step zG hb); (try clear hb)) | ((with_reducible refine gate_dst (N := 5) rfl ?_); refine zX (N := 5) (cs := #[.int .i64 0, .int .i64 0, .string (⟨#[]⟩ : ByteArray)]) (t := 83) (h := ?_); intro gb224 hg w9 hbox hb; have BK224 := Aside0.mk hbox; have GW224 := Aside0.mk ((zT : w.heap.size ≤ gb224)); have GE224 := Aside0.mk ((zT : w.heap.size ≤ gb224)); have NB218_224 := Aside0.mk ((zL : gb218 ≠ gb224)); have NB224_218 := Aside0.mk ((zM : gb224 ≠ gb218)); have NB219_224 := Aside0.mk ((zL : gb219 ≠ gb224)); have NB224_219 := Aside0.mk ((zM : gb224 ≠ gb219)); replace BK218 := Aside0.mk (blk_below (g := gb218) zK hb); replace BK219 := Aside0.mk (blk_below (g := gb219) zK hb); replace HB := Aside0.mk (below_step zG hb); clear hb hbox hg; have hnb10 := NB224_218.out; have hnc10 := NB218_224.out; have hnb11 := NB224_219.out; have hnc11 := NB219_224.out; obtain ⟨hcz12_0, hcz12_1, hcz12_2, hfz12_0, hfz12_1, hfz12_2⟩ := zd3 BK224.out (.int .i64 0) (.int .i64 0) (.string (⟨#[]⟩ : ByteArray))))
 go_ret
 exact ⟨zE, zG⟩
end Go.Proofs.YtjlhhjfmekjbhaaGreatDoor.Pq

namespace Go.Proofs.YtjlhhjfmekjbhaaGreatDoor.Pq
open Go.RowKit Go.Proofs.YtjlhhjfmekjbhaaGreatDoorW.PrintWords Go.Proofs.YtjlhhjfmekjbhaaGreatDoorW.PrintLast Go.Proofs.YtjlhhjfmekjbhaaGreatDoorW.PrintMore
set_option linter.unusedVariables false
set_option linter.unusedSimpArgs false
/-! ### code_parts_15: function 67 -/
def code_parts_15.f (a0_0 : Int) (l0_1 : List (S31)) (a0_2 : Int) : Option (Int) := some (l0_1.length : Int)
set_option maxHeartbeats 8000000 in
set_option maxRecDepth 100000 in
theorem code_parts_15.calls (a0_0 : Int) (A0_1 : Option Addr) (c0_1 : Nat) (l0_1 : List (S31)) (a0_2 : Int) (r : Int) (w : World) (hr0_1 : Kd.C k31 w A0_1 l0_1.length l0_1) (hc0_1 : l0_1.length ≤ c0_1) (h : code_parts_15.f a0_0 l0_1 a0_2 = some r) :
  Calls Tryz.prog 67 #[.agg #[.int .i64 a0_0, .slice A0_1 l0_1.length c0_1, .int .i64 a0_2]] w fun e w' => e = .returned (.int .i64 r) ∧ Below w.heap.size w w' := by
 have hu49 := Tryz.underlying49
 have HR0_1 := Aside0.mk hr0_1
 have HC0_1 := Aside0.mk hc0_1
 clear hr0_1 hc0_1
 have HB := Aside0.mk (Below.refl w.heap.size w)
 have H : (some (l0_1.length : Int)) = some r := h
 clear h
 obtain rfl := Option.some.inj H
 go_enter Tryz.func67, Tryz.ntmps67
 go_wp2_with (first | ((with_reducible refine gate_dst (N := 1) rfl ?_); refine zX (N := 1) (cs := #[.int .i64 a0_0, .slice A0_1 l0_1.length c0_1, .int .i64 a0_2]) (t := 49) (h := ?_); intro gb225 hg w2 hbox hb; have BK225 := Aside0.mk hbox; have GW225 := Aside0.mk ((zS : w.heap.size ≤ gb225)); have GE225 := Aside0.mk ((zS : w.heap.size ≤ gb225)); replace HB := Aside0.mk (below_step zB hb); clear hb hbox hg; obtain ⟨hcz3_0, hcz3_1, hcz3_2, hfz3_0, hfz3_1, hfz3_2⟩ := zd3 BK225.out (.int .i64 a0_0) (.slice A0_1 l0_1.length c0_1) (.int .i64 a0_2)))
 go_ret
 exact ⟨zE, zG⟩
/-! ### code_parts_16: function 68 -/
def code_parts_16.f (a0_0 : Int) (l0_1 : List (S31)) (a0_2 : Int) : Option (Int) := some a0_2
set_option maxHeartbeats 8000000 in
set_option maxRecDepth 100000 in
theorem code_parts_16.calls (a0_0 : Int) (A0_1 : Option Addr) (c0_1 : Nat) (l0_1 : List (S31)) (a0_2 : Int) (r : Int) (w : World) (hr0_1 : Kd.C k31 w A0_1 l0_1.length l0_1) (hc0_1 : l0_1.length ≤ c0_1) (h : code_parts_16.f a0_0 l0_1 a0_2 = some r) :
  Calls Tryz.prog 68 #[.agg #[.int .i64 a0_0, .slice A0_1 l0_1.length c0_1, .int .i64 a0_2]] w fun e w' => e = .returned (.int .i64 r) ∧ Below w.heap.size w w' := by
 have hu49 := Tryz.underlying49
 have HR0_1 := Aside0.mk hr0_1
 have HC0_1 := Aside0.mk hc0_1
 clear hr0_1 hc0_1
 have HB := Aside0.mk (Below.refl w.heap.size w)
 have H : (some a0_2) = some r := h
 clear h
 obtain rfl := Option.some.inj H
 go_enter Tryz.func68, Tryz.ntmps68
 go_wp2_with (first | ((with_reducible refine gate_dst (N := 1) rfl ?_); refine zX (N := 1) (cs := #[.int .i64 a0_0, .slice A0_1 l0_1.length c0_1, .int .i64 a0_2]) (t := 49) (h := ?_); intro gb226 hg w2 hbox hb; have BK226 := Aside0.mk hbox; have GW226 := Aside0.mk ((zS : w.heap.size ≤ gb226)); have GE226 := Aside0.mk ((zS : w.heap.size ≤ gb226)); replace HB := Aside0.mk (below_step zB hb); clear hb hbox hg; obtain ⟨hcz3_0, hcz3_1, hcz3_2, hfz3_0, hfz3_1, hfz3_2⟩ := zd3 BK226.out (.int .i64 a0_0) (.slice A0_1 l0_1.length c0_1) (.int .i64 a0_2)))
 go_ret
 exact ⟨zE, zG⟩
/-! ### code_parts_17: function 69 -/
def code_parts_17.f (a0_0 : Int) (a0_1 : Int) (a0_2 : Int) (a0_3 : Int) (a0_4 : Int) (a0_5 : ByteArray) (a0_6 : Int) (l0_7 : List Int) (a1_0 : Int) (l1_1 : List (S31)) (a1_2 : Int) : Option (Bool) := if a0_6 ≥ 0 then (if (wrap64 (Int.tdiv a0_6 1000)) < a1_2 then (some (decide ((Int.tmod a0_6 1000) < 200))) else (some false)) else (some false)
set_option maxHeartbeats 8000000 in
set_option maxRecDepth 100000 in
theorem code_parts_17.calls (a0_0 : Int) (a0_1 : Int) (a0_2 : Int) (a0_3 : Int) (a0_4 : Int) (a0_5 : ByteArray) (a0_6 : Int) (A0_7 : Option Addr) (c0_7 : Nat) (l0_7 : List Int) (a1_0 : Int) (A1_1 : Option Addr) (c1_1 : Nat) (l1_1 : List (S31)) (a1_2 : Int) (r : Bool) (w : World) (hr0_7 : Kd.C (Kd.int .i64) w A0_7 l0_7.length l0_7) (hc0_7 : l0_7.length ≤ c0_7) (hr1_1 : Kd.C k31 w A1_1 l1_1.length l1_1) (hc1_1 : l1_1.length ≤ c1_1) (h : code_parts_17.f a0_0 a0_1 a0_2 a0_3 a0_4 a0_5 a0_6 l0_7 a1_0 l1_1 a1_2 = some r) :
  Calls Tryz.prog 69 #[.agg #[.int .i64 a0_0, .int .i64 a0_1, .int .i64 a0_2, .int .i64 a0_3, .int .i64 a0_4, .string a0_5, .int .i64 a0_6, .slice A0_7 l0_7.length c0_7], .agg #[.int .i64 a1_0, .slice A1_1 l1_1.length c1_1, .int .i64 a1_2]] w fun e w' => e = .returned (.bool r) ∧ Below w.heap.size w w' := by
 have hu31 := Tryz.underlying31
 have hu49 := Tryz.underlying49
 have HR0_7 := Aside0.mk hr0_7
 have HC0_7 := Aside0.mk hc0_7
 clear hr0_7 hc0_7
 have HR1_1 := Aside0.mk hr1_1
 have HC1_1 := Aside0.mk hc1_1
 clear hr1_1 hc1_1
 have HB := Aside0.mk (Below.refl w.heap.size w)
 have H : (if a0_6 ≥ 0 then (if (wrap64 (Int.tdiv a0_6 1000)) < a1_2 then (some (decide ((Int.tmod a0_6 1000) < 200))) else (some false)) else (some false)) = some r := h
 clear h
 by_cases c3 : a0_6 ≥ 0
 ·rw [if_pos c3] at H
  have c3b0 : decide (0 ≤ a0_6) = true := decide_eq_true c3
  clear c3
  by_cases c4 : (wrap64 (Int.tdiv a0_6 1000)) < a1_2
  ·rw [if_pos c4] at H
   have c4b0 : decide ((wrap64 (Int.tdiv a0_6 1000)) < a1_2) = true := decide_eq_true c4
   clear c4
   obtain rfl := Option.some.inj H
   go_enter Tryz.func69, Tryz.ntmps69
   go_wp2_with (first | ((with_reducible refine gate_dst (N := 2) rfl ?_); refine zX (N := 2) (cs := #[.int .i64 a0_0, .int .i64 a0_1, .int .i64 a0_2, .int .i64 a0_3, .int .i64 a0_4, .string a0_5, .int .i64 a0_6, .slice A0_7 l0_7.length c0_7]) (t := 31) (h := ?_); intro gb227 hg w5 hbox hb; have BK227 := Aside0.mk hbox; have GW227 := Aside0.mk ((zS : w.heap.size ≤ gb227)); have GE227 := Aside0.mk ((zS : w.heap.size ≤ gb227)); replace HB := Aside0.mk (below_step zB hb); clear hb hbox hg) | ((with_reducible refine gate_dst (N := 3) rfl ?_); refine zX (N := 3) (cs := #[.int .i64 a1_0, .slice A1_1 l1_1.length c1_1, .int .i64 a1_2]) (t := 49) (h := ?_); intro gb228 hg w6 hbox hb; have BK228 := Aside0.mk hbox; have GW228 := Aside0.mk ((zT : w.heap.size ≤ gb228)); have GE228 := Aside0.mk ((zT : w.heap.size ≤ gb228)); have NB227_228 := Aside0.mk ((zL : gb227 ≠ gb228)); have NB228_227 := Aside0.mk ((zM : gb228 ≠ gb227)); replace BK227 := Aside0.mk (blk_below (g := gb227) zK hb); replace HB := Aside0.mk (below_step zG hb); clear hb hbox hg; have hnb7 := NB227_228.out; have hnc7 := NB228_227.out; obtain ⟨hcz8_0, hcz8_1, hcz8_2, hcz8_3, hcz8_4, hcz8_5, hcz8_6, hcz8_7, hfz8_0, hfz8_1, hfz8_2, hfz8_3, hfz8_4, hfz8_5, hfz8_6, hfz8_7⟩ := zd8 BK227.out (.int .i64 a0_0) (.int .i64 a0_1) (.int .i64 a0_2) (.int .i64 a0_3) (.int .i64 a0_4) (.string a0_5) (.int .i64 a0_6) (.slice A0_7 l0_7.length c0_7); obtain ⟨hcz9_0, hcz9_1, hcz9_2, hfz9_0, hfz9_1, hfz9_2⟩ := zd3 BK228.out (.int .i64 a1_0) (.slice A1_1 l1_1.length c1_1) (.int .i64 a1_2)))
   go_ret
   exact ⟨zE, zG⟩
  ·rw [if_neg c4] at H
   have c4b0 : decide ((wrap64 (Int.tdiv a0_6 1000)) < a1_2) = false := decide_eq_false c4
   clear c4
   obtain rfl := Option.some.inj H
   go_enter Tryz.func69, Tryz.ntmps69
   go_wp2_with (first | ((with_reducible refine gate_dst (N := 2) rfl ?_); refine zX (N := 2) (cs := #[.int .i64 a0_0, .int .i64 a0_1, .int .i64 a0_2, .int .i64 a0_3, .int .i64 a0_4, .string a0_5, .int .i64 a0_6, .slice A0_7 l0_7.length c0_7]) (t := 31) (h := ?_); intro gb227 hg w10 hbox hb; have BK227 := Aside0.mk hbox; have GW227 := Aside0.mk ((zS : w.heap.size ≤ gb227)); have GE227 := Aside0.mk ((zS : w.heap.size ≤ gb227)); replace HB := Aside0.mk (below_step zB hb); clear hb hbox hg) | ((with_reducible refine gate_dst (N := 3) rfl ?_); refine zX (N := 3) (cs := #[.int .i64 a1_0, .slice A1_1 l1_1.length c1_1, .int .i64 a1_2]) (t := 49) (h := ?_); intro gb228 hg w11 hbox hb; have BK228 := Aside0.mk hbox; have GW228 := Aside0.mk ((zT : w.heap.size ≤ gb228)); have GE228 := Aside0.mk ((zT : w.heap.size ≤ gb228)); have NB227_228 := Aside0.mk ((zL : gb227 ≠ gb228)); have NB228_227 := Aside0.mk ((zM : gb228 ≠ gb227)); replace BK227 := Aside0.mk (blk_below (g := gb227) zK hb); replace HB := Aside0.mk (below_step zG hb); clear hb hbox hg; have hnb12 := NB227_228.out; have hnc12 := NB228_227.out; obtain ⟨hcz13_0, hcz13_1, hcz13_2, hcz13_3, hcz13_4, hcz13_5, hcz13_6, hcz13_7, hfz13_0, hfz13_1, hfz13_2, hfz13_3, hfz13_4, hfz13_5, hfz13_6, hfz13_7⟩ := zd8 BK227.out (.int .i64 a0_0) (.int .i64 a0_1) (.int .i64 a0_2) (.int .i64 a0_3) (.int .i64 a0_4) (.string a0_5) (.int .i64 a0_6) (.slice A0_7 l0_7.length c0_7); obtain ⟨hcz14_0, hcz14_1, hcz14_2, hfz14_0, hfz14_1, hfz14_2⟩ := zd3 BK228.out (.int .i64 a1_0) (.slice A1_1 l1_1.length c1_1) (.int .i64 a1_2)))
   go_ret
   exact ⟨zE, zG⟩
 ·rw [if_neg c3] at H
  have c3b0 : decide (0 ≤ a0_6) = false := decide_eq_false c3
  clear c3
  obtain rfl := Option.some.inj H
  go_enter Tryz.func69, Tryz.ntmps69
  go_wp2_with (first | ((with_reducible refine gate_dst (N := 2) rfl ?_); refine zX (N := 2) (cs := #[.int .i64 a0_0, .int .i64 a0_1, .int .i64 a0_2, .int .i64 a0_3, .int .i64 a0_4, .string a0_5, .int .i64 a0_6, .slice A0_7 l0_7.length c0_7]) (t := 31) (h := ?_); intro gb227 hg w15 hbox hb; have BK227 := Aside0.mk hbox; have GW227 := Aside0.mk ((zS : w.heap.size ≤ gb227)); have GE227 := Aside0.mk ((zS : w.heap.size ≤ gb227)); replace HB := Aside0.mk (below_step zB hb); clear hb hbox hg) | ((with_reducible refine gate_dst (N := 3) rfl ?_); refine zX (N := 3) (cs := #[.int .i64 a1_0, .slice A1_1 l1_1.length c1_1, .int .i64 a1_2]) (t := 49) (h := ?_); intro gb228 hg w16 hbox hb; have BK228 := Aside0.mk hbox; have GW228 := Aside0.mk ((zT : w.heap.size ≤ gb228)); have GE228 := Aside0.mk ((zT : w.heap.size ≤ gb228)); have NB227_228 := Aside0.mk ((zL : gb227 ≠ gb228)); have NB228_227 := Aside0.mk ((zM : gb228 ≠ gb227)); replace BK227 := Aside0.mk (blk_below (g := gb227) zK hb); replace HB := Aside0.mk (below_step zG hb); clear hb hbox hg; have hnb17 := NB227_228.out; have hnc17 := NB228_227.out; obtain ⟨hcz18_0, hcz18_1, hcz18_2, hcz18_3, hcz18_4, hcz18_5, hcz18_6, hcz18_7, hfz18_0, hfz18_1, hfz18_2, hfz18_3, hfz18_4, hfz18_5, hfz18_6, hfz18_7⟩ := zd8 BK227.out (.int .i64 a0_0) (.int .i64 a0_1) (.int .i64 a0_2) (.int .i64 a0_3) (.int .i64 a0_4) (.string a0_5) (.int .i64 a0_6) (.slice A0_7 l0_7.length c0_7)))
  go_ret
  exact ⟨zE, zG⟩
end Go.Proofs.YtjlhhjfmekjbhaaGreatDoor.Pq

namespace Go.Proofs.YtjlhhjfmekjbhaaGreatDoor.Pq
open Go.RowKit Go.Proofs.YtjlhhjfmekjbhaaGreatDoorW.PrintWords Go.Proofs.YtjlhhjfmekjbhaaGreatDoorW.PrintLast Go.Proofs.YtjlhhjfmekjbhaaGreatDoorW.PrintMore
set_option linter.unusedVariables false
set_option linter.unusedSimpArgs false
/-! ### slices_Equal_int_int: function 85 -/
def slices_Equal_int_int.l0 : Nat → List Int → List Int → Int → Int → Option (Bool)
 | 0, _, _, _, _ => none
 | k + 1, x0, x1, x12, x13 => if x13 < x12 then (if 0 ≤ x13 then (if x13 < (x0.length : Int) then (if x13 < (x1.length : Int) then (if (rd x0 x13) = (rd x1 x13) then (slices_Equal_int_int.l0 k x0 x1 x12 (wrap64 (x13 + 1))) else (some false)) else (none)) else (none)) else (none)) else (some true)
def slices_Equal_int_int.f (k : Nat) (l0 : List Int) (l1 : List Int) : Option (Bool) := if (l0.length : Int) = (l1.length : Int) then (slices_Equal_int_int.l0 k l0 l1 (l0.length : Int) 0) else (some false)
end Go.Proofs.YtjlhhjfmekjbhaaGreatDoor.Pq

namespace Go.Proofs.YtjlhhjfmekjbhaaGreatDoor.Pq
open Go.RowKit Go.Proofs.YtjlhhjfmekjbhaaGreatDoorW.PrintWords Go.Proofs.YtjlhhjfmekjbhaaGreatDoorW.PrintLast Go.Proofs.YtjlhhjfmekjbhaaGreatDoorW.PrintMore
set_option linter.unusedVariables false
set_option linter.unusedSimpArgs false
/-! ### code_sameIns: function 40 -/
def code_sameIns.f (k : Nat) (a0_0 : Int) (a0_1 : Int) (a0_2 : Int) (a0_3 : Int) (a0_4 : Int) (a0_5 : ByteArray) (a0_6 : Int) (l0_7 : List Int) (a1_0 : Int) (a1_1 : Int) (a1_2 : Int) (a1_3 : Int) (a1_4 : Int) (a1_5 : ByteArray) (a1_6 : Int) (l1_7 : List Int) : Option (Bool) := (slices_Equal_int_int.f k l0_7 l1_7).bind fun t233 => (if t233 = true then (if a0_0 = a1_0 then (if a0_1 = a1_1 then (if a0_2 = a1_2 then (if a0_3 = a1_3 then (if a0_4 = a1_4 then (if a0_5.toList = a1_5.toList then (some (a0_6 == a1_6)) else (some false)) else (some false)) else (some false)) else (some false)) else (some false)) else (some false)) else (some false))
end Go.Proofs.YtjlhhjfmekjbhaaGreatDoor.Pq

/- What an instruction must be: the rules' functions; code.is, code.at. No condition. -/
namespace Go.Proofs.YtjlhhjfmekjbhaaGreatDoor.Cd
open Go.RowKit Go.Proofs.YtjlhhjfmekjbhaaGreatDoorW.PrintWords Go.Proofs.YtjlhhjfmekjbhaaGreatDoorW.PrintLast Go.Proofs.YtjlhhjfmekjbhaaGreatDoorW.PrintMore Go.Proofs.YtjlhhjfmekjbhaaGreatDoor.Pq
set_option linter.unusedVariables false
set_option linter.unusedSimpArgs false
def insV (x : S31) (A : Option Addr) (c : Nat) : Value := .agg #[.int .i64 x.f0, .int .i64 x.f1, .int .i64 x.f2, .int .i64 x.f3, .int .i64 x.f4, .string x.f5, .int .i64 x.f6, .slice A x.f7.length c]
def aroV (r : Int) (B : Option Addr) (d : Nat) (l : List S31) (u : Int) : Value := .agg #[.int .i64 r, .slice B l.length d, .int .i64 u]
structure ArgsOk (W : World) (x : S31) (A : Option Addr) (c : Nat) (B : Option Addr) (d : Nat) (l : List S31) : Prop where
  hx : Kd.C (Kd.int .i64) W A x.f7.length x.f7
  hc : x.f7.length ≤ c
  hl : Kd.C k31 W B l.length l
  hd : l.length ≤ d
  hs : x.f5.size ≤ maxLen
theorem enters {n : Nat} {fn : Func} (hf : Tryz.prog.funcs[n]? = some fn) (hn : (fn.name == "runtime.NumGoroutine") = false) (hb : fn.body.isNone = false) (args : Array Value) (W : World) : (callFunc n args).run Tryz.prog W = .ok (.enter n args) W := by
  have hn' : ¬ fn.name = "runtime.NumGoroutine" := by simpa using hn
  have hb' : ¬ fn.body = none := fun e => by rw [e] at hb; cases hb
  unfold callFunc
  simp [go_sem, hf, hn', hb']
def NumOk (W : World) (v : Value) (f : Int → List S31 → Int → Int) : Prop :=
  ∃ n cap, v = .func (.func n) #[] cap ∧ (∀ args w, (callFunc n args).run Tryz.prog w = .ok (.enter n args) w) ∧
    ∀ W', Below W.heap.size W W' → ∀ r B d l u, Kd.C k31 W' B l.length l → l.length ≤ d → Calls Tryz.prog n (#[aroV r B d l u] ++ cap) W' fun e W'' => e = .returned (.int .i64 (f r l u)) ∧ Below W'.heap.size W' W''
set_option maxRecDepth 100000 in
theorem len_ok (W : World) : NumOk W (.func (.func 67) #[] #[]) (fun _ l _ => (l.length : Int)) :=
  ⟨_, _, rfl, enters Tryz.func67 (by kernel_rfl) (by kernel_rfl), fun W' _ r B d l u hl hd => code_parts_15.calls r B d l u _ W' hl hd rfl⟩
set_option maxRecDepth 100000 in
theorem funs_ok (W : World) : NumOk W (.func (.func 68) #[] #[]) (fun _ _ u => u) :=
  ⟨_, _, rfl, enters Tryz.func68 (by kernel_rfl) (by kernel_rfl), fun W' _ r B d l u hl hd => code_parts_16.calls r B d l u _ W' hl hd rfl⟩
set_option maxHeartbeats 1000000 in
set_option maxRecDepth 100000 in
theorem is1_calls (n : Int) (p : Nat) (r : Int) (B : Option Addr) (d : Nat) (l : List S31) (u : Int) (w : World) (hc : w.cell? ⟨p, 0, none⟩ = some (.int .i64 n)) :
    Calls Tryz.prog 89 #[aroV r B d l u, .pointer (some ⟨p, 0, none⟩)] w fun e w' => e = .returned (.int .i64 n) ∧ Below w.heap.size w w' := by
  have hlt := World.block_lt_of_cell? w _ hc
  unfold aroV
  go_enter Tryz.func89, Tryz.ntmps89
  go_wp2
  go_ret
  exact ⟨by simp [*], below_alloc (Below.refl _ _) _⟩
end Go.Proofs.YtjlhhjfmekjbhaaGreatDoor.Cd

/- code.at: a number in a range. No condition. -/
namespace Go.Proofs.YtjlhhjfmekjbhaaGreatDoor.Cd
open Go.RowKit Go.Proofs.YtjlhhjfmekjbhaaGreatDoorW.PrintWords Go.Proofs.YtjlhhjfmekjbhaaGreatDoorW.PrintLast Go.Proofs.YtjlhhjfmekjbhaaGreatDoorW.PrintMore Go.Proofs.YtjlhhjfmekjbhaaGreatDoor.Pq
set_option linter.unusedVariables false
set_option linter.unusedSimpArgs false
theorem goesV_ {P : Program} {ops : Array Oper} {Q : Exit → Act → World → Prop} {oi : Oper} {N : Option Tmp} {a : Act} {w : World} {K : Act → World → Prop} {g : Operand} {n : FuncId} {cap : Array Value} {xs : Array Operand} {ts : Array TypeId}
    (hg : a.eval g = .func (.func n) #[] cap) (he : ∀ args w, (callFunc n args).run P w = .ok (.enter n args) w) (args : Array Value)
    (hw : Region.wanted oi (yielded ops a.tmps) = true) (hN : oi.dst = N) (hop : oi.op = .call { callee := .value g, args := xs, argTypes := ts }) (hargs : xs.map a.eval = args)
    (h : Calls P n (args ++ cap) w fun e w' => ∃ v, e = .returned v ∧ K (a.put N v) w') : if Region.wanted oi (yielded ops a.tmps) = true then Oper.wp P oi a w K Q else K (a.put N undef) w := by
  refine call_ n (args ++ cap) hw hN ?_ h
  have he' := he (args ++ cap) w
  unfold execOp
  simp [hop, resolve, Deferred.ofValue, invoke, hg, hargs, he']
def at1T1 : Bool × List (List Nat × List Nat) := (true, [([], []), ([0], [0]), ([], []), ([], []), ([2, 3], [2, 3]), ([1, 4], [1, 4]), ([5, 4], [5]), ([6], [6]), ([7, 6], [6, 7]), ([6], [6]), ([6], [6]), ([9, 10, 6, 6], [6, 9, 10]), ([8, 11, 6], [6, 8, 11]), ([6, 12], [6, 12]), ([13, 11, 0, 1, 2, 3, 4, 5, 6, 7, 8, 9, 10, 11, 12, 13], [13])])
def at1B1 : List Nat := [0, 1, 0, 0, 12, 31, 63, 127, 255, 127, 127, 1663, 4095, 8191, 16383]
theorem at1tab1 : rtab .any (opsOf Tryz.f88 1) = at1T1 := by kernel_rfl
theorem at1bits1 : waitsOk at1T1.2 at1B1 = true := by kernel_rfl
def AtS (w W' : World) (p q n1 n2 : Nat) (c1 c2 : Array Value) (x6 r : Int) (B : Option Addr) (d : Nat) (l : List S31) (u : Int) : Prop := (W'.cell? ⟨p, 0, none⟩ = some (.func (.func n1) #[] c1) ∧ W'.cell? ⟨q, 0, none⟩ = some (.func (.func n2) #[] c2) ∧ W'.cell? ⟨w.heap.size, 6, none⟩ = some (.int .i64 x6) ∧ W'.cell? ⟨w.heap.size + 1, 0, none⟩ = some (.int .i64 r) ∧ W'.cell? ⟨w.heap.size + 1, 1, none⟩ = some (.slice B l.length d) ∧ W'.cell? ⟨w.heap.size + 1, 2, none⟩ = some (.int .i64 u)) ∧ Below w.heap.size w W' ∧ w.heap.size + 1 < W'.heap.size
theorem AtS.step {w W W' : World} {p q n1 n2 : Nat} {c1 c2 : Array Value} {x6 r : Int} {B : Option Addr} {d : Nat} {l : List S31} {u : Int} (h : AtS w W p q n1 n2 c1 c2 x6 r B d l u) (hb : Below W.heap.size W W') : AtS w W' p q n1 n2 c1 c2 x6 r B d l u := by
  obtain ⟨⟨h0, h1, h2, h3, h4, h5⟩, hw, hs⟩ := h
  have k : ∀ {a : Addr} {v : Value}, W.cell? a = some v → W'.cell? a = some v := fun {a v} e => (hb.cell (World.block_lt_of_cell? W _ e)).trans e
  exact ⟨⟨k h0, k h1, k h2, k h3, k h4, k h5⟩, below_step hw hb, Nat.lt_of_lt_of_le hs hb.size⟩
set_option maxHeartbeats 8000000 in
set_option maxRecDepth 100000 in
theorem at1_calls (v1 v2 : Value) (f1 f2 : Int → List S31 → Int → Int) (p q : Nat) (x : S31) (A : Option Addr) (c : Nat) (r : Int) (B : Option Addr) (d : Nat) (l : List S31) (u : Int) (w : World)
    (hp : w.cell? ⟨p, 0, none⟩ = some v1) (hq : w.cell? ⟨q, 0, none⟩ = some v2) (h1 : NumOk w v1 f1) (h2 : NumOk w v2 f2) (hA : ArgsOk w x A c B d l) :
    Calls Tryz.prog 88 #[insV x A c, aroV r B d l u, .pointer (some ⟨p, 0, none⟩), .pointer (some ⟨q, 0, none⟩)] w fun e w' => e = .returned (.bool (decide (x.f6 ≥ f1 r l u) && decide (x.f6 < f2 r l u))) ∧ Below w.heap.size w w' := by
  have hlp := World.block_lt_of_cell? w _ hp
  have hlq := World.block_lt_of_cell? w _ hq
  obtain ⟨n1, c1, rfl, e1, k1⟩ := h1
  obtain ⟨n2, c2, rfl, e2, k2⟩ := h2
  have K1 := Aside0.mk (fun W' hb => k1 W' hb r B d l u (Kd.C_below hA.hl hb) hA.hd)
  have K2 := Aside0.mk (fun W' hb => k2 W' hb r B d l u (Kd.C_below hA.hl hb) hA.hd)
  have E1 := Aside0.mk e1
  have E2 := Aside0.mk e2
  clear k1 k2 hA e1 e2
  obtain ⟨x0, x1, x2, x3, x4, x5, x6, x7⟩ := x
  generalize hy1 : f1 r l u = y1 at *
  generalize hy2 : f2 r l u = y2 at *
  clear hy1 hy2
  have HS := Aside0.mk (show AtS w ((w.alloc (.cells #[.int .i64 x0, .int .i64 x1, .int .i64 x2, .int .i64 x3, .int .i64 x4, .string x5, .int .i64 x6, .slice A x7.length c] 31)).alloc (.cells #[.int .i64 r, .slice B l.length d, .int .i64 u] 49)).drew p q n1 n2 c1 c2 x6 r B d l u from by
    have b1 : ((w.alloc (.cells #[.int .i64 x0, .int .i64 x1, .int .i64 x2, .int .i64 x3, .int .i64 x4, .string x5, .int .i64 x6, .slice A x7.length c] 31)).alloc (.cells #[.int .i64 r, .slice B l.length d, .int .i64 u] 49)).heap[w.heap.size]? = some (.cells #[.int .i64 x0, .int .i64 x1, .int .i64 x2, .int .i64 x3, .int .i64 x4, .string x5, .int .i64 x6, .slice A x7.length c] 31) := blk_alloc (heap_alloc_new w _) _
    have b2 : ((w.alloc (.cells #[.int .i64 x0, .int .i64 x1, .int .i64 x2, .int .i64 x3, .int .i64 x4, .string x5, .int .i64 x6, .slice A x7.length c] 31)).alloc (.cells #[.int .i64 r, .slice B l.length d, .int .i64 u] 49)).heap[w.heap.size + 1]? = some (.cells #[.int .i64 r, .slice B l.length d, .int .i64 u] 49) := by have := heap_alloc_new (w.alloc (.cells #[.int .i64 x0, .int .i64 x1, .int .i64 x2, .int .i64 x3, .int .i64 x4, .string x5, .int .i64 x6, .slice A x7.length c] 31)) (.cells #[.int .i64 r, .slice B l.length d, .int .i64 u] 49); simpa using this
    have hb : Below w.heap.size w ((w.alloc (.cells #[.int .i64 x0, .int .i64 x1, .int .i64 x2, .int .i64 x3, .int .i64 x4, .string x5, .int .i64 x6, .slice A x7.length c] 31)).alloc (.cells #[.int .i64 r, .slice B l.length d, .int .i64 u] 49)) := below_alloc (below_alloc (Below.refl _ _) _) _
    refine ⟨⟨(hb.cell hlp).trans hp, (hb.cell hlq).trans hq, (blk_cell b1 6).trans rfl, (blk_cell b2 0).trans rfl, (blk_cell b2 1).trans rfl, (blk_cell b2 2).trans rfl⟩, below_drew hb, ?_⟩
    have := blk_lt b2
    exact this)
  unfold insV aroV at *
  by_cases hg : y1 ≤ x6
  case neg =>
    have g1 : decide (y1 ≤ x6) = false := decide_eq_false hg
    have hg' : Aside0 (¬ y1 ≤ x6) := Aside0.mk hg
    clear hg
    go_enter Tryz.func88, Tryz.ntmps88
    go_wp2
    refine start_ (n := 15) (S := fun W' => W'.cell? ⟨p, 0, none⟩ = some (.func (.func n1) #[] c1) ∧ W'.cell? ⟨q, 0, none⟩ = some (.func (.func n2) #[] c2) ∧ W'.cell? ⟨w.heap.size, 6, none⟩ = some (.int .i64 x6) ∧ W'.cell? ⟨w.heap.size + 1, 0, none⟩ = some (.int .i64 r) ∧ W'.cell? ⟨w.heap.size + 1, 1, none⟩ = some (.slice B l.length d) ∧ W'.cell? ⟨w.heap.size + 1, 2, none⟩ = some (.int .i64 u)) (ds := []) #[false, false, false, false, false, false, false, false, false, false, false, false, false, false, false] (by kernel_rfl) rfl rfl HS.out.1 (fun hHeld => ?_)
    refine with_tabW at1tab1 at1bits1 (fun HT_ HW_ => ?_)
    generalize ((w.alloc (.cells #[.int .i64 x0, .int .i64 x1, .int .i64 x2, .int .i64 x3, .int .i64 x4, .string x5, .int .i64 x6, .slice A x7.length c] 31)).alloc (.cells #[.int .i64 r, .slice B l.length d, .int .i64 u] 49)).drew = w0 at HS hHeld ⊢
    refine pure_ (i := 0) (N := some 7) (v := ?_) (a' := ?_) #[true, false, false, false, false, false, false, false, false, false, false, false, false, false, false] rfl rfl (any_of HT_.out (by kernel_rfl)) (fun _ _ _ h => h) (Or.inl ⟨by rfl, ?_⟩) ?_ ?_
    rotate_left
    · intro w'
      first | (go_simp; with_reducible rfl)
    rotate_left
    · simp only [Act.put, List.setIfInBounds_toArray, List.set_cons_zero, List.set_cons_succ, i64_w, i32_w]
      rfl
    refine take_ (i := 1) (N := some 8) (v := ?_) (a' := ?_) #[true, true, false, false, false, false, false, false, false, false, false, false, false, false, false] rfl rfl (take_ofW HT_.out HW_.out (by kernel_rfl)) (fun _ _ _ h => h) (Or.inl ⟨by rfl, ?_⟩) hHeld ?_ ?_
    rotate_left
    · rintro w' ⟨s0, s1, s2, s3, s4, s5⟩
      first | (go_simp; with_reducible rfl)
    rotate_left
    · simp only [Act.put, List.setIfInBounds_toArray, List.set_cons_zero, List.set_cons_succ, i64_w, i32_w]
      rfl
    refine take_ (i := 2) (N := some 9) (v := ?_) (a' := ?_) #[true, true, true, false, false, false, false, false, false, false, false, false, false, false, false] rfl rfl (take_ofW HT_.out HW_.out (by kernel_rfl)) (fun _ _ _ h => h) (Or.inl ⟨by rfl, ?_⟩) hHeld ?_ ?_
    rotate_left
    · rintro w' ⟨s0, s1, s2, s3, s4, s5⟩
      first | (go_simp; with_reducible rfl)
    rotate_left
    · simp only [Act.put, List.setIfInBounds_toArray, List.set_cons_zero, List.set_cons_succ, i64_w, i32_w]
      rfl
    refine take_ (i := 3) (N := some 10) (v := ?_) (a' := ?_) #[true, true, true, true, false, false, false, false, false, false, false, false, false, false, false] rfl rfl (take_ofW HT_.out HW_.out (by kernel_rfl)) (fun _ _ _ h => h) (Or.inl ⟨by rfl, ?_⟩) hHeld ?_ ?_
    rotate_left
    · rintro w' ⟨s0, s1, s2, s3, s4, s5⟩
      first | (go_simp; with_reducible rfl)
    rotate_left
    · simp only [Act.put, List.setIfInBounds_toArray, List.set_cons_zero, List.set_cons_succ, i64_w, i32_w]
      rfl
    refine one_ (i := 4) (N := some 11) #[true, true, true, true, true, false, false, false, false, false, false, false, false, false, false] rfl rfl (one_of HT_.out (by kernel_rfl)) (by decide) (fun K hK => ?_)
    refine goesV_ (g := .tmp 9) rfl E1.out #[.agg #[.int .i64 r, .slice B l.length d, .int .i64 u]] (by rfl) rfl rfl (by (try simp only [List.map_toArray, List.map_cons, List.map_nil]); first | done | rfl) ?_
    refine (K1.out _ HS.out.2.1).mono ?_
    rintro e w1 ⟨rfl, hb⟩
    refine ⟨_, rfl, ?_⟩
    have HS1 := Aside0.mk (HS.out.step hb)
    clear hb HS
    refine hK.out _ _ HS1.out.1 (fun hHeld => ?_)
    clear hK K
    refine norm_ (a' := ?_) ?_ ?_
    rotate_left
    · show Act.put _ (some 11) _ = _
      simp only [Act.put, List.setIfInBounds_toArray, List.set_cons_zero, List.set_cons_succ, i64_w, i32_w]
      rfl
    refine pure_ (i := 5) (N := some 12) (v := ?_) (a' := ?_) #[true, true, true, true, true, true, false, false, false, false, false, false, false, false, false] rfl rfl (any_of HT_.out (by kernel_rfl)) (fun _ _ _ h => h) (Or.inl ⟨by rfl, ?_⟩) ?_ ?_
    rotate_left
    · intro w'
      first | (go_simp; with_reducible rfl)
    rotate_left
    · simp only [Act.put, List.setIfInBounds_toArray, List.set_cons_zero, List.set_cons_succ, i64_w, i32_w]
      rfl
    refine pure_ (i := 6) (N := some 13) (v := ?_) (a' := ?_) #[true, true, true, true, true, true, true, false, false, false, false, false, false, false, false] rfl rfl (any_of HT_.out (by kernel_rfl)) (fun _ _ _ h => h) (Or.inl ⟨by rfl, ?_⟩) ?_ ?_
    rotate_left
    · intro w'
      first | (go_simp; with_reducible rfl)
    rotate_left
    · simp only [Act.put, List.setIfInBounds_toArray, List.set_cons_zero, List.set_cons_succ, i64_w, i32_w]
      rfl
    refine pure_ (i := 7) (N := some 14) (v := undef) (a' := ?_) #[true, true, true, true, true, true, true, true, false, false, false, false, false, false, false] rfl rfl (any_of HT_.out (by kernel_rfl)) (fun _ _ _ h => h) (Or.inr ⟨by rfl, rfl⟩) ?_ ?_
    rotate_left
    · simp only [Act.put, List.setIfInBounds_toArray, List.set_cons_zero, List.set_cons_succ, i64_w, i32_w]
      rfl
    refine pure_ (i := 8) (N := some 15) (v := undef) (a' := ?_) #[true, true, true, true, true, true, true, true, true, false, false, false, false, false, false] rfl rfl (any_of HT_.out (by kernel_rfl)) (fun _ _ _ h => h) (Or.inr ⟨by rfl, rfl⟩) ?_ ?_
    rotate_left
    · simp only [Act.put, List.setIfInBounds_toArray, List.set_cons_zero, List.set_cons_succ, i64_w, i32_w]
      rfl
    refine pure_ (i := 9) (N := some 16) (v := undef) (a' := ?_) #[true, true, true, true, true, true, true, true, true, true, false, false, false, false, false] rfl rfl (any_of HT_.out (by kernel_rfl)) (fun _ _ _ h => h) (Or.inr ⟨by rfl, rfl⟩) ?_ ?_
    rotate_left
    · simp only [Act.put, List.setIfInBounds_toArray, List.set_cons_zero, List.set_cons_succ, i64_w, i32_w]
      rfl
    refine pure_ (i := 10) (N := some 17) (v := undef) (a' := ?_) #[true, true, true, true, true, true, true, true, true, true, true, false, false, false, false] rfl rfl (any_of HT_.out (by kernel_rfl)) (fun _ _ _ h => h) (Or.inr ⟨by rfl, rfl⟩) ?_ ?_
    rotate_left
    · simp only [Act.put, List.setIfInBounds_toArray, List.set_cons_zero, List.set_cons_succ, i64_w, i32_w]
      rfl
    refine pure_ (i := 11) (N := some 18) (v := undef) (a' := ?_) #[true, true, true, true, true, true, true, true, true, true, true, true, false, false, false] rfl rfl (any_of HT_.out (by kernel_rfl)) (fun _ _ _ h => h) (Or.inr ⟨by rfl, rfl⟩) ?_ ?_
    rotate_left
    · simp only [Act.put, List.setIfInBounds_toArray, List.set_cons_zero, List.set_cons_succ, i64_w, i32_w]
      rfl
    refine pure_ (i := 12) (N := some 19) (v := undef) (a' := ?_) #[true, true, true, true, true, true, true, true, true, true, true, true, true, false, false] rfl rfl (any_of HT_.out (by kernel_rfl)) (fun _ _ _ h => h) (Or.inr ⟨by rfl, rfl⟩) ?_ ?_
    rotate_left
    · simp only [Act.put, List.setIfInBounds_toArray, List.set_cons_zero, List.set_cons_succ, i64_w, i32_w]
      rfl
    refine pure_ (i := 13) (N := some 20) (v := ?_) (a' := ?_) #[true, true, true, true, true, true, true, true, true, true, true, true, true, true, false] rfl rfl (any_of HT_.out (by kernel_rfl)) (fun _ _ _ h => h) (Or.inl ⟨by rfl, ?_⟩) ?_ ?_
    rotate_left
    · intro w'
      first | (go_simp; with_reducible rfl)
    rotate_left
    · simp only [Act.put, List.setIfInBounds_toArray, List.set_cons_zero, List.set_cons_succ, i64_w, i32_w]
      rfl
    refine pure_ (i := 14) (N := some 6) (v := ?_) (a' := ?_) #[true, true, true, true, true, true, true, true, true, true, true, true, true, true, true] rfl rfl (any_of HT_.out (by kernel_rfl)) (fun _ _ _ h => h) (Or.inl ⟨by rfl, ?_⟩) ?_ ?_
    rotate_left
    · intro w'
      first | (go_simp; with_reducible rfl)
    rotate_left
    · simp only [Act.put, List.setIfInBounds_toArray, List.set_cons_zero, List.set_cons_succ, i64_w, i32_w]
      rfl
    refine done_ (done_of HT_.out (by kernel_rfl)) ?_
    try go_wp2
    go_ret
    exact ⟨by simp [*], HS1.out.2.1⟩
  case pos =>
    have g1 : decide (y1 ≤ x6) = true := decide_eq_true hg
    have hg' : Aside0 (y1 ≤ x6) := Aside0.mk hg
    clear hg
    go_enter Tryz.func88, Tryz.ntmps88
    go_wp2
    refine start_ (n := 15) (S := fun W' => W'.cell? ⟨p, 0, none⟩ = some (.func (.func n1) #[] c1) ∧ W'.cell? ⟨q, 0, none⟩ = some (.func (.func n2) #[] c2) ∧ W'.cell? ⟨w.heap.size, 6, none⟩ = some (.int .i64 x6) ∧ W'.cell? ⟨w.heap.size + 1, 0, none⟩ = some (.int .i64 r) ∧ W'.cell? ⟨w.heap.size + 1, 1, none⟩ = some (.slice B l.length d) ∧ W'.cell? ⟨w.heap.size + 1, 2, none⟩ = some (.int .i64 u)) (ds := []) #[false, false, false, false, false, false, false, false, false, false, false, false, false, false, false] (by kernel_rfl) rfl rfl HS.out.1 (fun hHeld => ?_)
    refine with_tabW at1tab1 at1bits1 (fun HT_ HW_ => ?_)
    generalize ((w.alloc (.cells #[.int .i64 x0, .int .i64 x1, .int .i64 x2, .int .i64 x3, .int .i64 x4, .string x5, .int .i64 x6, .slice A x7.length c] 31)).alloc (.cells #[.int .i64 r, .slice B l.length d, .int .i64 u] 49)).drew = w0 at HS hHeld ⊢
    refine pure_ (i := 0) (N := some 7) (v := ?_) (a' := ?_) #[true, false, false, false, false, false, false, false, false, false, false, false, false, false, false] rfl rfl (any_of HT_.out (by kernel_rfl)) (fun _ _ _ h => h) (Or.inl ⟨by rfl, ?_⟩) ?_ ?_
    rotate_left
    · intro w'
      first | (go_simp; with_reducible rfl)
    rotate_left
    · simp only [Act.put, List.setIfInBounds_toArray, List.set_cons_zero, List.set_cons_succ, i64_w, i32_w]
      rfl
    refine take_ (i := 1) (N := some 8) (v := ?_) (a' := ?_) #[true, true, false, false, false, false, false, false, false, false, false, false, false, false, false] rfl rfl (take_ofW HT_.out HW_.out (by kernel_rfl)) (fun _ _ _ h => h) (Or.inl ⟨by rfl, ?_⟩) hHeld ?_ ?_
    rotate_left
    · rintro w' ⟨s0, s1, s2, s3, s4, s5⟩
      first | (go_simp; with_reducible rfl)
    rotate_left
    · simp only [Act.put, List.setIfInBounds_toArray, List.set_cons_zero, List.set_cons_succ, i64_w, i32_w]
      rfl
    refine take_ (i := 2) (N := some 9) (v := ?_) (a' := ?_) #[true, true, true, false, false, false, false, false, false, false, false, false, false, false, false] rfl rfl (take_ofW HT_.out HW_.out (by kernel_rfl)) (fun _ _ _ h => h) (Or.inl ⟨by rfl, ?_⟩) hHeld ?_ ?_
    rotate_left
    · rintro w' ⟨s0, s1, s2, s3, s4, s5⟩
      first | (go_simp; with_reducible rfl)
    rotate_left
    · simp only [Act.put, List.setIfInBounds_toArray, List.set_cons_zero, List.set_cons_succ, i64_w, i32_w]
      rfl
    refine take_ (i := 3) (N := some 10) (v := ?_) (a' := ?_) #[true, true, true, true, false, false, false, false, false, false, false, false, false, false, false] rfl rfl (take_ofW HT_.out HW_.out (by kernel_rfl)) (fun _ _ _ h => h) (Or.inl ⟨by rfl, ?_⟩) hHeld ?_ ?_
    rotate_left
    · rintro w' ⟨s0, s1, s2, s3, s4, s5⟩
      first | (go_simp; with_reducible rfl)
    rotate_left
    · simp only [Act.put, List.setIfInBounds_toArray, List.set_cons_zero, List.set_cons_succ, i64_w, i32_w]
      rfl
    refine one_ (i := 4) (N := some 11) #[true, true, true, true, true, false, false, false, false, false, false, false, false, false, false] rfl rfl (one_of HT_.out (by kernel_rfl)) (by decide) (fun K hK => ?_)
    refine goesV_ (g := .tmp 9) rfl E1.out #[.agg #[.int .i64 r, .slice B l.length d, .int .i64 u]] (by rfl) rfl rfl (by (try simp only [List.map_toArray, List.map_cons, List.map_nil]); first | done | rfl) ?_
    refine (K1.out _ HS.out.2.1).mono ?_
    rintro e w1 ⟨rfl, hb⟩
    refine ⟨_, rfl, ?_⟩
    have HS1 := Aside0.mk (HS.out.step hb)
    clear hb HS
    refine hK.out _ _ HS1.out.1 (fun hHeld => ?_)
    clear hK K
    refine norm_ (a' := ?_) ?_ ?_
    rotate_left
    · show Act.put _ (some 11) _ = _
      simp only [Act.put, List.setIfInBounds_toArray, List.set_cons_zero, List.set_cons_succ, i64_w, i32_w]
      rfl
    refine pure_ (i := 5) (N := some 12) (v := ?_) (a' := ?_) #[true, true, true, true, true, true, false, false, false, false, false, false, false, false, false] rfl rfl (any_of HT_.out (by kernel_rfl)) (fun _ _ _ h => h) (Or.inl ⟨by rfl, ?_⟩) ?_ ?_
    rotate_left
    · intro w'
      first | (go_simp; with_reducible rfl)
    rotate_left
    · simp only [Act.put, List.setIfInBounds_toArray, List.set_cons_zero, List.set_cons_succ, i64_w, i32_w]
      rfl
    refine pure_ (i := 6) (N := some 13) (v := ?_) (a' := ?_) #[true, true, true, true, true, true, true, false, false, false, false, false, false, false, false] rfl rfl (any_of HT_.out (by kernel_rfl)) (fun _ _ _ h => h) (Or.inl ⟨by rfl, ?_⟩) ?_ ?_
    rotate_left
    · intro w'
      first | (go_simp; with_reducible rfl)
    rotate_left
    · simp only [Act.put, List.setIfInBounds_toArray, List.set_cons_zero, List.set_cons_succ, i64_w, i32_w]
      rfl
    refine pure_ (i := 7) (N := some 14) (v := ?_) (a' := ?_) #[true, true, true, true, true, true, true, true, false, false, false, false, false, false, false] rfl rfl (any_of HT_.out (by kernel_rfl)) (fun _ _ _ h => h) (Or.inl ⟨by rfl, ?_⟩) ?_ ?_
    rotate_left
    · intro w'
      first | (go_simp; with_reducible rfl)
    rotate_left
    · simp only [Act.put, List.setIfInBounds_toArray, List.set_cons_zero, List.set_cons_succ, i64_w, i32_w]
      rfl
    refine take_ (i := 8) (N := some 15) (v := ?_) (a' := ?_) #[true, true, true, true, true, true, true, true, true, false, false, false, false, false, false] rfl rfl (take_ofW HT_.out HW_.out (by kernel_rfl)) (fun _ _ _ h => h) (Or.inl ⟨by rfl, ?_⟩) hHeld ?_ ?_
    rotate_left
    · rintro w' ⟨s0, s1, s2, s3, s4, s5⟩
      first | (go_simp; with_reducible rfl)
    rotate_left
    · simp only [Act.put, List.setIfInBounds_toArray, List.set_cons_zero, List.set_cons_succ, i64_w, i32_w]
      rfl
    refine take_ (i := 9) (N := some 16) (v := ?_) (a' := ?_) #[true, true, true, true, true, true, true, true, true, true, false, false, false, false, false] rfl rfl (take_ofW HT_.out HW_.out (by kernel_rfl)) (fun _ _ _ h => h) (Or.inl ⟨by rfl, ?_⟩) hHeld ?_ ?_
    rotate_left
    · rintro w' ⟨s0, s1, s2, s3, s4, s5⟩
      first | (go_simp; with_reducible rfl)
    rotate_left
    · simp only [Act.put, List.setIfInBounds_toArray, List.set_cons_zero, List.set_cons_succ, i64_w, i32_w]
      rfl
    refine take_ (i := 10) (N := some 17) (v := ?_) (a' := ?_) #[true, true, true, true, true, true, true, true, true, true, true, false, false, false, false] rfl rfl (take_ofW HT_.out HW_.out (by kernel_rfl)) (fun _ _ _ h => h) (Or.inl ⟨by rfl, ?_⟩) hHeld ?_ ?_
    rotate_left
    · rintro w' ⟨s0, s1, s2, s3, s4, s5⟩
      first | (go_simp; with_reducible rfl)
    rotate_left
    · simp only [Act.put, List.setIfInBounds_toArray, List.set_cons_zero, List.set_cons_succ, i64_w, i32_w]
      rfl
    refine one_ (i := 11) (N := some 18) #[true, true, true, true, true, true, true, true, true, true, true, true, false, false, false] rfl rfl (one_of HT_.out (by kernel_rfl)) (by decide) (fun K hK => ?_)
    refine goesV_ (g := .tmp 16) rfl E2.out #[.agg #[.int .i64 r, .slice B l.length d, .int .i64 u]] (by rfl) rfl rfl (by (try simp only [List.map_toArray, List.map_cons, List.map_nil]); first | done | rfl) ?_
    refine (K2.out _ HS1.out.2.1).mono ?_
    rintro e w2 ⟨rfl, hb⟩
    refine ⟨_, rfl, ?_⟩
    have HS2 := Aside0.mk (HS1.out.step hb)
    clear hb HS1
    refine hK.out _ _ HS2.out.1 (fun hHeld => ?_)
    clear hK K
    refine norm_ (a' := ?_) ?_ ?_
    rotate_left
    · show Act.put _ (some 18) _ = _
      simp only [Act.put, List.setIfInBounds_toArray, List.set_cons_zero, List.set_cons_succ, i64_w, i32_w]
      rfl
    refine pure_ (i := 12) (N := some 19) (v := ?_) (a' := ?_) #[true, true, true, true, true, true, true, true, true, true, true, true, true, false, false] rfl rfl (any_of HT_.out (by kernel_rfl)) (fun _ _ _ h => h) (Or.inl ⟨by rfl, ?_⟩) ?_ ?_
    rotate_left
    · intro w'
      first | (go_simp; with_reducible rfl)
    rotate_left
    · simp only [Act.put, List.setIfInBounds_toArray, List.set_cons_zero, List.set_cons_succ, i64_w, i32_w]
      rfl
    refine pure_ (i := 13) (N := some 20) (v := ?_) (a' := ?_) #[true, true, true, true, true, true, true, true, true, true, true, true, true, true, false] rfl rfl (any_of HT_.out (by kernel_rfl)) (fun _ _ _ h => h) (Or.inl ⟨by rfl, ?_⟩) ?_ ?_
    rotate_left
    · intro w'
      first | (go_simp; with_reducible rfl)
    rotate_left
    · simp only [Act.put, List.setIfInBounds_toArray, List.set_cons_zero, List.set_cons_succ, i64_w, i32_w]
      rfl
    refine pure_ (i := 14) (N := some 6) (v := ?_) (a' := ?_) #[true, true, true, true, true, true, true, true, true, true, true, true, true, true, true] rfl rfl (any_of HT_.out (by kernel_rfl)) (fun _ _ _ h => h) (Or.inl ⟨by rfl, ?_⟩) ?_ ?_
    rotate_left
    · intro w'
      first | (go_simp; with_reducible rfl)
    rotate_left
    · simp only [Act.put, List.setIfInBounds_toArray, List.set_cons_zero, List.set_cons_succ, i64_w, i32_w]
      rfl
    refine done_ (done_of HT_.out (by kernel_rfl)) ?_
    try go_wp2
    go_ret
    exact ⟨by simp [*], HS2.out.2.1⟩
end Go.Proofs.YtjlhhjfmekjbhaaGreatDoor.Cd

/- slices.ContainsFunc over a predicate that answers what a Lean predicate says. No condition. -/
namespace Go.Proofs.YtjlhhjfmekjbhaaGreatDoor.Cd
open Go.RowKit Go.Proofs.YtjlhhjfmekjbhaaGreatDoorW.PrintWords Go.Proofs.YtjlhhjfmekjbhaaGreatDoorW.PrintLast Go.Proofs.YtjlhhjfmekjbhaaGreatDoorW.PrintMore Go.Proofs.YtjlhhjfmekjbhaaGreatDoor.Pq
set_option linter.unusedVariables false
set_option linter.unusedSimpArgs false
theorem any_take {α : Type} (l : List α) (P : α → Bool) (d : α) (j : Nat) (h : j < l.length) : (l.take (j + 1)).any P = ((l.take j).any P || P (l.getD j d)) := by
  have e : l.take (j + 1) = l.take j ++ [l.getD j d] := by
    rw [List.take_add_one, List.getElem?_eq_getElem h]
    simp [List.getD, h]
  rw [e]
  simp
theorem any_of_take {α : Type} (l : List α) (P : α → Bool) (j : Nat) (h : (l.take j).any P = true) : l.any P = true := by
  obtain ⟨x, hx, hp⟩ := List.any_eq_true.1 h
  exact List.any_eq_true.2 ⟨x, List.mem_of_mem_take hx, hp⟩
def PredI (W : World) (v : Value) (P : Int → Bool) : Prop :=
  ∃ n cap, v = .func (.func n) #[] cap ∧ (∀ args w, (callFunc n args).run Tryz.prog w = .ok (.enter n args) w) ∧
    ∀ W', Below W.heap.size W W' → ∀ x : Int, Calls Tryz.prog n (#[.int .i64 x] ++ cap) W' fun e W'' => e = .returned (.bool (P x)) ∧ Below W'.heap.size W' W''
def PredX (W : World) (v : Value) (l : List S31) (P : S31 → Bool) : Prop :=
  ∃ n cap, v = .func (.func n) #[] cap ∧ (∀ args w, (callFunc n args).run Tryz.prog w = .ok (.enter n args) w) ∧
    ∀ W', Below W.heap.size W W' → ∀ x A c, x ∈ l → Kd.C (Kd.int .i64) W' A x.f7.length x.f7 → x.f7.length ≤ c → Calls Tryz.prog n (#[insV x A c] ++ cap) W' fun e W'' => e = .returned (.bool (P x)) ∧ Below W'.heap.size W' W''
set_option maxHeartbeats 8000000 in
set_option maxRecDepth 100000 in
theorem indexI (v : Value) (P : Int → Bool) (A : Option Addr) (c : Nat) (l : List Int) (w : World) (h : PredI w v P) (hl : Kd.C (Kd.int .i64) w A l.length l) (hc : l.length ≤ c) (hn : l.length ≤ 140737488355328) :
    Calls Tryz.prog 87 #[.slice A l.length c, v] w fun e w' => (∃ i : Int, e = .returned (.int .i64 i) ∧ (decide (0 ≤ i)) = l.any P) ∧ Below w.heap.size w w' := by
  obtain ⟨n, cap, rfl, en, K⟩ := h
  have K0 := Aside0.mk K
  have HR := Aside0.mk hl
  clear K hl
  go_enter Tryz.func87, Tryz.ntmps87
  go_wp2
  go_loopg [5, 8] l.length (fun kq _ i W => ∃ j : Nat, i = .int .i64 j ∧ j + kq = l.length ∧ (l.take j).any P = false ∧ Below w.heap.size w W)
  case atStart => exact ⟨0, rfl, by omega, rfl, by repeat (first | exact Below.refl _ _ | apply below_drew1)⟩
  case round =>
    obtain ⟨j, rfl, hj, hp, hb⟩ := hrel
    have HB := Aside0.mk hb
    have HP := Aside0.mk hp
    clear hb hp
    by_cases hlt : j < l.length
    · obtain ⟨ad, rfl, hc0⟩ := Kd.at_int (Kd.C_below HR.out HB.out) (j : Int) (by omega) (by omega)
      rw [Int.toNat_natCast] at hc0
      have HG := Aside0.mk (show rd l (j : Int) = l.getD j 0 by unfold rd; rw [Int.toNat_natCast])
      generalize rd l (j : Int) = y at *
      have HT := Aside0.mk (any_take l P 0 j hlt)
      have hg : decide ((j : Int) < (l.length : Int)) = true := decide_eq_true (by omega)
      have hw : wrap64 ((j : Int) + 1) = ((j + 1 : Nat) : Int) := by unfold wrap64; omega
      by_cases hP : P y = true
      · go_wp2_with (first | (refine (K0.out _ HB.out y).mono ?_; rintro e w1 ⟨rfl, hb1⟩; have HB1 := Aside0.mk (below_step HB.out hb1); clear hb1))
        go_ret
        refine ⟨⟨(j : Int), by simp [*], ?_⟩, HB1.out⟩
        rw [decide_eq_true (by omega)]
        exact (any_of_take l P (j + 1) (by rw [HT.out, ← HG.out, hP]; simp)).symm
      · have hP' : P y = false := by simpa using hP
        clear hP
        go_wp2_with (first | (refine (K0.out _ HB.out y).mono ?_; rintro e w1 ⟨rfl, hb1⟩; have HB1 := Aside0.mk (below_step HB.out hb1); clear hb1))
        go_roundg (gk - 1)
        case measure => omega
        case rel => exact ⟨j + 1, by go_num, by omega, by rw [HT.out, ← HG.out, hP', HP.out]; rfl, HB1.out⟩
    · obtain rfl : j = l.length := by omega
      have hg : decide ((l.length : Int) < (l.length : Int)) = false := decide_eq_false (by omega)
      go_wp2
      go_ret
      refine ⟨⟨-1, by simp [*], ?_⟩, HB.out⟩
      have hp := HP.out
      rw [List.take_length] at hp
      rw [hp]
      rfl
set_option maxHeartbeats 4000000 in
set_option maxRecDepth 100000 in
theorem containsI (v : Value) (P : Int → Bool) (A : Option Addr) (c : Nat) (l : List Int) (w : World) (h : PredI w v P) (hl : Kd.C (Kd.int .i64) w A l.length l) (hc : l.length ≤ c) (hn : l.length ≤ 140737488355328) :
    Calls Tryz.prog 62 #[.slice A l.length c, v] w fun e w' => e = .returned (.bool (l.any P)) ∧ Below w.heap.size w w' := by
  have HI := Aside0.mk (indexI v P A c l w h hl hc hn)
  clear h hl hc hn
  go_enter Tryz.func62, Tryz.ntmps62
  go_wp2_with (go_at_call 87; refine HI.out.mono ?_; rintro e w1 ⟨⟨i, rfl, hi⟩, hb⟩; have HB1 := Aside0.mk hb; clear hb)
  go_ret
  exact ⟨by simp [*], HB1.out⟩
set_option maxHeartbeats 8000000 in
set_option maxRecDepth 100000 in
theorem indexX (v : Value) (P : S31 → Bool) (A : Option Addr) (c : Nat) (l : List S31) (w : World) (h : PredX w v l P) (hl : Kd.C k31 w A l.length l) (hc : l.length ≤ c) (hn : l.length ≤ 140737488355328) :
    Calls Tryz.prog 70 #[.slice A l.length c, v] w fun e w' => (∃ i : Int, e = .returned (.int .i64 i) ∧ (decide (0 ≤ i)) = l.any P) ∧ Below w.heap.size w w' := by
  obtain ⟨n, cap, rfl, en, K⟩ := h
  have K0 := Aside0.mk K
  have HR := Aside0.mk hl
  clear K hl
  go_enter Tryz.func70, Tryz.ntmps70
  go_wp2
  go_loopg [5, 8] l.length (fun kq _ i W => ∃ j : Nat, i = .int .i64 j ∧ j + kq = l.length ∧ (l.take j).any P = false ∧ Below w.heap.size w W)
  case atStart => exact ⟨0, rfl, by omega, rfl, by repeat (first | exact Below.refl _ _ | apply below_drew1)⟩
  case round =>
    obtain ⟨j, rfl, hj, hp, hb⟩ := hrel
    have HB := Aside0.mk hb
    have HP := Aside0.mk hp
    clear hb hp
    by_cases hlt : j < l.length
    · obtain ⟨ad, A7, c7, rfl, hc0, hc1, hc2, hc3, hc4, hc5, hc6, hc7, hcl, hcr⟩ := at_T31 (Kd.C_below HR.out HB.out) (j : Int) (by omega) (by omega)
      rw [Int.toNat_natCast] at hc0 hc1 hc2 hc3 hc4 hc5 hc6 hc7
      have HCR := Aside0.mk hcr
      have HCL := Aside0.mk hcl
      clear hcr hcl
      have HG := Aside0.mk (show rd_T31 l (j : Int) = l.getD j z31 by unfold rd_T31; rw [Int.toNat_natCast])
      have HM := Aside0.mk (show rd_T31 l (j : Int) ∈ l by rw [HG.out, List.getD_eq_getElem?_getD, List.getElem?_eq_getElem hlt]; exact List.getElem_mem hlt)
      generalize rd_T31 l (j : Int) = y at *
      have HT := Aside0.mk (any_take l P z31 j hlt)
      have hg : decide ((j : Int) < (l.length : Int)) = true := decide_eq_true (by omega)
      have hw : wrap64 ((j : Int) + 1) = ((j + 1 : Nat) : Int) := by unfold wrap64; omega
      by_cases hP : P y = true
      · go_wp2_with (first | (refine (K0.out _ HB.out y A7 c7 HM.out HCR.out HCL.out).mono ?_; unfold insV at *; rintro e w1 ⟨rfl, hb1⟩; have HB1 := Aside0.mk (below_step HB.out hb1); clear hb1))
        go_ret
        refine ⟨⟨(j : Int), by simp [*], ?_⟩, HB1.out⟩
        rw [decide_eq_true (by omega)]
        exact (any_of_take l P (j + 1) (by rw [HT.out, ← HG.out, hP]; simp)).symm
      · have hP' : P y = false := by simpa using hP
        clear hP
        go_wp2_with (first | (refine (K0.out _ HB.out y A7 c7 HM.out HCR.out HCL.out).mono ?_; unfold insV at *; rintro e w1 ⟨rfl, hb1⟩; have HB1 := Aside0.mk (below_step HB.out hb1); clear hb1))
        go_roundg (gk - 1)
        case measure => omega
        case rel => exact ⟨j + 1, by go_num, by omega, by rw [HT.out, ← HG.out, hP', HP.out]; rfl, HB1.out⟩
    · obtain rfl : j = l.length := by omega
      have hg : decide ((l.length : Int) < (l.length : Int)) = false := decide_eq_false (by omega)
      go_wp2
      go_ret
      refine ⟨⟨-1, by simp [*], ?_⟩, HB.out⟩
      have hp := HP.out
      rw [List.take_length] at hp
      rw [hp]
      rfl
set_option maxHeartbeats 4000000 in
set_option maxRecDepth 100000 in
theorem containsX (v : Value) (P : S31 → Bool) (A : Option Addr) (c : Nat) (l : List S31) (w : World) (h : PredX w v l P) (hl : Kd.C k31 w A l.length l) (hc : l.length ≤ c) (hn : l.length ≤ 140737488355328) :
    Calls Tryz.prog 23 #[.slice A l.length c, v] w fun e w' => e = .returned (.bool (l.any P)) ∧ Below w.heap.size w w' := by
  have HI := Aside0.mk (indexX v P A c l w h hl hc hn)
  clear h hl hc hn
  go_enter Tryz.func23, Tryz.ntmps23
  go_wp2_with (go_at_call 70; refine HI.out.mono ?_; rintro e w1 ⟨⟨i, rfl, hi⟩, hb⟩; have HB1 := Aside0.mk hb; clear hb)
  go_ret
  exact ⟨by simp [*], HB1.out⟩
end Go.Proofs.YtjlhhjfmekjbhaaGreatDoor.Cd

/- What each letter asks of an instruction, and what it leaves: the functions' contracts. No condition. -/
namespace Go.Proofs.YtjlhhjfmekjbhaaGreatDoor.Cd
open Go.RowKit Go.Proofs.YtjlhhjfmekjbhaaGreatDoorW.PrintWords Go.Proofs.YtjlhhjfmekjbhaaGreatDoorW.PrintLast Go.Proofs.YtjlhhjfmekjbhaaGreatDoorW.PrintMore Go.Proofs.YtjlhhjfmekjbhaaGreatDoor.Va Go.Proofs.YtjlhhjfmekjbhaaGreatDoor.Pq
set_option linter.unusedVariables false
set_option linter.unusedSimpArgs false
def isR (n r : Int) : Bool := decide (n ≥ 0) && decide (n < r)
theorem isReg_f (n r : Int) (l : List S31) (u : Int) : code_isReg.f n r l u = some (isR n r) := by
  unfold code_isReg.f isR
  by_cases h : n ≥ 0
  · rw [if_pos h, decide_eq_true h]; rfl
  · rw [if_neg h, decide_eq_false h]; rfl
def zeroV : VR := (0, 0, ⟨#[]⟩)
def ruleS (c : Int) (x : S31) (r : Int) (l : List S31) (u : Int) : Bool :=
  if c = 68 then isR x.f1 r else if c = 65 then isR x.f2 r else if c = 114 then (x.f2 == -1) || isR x.f2 r
  else if c = 107 then (x.f2 != 5) && rightS x.f2 x.f6 x.f5 else if c = 66 then isR x.f3 r else if c = 98 then (x.f3 == -1) || isR x.f3 r
  else if c = 67 then isR x.f4 r else if c = 83 then true else if c = 115 then (twoS x.f5.data.toList zeroV zeroV).2 == 0
  else if c = 76 then !(x.f7.any fun n => !isR n r) else if c = 106 then decide (x.f6 ≥ 0) && decide (x.f6 < (l.length : Int))
  else if c = 102 then decide (x.f6 ≥ 1) && decide (x.f6 < u) else if c = 109 then decide (x.f6 ≥ 4) && decide (x.f6 < 1000001)
  else if c = 118 then decide (x.f6 ≥ 0) && (decide (wrap64 (Int.tdiv x.f6 1000) < u) && decide (Int.tmod x.f6 1000 < 200)) else false
def restS (c : Int) (x : S31) : S31 :=
  if c = 68 then { x with f1 := 0 } else if c = 65 ∨ c = 114 then { x with f2 := 0 } else if c = 107 then { x with f2 := 0, f5 := ⟨#[]⟩, f6 := 0 }
  else if c = 66 ∨ c = 98 then { x with f3 := 0 } else if c = 67 then { x with f4 := 0 } else if c = 83 ∨ c = 115 then { x with f5 := ⟨#[]⟩ }
  else if c = 76 then { x with f7 := [] } else { x with f6 := 0 }
def RuleOk (W : World) (v : Value) (f : S31 → Int → List S31 → Int → Bool) : Prop :=
  ∃ n cap, v = .func (.func n) #[] cap ∧ (∀ args w, (callFunc n args).run Tryz.prog w = .ok (.enter n args) w) ∧
    ∀ W', Below W.heap.size W W' → Va.Laid W' → ∀ x A c r B d l u, ArgsOk W' x A c B d l → x.f7.length ≤ 140737488355328 → Calls Tryz.prog n (#[insV x A c, aroV r B d l u] ++ cap) W' fun e W'' => e = .returned (.bool (f x r l u)) ∧ Below W'.heap.size W' W''
theorem RuleOk.congr {W : World} {v : Value} {f g : S31 → Int → List S31 → Int → Bool} (h : RuleOk W v f) (e : ∀ x r l u, f x r l u = g x r l u) : RuleOk W v g := by
  have : f = g := by funext x r l u; exact e x r l u
  rw [← this]; exact h
def IsX (w0 W : World) (b : Nat) (x : S31) : Prop := IsS31 w0 W b x.f0 x.f1 x.f2 x.f3 x.f4 x.f5 x.f6 x.f7
def RestOk (v : Value) (g : S31 → S31) : Prop :=
  ∃ n, v = .func (.func n) #[] #[] ∧ (∀ args w, (callFunc n args).run Tryz.prog w = .ok (.enter n args) w) ∧
    ∀ w0 w b x, IsX w0 w b x → Below w0.heap.size w0 w → Calls Tryz.prog n #[.pointer (some ⟨b, 0, none⟩)] w fun e w' => e = .returned (.tuple #[]) ∧ IsX w0 w' b (g x) ∧ Below w0.heap.size w0 w' ∧ KeepBut w w' b none
set_option maxRecDepth 100000 in
theorem rule_68 (W : World) : RuleOk W (.func (.func 46) #[] #[]) (ruleS 68) :=
  ⟨_, _, rfl, enters Tryz.func46 (by kernel_rfl) (by kernel_rfl), fun W' _ hL x A c r B d l u hA _ => code_namesD.calls x.f0 x.f1 x.f2 x.f3 x.f4 x.f5 x.f6 A c x.f7 r B d l u _ W' hA.hx hA.hc hA.hl hA.hd (by unfold code_namesD.f; rw [isReg_f]; rfl)⟩
set_option maxRecDepth 100000 in
theorem rule_65 (W : World) : RuleOk W (.func (.func 48) #[] #[]) (ruleS 65) :=
  ⟨_, _, rfl, enters Tryz.func48 (by kernel_rfl) (by kernel_rfl), fun W' _ hL x A c r B d l u hA _ => code_namesA.calls x.f0 x.f1 x.f2 x.f3 x.f4 x.f5 x.f6 A c x.f7 r B d l u _ W' hA.hx hA.hc hA.hl hA.hd (by unfold code_namesA.f; rw [isReg_f]; rfl)⟩
set_option maxRecDepth 100000 in
theorem rule_114 (W : World) : RuleOk W (.func (.func 49) #[] #[]) (ruleS 114) :=
  ⟨_, _, rfl, enters Tryz.func49 (by kernel_rfl) (by kernel_rfl), fun W' _ hL x A c r B d l u hA _ => code_parts_6.calls x.f0 x.f1 x.f2 x.f3 x.f4 x.f5 x.f6 A c x.f7 r B d l u _ W' hA.hx hA.hc hA.hl hA.hd (by unfold code_parts_6.f; rw [isReg_f]; by_cases h : x.f2 = -1 <;> simp [ruleS, h])⟩
set_option maxRecDepth 100000 in
theorem rule_107 (W : World) : RuleOk W (.func (.func 51) #[] #[]) (ruleS 107) :=
  ⟨_, _, rfl, enters Tryz.func51 (by kernel_rfl) (by kernel_rfl), fun W' _ hL x A c r B d l u hA _ => code_parts_7.calls x.f0 x.f1 x.f2 x.f3 x.f4 x.f5 x.f6 A c x.f7 r B d l u _ W' hA.hx hA.hc hA.hl hA.hd (by unfold code_parts_7.f Vb.value_Right.f; by_cases h : x.f2 = 5 <;> simp [ruleS, h])⟩
set_option maxRecDepth 100000 in
theorem rule_66 (W : World) : RuleOk W (.func (.func 54) #[] #[]) (ruleS 66) :=
  ⟨_, _, rfl, enters Tryz.func54 (by kernel_rfl) (by kernel_rfl), fun W' _ hL x A c r B d l u hA _ => code_namesB.calls x.f0 x.f1 x.f2 x.f3 x.f4 x.f5 x.f6 A c x.f7 r B d l u _ W' hA.hx hA.hc hA.hl hA.hd (by unfold code_namesB.f; rw [isReg_f]; rfl)⟩
set_option maxRecDepth 100000 in
theorem rule_98 (W : World) : RuleOk W (.func (.func 55) #[] #[]) (ruleS 98) :=
  ⟨_, _, rfl, enters Tryz.func55 (by kernel_rfl) (by kernel_rfl), fun W' _ hL x A c r B d l u hA _ => code_parts_9.calls x.f0 x.f1 x.f2 x.f3 x.f4 x.f5 x.f6 A c x.f7 r B d l u _ W' hA.hx hA.hc hA.hl hA.hd (by unfold code_parts_9.f; rw [isReg_f]; by_cases h : x.f3 = -1 <;> simp [ruleS, h])⟩
set_option maxRecDepth 100000 in
theorem rule_67 (W : World) : RuleOk W (.func (.func 56) #[] #[]) (ruleS 67) :=
  ⟨_, _, rfl, enters Tryz.func56 (by kernel_rfl) (by kernel_rfl), fun W' _ hL x A c r B d l u hA _ => code_namesC.calls x.f0 x.f1 x.f2 x.f3 x.f4 x.f5 x.f6 A c x.f7 r B d l u _ W' hA.hx hA.hc hA.hl hA.hd (by unfold code_namesC.f; rw [isReg_f]; rfl)⟩
set_option maxRecDepth 100000 in
theorem rule_83 (W : World) : RuleOk W (.func (.func 58) #[] #[]) (ruleS 83) :=
  ⟨_, _, rfl, enters Tryz.func58 (by kernel_rfl) (by kernel_rfl), fun W' _ hL x A c r B d l u hA _ => code_parts_11.calls x.f0 x.f1 x.f2 x.f3 x.f4 x.f5 x.f6 A c x.f7 r B d l u _ W' hA.hx hA.hc hA.hl hA.hd (by unfold code_parts_11.f; rfl)⟩
set_option maxRecDepth 100000 in
theorem rule_115 (W : World) : RuleOk W (.func (.func 59) #[] #[]) (ruleS 115) :=
  ⟨_, _, rfl, enters Tryz.func59 (by kernel_rfl) (by kernel_rfl), fun W' _ hL x A c r B d l u hA _ => code_parts_12.calls x.f0 x.f1 x.f2 x.f3 x.f4 x.f5 x.f6 A c x.f7 r B d l u _ W' hL hA.hx hA.hc hA.hl hA.hd (by unfold code_parts_12.f Vb.value_Two.f; rw [if_pos ⟨by decide, by decide, hA.hs⟩]; rfl)⟩
set_option maxRecDepth 100000 in
theorem rule_118 (W : World) : RuleOk W (.func (.func 69) #[] #[]) (ruleS 118) :=
  ⟨_, _, rfl, enters Tryz.func69 (by kernel_rfl) (by kernel_rfl), fun W' _ hL x A c r B d l u hA _ => code_parts_17.calls x.f0 x.f1 x.f2 x.f3 x.f4 x.f5 x.f6 A c x.f7 r B d l u _ W' hA.hx hA.hc hA.hl hA.hd (by unfold code_parts_17.f ruleS; by_cases h : x.f6 ≥ 0 <;> by_cases h2 : wrap64 (Int.tdiv x.f6 1000) < u <;> simp [h, h2])⟩
set_option maxHeartbeats 2000000 in
set_option maxRecDepth 100000 in
theorem p131_calls (p : Nat) (r : Int) (B : Option Addr) (d : Nat) (l : List S31) (u : Int) (n : Int) (w : World) (h0 : w.cell? ⟨p, 0, none⟩ = some (.int .i64 r)) (h1 : w.cell? ⟨p, 1, none⟩ = some (.slice B l.length d)) (h2 : w.cell? ⟨p, 2, none⟩ = some (.int .i64 u)) (hl : Kd.C k31 w B l.length l) (hd : l.length ≤ d) :
    Calls Tryz.prog 63 #[.int .i64 n, .pointer (some ⟨p, 0, none⟩)] w fun e w' => e = .returned (.bool (!isR n r)) ∧ Below w.heap.size w w' := by
  have HI := Aside0.mk (fun W (hb : Below w.heap.size w W) => code_isReg.calls n r B d l u (isR n r) W (Kd.C_below hl hb) hd (isReg_f n r l u))
  have HB := Aside0.mk (Below.refl w.heap.size w)
  clear hl hd
  go_enter Tryz.func63, Tryz.ntmps63
  go_wp2_with (go_at_call 50; refine (HI.out _ (by repeat (first | exact Below.refl _ _ | apply below_drew1))).mono ?_; rintro e w1 ⟨rfl, hb⟩; have HB1 := Aside0.mk (below_step HB.out hb); clear hb)
  go_ret
  exact ⟨by simp [*], HB1.out⟩
theorem three (w : World) (O1 O2 : Obj) : ((w.alloc O1).alloc O2).heap[w.heap.size]? = some O1 ∧ ((w.alloc O1).alloc O2).heap[w.heap.size + 1]? = some O2 ∧ Below w.heap.size w ((w.alloc O1).alloc O2) := by
  have h2 : ((w.alloc O1).alloc O2).heap[w.heap.size + 1]? = some O2 := by have := heap_alloc_new (w.alloc O1) O2; simpa using this
  exact ⟨blk_alloc (heap_alloc_new w O1) _, h2, below_alloc (below_alloc (Below.refl _ _) _) _⟩
set_option maxHeartbeats 4000000 in
set_option maxRecDepth 100000 in
theorem p13_calls (x : S31) (A : Option Addr) (c : Nat) (r : Int) (B : Option Addr) (d : Nat) (l : List S31) (u : Int) (w : World) (hA : ArgsOk w x A c B d l) (hn : x.f7.length ≤ 140737488355328) :
    Calls Tryz.prog 61 #[insV x A c, aroV r B d l u] w fun e w' => e = .returned (.bool (!(x.f7.any fun n => !isR n r))) ∧ Below w.heap.size w w' := by
  have HA := Aside0.mk hA
  have HN := Aside0.mk hn
  clear hA hn
  obtain ⟨x0, x1, x2, x3, x4, x5, x6, x7⟩ := x
  have H3 := Aside0.mk (three w (.cells #[.int .i64 x0, .int .i64 x1, .int .i64 x2, .int .i64 x3, .int .i64 x4, .string x5, .int .i64 x6, .slice A x7.length c] 31) (.cells #[.int .i64 r, .slice B l.length d, .int .i64 u] 49))
  have HC := Aside0.mk (show ∀ W, Below (w.heap.size + 2) ((w.alloc (.cells #[.int .i64 x0, .int .i64 x1, .int .i64 x2, .int .i64 x3, .int .i64 x4, .string x5, .int .i64 x6, .slice A x7.length c] 31)).alloc (.cells #[.int .i64 r, .slice B l.length d, .int .i64 u] 49)) W → PredI W (.func (.func 63) #[] #[.pointer (some ⟨w.heap.size + 1, 0, none⟩)]) (fun n => !isR n r) ∧ Kd.C (Kd.int .i64) W A x7.length x7 from fun W hW => by
    have hw : Below w.heap.size w W := below_step H3.out.2.2 (by simpa using hW)
    have hb := blk_below H3.out.2.1 (by simpa using hW)
    refine ⟨⟨_, _, rfl, enters Tryz.func63 (by kernel_rfl) (by kernel_rfl), fun W' hW' n => ?_⟩, Kd.C_below HA.out.hx hw⟩
    have hb' := blk_below hb hW'
    exact p131_calls (w.heap.size + 1) r B d l u n W' ((blk_cell hb' 0).trans rfl) ((blk_cell hb' 1).trans rfl) ((blk_cell hb' 2).trans rfl) (Kd.C_below HA.out.hl (below_step hw hW')) HA.out.hd)
  have hcl := HA.out.hc
  unfold insV aroV
  go_enter Tryz.func61, Tryz.ntmps61
  go_wp2_with (go_at_call 62; refine (containsI _ _ A c x7 _ (HC.out _ (by repeat (first | exact Below.refl _ _ | apply below_drew1))).1 (HC.out _ (by repeat (first | exact Below.refl _ _ | apply below_drew1))).2 hcl HN.out).mono ?_; rintro e w1 ⟨rfl, hb⟩; have HB1 := Aside0.mk (below_step (by repeat (first | exact H3.out.2.2 | apply below_drew1)) hb); clear hb)
  go_ret
  exact ⟨by simp [*], HB1.out⟩
set_option maxRecDepth 100000 in
theorem rule_76 (W : World) : RuleOk W (.func (.func 61) #[] #[]) (ruleS 76) :=
  ⟨_, _, rfl, enters Tryz.func61 (by kernel_rfl) (by kernel_rfl), fun W' _ hL x A c r B d l u hA hn => p13_calls x A c r B d l u W' hA hn⟩
set_option maxRecDepth 100000 in
theorem rest_68 : RestOk (.func (.func 47) #[] #[]) (restS 68) :=
  ⟨_, rfl, enters Tryz.func47 (by kernel_rfl) (by kernel_rfl), fun w0 w b x hI hB => code_parts_5.calls b x.f0 x.f1 x.f2 x.f3 x.f4 x.f5 x.f6 x.f7 _ _ _ _ _ _ _ w0 w hI hB rfl⟩
set_option maxRecDepth 100000 in
theorem rest_65 : RestOk (.func (.func 42) #[] #[]) (restS 65) :=
  ⟨_, rfl, enters Tryz.func42 (by kernel_rfl) (by kernel_rfl), fun w0 w b x hI hB => code_parts_1.calls b x.f0 x.f1 x.f2 x.f3 x.f4 x.f5 x.f6 x.f7 _ _ _ _ _ _ _ w0 w hI hB rfl⟩
set_option maxRecDepth 100000 in
theorem rest_107 : RestOk (.func (.func 53) #[] #[]) (restS 107) :=
  ⟨_, rfl, enters Tryz.func53 (by kernel_rfl) (by kernel_rfl), fun w0 w b x hI hB => code_parts_8.calls b x.f0 x.f1 x.f2 x.f3 x.f4 x.f5 x.f6 x.f7 _ _ _ _ _ _ _ w0 w hI hB rfl⟩
set_option maxRecDepth 100000 in
theorem rest_66 : RestOk (.func (.func 43) #[] #[]) (restS 66) :=
  ⟨_, rfl, enters Tryz.func43 (by kernel_rfl) (by kernel_rfl), fun w0 w b x hI hB => code_parts_2.calls b x.f0 x.f1 x.f2 x.f3 x.f4 x.f5 x.f6 x.f7 _ _ _ _ _ _ _ w0 w hI hB rfl⟩
set_option maxRecDepth 100000 in
theorem rest_67 : RestOk (.func (.func 57) #[] #[]) (restS 67) :=
  ⟨_, rfl, enters Tryz.func57 (by kernel_rfl) (by kernel_rfl), fun w0 w b x hI hB => code_parts_10.calls b x.f0 x.f1 x.f2 x.f3 x.f4 x.f5 x.f6 x.f7 _ _ _ _ _ _ _ w0 w hI hB rfl⟩
set_option maxRecDepth 100000 in
theorem rest_83 : RestOk (.func (.func 45) #[] #[]) (restS 83) :=
  ⟨_, rfl, enters Tryz.func45 (by kernel_rfl) (by kernel_rfl), fun w0 w b x hI hB => code_parts_4.calls b x.f0 x.f1 x.f2 x.f3 x.f4 x.f5 x.f6 x.f7 _ _ _ _ _ _ _ w0 w hI hB rfl⟩
set_option maxRecDepth 100000 in
theorem rest_106 : RestOk (.func (.func 44) #[] #[]) (restS 106) :=
  ⟨_, rfl, enters Tryz.func44 (by kernel_rfl) (by kernel_rfl), fun w0 w b x hI hB => code_parts_3.calls b x.f0 x.f1 x.f2 x.f3 x.f4 x.f5 x.f6 x.f7 _ _ _ _ _ _ _ w0 w hI hB rfl⟩
set_option maxHeartbeats 2000000 in
set_option maxRecDepth 100000 in
theorem p14_calls (w0 w : World) (b : Nat) (x : S31) (hI : IsX w0 w b x) (hB : Below w0.heap.size w0 w) :
    Calls Tryz.prog 64 #[.pointer (some ⟨b, 0, none⟩)] w fun e w' => e = .returned (.tuple #[]) ∧ IsX w0 w' b { x with f7 := [] } ∧ Below w0.heap.size w0 w' ∧ KeepBut w w' b none := by
  obtain ⟨A7, c7, hb, hg, hr⟩ := hI
  have HB := Aside0.mk hB
  have HG := Aside0.mk hg
  have HH := Aside0.mk hb
  have hf := blk_frozen hb 7
  have hc := (blk_cell hb 7).trans rfl
  clear hg hr hB hb
  go_enter Tryz.func64, Tryz.ntmps64
  go_wp2
  first | go_end0 | ((try simp only [Exit.inBlock, Exit.then]); refine bodyPost_ret (results_none rfl _ _ _) rfl ?_)
  refine ⟨rfl, ⟨none, 0, by simpa using blk_set HH.out 7 (.slice none 0 0), HG.out, Kd.C_nil _ _⟩, below_set HB.out HG.out, (KeepBut.refl w b none).set_ 7 _⟩
set_option maxRecDepth 100000 in
theorem rest_76 : RestOk (.func (.func 64) #[] #[]) (restS 76) :=
  ⟨_, rfl, enters Tryz.func64 (by kernel_rfl) (by kernel_rfl), fun w0 w b x hI hB => p14_calls w0 w b x hI hB⟩
end Go.Proofs.YtjlhhjfmekjbhaaGreatDoor.Cd

/- code.parts: what stands at each letter. No condition. -/
namespace Go.Proofs.YtjlhhjfmekjbhaaGreatDoor.Cd
open Go.RowKit Go.Proofs.YtjlhhjfmekjbhaaGreatDoorW.PrintWords Go.Proofs.YtjlhhjfmekjbhaaGreatDoorW.PrintLast Go.Proofs.YtjlhhjfmekjbhaaGreatDoorW.PrintMore Go.Proofs.YtjlhhjfmekjbhaaGreatDoor.Va Go.Proofs.YtjlhhjfmekjbhaaGreatDoor.Pq
set_option linter.unusedVariables false
set_option linter.unusedSimpArgs false
theorem kb_below {W W1 W2 : World} {b : Nat} (h : Below W.heap.size W W1) (k : KeepBut W1 W2 b none) : KeepBut W W2 b none := (KeepBut.of_below h b none).trans k (Or.inl rfl)
theorem kb_turned {W W1 W2 : World} {b : Nat} (h : W.mapTurned W1 b) (k : KeepBut W1 W2 b none) : KeepBut W W2 b none := by
  have hg := h.grown
  exact (show KeepBut W W1 b none from ⟨hg.size, fun i hi hne _ => hg.block i hi (fun e => hne (by injection e))⟩).trans k (Or.inl rfl)
theorem kb_blk {W W1 : World} {b i : Nat} {o : Obj} (k : KeepBut W W1 b none) (h : W.heap[i]? = some o) (hne : i ≠ b) : W1.heap[i]? = some o := (k.2 i (blk_lt h) hne (by simp)).trans h
set_option maxHeartbeats 1000000 in
set_option maxRecDepth 100000 in
theorem is2_calls (n : Int) (b : Nat) (w : World) (hb0 : b < w.heap.size) : Calls Tryz.prog 66 #[.int .i64 n] w fun e w' => ∃ v, e = .returned v ∧ (∀ W', KeepBut w' W' b none → NumOk W' v (fun _ _ _ => n)) ∧ Below w.heap.size w w' := by
  go_enter Tryz.func66, Tryz.ntmps66
  go_wp2
  go_ret
  refine ⟨_, rfl, fun W0 hk => ⟨_, _, rfl, enters Tryz.func89 (by kernel_rfl) (by kernel_rfl), fun W' hb r B d l u hl hd => ?_⟩, below_alloc (Below.refl _ _) _⟩
  have h0 := kb_blk hk (heap_alloc_new w _) (by omega)
  exact is1_calls n w.heap.size r B d l u W' ((blk_cell (blk_below h0 hb) 0).trans rfl)
set_option maxHeartbeats 2000000 in
set_option maxRecDepth 100000 in
theorem at2_calls (v1 v2 : Value) (f1 f2 : Int → List S31 → Int → Int) (b : Nat) (w : World) (hb0 : b < w.heap.size) (h1 : ∀ W', KeepBut w W' b none → NumOk W' v1 f1) (h2 : ∀ W', KeepBut w W' b none → NumOk W' v2 f2) :
    Calls Tryz.prog 65 #[v1, v2] w fun e w' => ∃ n cap, e = .returned (.func (.func n) #[] cap) ∧ (∀ W', KeepBut w' W' b none → RuleOk W' (.func (.func n) #[] cap) (fun x r l u => decide (x.f6 ≥ f1 r l u) && decide (x.f6 < f2 r l u))) ∧ Below w.heap.size w w' := by
  have H1 := Aside0.mk h1
  have H2 := Aside0.mk h2
  have H3 := Aside0.mk (three w (.cells #[v1] 89) (.cells #[v2] 89))
  obtain ⟨n1, c1, rfl, _, _⟩ := h1 w (KeepBut.refl _ _ _)
  obtain ⟨n2, c2, rfl, _, _⟩ := h2 w (KeepBut.refl _ _ _)
  clear h1 h2
  go_enter Tryz.func65, Tryz.ntmps65
  go_wp2
  go_ret
  refine ⟨_, _, rfl, fun W0 hk => ⟨_, _, rfl, enters Tryz.func88 (by kernel_rfl) (by kernel_rfl), fun W' hb hL x A c r B d l u hA hn => ?_⟩, H3.out.2.2⟩
  have hb1 := blk_below (kb_blk hk H3.out.1 (by omega)) hb
  have hb2 := blk_below (kb_blk hk H3.out.2.1 (by omega)) hb
  have hw := kb_below H3.out.2.2 (hk.trans (KeepBut.of_below hb b none) (Or.inl rfl))
  exact at1_calls _ _ f1 f2 w.heap.size (w.heap.size + 1) x A c r B d l u W' ((blk_cell hb1 0).trans rfl) ((blk_cell hb2 0).trans rfl) (H1.out _ hw) (H2.out _ hw) hA
theorem runeKey (n : Int) (h : (Lit.int .i32 n).wf = true) : keyOf Tryz.prog 21 (.int .i32 n) = some (.int .i32 n) := Maps.keyOf_int_mk Tryz.underlying21 h
def letters : List Int := [68, 65, 114, 107, 66, 98, 67, 83, 115, 76, 106, 102, 109, 118]
def Parts (W : World) (b : Nat) : Prop := ∀ c, c ∈ letters → ∃ rv sv, (Instr.lookup 42 (.map (some b)) (.int .i32 c) false).run Tryz.prog W = .ok (.agg #[rv, sv]) W ∧ RuleOk W rv (ruleS c) ∧ RestOk sv (restS c)
theorem rest_as {v : Value} {c c' : Int} (h : RestOk v (restS c)) (e : ∀ x, restS c x = restS c' x) : RestOk v (restS c') := by
  have : restS c = restS c' := by funext x; exact e x
  rw [← this]; exact h
theorem parts_of {W : World} {b m : Nat} {rj rf rm : Value} (h : MapOf Tryz.prog 21 W b m (fun q => if q.sameKey (.int .i32 118) = true then some (.agg #[(.func (.func 69) #[] #[]), (.func (.func 44) #[] #[])]) else if q.sameKey (.int .i32 109) = true then some (.agg #[rm, (.func (.func 44) #[] #[])]) else if q.sameKey (.int .i32 102) = true then some (.agg #[rf, (.func (.func 44) #[] #[])]) else if q.sameKey (.int .i32 106) = true then some (.agg #[rj, (.func (.func 44) #[] #[])]) else if q.sameKey (.int .i32 76) = true then some (.agg #[(.func (.func 61) #[] #[]), (.func (.func 64) #[] #[])]) else if q.sameKey (.int .i32 115) = true then some (.agg #[(.func (.func 59) #[] #[]), (.func (.func 45) #[] #[])]) else if q.sameKey (.int .i32 83) = true then some (.agg #[(.func (.func 58) #[] #[]), (.func (.func 45) #[] #[])]) else if q.sameKey (.int .i32 67) = true then some (.agg #[(.func (.func 56) #[] #[]), (.func (.func 57) #[] #[])]) else if q.sameKey (.int .i32 98) = true then some (.agg #[(.func (.func 55) #[] #[]), (.func (.func 43) #[] #[])]) else if q.sameKey (.int .i32 66) = true then some (.agg #[(.func (.func 54) #[] #[]), (.func (.func 43) #[] #[])]) else if q.sameKey (.int .i32 107) = true then some (.agg #[(.func (.func 51) #[] #[]), (.func (.func 53) #[] #[])]) else if q.sameKey (.int .i32 114) = true then some (.agg #[(.func (.func 49) #[] #[]), (.func (.func 42) #[] #[])]) else if q.sameKey (.int .i32 65) = true then some (.agg #[(.func (.func 48) #[] #[]), (.func (.func 42) #[] #[])]) else if q.sameKey (.int .i32 68) = true then some (.agg #[(.func (.func 46) #[] #[]), (.func (.func 47) #[] #[])]) else none))
    (hj : RuleOk W rj (ruleS 106)) (hf : RuleOk W rf (ruleS 102)) (hm : RuleOk W rm (ruleS 109)) : Parts W b := by
  have hlk : ∀ c, (Lit.int .i32 c).wf = true → _ := fun c hc => h.look (Maps.int_keyed Tryz.underlying21) Tryz.underlying42 (Tryz.zeroValue79 W) (runeKey c hc)
  intro c hc
  simp only [letters, List.mem_cons, List.not_mem_nil, or_false] at hc
  rcases hc with rfl | rfl | rfl | rfl | rfl | rfl | rfl | rfl | rfl | rfl | rfl | rfl | rfl | rfl
  · exact ⟨_, _, (hlk 68 (by decide)).trans rfl, (rule_68 W), rest_68⟩
  · exact ⟨_, _, (hlk 65 (by decide)).trans rfl, (rule_65 W), rest_65⟩
  · exact ⟨_, _, (hlk 114 (by decide)).trans rfl, (rule_114 W), (rest_as rest_65 (fun _ => rfl))⟩
  · exact ⟨_, _, (hlk 107 (by decide)).trans rfl, (rule_107 W), rest_107⟩
  · exact ⟨_, _, (hlk 66 (by decide)).trans rfl, (rule_66 W), rest_66⟩
  · exact ⟨_, _, (hlk 98 (by decide)).trans rfl, (rule_98 W), (rest_as rest_66 (fun _ => rfl))⟩
  · exact ⟨_, _, (hlk 67 (by decide)).trans rfl, (rule_67 W), rest_67⟩
  · exact ⟨_, _, (hlk 83 (by decide)).trans rfl, (rule_83 W), rest_83⟩
  · exact ⟨_, _, (hlk 115 (by decide)).trans rfl, (rule_115 W), (rest_as rest_83 (fun _ => rfl))⟩
  · exact ⟨_, _, (hlk 76 (by decide)).trans rfl, (rule_76 W), rest_76⟩
  · exact ⟨_, _, (hlk 106 (by decide)).trans rfl, hj, rest_106⟩
  · exact ⟨_, _, (hlk 102 (by decide)).trans rfl, hf, (rest_as rest_106 (fun _ => rfl))⟩
  · exact ⟨_, _, (hlk 109 (by decide)).trans rfl, hm, (rest_as rest_106 (fun _ => rfl))⟩
  · exact ⟨_, _, (hlk 118 (by decide)).trans rfl, (rule_118 W), (rest_as rest_106 (fun _ => rfl))⟩
def PartsPost (w : World) (e : Ending) (w' : World) : Prop := ∃ b, e = .returned (.map (some b)) ∧ (∀ W, Below w'.heap.size w' W → Parts W b) ∧ Below w.heap.size w w'
set_option maxHeartbeats 8000000 in
set_option maxRecDepth 100000 in
theorem parts_calls (w : World) : Calls Tryz.prog 22 #[] w (PartsPost w) := by
  have hmk : ∀ W : World, (Instr.makeMap 42 none).run Tryz.prog W = .ok (.map (some W.heap.size)) (W.alloc (.map #[] 0)) := fun _ => rfl
  have o0 := MapOf.new w Tryz.prog 21
  have hlt : w.heap.size < (w.alloc (.map #[] 0)).heap.size := by simp
  obtain ⟨W1, h1, o1, t1⟩ := o0.put (Maps.int_keyed Tryz.underlying21) Tryz.underlying42 (by omega) (runeKey 68 (by decide)) trivial (.agg #[(.func (.func 46) #[] #[]), (.func (.func 47) #[] #[])])
  obtain ⟨W2, h2, o2, t2⟩ := o1.put (Maps.int_keyed Tryz.underlying21) Tryz.underlying42 (by omega) (runeKey 65 (by decide)) trivial (.agg #[(.func (.func 48) #[] #[]), (.func (.func 42) #[] #[])])
  obtain ⟨W3, h3, o3, t3⟩ := o2.put (Maps.int_keyed Tryz.underlying21) Tryz.underlying42 (by omega) (runeKey 114 (by decide)) trivial (.agg #[(.func (.func 49) #[] #[]), (.func (.func 42) #[] #[])])
  obtain ⟨W4, h4, o4, t4⟩ := o3.put (Maps.int_keyed Tryz.underlying21) Tryz.underlying42 (by omega) (runeKey 107 (by decide)) trivial (.agg #[(.func (.func 51) #[] #[]), (.func (.func 53) #[] #[])])
  obtain ⟨W5, h5, o5, t5⟩ := o4.put (Maps.int_keyed Tryz.underlying21) Tryz.underlying42 (by omega) (runeKey 66 (by decide)) trivial (.agg #[(.func (.func 54) #[] #[]), (.func (.func 43) #[] #[])])
  obtain ⟨W6, h6, o6, t6⟩ := o5.put (Maps.int_keyed Tryz.underlying21) Tryz.underlying42 (by omega) (runeKey 98 (by decide)) trivial (.agg #[(.func (.func 55) #[] #[]), (.func (.func 43) #[] #[])])
  obtain ⟨W7, h7, o7, t7⟩ := o6.put (Maps.int_keyed Tryz.underlying21) Tryz.underlying42 (by omega) (runeKey 67 (by decide)) trivial (.agg #[(.func (.func 56) #[] #[]), (.func (.func 57) #[] #[])])
  obtain ⟨W8, h8, o8, t8⟩ := o7.put (Maps.int_keyed Tryz.underlying21) Tryz.underlying42 (by omega) (runeKey 83 (by decide)) trivial (.agg #[(.func (.func 58) #[] #[]), (.func (.func 45) #[] #[])])
  obtain ⟨W9, h9, o9, t9⟩ := o8.put (Maps.int_keyed Tryz.underlying21) Tryz.underlying42 (by omega) (runeKey 115 (by decide)) trivial (.agg #[(.func (.func 59) #[] #[]), (.func (.func 45) #[] #[])])
  obtain ⟨W10, h10, o10, t10⟩ := o9.put (Maps.int_keyed Tryz.underlying21) Tryz.underlying42 (by omega) (runeKey 76 (by decide)) trivial (.agg #[(.func (.func 61) #[] #[]), (.func (.func 64) #[] #[])])
  have T10 := Aside0.mk (((((((((t1.trans t2).trans t3).trans t4).trans t5).trans t6).trans t7).trans t8).trans t9).trans t10)
  have O10 := Aside0.mk o10
  have Z10 := Aside0.mk (show w.heap.size < W10.heap.size from o10.lt)
  have HB10 := Aside0.mk (show Below w.heap.size w W10 from ((Below.refl w.heap.size w).alloc (Nat.le_refl _) _).grown T10.out.grown (by simp) (fun k hk => by injection hk with hk; omega))
  clear hlt o0 o1 o2 o3 o4 o5 o6 o7 o8 o9 o10 t1 t2 t3 t4 t5 t6 t7 t8 t9 t10
  go_enter Tryz.func22, Tryz.ntmps22
  go_wp2_with (first | (go_at_call 65; refine (at2_calls ve vf _ _ w.heap.size wf (Nat.lt_of_lt_of_le (Nat.lt_of_lt_of_le O12.out.lt BE.out.size) BF.out.size) (fun W hk => NE.out W (kb_below BF.out hk)) NF.out).mono ?_; rintro e wg ⟨nrm, crm, rfl, hr, hb⟩; have RM := Aside0.mk hr; have BG := Aside0.mk hb; obtain ⟨W13, h13, o13, t13⟩ := (((O12.out.below BE.out).below BF.out).below hb).put (Maps.int_keyed Tryz.underlying21) Tryz.underlying42 (by omega) (runeKey 109 (by decide)) trivial (.agg #[(.func (.func nrm) #[] crm), (.func (.func 44) #[] #[])]); obtain ⟨W14, h14, o14, t14⟩ := o13.put (Maps.int_keyed Tryz.underlying21) Tryz.underlying42 (by omega) (runeKey 118 (by decide)) trivial (.agg #[(.func (.func 69) #[] #[]), (.func (.func 44) #[] #[])]); have O14 := Aside0.mk o14; have T13 := Aside0.mk t13; have T14 := Aside0.mk t14; clear hr hb o13 o14 t13 t14) | (go_at_call 66; refine (is2_calls 1000001 w.heap.size we (Nat.lt_of_lt_of_le O12.out.lt BE.out.size)).mono ?_; rintro e wf ⟨vf, rfl, hn, hb⟩; have NF := Aside0.mk hn; have BF := Aside0.mk hb; clear hn hb) | (go_at_call 66; refine (is2_calls 4 w.heap.size W12 O12.out.lt).mono ?_; rintro e we ⟨ve, rfl, hn, hb⟩; have NE := Aside0.mk hn; have BE := Aside0.mk hb; clear hn hb) | (go_at_call 65; refine (at2_calls vc _ _ _ w.heap.size wc (Nat.lt_of_lt_of_le O11.out.lt BC.out.size) NC.out (fun W _ => funs_ok W)).mono ?_; rintro e wd ⟨nrf, crf, rfl, hr, hb⟩; have RF := Aside0.mk hr; have BD := Aside0.mk hb; obtain ⟨W12, h12, o12, t12⟩ := ((O11.out.below BC.out).below hb).put (Maps.int_keyed Tryz.underlying21) Tryz.underlying42 (by omega) (runeKey 102 (by decide)) trivial (.agg #[(.func (.func nrf) #[] crf), (.func (.func 44) #[] #[])]); have O12 := Aside0.mk o12; have T12 := Aside0.mk t12; clear hr hb o12 t12) | (go_at_call 66; refine (is2_calls 1 w.heap.size W11 O11.out.lt).mono ?_; rintro e wc ⟨vc, rfl, hn, hb⟩; have NC := Aside0.mk hn; have BC := Aside0.mk hb; clear hn hb) | (go_at_call 65; refine (at2_calls va _ _ _ w.heap.size wa (Nat.lt_of_lt_of_le Z10.out BA.out.size) NA.out (fun W _ => len_ok W)).mono ?_; rintro e wb ⟨nrj, crj, rfl, hr, hb⟩; have RJ := Aside0.mk hr; have BB := Aside0.mk hb; obtain ⟨W11, h11, o11, t11⟩ := ((O10.out.below BA.out).below hb).put (Maps.int_keyed Tryz.underlying21) Tryz.underlying42 (by omega) (runeKey 106 (by decide)) trivial (.agg #[(.func (.func nrj) #[] crj), (.func (.func 44) #[] #[])]); have O11 := Aside0.mk o11; have T11 := Aside0.mk t11; clear hr hb o11 t11) | (go_at_call 66; refine (is2_calls 0 w.heap.size W10 Z10.out).mono ?_; rintro e wa ⟨va, rfl, hn, hb⟩; have NA := Aside0.mk hn; have BA := Aside0.mk hb; clear hn hb))
  go_ret
  refine ⟨_, rfl, fun W hW => ?_, ?_⟩
  · have k14 := KeepBut.of_below hW w.heap.size none
    have k12 := kb_turned T13.out (kb_turned T14.out k14)
    have kD := kb_turned T12.out (kb_below BE.out (kb_below BF.out (kb_below BG.out k12)))
    have kB := kb_turned T11.out (kb_below BC.out (kb_below BD.out kD))
    exact parts_of (O14.out.below hW) ((RJ.out _ kB).congr (fun _ _ _ _ => rfl)) ((RF.out _ kD).congr (fun _ _ _ _ => rfl)) ((RM.out _ k12).congr (fun _ _ _ _ => rfl))
  · have g : ∀ {W1 W2 : World}, Below w.heap.size w W1 → W1.mapTurned W2 w.heap.size → Below w.heap.size w W2 := fun h ht => h.grown ht.grown h.size (fun k hk => by injection hk with hk; omega)
    exact g (g (below_step (below_step (below_step (g (below_step (below_step (g (below_step (below_step HB10.out BA.out) BB.out) T11.out) BC.out) BD.out) T12.out) BE.out) BF.out) BG.out) T13.out) T14.out
end Go.Proofs.YtjlhhjfmekjbhaaGreatDoor.Cd

