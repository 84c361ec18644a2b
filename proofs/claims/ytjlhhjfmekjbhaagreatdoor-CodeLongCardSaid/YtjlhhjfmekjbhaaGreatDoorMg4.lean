/- Lemmas for the claims of this seat (own texts, packed; what the claims do not use is left out). No condition. -/
import Derived.Test.YtjlhhjfmekjbhaaGreatDoorMg0
import Derived.Test.YtjlhhjfmekjbhaaGreatDoorMg1
import Derived.Test.YtjlhhjfmekjbhaaGreatDoorMg3
namespace Go.Proofs.YtjlhhjfmekjbhaaGreatDoor.Pq
open Go.RowKit Go.Proofs.YtjlhhjfmekjbhaaGreatDoorW.PrintWords Go.Proofs.YtjlhhjfmekjbhaaGreatDoorW.PrintLast Go.Proofs.YtjlhhjfmekjbhaaGreatDoorW.PrintMore
set_option linter.unusedVariables false
set_option linter.unusedSimpArgs false
/-! ### code_namesB: function 54 -/
def code_namesB.f (a0_0 : Int) (a0_1 : Int) (a0_2 : Int) (a0_3 : Int) (a0_4 : Int) (a0_5 : ByteArray) (a0_6 : Int) (l0_7 : List Int) (a1_0 : Int) (l1_1 : List (S31)) (a1_2 : Int) : Option (Bool) := (code_isReg.f a0_3 a1_0 l1_1 a1_2).bind fun t202 => (some t202)
set_option maxHeartbeats 8000000 in
set_option maxRecDepth 100000 in
theorem code_namesB.calls (a0_0 : Int) (a0_1 : Int) (a0_2 : Int) (a0_3 : Int) (a0_4 : Int) (a0_5 : ByteArray) (a0_6 : Int) (A0_7 : Option Addr) (c0_7 : Nat) (l0_7 : List Int) (a1_0 : Int) (A1_1 : Option Addr) (c1_1 : Nat) (l1_1 : List (S31)) (a1_2 : Int) (r : Bool) (w : World) (hr0_7 : Kd.C (Kd.int .i64) w A0_7 l0_7.length l0_7) (hc0_7 : l0_7.length ≤ c0_7) (hr1_1 : Kd.C k31 w A1_1 l1_1.length l1_1) (hc1_1 : l1_1.length ≤ c1_1) (h : code_namesB.f a0_0 a0_1 a0_2 a0_3 a0_4 a0_5 a0_6 l0_7 a1_0 l1_1 a1_2 = some r) :
  Calls Tryz.prog 54 #[.agg #[.int .i64 a0_0, .int .i64 a0_1, .int .i64 a0_2, .int .i64 a0_3, .int .i64 a0_4, .string a0_5, .int .i64 a0_6, .slice A0_7 l0_7.length c0_7], .agg #[.int .i64 a1_0, .slice A1_1 l1_1.length c1_1, .int .i64 a1_2]] w fun e w' => e = .returned (.bool r) ∧ Below w.heap.size w w' := by
 have hu31 := Tryz.underlying31
 have hu49 := Tryz.underlying49
 have HR0_7 := Aside0.mk hr0_7
 have HC0_7 := Aside0.mk hc0_7
 clear hr0_7 hc0_7
 have HR1_1 := Aside0.mk hr1_1
 have HC1_1 := Aside0.mk hc1_1
 clear hr1_1 hc1_1
 have HB := Aside0.mk (Below.refl w.heap.size w)
 have H : ((code_isReg.f a0_3 a1_0 l1_1 a1_2).bind fun t202 => (some t202)) = some r := h
 clear h
 obtain ⟨t202, A3, H⟩ := zO H
 obtain rfl := Option.some.inj H
 go_enter Tryz.func54, Tryz.ntmps54
 go_wp2_with (first | ((with_reducible refine gate_dst (N := 2) rfl ?_); refine zX (N := 2) (cs := #[.int .i64 a0_0, .int .i64 a0_1, .int .i64 a0_2, .int .i64 a0_3, .int .i64 a0_4, .string a0_5, .int .i64 a0_6, .slice A0_7 l0_7.length c0_7]) (t := 31) (h := ?_); intro gb200 hg w4 hbox hb; have BK200 := Aside0.mk hbox; have GW200 := Aside0.mk ((zS : w.heap.size ≤ gb200)); have GE200 := Aside0.mk ((zS : w.heap.size ≤ gb200)); replace HB := Aside0.mk (below_step zB hb); clear hb hbox hg) | ((with_reducible refine gate_dst (N := 3) rfl ?_); refine zX (N := 3) (cs := #[.int .i64 a1_0, .slice A1_1 l1_1.length c1_1, .int .i64 a1_2]) (t := 49) (h := ?_); intro gb201 hg w5 hbox hb; have BK201 := Aside0.mk hbox; have GW201 := Aside0.mk ((zT : w.heap.size ≤ gb201)); have GE201 := Aside0.mk ((zT : w.heap.size ≤ gb201)); have NB200_201 := Aside0.mk ((zL : gb200 ≠ gb201)); have NB201_200 := Aside0.mk ((zM : gb201 ≠ gb200)); replace BK200 := Aside0.mk (blk_below (g := gb200) zK hb); replace HB := Aside0.mk (below_step zG hb); clear hb hbox hg; have hnb6 := NB200_201.out; have hnc6 := NB201_200.out; obtain ⟨hcz7_0, hcz7_1, hcz7_2, hcz7_3, hcz7_4, hcz7_5, hcz7_6, hcz7_7, hfz7_0, hfz7_1, hfz7_2, hfz7_3, hfz7_4, hfz7_5, hfz7_6, hfz7_7⟩ := zd8 BK200.out (.int .i64 a0_0) (.int .i64 a0_1) (.int .i64 a0_2) (.int .i64 a0_3) (.int .i64 a0_4) (.string a0_5) (.int .i64 a0_6) (.slice A0_7 l0_7.length c0_7); obtain ⟨hcz8_0, hcz8_1, hcz8_2, hfz8_0, hfz8_1, hfz8_2⟩ := zd3 BK201.out (.int .i64 a1_0) (.slice A1_1 l1_1.length c1_1) (.int .i64 a1_2)) | ((with_reducible refine gate_callee (f := 50) rfl ?_); refine goesL_ (some 8) rfl rfl Tryz.func50 (by kernel_rfl) rfl #[.int .i64 a0_3, .agg #[.int .i64 a1_0, .slice A1_1 l1_1.length c1_1, .int .i64 a1_2]] rfl zP ?_; (with_reducible refine (code_isReg.calls a0_3 a1_0 _ _ l1_1 a1_2 t202 _ ?side1 ?side2 A3.out).mono ?_); (case side1 => repeat (first | exact (Kd.C_below HR1_1.out HB.out) | (with_reducible refine Kd.C_alloc ?_ _) | (with_reducible refine Kd.C_drewN ?_ _) | (with_reducible refine Kd.C_drew ?_))); (case side2 => exact HC1_1.out); rintro e w9 ⟨rfl, hb⟩; refine ⟨_, rfl, ?_⟩; replace BK200 := Aside0.mk (blk_below (g := gb200) zK hb); replace BK201 := Aside0.mk (blk_below (g := gb201) zK hb); replace HB := Aside0.mk (below_step zG hb); (try clear hb)))
 go_ret
 exact ⟨zE, zG⟩
/-! ### code_namesC: function 56 -/
def code_namesC.f (a0_0 : Int) (a0_1 : Int) (a0_2 : Int) (a0_3 : Int) (a0_4 : Int) (a0_5 : ByteArray) (a0_6 : Int) (l0_7 : List Int) (a1_0 : Int) (l1_1 : List (S31)) (a1_2 : Int) : Option (Bool) := (code_isReg.f a0_4 a1_0 l1_1 a1_2).bind fun t205 => (some t205)
set_option maxHeartbeats 8000000 in
set_option maxRecDepth 100000 in
theorem code_namesC.calls (a0_0 : Int) (a0_1 : Int) (a0_2 : Int) (a0_3 : Int) (a0_4 : Int) (a0_5 : ByteArray) (a0_6 : Int) (A0_7 : Option Addr) (c0_7 : Nat) (l0_7 : List Int) (a1_0 : Int) (A1_1 : Option Addr) (c1_1 : Nat) (l1_1 : List (S31)) (a1_2 : Int) (r : Bool) (w : World) (hr0_7 : Kd.C (Kd.int .i64) w A0_7 l0_7.length l0_7) (hc0_7 : l0_7.length ≤ c0_7) (hr1_1 : Kd.C k31 w A1_1 l1_1.length l1_1) (hc1_1 : l1_1.length ≤ c1_1) (h : code_namesC.f a0_0 a0_1 a0_2 a0_3 a0_4 a0_5 a0_6 l0_7 a1_0 l1_1 a1_2 = some r) :
  Calls Tryz.prog 56 #[.agg #[.int .i64 a0_0, .int .i64 a0_1, .int .i64 a0_2, .int .i64 a0_3, .int .i64 a0_4, .string a0_5, .int .i64 a0_6, .slice A0_7 l0_7.length c0_7], .agg #[.int .i64 a1_0, .slice A1_1 l1_1.length c1_1, .int .i64 a1_2]] w fun e w' => e = .returned (.bool r) ∧ Below w.heap.size w w' := by
 have hu31 := Tryz.underlying31
 have hu49 := Tryz.underlying49
 have HR0_7 := Aside0.mk hr0_7
 have HC0_7 := Aside0.mk hc0_7
 clear hr0_7 hc0_7
 have HR1_1 := Aside0.mk hr1_1
 have HC1_1 := Aside0.mk hc1_1
 clear hr1_1 hc1_1
 have HB := Aside0.mk (Below.refl w.heap.size w)
 have H : ((code_isReg.f a0_4 a1_0 l1_1 a1_2).bind fun t205 => (some t205)) = some r := h
 clear h
 obtain ⟨t205, A3, H⟩ := zO H
 obtain rfl := Option.some.inj H
 go_enter Tryz.func56, Tryz.ntmps56
 go_wp2_with (first | ((with_reducible refine gate_dst (N := 2) rfl ?_); refine zX (N := 2) (cs := #[.int .i64 a0_0, .int .i64 a0_1, .int .i64 a0_2, .int .i64 a0_3, .int .i64 a0_4, .string a0_5, .int .i64 a0_6, .slice A0_7 l0_7.length c0_7]) (t := 31) (h := ?_); intro gb203 hg w4 hbox hb; have BK203 := Aside0.mk hbox; have GW203 := Aside0.mk ((zS : w.heap.size ≤ gb203)); have GE203 := Aside0.mk ((zS : w.heap.size ≤ gb203)); replace HB := Aside0.mk (below_step zB hb); clear hb hbox hg) | ((with_reducible refine gate_dst (N := 3) rfl ?_); refine zX (N := 3) (cs := #[.int .i64 a1_0, .slice A1_1 l1_1.length c1_1, .int .i64 a1_2]) (t := 49) (h := ?_); intro gb204 hg w5 hbox hb; have BK204 := Aside0.mk hbox; have GW204 := Aside0.mk ((zT : w.heap.size ≤ gb204)); have GE204 := Aside0.mk ((zT : w.heap.size ≤ gb204)); have NB203_204 := Aside0.mk ((zL : gb203 ≠ gb204)); have NB204_203 := Aside0.mk ((zM : gb204 ≠ gb203)); replace BK203 := Aside0.mk (blk_below (g := gb203) zK hb); replace HB := Aside0.mk (below_step zG hb); clear hb hbox hg; have hnb6 := NB203_204.out; have hnc6 := NB204_203.out; obtain ⟨hcz7_0, hcz7_1, hcz7_2, hcz7_3, hcz7_4, hcz7_5, hcz7_6, hcz7_7, hfz7_0, hfz7_1, hfz7_2, hfz7_3, hfz7_4, hfz7_5, hfz7_6, hfz7_7⟩ := zd8 BK203.out (.int .i64 a0_0) (.int .i64 a0_1) (.int .i64 a0_2) (.int .i64 a0_3) (.int .i64 a0_4) (.string a0_5) (.int .i64 a0_6) (.slice A0_7 l0_7.length c0_7); obtain ⟨hcz8_0, hcz8_1, hcz8_2, hfz8_0, hfz8_1, hfz8_2⟩ := zd3 BK204.out (.int .i64 a1_0) (.slice A1_1 l1_1.length c1_1) (.int .i64 a1_2)) | ((with_reducible refine gate_callee (f := 50) rfl ?_); refine goesL_ (some 8) rfl rfl Tryz.func50 (by kernel_rfl) rfl #[.int .i64 a0_4, .agg #[.int .i64 a1_0, .slice A1_1 l1_1.length c1_1, .int .i64 a1_2]] rfl zP ?_; (with_reducible refine (code_isReg.calls a0_4 a1_0 _ _ l1_1 a1_2 t205 _ ?side1 ?side2 A3.out).mono ?_); (case side1 => repeat (first | exact (Kd.C_below HR1_1.out HB.out) | (with_reducible refine Kd.C_alloc ?_ _) | (with_reducible refine Kd.C_drewN ?_ _) | (with_reducible refine Kd.C_drew ?_))); (case side2 => exact HC1_1.out); rintro e w9 ⟨rfl, hb⟩; refine ⟨_, rfl, ?_⟩; replace BK203 := Aside0.mk (blk_below (g := gb203) zK hb); replace BK204 := Aside0.mk (blk_below (g := gb204) zK hb); replace HB := Aside0.mk (below_step zG hb); (try clear hb)))
 go_ret
 exact ⟨zE, zG⟩
end Go.Proofs.YtjlhhjfmekjbhaaGreatDoor.Pq

namespace Go.Proofs.YtjlhhjfmekjbhaaGreatDoor.Pq
open Go.RowKit Go.Proofs.YtjlhhjfmekjbhaaGreatDoorW.PrintWords Go.Proofs.YtjlhhjfmekjbhaaGreatDoorW.PrintLast Go.Proofs.YtjlhhjfmekjbhaaGreatDoorW.PrintMore
set_option linter.unusedVariables false
set_option linter.unusedSimpArgs false
/-! ### code_isBlank: function 71 -/
def code_isBlank.f (a0_0 : Int) (a0_1 : Int) (a0_2 : Int) (a0_3 : Int) (a0_4 : Int) (a0_5 : ByteArray) (a0_6 : Int) (l0_7 : List Int) : Option (Bool) := if a0_1 = 0 then (if a0_2 = 0 then (if a0_3 = 0 then (if a0_4 = 0 then (if a0_5.toList = ([] : List UInt8) then (if a0_6 = 0 then (some ((l0_7.length : Int) == 0)) else (some false)) else (some false)) else (some false)) else (some false)) else (some false)) else (some false)
end Go.Proofs.YtjlhhjfmekjbhaaGreatDoor.Pq

namespace Go.Proofs.YtjlhhjfmekjbhaaGreatDoor.Pq
open Go.RowKit Go.Proofs.YtjlhhjfmekjbhaaGreatDoorW.PrintWords Go.Proofs.YtjlhhjfmekjbhaaGreatDoorW.PrintLast Go.Proofs.YtjlhhjfmekjbhaaGreatDoorW.PrintMore
set_option linter.unusedVariables false
set_option linter.unusedSimpArgs false
def IsS31 (w0 W : World) (g : Nat) (f0 : Int) (f1 : Int) (f2 : Int) (f3 : Int) (f4 : Int) (f5 : ByteArray) (f6 : Int) (f7 : List Int) : Prop := ∃ A7 c7, W.heap[g]? = some (.cells #[.int .i64 f0, .int .i64 f1, .int .i64 f2, .int .i64 f3, .int .i64 f4, .string f5, .int .i64 f6, .slice A7 f7.length c7] 31 (0, 0)) ∧ w0.heap.size ≤ g ∧ Kd.C (Kd.int .i64) w0 A7 f7.length f7
theorem IsS31.grown {w0 W : World} {g : Nat} {f0 : Int} {f1 : Int} {f2 : Int} {f3 : Int} {f4 : Int} {f5 : ByteArray} {f6 : Int} {f7 : List Int} {W1 : World} {row : Option Nat} (h : IsS31 w0 W g f0 f1 f2 f3 f4 f5 f6 f7) (hw : W.grownBy W1 row) (hne : some g ≠ row) : IsS31 w0 W1 g f0 f1 f2 f3 f4 f5 f6 f7 := by
 obtain ⟨A7, c7, hb, hg, hr7⟩ := h
 exact ⟨A7, c7, blk_grown hb hw hne, hg, hr7⟩
theorem IsS31.below {w0 W : World} {g : Nat} {f0 : Int} {f1 : Int} {f2 : Int} {f3 : Int} {f4 : Int} {f5 : ByteArray} {f6 : Int} {f7 : List Int} {W1 : World} (h : IsS31 w0 W g f0 f1 f2 f3 f4 f5 f6 f7) (hw : Below W.heap.size W W1) : IsS31 w0 W1 g f0 f1 f2 f3 f4 f5 f6 f7 := h.grown (grown_of_below hw none) (by simp)
theorem IsS31.ge {w0 W : World} {g : Nat} {f0 : Int} {f1 : Int} {f2 : Int} {f3 : Int} {f4 : Int} {f5 : ByteArray} {f6 : Int} {f7 : List Int} (h : IsS31 w0 W g f0 f1 f2 f3 f4 f5 f6 f7) : w0.heap.size ≤ g := by
 obtain ⟨A7, c7, hb, hg, hr7⟩ := h
 exact hg
theorem cellS31_0 {W : World} {g : Nat} {A7 : Option Addr} {c7 : Nat} {f0 : Int} {f1 : Int} {f2 : Int} {f3 : Int} {f4 : Int} {f5 : ByteArray} {f6 : Int} {f7 : List Int} (h : W.heap[g]? = some (.cells #[.int .i64 f0, .int .i64 f1, .int .i64 f2, .int .i64 f3, .int .i64 f4, .string f5, .int .i64 f6, .slice A7 f7.length c7] 31 (0, 0))) : W.cell? ⟨g, 0, none⟩ = some (.int .i64 f0) := (blk_cell h 0).trans rfl
theorem cellS31_1 {W : World} {g : Nat} {A7 : Option Addr} {c7 : Nat} {f0 : Int} {f1 : Int} {f2 : Int} {f3 : Int} {f4 : Int} {f5 : ByteArray} {f6 : Int} {f7 : List Int} (h : W.heap[g]? = some (.cells #[.int .i64 f0, .int .i64 f1, .int .i64 f2, .int .i64 f3, .int .i64 f4, .string f5, .int .i64 f6, .slice A7 f7.length c7] 31 (0, 0))) : W.cell? ⟨g, 1, none⟩ = some (.int .i64 f1) := (blk_cell h 1).trans rfl
theorem IsS31.set_1 {w0 W : World} {g : Nat} {f0 : Int} {f1 : Int} {f2 : Int} {f3 : Int} {f4 : Int} {f5 : ByteArray} {f6 : Int} {f7 : List Int} (h : IsS31 w0 W g f0 f1 f2 f3 f4 f5 f6 f7) (x : Int) : IsS31 w0 (W.setCell ⟨g, 1, none⟩ (.int .i64 x)) g f0 x f2 f3 f4 f5 f6 f7 := by
 obtain ⟨A7, c7, hb, hg, hr7⟩ := h
 exact ⟨A7, c7, by simpa using blk_set hb 1 (.int .i64 x), hg, hr7⟩
theorem cellS31_2 {W : World} {g : Nat} {A7 : Option Addr} {c7 : Nat} {f0 : Int} {f1 : Int} {f2 : Int} {f3 : Int} {f4 : Int} {f5 : ByteArray} {f6 : Int} {f7 : List Int} (h : W.heap[g]? = some (.cells #[.int .i64 f0, .int .i64 f1, .int .i64 f2, .int .i64 f3, .int .i64 f4, .string f5, .int .i64 f6, .slice A7 f7.length c7] 31 (0, 0))) : W.cell? ⟨g, 2, none⟩ = some (.int .i64 f2) := (blk_cell h 2).trans rfl
theorem IsS31.set_2 {w0 W : World} {g : Nat} {f0 : Int} {f1 : Int} {f2 : Int} {f3 : Int} {f4 : Int} {f5 : ByteArray} {f6 : Int} {f7 : List Int} (h : IsS31 w0 W g f0 f1 f2 f3 f4 f5 f6 f7) (x : Int) : IsS31 w0 (W.setCell ⟨g, 2, none⟩ (.int .i64 x)) g f0 f1 x f3 f4 f5 f6 f7 := by
 obtain ⟨A7, c7, hb, hg, hr7⟩ := h
 exact ⟨A7, c7, by simpa using blk_set hb 2 (.int .i64 x), hg, hr7⟩
theorem cellS31_3 {W : World} {g : Nat} {A7 : Option Addr} {c7 : Nat} {f0 : Int} {f1 : Int} {f2 : Int} {f3 : Int} {f4 : Int} {f5 : ByteArray} {f6 : Int} {f7 : List Int} (h : W.heap[g]? = some (.cells #[.int .i64 f0, .int .i64 f1, .int .i64 f2, .int .i64 f3, .int .i64 f4, .string f5, .int .i64 f6, .slice A7 f7.length c7] 31 (0, 0))) : W.cell? ⟨g, 3, none⟩ = some (.int .i64 f3) := (blk_cell h 3).trans rfl
theorem IsS31.set_3 {w0 W : World} {g : Nat} {f0 : Int} {f1 : Int} {f2 : Int} {f3 : Int} {f4 : Int} {f5 : ByteArray} {f6 : Int} {f7 : List Int} (h : IsS31 w0 W g f0 f1 f2 f3 f4 f5 f6 f7) (x : Int) : IsS31 w0 (W.setCell ⟨g, 3, none⟩ (.int .i64 x)) g f0 f1 f2 x f4 f5 f6 f7 := by
 obtain ⟨A7, c7, hb, hg, hr7⟩ := h
 exact ⟨A7, c7, by simpa using blk_set hb 3 (.int .i64 x), hg, hr7⟩
theorem cellS31_4 {W : World} {g : Nat} {A7 : Option Addr} {c7 : Nat} {f0 : Int} {f1 : Int} {f2 : Int} {f3 : Int} {f4 : Int} {f5 : ByteArray} {f6 : Int} {f7 : List Int} (h : W.heap[g]? = some (.cells #[.int .i64 f0, .int .i64 f1, .int .i64 f2, .int .i64 f3, .int .i64 f4, .string f5, .int .i64 f6, .slice A7 f7.length c7] 31 (0, 0))) : W.cell? ⟨g, 4, none⟩ = some (.int .i64 f4) := (blk_cell h 4).trans rfl
theorem IsS31.set_4 {w0 W : World} {g : Nat} {f0 : Int} {f1 : Int} {f2 : Int} {f3 : Int} {f4 : Int} {f5 : ByteArray} {f6 : Int} {f7 : List Int} (h : IsS31 w0 W g f0 f1 f2 f3 f4 f5 f6 f7) (x : Int) : IsS31 w0 (W.setCell ⟨g, 4, none⟩ (.int .i64 x)) g f0 f1 f2 f3 x f5 f6 f7 := by
 obtain ⟨A7, c7, hb, hg, hr7⟩ := h
 exact ⟨A7, c7, by simpa using blk_set hb 4 (.int .i64 x), hg, hr7⟩
theorem cellS31_5 {W : World} {g : Nat} {A7 : Option Addr} {c7 : Nat} {f0 : Int} {f1 : Int} {f2 : Int} {f3 : Int} {f4 : Int} {f5 : ByteArray} {f6 : Int} {f7 : List Int} (h : W.heap[g]? = some (.cells #[.int .i64 f0, .int .i64 f1, .int .i64 f2, .int .i64 f3, .int .i64 f4, .string f5, .int .i64 f6, .slice A7 f7.length c7] 31 (0, 0))) : W.cell? ⟨g, 5, none⟩ = some (.string f5) := (blk_cell h 5).trans rfl
theorem IsS31.set_5 {w0 W : World} {g : Nat} {f0 : Int} {f1 : Int} {f2 : Int} {f3 : Int} {f4 : Int} {f5 : ByteArray} {f6 : Int} {f7 : List Int} (h : IsS31 w0 W g f0 f1 f2 f3 f4 f5 f6 f7) (x : ByteArray) : IsS31 w0 (W.setCell ⟨g, 5, none⟩ (.string x)) g f0 f1 f2 f3 f4 x f6 f7 := by
 obtain ⟨A7, c7, hb, hg, hr7⟩ := h
 exact ⟨A7, c7, by simpa using blk_set hb 5 (.string x), hg, hr7⟩
theorem cellS31_6 {W : World} {g : Nat} {A7 : Option Addr} {c7 : Nat} {f0 : Int} {f1 : Int} {f2 : Int} {f3 : Int} {f4 : Int} {f5 : ByteArray} {f6 : Int} {f7 : List Int} (h : W.heap[g]? = some (.cells #[.int .i64 f0, .int .i64 f1, .int .i64 f2, .int .i64 f3, .int .i64 f4, .string f5, .int .i64 f6, .slice A7 f7.length c7] 31 (0, 0))) : W.cell? ⟨g, 6, none⟩ = some (.int .i64 f6) := (blk_cell h 6).trans rfl
theorem IsS31.set_6 {w0 W : World} {g : Nat} {f0 : Int} {f1 : Int} {f2 : Int} {f3 : Int} {f4 : Int} {f5 : ByteArray} {f6 : Int} {f7 : List Int} (h : IsS31 w0 W g f0 f1 f2 f3 f4 f5 f6 f7) (x : Int) : IsS31 w0 (W.setCell ⟨g, 6, none⟩ (.int .i64 x)) g f0 f1 f2 f3 f4 f5 x f7 := by
 obtain ⟨A7, c7, hb, hg, hr7⟩ := h
 exact ⟨A7, c7, by simpa using blk_set hb 6 (.int .i64 x), hg, hr7⟩
theorem cellS31_7 {W : World} {g : Nat} {A7 : Option Addr} {c7 : Nat} {f0 : Int} {f1 : Int} {f2 : Int} {f3 : Int} {f4 : Int} {f5 : ByteArray} {f6 : Int} {f7 : List Int} (h : W.heap[g]? = some (.cells #[.int .i64 f0, .int .i64 f1, .int .i64 f2, .int .i64 f3, .int .i64 f4, .string f5, .int .i64 f6, .slice A7 f7.length c7] 31 (0, 0))) : W.cell? ⟨g, 7, none⟩ = some (.slice A7 f7.length c7) := (blk_cell h 7).trans rfl
/-! ### code_parts_1: function 42 -/
def code_parts_1.f (s0_0 : Int) (s0_1 : Int) (s0_2 : Int) (s0_3 : Int) (s0_4 : Int) (s0_5 : ByteArray) (s0_6 : Int) (s0_7 : List Int) : Option (Int × Int × Int × Int × Int × ByteArray × Int) := some (s0_0, s0_1, 0, s0_3, s0_4, s0_5, s0_6)
set_option maxHeartbeats 8000000 in
set_option maxRecDepth 100000 in
theorem code_parts_1.calls (g : Nat) (s0_0 : Int) (s0_1 : Int) (s0_2 : Int) (s0_3 : Int) (s0_4 : Int) (s0_5 : ByteArray) (s0_6 : Int) (s0_7 : List Int) (r1 : Int) (r2 : Int) (r3 : Int) (r4 : Int) (r5 : Int) (r6 : ByteArray) (r7 : Int) (w0 w : World) (hI : IsS31 w0 w g s0_0 s0_1 s0_2 s0_3 s0_4 s0_5 s0_6 s0_7) (hB : Below w0.heap.size w0 w) (h : code_parts_1.f s0_0 s0_1 s0_2 s0_3 s0_4 s0_5 s0_6 s0_7 = some (r1, r2, r3, r4, r5, r6, r7)) :
  Calls Tryz.prog 42 #[.pointer (some ⟨g, 0, none⟩)] w fun e w' => e = .returned (.tuple #[]) ∧ IsS31 w0 w' g r1 r2 r3 r4 r5 r6 r7 s0_7 ∧ Below w0.heap.size w0 w' ∧ KeepBut w w' g none := by
 have HI0 := Aside0.mk hI
 have HK := Aside0.mk (KeepBut.refl w g none)
 have HL := Aside0.mk hB.size
 clear hI
 have HW0 := Aside0.mk hB.size
 have HB := Aside0.mk hB
 clear hB
 have H : (some (s0_0, s0_1, 0, s0_3, s0_4, s0_5, s0_6)) = some (r1, r2, r3, r4, r5, r6, r7) := h
 clear h
 simp only [Option.some.injEq, Prod.mk.injEq] at H
 obtain ⟨rfl, rfl, rfl, rfl, rfl, rfl, rfl⟩ := H
 obtain ⟨ASz2_7, cSz2_7, HGz2, hgz2, HSz2_7⟩ := HI0.out
 have hcz2_0 := cellS31_0 HGz2
 have hcz2_1 := cellS31_1 HGz2
 have hcz2_2 := cellS31_2 HGz2
 have hcz2_3 := cellS31_3 HGz2
 have hcz2_4 := cellS31_4 HGz2
 have hcz2_5 := cellS31_5 HGz2
 have hcz2_6 := cellS31_6 HGz2
 have hcz2_7 := cellS31_7 HGz2
 have hfz2_0 := blk_frozen HGz2 0
 have hfz2_1 := blk_frozen HGz2 1
 have hfz2_2 := blk_frozen HGz2 2
 have hfz2_3 := blk_frozen HGz2 3
 have hfz2_4 := blk_frozen HGz2 4
 have hfz2_5 := blk_frozen HGz2 5
 have hfz2_6 := blk_frozen HGz2 6
 clear HGz2 hgz2
 go_enter Tryz.func42, Tryz.ntmps42
 go_wp2
 first | go_end0 | ((try simp only [Exit.inBlock, Exit.then]); refine bodyPost_ret (results_none rfl _ _ _) rfl ?_)
 exact ⟨zE, by repeat (first | (with_reducible first | exact HI0.out | apply IsS31.alloc | apply IsS31.drewN | apply IsS31.drew | apply IsS31.set_0 | apply IsS31.set_1 | apply IsS31.set_2 | apply IsS31.set_3 | apply IsS31.set_4 | apply IsS31.set_5 | apply IsS31.set_6) | exact HI0.out), by repeat (first | (with_reducible first | exact HB.out | apply below_alloc | apply pw_below_drewN | apply below_drew1 | refine below_set ?_ (IsS31.ge HI0.out)) | exact HB.out), by repeat (first | (with_reducible first | exact HK.out | apply KeepBut.set_ | apply keep_drewN | apply keep_drew | apply keep_alloc) | exact HK.out)⟩
end Go.Proofs.YtjlhhjfmekjbhaaGreatDoor.Pq

namespace Go.Proofs.YtjlhhjfmekjbhaaGreatDoor.Pq
open Go.RowKit Go.Proofs.YtjlhhjfmekjbhaaGreatDoorW.PrintWords Go.Proofs.YtjlhhjfmekjbhaaGreatDoorW.PrintLast Go.Proofs.YtjlhhjfmekjbhaaGreatDoorW.PrintMore
set_option linter.unusedVariables false
set_option linter.unusedSimpArgs false
/-! ### code_parts_2: function 43 -/
def code_parts_2.f (s0_0 : Int) (s0_1 : Int) (s0_2 : Int) (s0_3 : Int) (s0_4 : Int) (s0_5 : ByteArray) (s0_6 : Int) (s0_7 : List Int) : Option (Int × Int × Int × Int × Int × ByteArray × Int) := some (s0_0, s0_1, s0_2, 0, s0_4, s0_5, s0_6)
set_option maxHeartbeats 8000000 in
set_option maxRecDepth 100000 in
theorem code_parts_2.calls (g : Nat) (s0_0 : Int) (s0_1 : Int) (s0_2 : Int) (s0_3 : Int) (s0_4 : Int) (s0_5 : ByteArray) (s0_6 : Int) (s0_7 : List Int) (r1 : Int) (r2 : Int) (r3 : Int) (r4 : Int) (r5 : Int) (r6 : ByteArray) (r7 : Int) (w0 w : World) (hI : IsS31 w0 w g s0_0 s0_1 s0_2 s0_3 s0_4 s0_5 s0_6 s0_7) (hB : Below w0.heap.size w0 w) (h : code_parts_2.f s0_0 s0_1 s0_2 s0_3 s0_4 s0_5 s0_6 s0_7 = some (r1, r2, r3, r4, r5, r6, r7)) :
  Calls Tryz.prog 43 #[.pointer (some ⟨g, 0, none⟩)] w fun e w' => e = .returned (.tuple #[]) ∧ IsS31 w0 w' g r1 r2 r3 r4 r5 r6 r7 s0_7 ∧ Below w0.heap.size w0 w' ∧ KeepBut w w' g none := by
 have HI0 := Aside0.mk hI
 have HK := Aside0.mk (KeepBut.refl w g none)
 have HL := Aside0.mk hB.size
 clear hI
 have HW0 := Aside0.mk hB.size
 have HB := Aside0.mk hB
 clear hB
 have H : (some (s0_0, s0_1, s0_2, 0, s0_4, s0_5, s0_6)) = some (r1, r2, r3, r4, r5, r6, r7) := h
 clear h
 simp only [Option.some.injEq, Prod.mk.injEq] at H
 obtain ⟨rfl, rfl, rfl, rfl, rfl, rfl, rfl⟩ := H
 obtain ⟨ASz2_7, cSz2_7, HGz2, hgz2, HSz2_7⟩ := HI0.out
 have hcz2_0 := cellS31_0 HGz2
 have hcz2_1 := cellS31_1 HGz2
 have hcz2_2 := cellS31_2 HGz2
 have hcz2_3 := cellS31_3 HGz2
 have hcz2_4 := cellS31_4 HGz2
 have hcz2_5 := cellS31_5 HGz2
 have hcz2_6 := cellS31_6 HGz2
 have hcz2_7 := cellS31_7 HGz2
 have hfz2_0 := blk_frozen HGz2 0
 have hfz2_1 := blk_frozen HGz2 1
 have hfz2_2 := blk_frozen HGz2 2
 have hfz2_3 := blk_frozen HGz2 3
 have hfz2_4 := blk_frozen HGz2 4
 have hfz2_5 := blk_frozen HGz2 5
 have hfz2_6 := blk_frozen HGz2 6
 clear HGz2 hgz2
 go_enter Tryz.func43, Tryz.ntmps43
 go_wp2
 first | go_end0 | ((try simp only [Exit.inBlock, Exit.then]); refine bodyPost_ret (results_none rfl _ _ _) rfl ?_)
 exact ⟨zE, by repeat (first | (with_reducible first | exact HI0.out | apply IsS31.alloc | apply IsS31.drewN | apply IsS31.drew | apply IsS31.set_0 | apply IsS31.set_1 | apply IsS31.set_2 | apply IsS31.set_3 | apply IsS31.set_4 | apply IsS31.set_5 | apply IsS31.set_6) | exact HI0.out), by repeat (first | (with_reducible first | exact HB.out | apply below_alloc | apply pw_below_drewN | apply below_drew1 | refine below_set ?_ (IsS31.ge HI0.out)) | exact HB.out), by repeat (first | (with_reducible first | exact HK.out | apply KeepBut.set_ | apply keep_drewN | apply keep_drew | apply keep_alloc) | exact HK.out)⟩
/-! ### code_parts_3: function 44 -/
def code_parts_3.f (s0_0 : Int) (s0_1 : Int) (s0_2 : Int) (s0_3 : Int) (s0_4 : Int) (s0_5 : ByteArray) (s0_6 : Int) (s0_7 : List Int) : Option (Int × Int × Int × Int × Int × ByteArray × Int) := some (s0_0, s0_1, s0_2, s0_3, s0_4, s0_5, 0)
set_option maxHeartbeats 8000000 in
set_option maxRecDepth 100000 in
theorem code_parts_3.calls (g : Nat) (s0_0 : Int) (s0_1 : Int) (s0_2 : Int) (s0_3 : Int) (s0_4 : Int) (s0_5 : ByteArray) (s0_6 : Int) (s0_7 : List Int) (r1 : Int) (r2 : Int) (r3 : Int) (r4 : Int) (r5 : Int) (r6 : ByteArray) (r7 : Int) (w0 w : World) (hI : IsS31 w0 w g s0_0 s0_1 s0_2 s0_3 s0_4 s0_5 s0_6 s0_7) (hB : Below w0.heap.size w0 w) (h : code_parts_3.f s0_0 s0_1 s0_2 s0_3 s0_4 s0_5 s0_6 s0_7 = some (r1, r2, r3, r4, r5, r6, r7)) :
  Calls Tryz.prog 44 #[.pointer (some ⟨g, 0, none⟩)] w fun e w' => e = .returned (.tuple #[]) ∧ IsS31 w0 w' g r1 r2 r3 r4 r5 r6 r7 s0_7 ∧ Below w0.heap.size w0 w' ∧ KeepBut w w' g none := by
 have HI0 := Aside0.mk hI
 have HK := Aside0.mk (KeepBut.refl w g none)
 have HL := Aside0.mk hB.size
 clear hI
 have HW0 := Aside0.mk hB.size
 have HB := Aside0.mk hB
 clear hB
 have H : (some (s0_0, s0_1, s0_2, s0_3, s0_4, s0_5, 0)) = some (r1, r2, r3, r4, r5, r6, r7) := h
 clear h
 simp only [Option.some.injEq, Prod.mk.injEq] at H
 obtain ⟨rfl, rfl, rfl, rfl, rfl, rfl, rfl⟩ := H
 obtain ⟨ASz2_7, cSz2_7, HGz2, hgz2, HSz2_7⟩ := HI0.out
 have hcz2_0 := cellS31_0 HGz2
 have hcz2_1 := cellS31_1 HGz2
 have hcz2_2 := cellS31_2 HGz2
 have hcz2_3 := cellS31_3 HGz2
 have hcz2_4 := cellS31_4 HGz2
 have hcz2_5 := cellS31_5 HGz2
 have hcz2_6 := cellS31_6 HGz2
 have hcz2_7 := cellS31_7 HGz2
 have hfz2_0 := blk_frozen HGz2 0
 have hfz2_1 := blk_frozen HGz2 1
 have hfz2_2 := blk_frozen HGz2 2
 have hfz2_3 := blk_frozen HGz2 3
 have hfz2_4 := blk_frozen HGz2 4
 have hfz2_5 := blk_frozen HGz2 5
 have hfz2_6 := blk_frozen HGz2 6
 clear HGz2 hgz2
 go_enter Tryz.func44, Tryz.ntmps44
 go_wp2
 first | go_end0 | ((try simp only [Exit.inBlock, Exit.then]); refine bodyPost_ret (results_none rfl _ _ _) rfl ?_)
 exact ⟨zE, by repeat (first | (with_reducible first | exact HI0.out | apply IsS31.alloc | apply IsS31.drewN | apply IsS31.drew | apply IsS31.set_0 | apply IsS31.set_1 | apply IsS31.set_2 | apply IsS31.set_3 | apply IsS31.set_4 | apply IsS31.set_5 | apply IsS31.set_6) | exact HI0.out), by repeat (first | (with_reducible first | exact HB.out | apply below_alloc | apply pw_below_drewN | apply below_drew1 | refine below_set ?_ (IsS31.ge HI0.out)) | exact HB.out), by repeat (first | (with_reducible first | exact HK.out | apply KeepBut.set_ | apply keep_drewN | apply keep_drew | apply keep_alloc) | exact HK.out)⟩
end Go.Proofs.YtjlhhjfmekjbhaaGreatDoor.Pq

namespace Go.Proofs.YtjlhhjfmekjbhaaGreatDoor.Pq
open Go.RowKit Go.Proofs.YtjlhhjfmekjbhaaGreatDoorW.PrintWords Go.Proofs.YtjlhhjfmekjbhaaGreatDoorW.PrintLast Go.Proofs.YtjlhhjfmekjbhaaGreatDoorW.PrintMore
set_option linter.unusedVariables false
set_option linter.unusedSimpArgs false
/-! ### code_parts_4: function 45 -/
def code_parts_4.f (s0_0 : Int) (s0_1 : Int) (s0_2 : Int) (s0_3 : Int) (s0_4 : Int) (s0_5 : ByteArray) (s0_6 : Int) (s0_7 : List Int) : Option (Int × Int × Int × Int × Int × ByteArray × Int) := some (s0_0, s0_1, s0_2, s0_3, s0_4, (⟨#[]⟩ : ByteArray), s0_6)
set_option maxHeartbeats 8000000 in
set_option maxRecDepth 100000 in
theorem code_parts_4.calls (g : Nat) (s0_0 : Int) (s0_1 : Int) (s0_2 : Int) (s0_3 : Int) (s0_4 : Int) (s0_5 : ByteArray) (s0_6 : Int) (s0_7 : List Int) (r1 : Int) (r2 : Int) (r3 : Int) (r4 : Int) (r5 : Int) (r6 : ByteArray) (r7 : Int) (w0 w : World) (hI : IsS31 w0 w g s0_0 s0_1 s0_2 s0_3 s0_4 s0_5 s0_6 s0_7) (hB : Below w0.heap.size w0 w) (h : code_parts_4.f s0_0 s0_1 s0_2 s0_3 s0_4 s0_5 s0_6 s0_7 = some (r1, r2, r3, r4, r5, r6, r7)) :
  Calls Tryz.prog 45 #[.pointer (some ⟨g, 0, none⟩)] w fun e w' => e = .returned (.tuple #[]) ∧ IsS31 w0 w' g r1 r2 r3 r4 r5 r6 r7 s0_7 ∧ Below w0.heap.size w0 w' ∧ KeepBut w w' g none := by
 have HI0 := Aside0.mk hI
 have HK := Aside0.mk (KeepBut.refl w g none)
 have HL := Aside0.mk hB.size
 clear hI
 have HW0 := Aside0.mk hB.size
 have HB := Aside0.mk hB
 clear hB
 have H : (some (s0_0, s0_1, s0_2, s0_3, s0_4, (⟨#[]⟩ : ByteArray), s0_6)) = some (r1, r2, r3, r4, r5, r6, r7) := h
 clear h
 simp only [Option.some.injEq, Prod.mk.injEq] at H
 obtain ⟨rfl, rfl, rfl, rfl, rfl, rfl, rfl⟩ := H
 obtain ⟨ASz2_7, cSz2_7, HGz2, hgz2, HSz2_7⟩ := HI0.out
 have hcz2_0 := cellS31_0 HGz2
 have hcz2_1 := cellS31_1 HGz2
 have hcz2_2 := cellS31_2 HGz2
 have hcz2_3 := cellS31_3 HGz2
 have hcz2_4 := cellS31_4 HGz2
 have hcz2_5 := cellS31_5 HGz2
 have hcz2_6 := cellS31_6 HGz2
 have hcz2_7 := cellS31_7 HGz2
 have hfz2_0 := blk_frozen HGz2 0
 have hfz2_1 := blk_frozen HGz2 1
 have hfz2_2 := blk_frozen HGz2 2
 have hfz2_3 := blk_frozen HGz2 3
 have hfz2_4 := blk_frozen HGz2 4
 have hfz2_5 := blk_frozen HGz2 5
 have hfz2_6 := blk_frozen HGz2 6
 clear HGz2 hgz2
 go_enter Tryz.func45, Tryz.ntmps45
 go_wp2
 first | go_end0 | ((try simp only [Exit.inBlock, Exit.then]); refine bodyPost_ret (results_none rfl _ _ _) rfl ?_)
 exact ⟨zE, by repeat (first | (with_reducible first | exact HI0.out | apply IsS31.alloc | apply IsS31.drewN | apply IsS31.drew | apply IsS31.set_0 | apply IsS31.set_1 | apply IsS31.set_2 | apply IsS31.set_3 | apply IsS31.set_4 | apply IsS31.set_5 | apply IsS31.set_6) | exact HI0.out), by repeat (first | (with_reducible first | exact HB.out | apply below_alloc | apply pw_below_drewN | apply below_drew1 | refine below_set ?_ (IsS31.ge HI0.out)) | exact HB.out), by repeat (first | (with_reducible first | exact HK.out | apply KeepBut.set_ | apply keep_drewN | apply keep_drew | apply keep_alloc) | exact HK.out)⟩
/-! ### code_parts_5: function 47 -/
def code_parts_5.f (s0_0 : Int) (s0_1 : Int) (s0_2 : Int) (s0_3 : Int) (s0_4 : Int) (s0_5 : ByteArray) (s0_6 : Int) (s0_7 : List Int) : Option (Int × Int × Int × Int × Int × ByteArray × Int) := some (s0_0, 0, s0_2, s0_3, s0_4, s0_5, s0_6)
set_option maxHeartbeats 8000000 in
set_option maxRecDepth 100000 in
theorem code_parts_5.calls (g : Nat) (s0_0 : Int) (s0_1 : Int) (s0_2 : Int) (s0_3 : Int) (s0_4 : Int) (s0_5 : ByteArray) (s0_6 : Int) (s0_7 : List Int) (r1 : Int) (r2 : Int) (r3 : Int) (r4 : Int) (r5 : Int) (r6 : ByteArray) (r7 : Int) (w0 w : World) (hI : IsS31 w0 w g s0_0 s0_1 s0_2 s0_3 s0_4 s0_5 s0_6 s0_7) (hB : Below w0.heap.size w0 w) (h : code_parts_5.f s0_0 s0_1 s0_2 s0_3 s0_4 s0_5 s0_6 s0_7 = some (r1, r2, r3, r4, r5, r6, r7)) :
  Calls Tryz.prog 47 #[.pointer (some ⟨g, 0, none⟩)] w fun e w' => e = .returned (.tuple #[]) ∧ IsS31 w0 w' g r1 r2 r3 r4 r5 r6 r7 s0_7 ∧ Below w0.heap.size w0 w' ∧ KeepBut w w' g none := by
 have HI0 := Aside0.mk hI
 have HK := Aside0.mk (KeepBut.refl w g none)
 have HL := Aside0.mk hB.size
 clear hI
 have HW0 := Aside0.mk hB.size
 have HB := Aside0.mk hB
 clear hB
 have H : (some (s0_0, 0, s0_2, s0_3, s0_4, s0_5, s0_6)) = some (r1, r2, r3, r4, r5, r6, r7) := h
 clear h
 simp only [Option.some.injEq, Prod.mk.injEq] at H
 obtain ⟨rfl, rfl, rfl, rfl, rfl, rfl, rfl⟩ := H
 obtain ⟨ASz2_7, cSz2_7, HGz2, hgz2, HSz2_7⟩ := HI0.out
 have hcz2_0 := cellS31_0 HGz2
 have hcz2_1 := cellS31_1 HGz2
 have hcz2_2 := cellS31_2 HGz2
 have hcz2_3 := cellS31_3 HGz2
 have hcz2_4 := cellS31_4 HGz2
 have hcz2_5 := cellS31_5 HGz2
 have hcz2_6 := cellS31_6 HGz2
 have hcz2_7 := cellS31_7 HGz2
 have hfz2_0 := blk_frozen HGz2 0
 have hfz2_1 := blk_frozen HGz2 1
 have hfz2_2 := blk_frozen HGz2 2
 have hfz2_3 := blk_frozen HGz2 3
 have hfz2_4 := blk_frozen HGz2 4
 have hfz2_5 := blk_frozen HGz2 5
 have hfz2_6 := blk_frozen HGz2 6
 clear HGz2 hgz2
 go_enter Tryz.func47, Tryz.ntmps47
 go_wp2
 first | go_end0 | ((try simp only [Exit.inBlock, Exit.then]); refine bodyPost_ret (results_none rfl _ _ _) rfl ?_)
 exact ⟨zE, by repeat (first | (with_reducible first | exact HI0.out | apply IsS31.alloc | apply IsS31.drewN | apply IsS31.drew | apply IsS31.set_0 | apply IsS31.set_1 | apply IsS31.set_2 | apply IsS31.set_3 | apply IsS31.set_4 | apply IsS31.set_5 | apply IsS31.set_6) | exact HI0.out), by repeat (first | (with_reducible first | exact HB.out | apply below_alloc | apply pw_below_drewN | apply below_drew1 | refine below_set ?_ (IsS31.ge HI0.out)) | exact HB.out), by repeat (first | (with_reducible first | exact HK.out | apply KeepBut.set_ | apply keep_drewN | apply keep_drew | apply keep_alloc) | exact HK.out)⟩
end Go.Proofs.YtjlhhjfmekjbhaaGreatDoor.Pq

namespace Go.Proofs.YtjlhhjfmekjbhaaGreatDoor.Pq
open Go.RowKit Go.Proofs.YtjlhhjfmekjbhaaGreatDoor.Vb Go.Proofs.YtjlhhjfmekjbhaaGreatDoorW.PrintWords Go.Proofs.YtjlhhjfmekjbhaaGreatDoorW.PrintLast Go.Proofs.YtjlhhjfmekjbhaaGreatDoorW.PrintMore
set_option linter.unusedVariables false
set_option linter.unusedSimpArgs false
/-! ### code_parts_6: function 49 -/
def code_parts_6.f (a0_0 : Int) (a0_1 : Int) (a0_2 : Int) (a0_3 : Int) (a0_4 : Int) (a0_5 : ByteArray) (a0_6 : Int) (l0_7 : List Int) (a1_0 : Int) (l1_1 : List (S31)) (a1_2 : Int) : Option (Bool) := if a0_2 = (-1) then (some true) else ((code_isReg.f a0_2 a1_0 l1_1 a1_2).bind fun t209 => (some t209))
set_option maxHeartbeats 8000000 in
set_option maxRecDepth 100000 in
theorem code_parts_6.calls (a0_0 : Int) (a0_1 : Int) (a0_2 : Int) (a0_3 : Int) (a0_4 : Int) (a0_5 : ByteArray) (a0_6 : Int) (A0_7 : Option Addr) (c0_7 : Nat) (l0_7 : List Int) (a1_0 : Int) (A1_1 : Option Addr) (c1_1 : Nat) (l1_1 : List (S31)) (a1_2 : Int) (r : Bool) (w : World) (hr0_7 : Kd.C (Kd.int .i64) w A0_7 l0_7.length l0_7) (hc0_7 : l0_7.length ≤ c0_7) (hr1_1 : Kd.C k31 w A1_1 l1_1.length l1_1) (hc1_1 : l1_1.length ≤ c1_1) (h : code_parts_6.f a0_0 a0_1 a0_2 a0_3 a0_4 a0_5 a0_6 l0_7 a1_0 l1_1 a1_2 = some r) :
  Calls Tryz.prog 49 #[.agg #[.int .i64 a0_0, .int .i64 a0_1, .int .i64 a0_2, .int .i64 a0_3, .int .i64 a0_4, .string a0_5, .int .i64 a0_6, .slice A0_7 l0_7.length c0_7], .agg #[.int .i64 a1_0, .slice A1_1 l1_1.length c1_1, .int .i64 a1_2]] w fun e w' => e = .returned (.bool r) ∧ Below w.heap.size w w' := by
 have hu31 := Tryz.underlying31
 have hu49 := Tryz.underlying49
 have HR0_7 := Aside0.mk hr0_7
 have HC0_7 := Aside0.mk hc0_7
 clear hr0_7 hc0_7
 have HR1_1 := Aside0.mk hr1_1
 have HC1_1 := Aside0.mk hc1_1
 clear hr1_1 hc1_1
 have HB := Aside0.mk (Below.refl w.heap.size w)
 have H : (if a0_2 = (-1) then (some true) else ((code_isReg.f a0_2 a1_0 l1_1 a1_2).bind fun t209 => (some t209))) = some r := h
 clear h
 by_cases c3 : a0_2 = (-1)
 ·rw [if_pos c3] at H
  have c3b0 : (a0_2 == (-1)) = true := beq_iff_eq.mpr c3
  have c3b1 : (a0_2 != (-1)) = false := bne_eq_false_iff_eq.mpr c3
  clear c3
  obtain rfl := Option.some.inj H
  go_enter Tryz.func49, Tryz.ntmps49
  go_wp2_with (first | ((with_reducible refine gate_dst (N := 2) rfl ?_); refine zX (N := 2) (cs := #[.int .i64 a0_0, .int .i64 a0_1, .int .i64 a0_2, .int .i64 a0_3, .int .i64 a0_4, .string a0_5, .int .i64 a0_6, .slice A0_7 l0_7.length c0_7]) (t := 31) (h := ?_); intro gb207 hg w4 hbox hb; have BK207 := Aside0.mk hbox; have GW207 := Aside0.mk ((zS : w.heap.size ≤ gb207)); have GE207 := Aside0.mk ((zS : w.heap.size ≤ gb207)); replace HB := Aside0.mk (below_step zB hb); clear hb hbox hg) | ((with_reducible refine gate_dst (N := 3) rfl ?_); refine zX (N := 3) (cs := #[.int .i64 a1_0, .slice A1_1 l1_1.length c1_1, .int .i64 a1_2]) (t := 49) (h := ?_); intro gb208 hg w5 hbox hb; have BK208 := Aside0.mk hbox; have GW208 := Aside0.mk ((zT : w.heap.size ≤ gb208)); have GE208 := Aside0.mk ((zT : w.heap.size ≤ gb208)); have NB207_208 := Aside0.mk ((zL : gb207 ≠ gb208)); have NB208_207 := Aside0.mk ((zM : gb208 ≠ gb207)); replace BK207 := Aside0.mk (blk_below (g := gb207) zK hb); replace HB := Aside0.mk (below_step zG hb); clear hb hbox hg; have hnb6 := NB207_208.out; have hnc6 := NB208_207.out; obtain ⟨hcz7_0, hcz7_1, hcz7_2, hcz7_3, hcz7_4, hcz7_5, hcz7_6, hcz7_7, hfz7_0, hfz7_1, hfz7_2, hfz7_3, hfz7_4, hfz7_5, hfz7_6, hfz7_7⟩ := zd8 BK207.out (.int .i64 a0_0) (.int .i64 a0_1) (.int .i64 a0_2) (.int .i64 a0_3) (.int .i64 a0_4) (.string a0_5) (.int .i64 a0_6) (.slice A0_7 l0_7.length c0_7)))
  go_ret
  exact ⟨zE, zG⟩
 ·rw [if_neg c3] at H
  have c3b0 : (a0_2 == (-1)) = false := beq_eq_false_iff_ne.mpr c3
  have c3b1 : (a0_2 != (-1)) = true := bne_iff_ne.mpr c3
  obtain ⟨t209, A8, H⟩ := zO H
  obtain rfl := Option.some.inj H
  go_enter Tryz.func49, Tryz.ntmps49
  go_wp2_with (first | ((with_reducible refine gate_dst (N := 2) rfl ?_); refine zX (N := 2) (cs := #[.int .i64 a0_0, .int .i64 a0_1, .int .i64 a0_2, .int .i64 a0_3, .int .i64 a0_4, .string a0_5, .int .i64 a0_6, .slice A0_7 l0_7.length c0_7]) (t := 31) (h := ?_); intro gb207 hg w9 hbox hb; have BK207 := Aside0.mk hbox; have GW207 := Aside0.mk ((zS : w.heap.size ≤ gb207)); have GE207 := Aside0.mk ((zS : w.heap.size ≤ gb207)); replace HB := Aside0.mk (below_step zB hb); clear hb hbox hg) | ((with_reducible refine gate_dst (N := 3) rfl ?_); refine zX (N := 3) (cs := #[.int .i64 a1_0, .slice A1_1 l1_1.length c1_1, .int .i64 a1_2]) (t := 49) (h := ?_); intro gb208 hg w10 hbox hb; have BK208 := Aside0.mk hbox; have GW208 := Aside0.mk ((zT : w.heap.size ≤ gb208)); have GE208 := Aside0.mk ((zT : w.heap.size ≤ gb208)); have NB207_208 := Aside0.mk ((zL : gb207 ≠ gb208)); have NB208_207 := Aside0.mk ((zM : gb208 ≠ gb207)); replace BK207 := Aside0.mk (blk_below (g := gb207) zK hb); replace HB := Aside0.mk (below_step zG hb); clear hb hbox hg; have hnb11 := NB207_208.out; have hnc11 := NB208_207.out; obtain ⟨hcz12_0, hcz12_1, hcz12_2, hcz12_3, hcz12_4, hcz12_5, hcz12_6, hcz12_7, hfz12_0, hfz12_1, hfz12_2, hfz12_3, hfz12_4, hfz12_5, hfz12_6, hfz12_7⟩ := zd8 BK207.out (.int .i64 a0_0) (.int .i64 a0_1) (.int .i64 a0_2) (.int .i64 a0_3) (.int .i64 a0_4) (.string a0_5) (.int .i64 a0_6) (.slice A0_7 l0_7.length c0_7); obtain ⟨hcz13_0, hcz13_1, hcz13_2, hfz13_0, hfz13_1, hfz13_2⟩ := zd3 BK208.out (.int .i64 a1_0) (.slice A1_1 l1_1.length c1_1) (.int .i64 a1_2)) | (go_at_call 50; (with_reducible refine (code_isReg.calls a0_2 a1_0 _ _ l1_1 a1_2 t209 _ ?side1 ?side2 A8.out).mono ?_); (case side1 => repeat (first | exact (Kd.C_below HR1_1.out HB.out) | (with_reducible refine Kd.C_alloc ?_ _) | (with_reducible refine Kd.C_drewN ?_ _) | (with_reducible refine Kd.C_drew ?_))); (case side2 => exact HC1_1.out); rintro e w14 ⟨rfl, hb⟩; replace BK207 := Aside0.mk (blk_below (g := gb207) zK hb); replace BK208 := Aside0.mk (blk_below (g := gb208) zK hb); replace HB := Aside0.mk (below_step zG hb); (try clear hb)))
  go_ret
  exact ⟨zE, zG⟩
/-! ### code_parts_7: function 51 -/
def code_parts_7.f (a0_0 : Int) (a0_1 : Int) (a0_2 : Int) (a0_3 : Int) (a0_4 : Int) (a0_5 : ByteArray) (a0_6 : Int) (l0_7 : List Int) (a1_0 : Int) (l1_1 : List (S31)) (a1_2 : Int) : Option (Bool) := if a0_2 = 5 then (some false) else ((value_Right.f a0_2 a0_6 a0_5).bind fun t212 => (some t212))
set_option maxHeartbeats 8000000 in
set_option maxRecDepth 100000 in
theorem code_parts_7.calls (a0_0 : Int) (a0_1 : Int) (a0_2 : Int) (a0_3 : Int) (a0_4 : Int) (a0_5 : ByteArray) (a0_6 : Int) (A0_7 : Option Addr) (c0_7 : Nat) (l0_7 : List Int) (a1_0 : Int) (A1_1 : Option Addr) (c1_1 : Nat) (l1_1 : List (S31)) (a1_2 : Int) (r : Bool) (w : World) (hr0_7 : Kd.C (Kd.int .i64) w A0_7 l0_7.length l0_7) (hc0_7 : l0_7.length ≤ c0_7) (hr1_1 : Kd.C k31 w A1_1 l1_1.length l1_1) (hc1_1 : l1_1.length ≤ c1_1) (h : code_parts_7.f a0_0 a0_1 a0_2 a0_3 a0_4 a0_5 a0_6 l0_7 a1_0 l1_1 a1_2 = some r) :
  Calls Tryz.prog 51 #[.agg #[.int .i64 a0_0, .int .i64 a0_1, .int .i64 a0_2, .int .i64 a0_3, .int .i64 a0_4, .string a0_5, .int .i64 a0_6, .slice A0_7 l0_7.length c0_7], .agg #[.int .i64 a1_0, .slice A1_1 l1_1.length c1_1, .int .i64 a1_2]] w fun e w' => e = .returned (.bool r) ∧ Below w.heap.size w w' := by
 have hu31 := Tryz.underlying31
 have hu49 := Tryz.underlying49
 have hu83 := Tryz.underlying83
 have HR0_7 := Aside0.mk hr0_7
 have HC0_7 := Aside0.mk hc0_7
 clear hr0_7 hc0_7
 have HR1_1 := Aside0.mk hr1_1
 have HC1_1 := Aside0.mk hc1_1
 clear hr1_1 hc1_1
 have HB := Aside0.mk (Below.refl w.heap.size w)
 have H : (if a0_2 = 5 then (some false) else ((value_Right.f a0_2 a0_6 a0_5).bind fun t212 => (some t212))) = some r := h
 clear h
 by_cases c3 : a0_2 = 5
 ·rw [if_pos c3] at H
  have c3b0 : (a0_2 == 5) = true := beq_iff_eq.mpr c3
  have c3b1 : (a0_2 != 5) = false := bne_eq_false_iff_eq.mpr c3
  clear c3
  obtain rfl := Option.some.inj H
  go_enter Tryz.func51, Tryz.ntmps51
  go_wp2_with (first | ((with_reducible refine gate_dst (N := 2) rfl ?_); refine zX (N := 2) (cs := #[.int .i64 a0_0, .int .i64 a0_1, .int .i64 a0_2, .int .i64 a0_3, .int .i64 a0_4, .string a0_5, .int .i64 a0_6, .slice A0_7 l0_7.length c0_7]) (t := 31) (h := ?_); intro gb210 hg w4 hbox hb; have BK210 := Aside0.mk hbox; have GW210 := Aside0.mk ((zS : w.heap.size ≤ gb210)); have GE210 := Aside0.mk ((zS : w.heap.size ≤ gb210)); replace HB := Aside0.mk (below_step zB hb); clear hb hbox hg) | ((with_reducible refine gate_dst (N := 3) rfl ?_); refine zX (N := 3) (cs := #[.int .i64 a1_0, .slice A1_1 l1_1.length c1_1, .int .i64 a1_2]) (t := 49) (h := ?_); intro gb211 hg w5 hbox hb; have BK211 := Aside0.mk hbox; have GW211 := Aside0.mk ((zT : w.heap.size ≤ gb211)); have GE211 := Aside0.mk ((zT : w.heap.size ≤ gb211)); have NB210_211 := Aside0.mk ((zL : gb210 ≠ gb211)); have NB211_210 := Aside0.mk ((zM : gb211 ≠ gb210)); replace BK210 := Aside0.mk (blk_below (g := gb210) zK hb); replace HB := Aside0.mk (below_step zG hb); clear hb hbox hg; have hnb6 := NB210_211.out; have hnc6 := NB211_210.out; obtain ⟨hcz7_0, hcz7_1, hcz7_2, hcz7_3, hcz7_4, hcz7_5, hcz7_6, hcz7_7, hfz7_0, hfz7_1, hfz7_2, hfz7_3, hfz7_4, hfz7_5, hfz7_6, hfz7_7⟩ := zd8 BK210.out (.int .i64 a0_0) (.int .i64 a0_1) (.int .i64 a0_2) (.int .i64 a0_3) (.int .i64 a0_4) (.string a0_5) (.int .i64 a0_6) (.slice A0_7 l0_7.length c0_7)))
  go_ret
  exact ⟨zE, zG⟩
 ·rw [if_neg c3] at H
  have c3b0 : (a0_2 == 5) = false := beq_eq_false_iff_ne.mpr c3
  have c3b1 : (a0_2 != 5) = true := bne_iff_ne.mpr c3
  obtain ⟨t212, A8, H⟩ := zO H
  obtain rfl := Option.some.inj H
  go_enter Tryz.func51, Tryz.ntmps51
  go_wp2_with (first | ((with_reducible refine gate_dst (N := 2) rfl ?_); refine zX (N := 2) (cs := #[.int .i64 a0_0, .int .i64 a0_1, .int .i64 a0_2, .int .i64 a0_3, .int .i64 a0_4, .string a0_5, .int .i64 a0_6, .slice A0_7 l0_7.length c0_7]) (t := 31) (h := ?_); intro gb210 hg w9 hbox hb; have BK210 := Aside0.mk hbox; have GW210 := Aside0.mk ((zS : w.heap.size ≤ gb210)); have GE210 := Aside0.mk ((zS : w.heap.size ≤ gb210)); replace HB := Aside0.mk (below_step zB hb); clear hb hbox hg) | ((with_reducible refine gate_dst (N := 3) rfl ?_); refine zX (N := 3) (cs := #[.int .i64 a1_0, .slice A1_1 l1_1.length c1_1, .int .i64 a1_2]) (t := 49) (h := ?_); intro gb211 hg w10 hbox hb; have BK211 := Aside0.mk hbox; have GW211 := Aside0.mk ((zT : w.heap.size ≤ gb211)); have GE211 := Aside0.mk ((zT : w.heap.size ≤ gb211)); have NB210_211 := Aside0.mk ((zL : gb210 ≠ gb211)); have NB211_210 := Aside0.mk ((zM : gb211 ≠ gb210)); replace BK210 := Aside0.mk (blk_below (g := gb210) zK hb); replace HB := Aside0.mk (below_step zG hb); clear hb hbox hg; have hnb11 := NB210_211.out; have hnc11 := NB211_210.out; obtain ⟨hcz12_0, hcz12_1, hcz12_2, hcz12_3, hcz12_4, hcz12_5, hcz12_6, hcz12_7, hfz12_0, hfz12_1, hfz12_2, hfz12_3, hfz12_4, hfz12_5, hfz12_6, hfz12_7⟩ := zd8 BK210.out (.int .i64 a0_0) (.int .i64 a0_1) (.int .i64 a0_2) (.int .i64 a0_3) (.int .i64 a0_4) (.string a0_5) (.int .i64 a0_6) (.slice A0_7 l0_7.length c0_7)) | (go_at_call 52; (with_reducible refine (value_Right.calls a0_2 a0_6 a0_5 t212 _ A8.out).mono ?_); rintro e w13 ⟨rfl, hb⟩; replace BK210 := Aside0.mk (blk_below (g := gb210) zK hb); replace BK211 := Aside0.mk (blk_below (g := gb211) zK hb); replace HB := Aside0.mk (below_step zG hb); (try clear hb)))
  go_ret
  exact ⟨zE, zG⟩
end Go.Proofs.YtjlhhjfmekjbhaaGreatDoor.Pq

namespace Go.Proofs.YtjlhhjfmekjbhaaGreatDoor.Pq
open Go.RowKit Go.Proofs.YtjlhhjfmekjbhaaGreatDoorW.PrintWords Go.Proofs.YtjlhhjfmekjbhaaGreatDoorW.PrintLast Go.Proofs.YtjlhhjfmekjbhaaGreatDoorW.PrintMore
set_option linter.unusedVariables false
set_option linter.unusedSimpArgs false
/-! ### code_parts_8: function 53 -/
def code_parts_8.f (s0_0 : Int) (s0_1 : Int) (s0_2 : Int) (s0_3 : Int) (s0_4 : Int) (s0_5 : ByteArray) (s0_6 : Int) (s0_7 : List Int) : Option (Int × Int × Int × Int × Int × ByteArray × Int) := some (s0_0, s0_1, 0, s0_3, s0_4, (⟨#[]⟩ : ByteArray), 0)
set_option maxHeartbeats 8000000 in
set_option maxRecDepth 100000 in
theorem code_parts_8.calls (g : Nat) (s0_0 : Int) (s0_1 : Int) (s0_2 : Int) (s0_3 : Int) (s0_4 : Int) (s0_5 : ByteArray) (s0_6 : Int) (s0_7 : List Int) (r1 : Int) (r2 : Int) (r3 : Int) (r4 : Int) (r5 : Int) (r6 : ByteArray) (r7 : Int) (w0 w : World) (hI : IsS31 w0 w g s0_0 s0_1 s0_2 s0_3 s0_4 s0_5 s0_6 s0_7) (hB : Below w0.heap.size w0 w) (h : code_parts_8.f s0_0 s0_1 s0_2 s0_3 s0_4 s0_5 s0_6 s0_7 = some (r1, r2, r3, r4, r5, r6, r7)) :
  Calls Tryz.prog 53 #[.pointer (some ⟨g, 0, none⟩)] w fun e w' => e = .returned (.tuple #[]) ∧ IsS31 w0 w' g r1 r2 r3 r4 r5 r6 r7 s0_7 ∧ Below w0.heap.size w0 w' ∧ KeepBut w w' g none := by
 have HI0 := Aside0.mk hI
 have HK := Aside0.mk (KeepBut.refl w g none)
 have HL := Aside0.mk hB.size
 clear hI
 have HW0 := Aside0.mk hB.size
 have HB := Aside0.mk hB
 clear hB
 have H : (some (s0_0, s0_1, 0, s0_3, s0_4, (⟨#[]⟩ : ByteArray), 0)) = some (r1, r2, r3, r4, r5, r6, r7) := h
 clear h
 simp only [Option.some.injEq, Prod.mk.injEq] at H
 obtain ⟨rfl, rfl, rfl, rfl, rfl, rfl, rfl⟩ := H
 obtain ⟨ASz2_7, cSz2_7, HGz2, hgz2, HSz2_7⟩ := HI0.out
 have hcz2_0 := cellS31_0 HGz2
 have hcz2_1 := cellS31_1 HGz2
 have hcz2_2 := cellS31_2 HGz2
 have hcz2_3 := cellS31_3 HGz2
 have hcz2_4 := cellS31_4 HGz2
 have hcz2_5 := cellS31_5 HGz2
 have hcz2_6 := cellS31_6 HGz2
 have hcz2_7 := cellS31_7 HGz2
 have hfz2_0 := blk_frozen HGz2 0
 have hfz2_1 := blk_frozen HGz2 1
 have hfz2_2 := blk_frozen HGz2 2
 have hfz2_3 := blk_frozen HGz2 3
 have hfz2_4 := blk_frozen HGz2 4
 have hfz2_5 := blk_frozen HGz2 5
 have hfz2_6 := blk_frozen HGz2 6
 clear HGz2 hgz2
 go_enter Tryz.func53, Tryz.ntmps53
 go_wp2
 first | go_end0 | ((try simp only [Exit.inBlock, Exit.then]); refine bodyPost_ret (results_none rfl _ _ _) rfl ?_)
 exact ⟨zE, by repeat (first | (with_reducible first | exact HI0.out | apply IsS31.alloc | apply IsS31.drewN | apply IsS31.drew | apply IsS31.set_0 | apply IsS31.set_1 | apply IsS31.set_2 | apply IsS31.set_3 | apply IsS31.set_4 | apply IsS31.set_5 | apply IsS31.set_6) | exact HI0.out), by repeat (first | (with_reducible first | exact HB.out | apply below_alloc | apply pw_below_drewN | apply below_drew1 | refine below_set ?_ (IsS31.ge HI0.out)) | exact HB.out), by repeat (first | (with_reducible first | exact HK.out | apply KeepBut.set_ | apply keep_drewN | apply keep_drew | apply keep_alloc) | exact HK.out)⟩
/-! ### code_parts_9: function 55 -/
def code_parts_9.f (a0_0 : Int) (a0_1 : Int) (a0_2 : Int) (a0_3 : Int) (a0_4 : Int) (a0_5 : ByteArray) (a0_6 : Int) (l0_7 : List Int) (a1_0 : Int) (l1_1 : List (S31)) (a1_2 : Int) : Option (Bool) := if a0_3 = (-1) then (some true) else ((code_isReg.f a0_3 a1_0 l1_1 a1_2).bind fun t215 => (some t215))
set_option maxHeartbeats 8000000 in
set_option maxRecDepth 100000 in
theorem code_parts_9.calls (a0_0 : Int) (a0_1 : Int) (a0_2 : Int) (a0_3 : Int) (a0_4 : Int) (a0_5 : ByteArray) (a0_6 : Int) (A0_7 : Option Addr) (c0_7 : Nat) (l0_7 : List Int) (a1_0 : Int) (A1_1 : Option Addr) (c1_1 : Nat) (l1_1 : List (S31)) (a1_2 : Int) (r : Bool) (w : World) (hr0_7 : Kd.C (Kd.int .i64) w A0_7 l0_7.length l0_7) (hc0_7 : l0_7.length ≤ c0_7) (hr1_1 : Kd.C k31 w A1_1 l1_1.length l1_1) (hc1_1 : l1_1.length ≤ c1_1) (h : code_parts_9.f a0_0 a0_1 a0_2 a0_3 a0_4 a0_5 a0_6 l0_7 a1_0 l1_1 a1_2 = some r) :
  Calls Tryz.prog 55 #[.agg #[.int .i64 a0_0, .int .i64 a0_1, .int .i64 a0_2, .int .i64 a0_3, .int .i64 a0_4, .string a0_5, .int .i64 a0_6, .slice A0_7 l0_7.length c0_7], .agg #[.int .i64 a1_0, .slice A1_1 l1_1.length c1_1, .int .i64 a1_2]] w fun e w' => e = .returned (.bool r) ∧ Below w.heap.size w w' := by
 have hu31 := Tryz.underlying31
 have hu49 := Tryz.underlying49
 have HR0_7 := Aside0.mk hr0_7
 have HC0_7 := Aside0.mk hc0_7
 clear hr0_7 hc0_7
 have HR1_1 := Aside0.mk hr1_1
 have HC1_1 := Aside0.mk hc1_1
 clear hr1_1 hc1_1
 have HB := Aside0.mk (Below.refl w.heap.size w)
 have H : (if a0_3 = (-1) then (some true) else ((code_isReg.f a0_3 a1_0 l1_1 a1_2).bind fun t215 => (some t215))) = some r := h
 clear h
 by_cases c3 : a0_3 = (-1)
 ·rw [if_pos c3] at H
  have c3b0 : (a0_3 == (-1)) = true := beq_iff_eq.mpr c3
  have c3b1 : (a0_3 != (-1)) = false := bne_eq_false_iff_eq.mpr c3
  clear c3
  obtain rfl := Option.some.inj H
  go_enter Tryz.func55, Tryz.ntmps55
  go_wp2_with (first | ((with_reducible refine gate_dst (N := 2) rfl ?_); refine zX (N := 2) (cs := #[.int .i64 a0_0, .int .i64 a0_1, .int .i64 a0_2, .int .i64 a0_3, .int .i64 a0_4, .string a0_5, .int .i64 a0_6, .slice A0_7 l0_7.length c0_7]) (t := 31) (h := ?_); intro gb213 hg w4 hbox hb; have BK213 := Aside0.mk hbox; have GW213 := Aside0.mk ((zS : w.heap.size ≤ gb213)); have GE213 := Aside0.mk ((zS : w.heap.size ≤ gb213)); replace HB := Aside0.mk (below_step zB hb); clear hb hbox hg) | ((with_reducible refine gate_dst (N := 3) rfl ?_); refine zX (N := 3) (cs := #[.int .i64 a1_0, .slice A1_1 l1_1.length c1_1, .int .i64 a1_2]) (t := 49) (h := ?_); intro gb214 hg w5 hbox hb; have BK214 := Aside0.mk hbox; have GW214 := Aside0.mk ((zT : w.heap.size ≤ gb214)); have GE214 := Aside0.mk ((zT : w.heap.size ≤ gb214)); have NB213_214 := Aside0.mk ((zL : gb213 ≠ gb214)); have NB214_213 := Aside0.mk ((zM : gb214 ≠ gb213)); replace BK213 := Aside0.mk (blk_below (g := gb213) zK hb); replace HB := Aside0.mk (below_step zG hb); clear hb hbox hg; have hnb6 := NB213_214.out; have hnc6 := NB214_213.out; obtain ⟨hcz7_0, hcz7_1, hcz7_2, hcz7_3, hcz7_4, hcz7_5, hcz7_6, hcz7_7, hfz7_0, hfz7_1, hfz7_2, hfz7_3, hfz7_4, hfz7_5, hfz7_6, hfz7_7⟩ := zd8 BK213.out (.int .i64 a0_0) (.int .i64 a0_1) (.int .i64 a0_2) (.int .i64 a0_3) (.int .i64 a0_4) (.string a0_5) (.int .i64 a0_6) (.slice A0_7 l0_7.length c0_7)))
  go_ret
  exact ⟨zE, zG⟩
 ·rw [if_neg c3] at H
  have c3b0 : (a0_3 == (-1)) = false := beq_eq_false_iff_ne.mpr c3
  have c3b1 : (a0_3 != (-1)) = true := bne_iff_ne.mpr c3
  obtain ⟨t215, A8, H⟩ := zO H
  obtain rfl := Option.some.inj H
  go_enter Tryz.func55, Tryz.ntmps55
  go_wp2_with (first | ((with_reducible refine gate_dst (N := 2) rfl ?_); refine zX (N := 2) (cs := #[.int .i64 a0_0, .int .i64 a0_1, .int .i64 a0_2, .int .i64 a0_3, .int .i64 a0_4, .string a0_5, .int .i64 a0_6, .slice A0_7 l0_7.length c0_7]) (t := 31) (h := ?_); intro gb213 hg w9 hbox hb; have BK213 := Aside0.mk hbox; have GW213 := Aside0.mk ((zS : w.heap.size ≤ gb213)); have GE213 := Aside0.mk ((zS : w.heap.size ≤ gb213)); replace HB := Aside0.mk (below_step zB hb); clear hb hbox hg) | ((with_reducible refine gate_dst (N := 3) rfl ?_); refine zX (N := 3) (cs := #[.int .i64 a1_0, .slice A1_1 l1_1.length c1_1, .int .i64 a1_2]) (t := 49) (h := ?_); intro gb214 hg w10 hbox hb; have BK214 := Aside0.mk hbox; have GW214 := Aside0.mk ((zT : w.heap.size ≤ gb214)); have GE214 := Aside0.mk ((zT : w.heap.size ≤ gb214)); have NB213_214 := Aside0.mk ((zL : gb213 ≠ gb214)); have NB214_213 := Aside0.mk ((zM : gb214 ≠ gb213)); replace BK213 := Aside0.mk (blk_below (g := gb213) zK hb); replace HB := Aside0.mk (below_step zG hb); clear hb hbox hg; have hnb11 := NB213_214.out; have hnc11 := NB214_213.out; obtain ⟨hcz12_0, hcz12_1, hcz12_2, hcz12_3, hcz12_4, hcz12_5, hcz12_6, hcz12_7, hfz12_0, hfz12_1, hfz12_2, hfz12_3, hfz12_4, hfz12_5, hfz12_6, hfz12_7⟩ := zd8 BK213.out (.int .i64 a0_0) (.int .i64 a0_1) (.int .i64 a0_2) (.int .i64 a0_3) (.int .i64 a0_4) (.string a0_5) (.int .i64 a0_6) (.slice A0_7 l0_7.length c0_7); obtain ⟨hcz13_0, hcz13_1, hcz13_2, hfz13_0, hfz13_1, hfz13_2⟩ := zd3 BK214.out (.int .i64 a1_0) (.slice A1_1 l1_1.length c1_1) (.int .i64 a1_2)) | (go_at_call 50; (with_reducible refine (code_isReg.calls a0_3 a1_0 _ _ l1_1 a1_2 t215 _ ?side1 ?side2 A8.out).mono ?_); (case side1 => repeat (first | exact (Kd.C_below HR1_1.out HB.out) | (with_reducible refine Kd.C_alloc ?_ _) | (with_reducible refine Kd.C_drewN ?_ _) | (with_reducible refine Kd.C_drew ?_))); (case side2 => exact HC1_1.out); rintro e w14 ⟨rfl, hb⟩; replace BK213 := Aside0.mk (blk_below (g := gb213) zK hb); replace BK214 := Aside0.mk (blk_below (g := gb214) zK hb); replace HB := Aside0.mk (below_step zG hb); (try clear hb)))
  go_ret
  exact ⟨zE, zG⟩
end Go.Proofs.YtjlhhjfmekjbhaaGreatDoor.Pq

namespace Go.Proofs.YtjlhhjfmekjbhaaGreatDoor.Pq
open Go.RowKit Go.Proofs.YtjlhhjfmekjbhaaGreatDoor.Vb Go.Proofs.YtjlhhjfmekjbhaaGreatDoorW.PrintWords Go.Proofs.YtjlhhjfmekjbhaaGreatDoorW.PrintLast Go.Proofs.YtjlhhjfmekjbhaaGreatDoorW.PrintMore
set_option linter.unusedVariables false
set_option linter.unusedSimpArgs false
/-! ### code_parts_10: function 57 -/
def code_parts_10.f (s0_0 : Int) (s0_1 : Int) (s0_2 : Int) (s0_3 : Int) (s0_4 : Int) (s0_5 : ByteArray) (s0_6 : Int) (s0_7 : List Int) : Option (Int × Int × Int × Int × Int × ByteArray × Int) := some (s0_0, s0_1, s0_2, s0_3, 0, s0_5, s0_6)
set_option maxHeartbeats 8000000 in
set_option maxRecDepth 100000 in
theorem code_parts_10.calls (g : Nat) (s0_0 : Int) (s0_1 : Int) (s0_2 : Int) (s0_3 : Int) (s0_4 : Int) (s0_5 : ByteArray) (s0_6 : Int) (s0_7 : List Int) (r1 : Int) (r2 : Int) (r3 : Int) (r4 : Int) (r5 : Int) (r6 : ByteArray) (r7 : Int) (w0 w : World) (hI : IsS31 w0 w g s0_0 s0_1 s0_2 s0_3 s0_4 s0_5 s0_6 s0_7) (hB : Below w0.heap.size w0 w) (h : code_parts_10.f s0_0 s0_1 s0_2 s0_3 s0_4 s0_5 s0_6 s0_7 = some (r1, r2, r3, r4, r5, r6, r7)) :
  Calls Tryz.prog 57 #[.pointer (some ⟨g, 0, none⟩)] w fun e w' => e = .returned (.tuple #[]) ∧ IsS31 w0 w' g r1 r2 r3 r4 r5 r6 r7 s0_7 ∧ Below w0.heap.size w0 w' ∧ KeepBut w w' g none := by
 have HI0 := Aside0.mk hI
 have HK := Aside0.mk (KeepBut.refl w g none)
 have HL := Aside0.mk hB.size
 clear hI
 have HW0 := Aside0.mk hB.size
 have HB := Aside0.mk hB
 clear hB
 have H : (some (s0_0, s0_1, s0_2, s0_3, 0, s0_5, s0_6)) = some (r1, r2, r3, r4, r5, r6, r7) := h
 clear h
 simp only [Option.some.injEq, Prod.mk.injEq] at H
 obtain ⟨rfl, rfl, rfl, rfl, rfl, rfl, rfl⟩ := H
 obtain ⟨ASz2_7, cSz2_7, HGz2, hgz2, HSz2_7⟩ := HI0.out
 have hcz2_0 := cellS31_0 HGz2
 have hcz2_1 := cellS31_1 HGz2
 have hcz2_2 := cellS31_2 HGz2
 have hcz2_3 := cellS31_3 HGz2
 have hcz2_4 := cellS31_4 HGz2
 have hcz2_5 := cellS31_5 HGz2
 have hcz2_6 := cellS31_6 HGz2
 have hcz2_7 := cellS31_7 HGz2
 have hfz2_0 := blk_frozen HGz2 0
 have hfz2_1 := blk_frozen HGz2 1
 have hfz2_2 := blk_frozen HGz2 2
 have hfz2_3 := blk_frozen HGz2 3
 have hfz2_4 := blk_frozen HGz2 4
 have hfz2_5 := blk_frozen HGz2 5
 have hfz2_6 := blk_frozen HGz2 6
 clear HGz2 hgz2
 go_enter Tryz.func57, Tryz.ntmps57
 go_wp2
 first | go_end0 | ((try simp only [Exit.inBlock, Exit.then]); refine bodyPost_ret (results_none rfl _ _ _) rfl ?_)
 exact ⟨zE, by repeat (first | (with_reducible first | exact HI0.out | apply IsS31.alloc | apply IsS31.drewN | apply IsS31.drew | apply IsS31.set_0 | apply IsS31.set_1 | apply IsS31.set_2 | apply IsS31.set_3 | apply IsS31.set_4 | apply IsS31.set_5 | apply IsS31.set_6) | exact HI0.out), by repeat (first | (with_reducible first | exact HB.out | apply below_alloc | apply pw_below_drewN | apply below_drew1 | refine below_set ?_ (IsS31.ge HI0.out)) | exact HB.out), by repeat (first | (with_reducible first | exact HK.out | apply KeepBut.set_ | apply keep_drewN | apply keep_drew | apply keep_alloc) | exact HK.out)⟩
/-! ### code_parts_11: function 58 -/
def code_parts_11.f (a0_0 : Int) (a0_1 : Int) (a0_2 : Int) (a0_3 : Int) (a0_4 : Int) (a0_5 : ByteArray) (a0_6 : Int) (l0_7 : List Int) (a1_0 : Int) (l1_1 : List (S31)) (a1_2 : Int) : Option (Bool) := some true
set_option maxHeartbeats 8000000 in
set_option maxRecDepth 100000 in
theorem code_parts_11.calls (a0_0 : Int) (a0_1 : Int) (a0_2 : Int) (a0_3 : Int) (a0_4 : Int) (a0_5 : ByteArray) (a0_6 : Int) (A0_7 : Option Addr) (c0_7 : Nat) (l0_7 : List Int) (a1_0 : Int) (A1_1 : Option Addr) (c1_1 : Nat) (l1_1 : List (S31)) (a1_2 : Int) (r : Bool) (w : World) (hr0_7 : Kd.C (Kd.int .i64) w A0_7 l0_7.length l0_7) (hc0_7 : l0_7.length ≤ c0_7) (hr1_1 : Kd.C k31 w A1_1 l1_1.length l1_1) (hc1_1 : l1_1.length ≤ c1_1) (h : code_parts_11.f a0_0 a0_1 a0_2 a0_3 a0_4 a0_5 a0_6 l0_7 a1_0 l1_1 a1_2 = some r) :
  Calls Tryz.prog 58 #[.agg #[.int .i64 a0_0, .int .i64 a0_1, .int .i64 a0_2, .int .i64 a0_3, .int .i64 a0_4, .string a0_5, .int .i64 a0_6, .slice A0_7 l0_7.length c0_7], .agg #[.int .i64 a1_0, .slice A1_1 l1_1.length c1_1, .int .i64 a1_2]] w fun e w' => e = .returned (.bool r) ∧ Below w.heap.size w w' := by
 have hu31 := Tryz.underlying31
 have hu49 := Tryz.underlying49
 have HR0_7 := Aside0.mk hr0_7
 have HC0_7 := Aside0.mk hc0_7
 clear hr0_7 hc0_7
 have HR1_1 := Aside0.mk hr1_1
 have HC1_1 := Aside0.mk hc1_1
 clear hr1_1 hc1_1
 have HB := Aside0.mk (Below.refl w.heap.size w)
 have H : (some true) = some r := h
 clear h
 obtain rfl := Option.some.inj H
 go_enter Tryz.func58, Tryz.ntmps58
 go_wp2_with (first | ((with_reducible refine gate_dst (N := 2) rfl ?_); refine zX (N := 2) (cs := #[.int .i64 a0_0, .int .i64 a0_1, .int .i64 a0_2, .int .i64 a0_3, .int .i64 a0_4, .string a0_5, .int .i64 a0_6, .slice A0_7 l0_7.length c0_7]) (t := 31) (h := ?_); intro gb216 hg w3 hbox hb; have BK216 := Aside0.mk hbox; have GW216 := Aside0.mk ((zS : w.heap.size ≤ gb216)); have GE216 := Aside0.mk ((zS : w.heap.size ≤ gb216)); replace HB := Aside0.mk (below_step zB hb); clear hb hbox hg) | ((with_reducible refine gate_dst (N := 3) rfl ?_); refine zX (N := 3) (cs := #[.int .i64 a1_0, .slice A1_1 l1_1.length c1_1, .int .i64 a1_2]) (t := 49) (h := ?_); intro gb217 hg w4 hbox hb; have BK217 := Aside0.mk hbox; have GW217 := Aside0.mk ((zT : w.heap.size ≤ gb217)); have GE217 := Aside0.mk ((zT : w.heap.size ≤ gb217)); have NB216_217 := Aside0.mk ((zL : gb216 ≠ gb217)); have NB217_216 := Aside0.mk ((zM : gb217 ≠ gb216)); replace BK216 := Aside0.mk (blk_below (g := gb216) zK hb); replace HB := Aside0.mk (below_step zG hb); clear hb hbox hg))
 go_ret
 exact ⟨zE, zG⟩
/-! ### code_parts_12: function 59 -/
def code_parts_12.f (a0_0 : Int) (a0_1 : Int) (a0_2 : Int) (a0_3 : Int) (a0_4 : Int) (a0_5 : ByteArray) (a0_6 : Int) (l0_7 : List Int) (a1_0 : Int) (l1_1 : List (S31)) (a1_2 : Int) : Option (Bool) := (value_Two.f a0_5 0 0 (⟨#[]⟩ : ByteArray) 0 0 (⟨#[]⟩ : ByteArray)).bind fun bt220 => (some (bt220.2.2.2 == 0))
set_option maxHeartbeats 8000000 in
set_option maxRecDepth 100000 in
theorem code_parts_12.calls (a0_0 : Int) (a0_1 : Int) (a0_2 : Int) (a0_3 : Int) (a0_4 : Int) (a0_5 : ByteArray) (a0_6 : Int) (A0_7 : Option Addr) (c0_7 : Nat) (l0_7 : List Int) (a1_0 : Int) (A1_1 : Option Addr) (c1_1 : Nat) (l1_1 : List (S31)) (a1_2 : Int) (r : Bool) (w : World) (hL : Laid w) (hr0_7 : Kd.C (Kd.int .i64) w A0_7 l0_7.length l0_7) (hc0_7 : l0_7.length ≤ c0_7) (hr1_1 : Kd.C k31 w A1_1 l1_1.length l1_1) (hc1_1 : l1_1.length ≤ c1_1) (h : code_parts_12.f a0_0 a0_1 a0_2 a0_3 a0_4 a0_5 a0_6 l0_7 a1_0 l1_1 a1_2 = some r) :
  Calls Tryz.prog 59 #[.agg #[.int .i64 a0_0, .int .i64 a0_1, .int .i64 a0_2, .int .i64 a0_3, .int .i64 a0_4, .string a0_5, .int .i64 a0_6, .slice A0_7 l0_7.length c0_7], .agg #[.int .i64 a1_0, .slice A1_1 l1_1.length c1_1, .int .i64 a1_2]] w fun e w' => e = .returned (.bool r) ∧ Below w.heap.size w w' := by
 have HL := Aside0.mk hL
 clear hL
 have hu31 := Tryz.underlying31
 have hu49 := Tryz.underlying49
 have hu83 := Tryz.underlying83
 have HR0_7 := Aside0.mk hr0_7
 have HC0_7 := Aside0.mk hc0_7
 clear hr0_7 hc0_7
 have HR1_1 := Aside0.mk hr1_1
 have HC1_1 := Aside0.mk hc1_1
 clear hr1_1 hc1_1
 have HB := Aside0.mk (Below.refl w.heap.size w)
 have H : ((value_Two.f a0_5 0 0 (⟨#[]⟩ : ByteArray) 0 0 (⟨#[]⟩ : ByteArray)).bind fun bt220 => (some (bt220.2.2.2 == 0))) = some r := h
 clear h
 replace H := Option.bind_eq_some_iff.mp H
 obtain ⟨⟨t220, t221, t222, t223⟩, A30, H⟩ := H
 replace H : (some (t223 == 0)) = some r := H
 have A3 := Aside0.mk A30
 clear A30
 obtain rfl := Option.some.inj H
 go_enter Tryz.func59, Tryz.ntmps59
 go_wp2_with (first | ((with_reducible refine gate_dst (N := 2) rfl ?_); refine zX (N := 2) (cs := #[.int .i64 a0_0, .int .i64 a0_1, .int .i64 a0_2, .int .i64 a0_3, .int .i64 a0_4, .string a0_5, .int .i64 a0_6, .slice A0_7 l0_7.length c0_7]) (t := 31) (h := ?_); intro gb218 hg w4 hbox hb; have BK218 := Aside0.mk hbox; have GW218 := Aside0.mk ((zS : w.heap.size ≤ gb218)); have GE218 := Aside0.mk ((zS : w.heap.size ≤ gb218)); replace HB := Aside0.mk (below_step zB hb); clear hb hbox hg) | ((with_reducible refine gate_dst (N := 3) rfl ?_); refine zX (N := 3) (cs := #[.int .i64 a1_0, .slice A1_1 l1_1.length c1_1, .int .i64 a1_2]) (t := 49) (h := ?_); intro gb219 hg w5 hbox hb; have BK219 := Aside0.mk hbox; have GW219 := Aside0.mk ((zT : w.heap.size ≤ gb219)); have GE219 := Aside0.mk ((zT : w.heap.size ≤ gb219)); have NB218_219 := Aside0.mk ((zL : gb218 ≠ gb219)); have NB219_218 := Aside0.mk ((zM : gb219 ≠ gb218)); replace BK218 := Aside0.mk (blk_below (g := gb218) zK hb); replace HB := Aside0.mk (below_step zG hb); clear hb hbox hg; have hnb6 := NB218_219.out; have hnc6 := NB219_218.out; obtain ⟨hcz7_0, hcz7_1, hcz7_2, hcz7_3, hcz7_4, hcz7_5, hcz7_6, hcz7_7, hfz7_0, hfz7_1, hfz7_2, hfz7_3, hfz7_4, hfz7_5, hfz7_6, hfz7_7⟩ := zd8 BK218.out (.int .i64 a0_0) (.int .i64 a0_1) (.int .i64 a0_2) (.int .i64 a0_3) (.int .i64 a0_4) (.string a0_5) (.int .i64 a0_6) (.slice A0_7 l0_7.length c0_7)) | ((with_reducible refine gate_callee (f := 60) rfl ?_); refine goesL_ (some 12) rfl rfl Tryz.func60 (by kernel_rfl) rfl #[.string a0_5, .agg #[.int .i64 0, .int .i64 0, .string (⟨#[]⟩ : ByteArray)], .agg #[.int .i64 0, .int .i64 0, .string (⟨#[]⟩ : ByteArray)]] rfl zP ?_; (with_reducible refine (value_Two.calls (hL := ?sideL) a0_5 0 0 (⟨#[]⟩ : ByteArray) 0 0 (⟨#[]⟩ : ByteArray) t220 t221 t222 t223 _ A3.out).mono ?_); (case sideL => exact Laid.below HL.out zG); rintro e w8 ⟨rfl, hb⟩; refine ⟨_, rfl, ?_⟩; replace BK218 := Aside0.mk (blk_below (g := gb218) zK hb); replace BK219 := Aside0.mk (blk_below (g := gb219) zK hb); replace HB := Aside0.mk (below_step zG hb); (try clear hb)) | ((with_reducible refine gate_dst (N := 5) rfl ?_); refine zX (N := 5) (cs := #[.int .i64 0, .int .i64 0, .string (⟨#[]⟩ : ByteArray)]) (t := 83) (h := ?_); intro gb224 hg w9 hbox hb; have BK224 := Aside0.mk hbox; have GW224 := Aside0.mk ((zT : w.heap.size ≤ gb224)); have GE224 := Aside0.mk ((zT : w.heap.size ≤ gb224)); have NB218_224 := Aside0.mk ((zL : gb218 ≠ gb224)); have NB224_218 := Aside0.mk ((zM : gb224 ≠ gb218)); have NB219_224 := Aside0.mk ((zL : gb219 ≠ gb224)); have NB224_219 := Aside0.mk ((zM : gb224 ≠ gb219)); replace BK218 := Aside0.mk (blk_below (g := gb218) zK hb); replace BK219 := Aside0.mk (blk_below (g := gb219) zK hb); replace HB := Aside0.mk (below_step zG hb); clear hb hbox hg; have hnb10 := NB224_218.out; have hnc10 := NB218_224.out; have hnb11 := NB224_219.out; have hnc11 := NB219_224.out; obtain ⟨hcz12_0, hcz12_1, hcz12_2, hfz12_0, hfz12_1, hfz12_2⟩ := zd3 BK224.out (.int .i64 0) (.int .i64 0) (.string (⟨#[]⟩ : ByteArray))))
 go_ret
 exact ⟨zE, zG⟩
end Go.Proofs.YtjlhhjfmekjbhaaGreatDoor.Pq

namespace Go.Proofs.YtjlhhjfmekjbhaaGreatDoor.Pq
open Go.RowKit Go.Proofs.YtjlhhjfmekjbhaaGreatDoorW.PrintWords Go.Proofs.YtjlhhjfmekjbhaaGreatDoorW.PrintLast Go.Proofs.YtjlhhjfmekjbhaaGreatDoorW.PrintMore
set_option linter.unusedVariables false
set_option linter.unusedSimpArgs false
/-! ### code_parts_15: function 67 -/
def code_parts_15.f (a0_0 : Int) (l0_1 : List (S31)) (a0_2 : Int) : Option (Int) := some (l0_1.length : Int)
set_option maxHeartbeats 8000000 in
set_option maxRecDepth 100000 in
theorem code_parts_15.calls (a0_0 : Int) (A0_1 : Option Addr) (c0_1 : Nat) (l0_1 : List (S31)) (a0_2 : Int) (r : Int) (w : World) (hr0_1 : Kd.C k31 w A0_1 l0_1.length l0_1) (hc0_1 : l0_1.length ≤ c0_1) (h : code_parts_15.f a0_0 l0_1 a0_2 = some r) :
  Calls Tryz.prog 67 #[.agg #[.int .i64 a0_0, .slice A0_1 l0_1.length c0_1, .int .i64 a0_2]] w fun e w' => e = .returned (.int .i64 r) ∧ Below w.heap.size w w' := by
 have hu49 := Tryz.underlying49
 have HR0_1 := Aside0.mk hr0_1
 have HC0_1 := Aside0.mk hc0_1
 clear hr0_1 hc0_1
 have HB := Aside0.mk (Below.refl w.heap.size w)
 have H : (some (l0_1.length : Int)) = some r := h
 clear h
 obtain rfl := Option.some.inj H
 go_enter Tryz.func67, Tryz.ntmps67
 go_wp2_with (first | ((with_reducible refine gate_dst (N := 1) rfl ?_); refine zX (N := 1) (cs := #[.int .i64 a0_0, .slice A0_1 l0_1.length c0_1, .int .i64 a0_2]) (t := 49) (h := ?_); intro gb225 hg w2 hbox hb; have BK225 := Aside0.mk hbox; have GW225 := Aside0.mk ((zS : w.heap.size ≤ gb225)); have GE225 := Aside0.mk ((zS : w.heap.size ≤ gb225)); replace HB := Aside0.mk (below_step zB hb); clear hb hbox hg; obtain ⟨hcz3_0, hcz3_1, hcz3_2, hfz3_0, hfz3_1, hfz3_2⟩ := zd3 BK225.out (.int .i64 a0_0) (.slice A0_1 l0_1.length c0_1) (.int .i64 a0_2)))
 go_ret
 exact ⟨zE, zG⟩
/-! ### code_parts_16: function 68 -/
def code_parts_16.f (a0_0 : Int) (l0_1 : List (S31)) (a0_2 : Int) : Option (Int) := some a0_2
set_option maxHeartbeats 8000000 in
set_option maxRecDepth 100000 in
theorem code_parts_16.calls (a0_0 : Int) (A0_1 : Option Addr) (c0_1 : Nat) (l0_1 : List (S31)) (a0_2 : Int) (r : Int) (w : World) (hr0_1 : Kd.C k31 w A0_1 l0_1.length l0_1) (hc0_1 : l0_1.length ≤ c0_1) (h : code_parts_16.f a0_0 l0_1 a0_2 = some r) :
  Calls Tryz.prog 68 #[.agg #[.int .i64 a0_0, .slice A0_1 l0_1.length c0_1, .int .i64 a0_2]] w fun e w' => e = .returned (.int .i64 r) ∧ Below w.heap.size w w' := by
 have hu49 := Tryz.underlying49
 have HR0_1 := Aside0.mk hr0_1
 have HC0_1 := Aside0.mk hc0_1
 clear hr0_1 hc0_1
 have HB := Aside0.mk (Below.refl w.heap.size w)
 have H : (some a0_2) = some r := h
 clear h
 obtain rfl := Option.some.inj H
 go_enter Tryz.func68, Tryz.ntmps68
 go_wp2_with (first | ((with_reducible refine gate_dst (N := 1) rfl ?_); refine zX (N := 1) (cs := #[.int .i64 a0_0, .slice A0_1 l0_1.length c0_1, .int .i64 a0_2]) (t := 49) (h := ?_); intro gb226 hg w2 hbox hb; have BK226 := Aside0.mk hbox; have GW226 := Aside0.mk ((zS : w.heap.size ≤ gb226)); have GE226 := Aside0.mk ((zS : w.heap.size ≤ gb226)); replace HB := Aside0.mk (below_step zB hb); clear hb hbox hg; obtain ⟨hcz3_0, hcz3_1, hcz3_2, hfz3_0, hfz3_1, hfz3_2⟩ := zd3 BK226.out (.int .i64 a0_0) (.slice A0_1 l0_1.length c0_1) (.int .i64 a0_2)))
 go_ret
 exact ⟨zE, zG⟩
/-! ### code_parts_17: function 69 -/
def code_parts_17.f (a0_0 : Int) (a0_1 : Int) (a0_2 : Int) (a0_3 : Int) (a0_4 : Int) (a0_5 : ByteArray) (a0_6 : Int) (l0_7 : List Int) (a1_0 : Int) (l1_1 : List (S31)) (a1_2 : Int) : Option (Bool) := if a0_6 ≥ 0 then (if (wrap64 (Int.tdiv a0_6 1000)) < a1_2 then (some (decide ((Int.tmod a0_6 1000) < 200))) else (some false)) else (some false)
set_option maxHeartbeats 8000000 in
set_option maxRecDepth 100000 in
theorem code_parts_17.calls (a0_0 : Int) (a0_1 : Int) (a0_2 : Int) (a0_3 : Int) (a0_4 : Int) (a0_5 : ByteArray) (a0_6 : Int) (A0_7 : Option Addr) (c0_7 : Nat) (l0_7 : List Int) (a1_0 : Int) (A1_1 : Option Addr) (c1_1 : Nat) (l1_1 : List (S31)) (a1_2 : Int) (r : Bool) (w : World) (hr0_7 : Kd.C (Kd.int .i64) w A0_7 l0_7.length l0_7) (hc0_7 : l0_7.length ≤ c0_7) (hr1_1 : Kd.C k31 w A1_1 l1_1.length l1_1) (hc1_1 : l1_1.length ≤ c1_1) (h : code_parts_17.f a0_0 a0_1 a0_2 a0_3 a0_4 a0_5 a0_6 l0_7 a1_0 l1_1 a1_2 = some r) :
  Calls Tryz.prog 69 #[.agg #[.int .i64 a0_0, .int .i64 a0_1, .int .i64 a0_2, .int .i64 a0_3, .int .i64 a0_4, .string a0_5, .int .i64 a0_6, .slice A0_7 l0_7.length c0_7], .agg #[.int .i64 a1_0, .slice A1_1 l1_1.length c1_1, .int .i64 a1_2]] w fun e w' => e = .returned (.bool r) ∧ Below w.heap.size w w' := by
 have hu31 := Tryz.underlying31
 have hu49 := Tryz.underlying49
 have HR0_7 := Aside0.mk hr0_7
 have HC0_7 := Aside0.mk hc0_7
 clear hr0_7 hc0_7
 have HR1_1 := Aside0.mk hr1_1
 have HC1_1 := Aside0.mk hc1_1
 clear hr1_1 hc1_1
 have HB := Aside0.mk (Below.refl w.heap.size w)
 have H : (if a0_6 ≥ 0 then (if (wrap64 (Int.tdiv a0_6 1000)) < a1_2 then (some (decide ((Int.tmod a0_6 1000) < 200))) else (some false)) else (some false)) = some r := h
 clear h
 by_cases c3 : a0_6 ≥ 0
 ·rw [if_pos c3] at H
  have c3b0 : decide (0 ≤ a0_6) = true := decide_eq_true c3
  clear c3
  by_cases c4 : (wrap64 (Int.tdiv a0_6 1000)) < a1_2
  ·rw [if_pos c4] at H
   have c4b0 : decide ((wrap64 (Int.tdiv a0_6 1000)) < a1_2) = true := decide_eq_true c4
   clear c4
   obtain rfl := Option.some.inj H
   go_enter Tryz.func69, Tryz.ntmps69
   go_wp2_with (first | ((with_reducible refine gate_dst (N := 2) rfl ?_); refine zX (N := 2) (cs := #[.int .i64 a0_0, .int .i64 a0_1, .int .i64 a0_2, .int .i64 a0_3, .int .i64 a0_4, .string a0_5, .int .i64 a0_6, .slice A0_7 l0_7.length c0_7]) (t := 31) (h := ?_); intro gb227 hg w5 hbox hb; have BK227 := Aside0.mk hbox; have GW227 := Aside0.mk ((zS : w.heap.size ≤ gb227)); have GE227 := Aside0.mk ((zS : w.heap.size ≤ gb227)); replace HB := Aside0.mk (below_step zB hb); clear hb hbox hg) | ((with_reducible refine gate_dst (N := 3) rfl ?_); refine zX (N := 3) (cs := #[.int .i64 a1_0, .slice A1_1 l1_1.length c1_1, .int .i64 a1_2]) (t := 49) (h := ?_); intro gb228 hg w6 hbox hb; have BK228 := Aside0.mk hbox; have GW228 := Aside0.mk ((zT : w.heap.size ≤ gb228)); have GE228 := Aside0.mk ((zT : w.heap.size ≤ gb228)); have NB227_228 := Aside0.mk ((zL : gb227 ≠ gb228)); have NB228_227 := Aside0.mk ((zM : gb228 ≠ gb227)); replace BK227 := Aside0.mk (blk_below (g := gb227) zK hb); replace HB := Aside0.mk (below_step zG hb); clear hb hbox hg; have hnb7 := NB227_228.out; have hnc7 := NB228_227.out; obtain ⟨hcz8_0, hcz8_1, hcz8_2, hcz8_3, hcz8_4, hcz8_5, hcz8_6, hcz8_7, hfz8_0, hfz8_1, hfz8_2, hfz8_3, hfz8_4, hfz8_5, hfz8_6, hfz8_7⟩ := zd8 BK227.out (.int .i64 a0_0) (.int .i64 a0_1) (.int .i64 a0_2) (.int .i64 a0_3) (.int .i64 a0_4) (.string a0_5) (.int .i64 a0_6) (.slice A0_7 l0_7.length c0_7); obtain ⟨hcz9_0, hcz9_1, hcz9_2, hfz9_0, hfz9_1, hfz9_2⟩ := zd3 BK228.out (.int .i64 a1_0) (.slice A1_1 l1_1.length c1_1) (.int .i64 a1_2)))
   go_ret
   exact ⟨zE, zG⟩
  ·rw [if_neg c4] at H
   have c4b0 : decide ((wrap64 (Int.tdiv a0_6 1000)) < a1_2) = false := decide_eq_false c4
   clear c4
   obtain rfl := Option.some.inj H
   go_enter Tryz.func69, Tryz.ntmps69
   go_wp2_with (first | ((with_reducible refine gate_dst (N := 2) rfl ?_); refine zX (N := 2) (cs := #[.int .i64 a0_0, .int .i64 a0_1, .int .i64 a0_2, .int .i64 a0_3, .int .i64 a0_4, .string a0_5, .int .i64 a0_6, .slice A0_7 l0_7.length c0_7]) (t := 31) (h := ?_); intro gb227 hg w10 hbox hb; have BK227 := Aside0.mk hbox; have GW227 := Aside0.mk ((zS : w.heap.size ≤ gb227)); have GE227 := Aside0.mk ((zS : w.heap.size ≤ gb227)); replace HB := Aside0.mk (below_step zB hb); clear hb hbox hg) | ((with_reducible refine gate_dst (N := 3) rfl ?_); refine zX (N := 3) (cs := #[.int .i64 a1_0, .slice A1_1 l1_1.length c1_1, .int .i64 a1_2]) (t := 49) (h := ?_); intro gb228 hg w11 hbox hb; have BK228 := Aside0.mk hbox; have GW228 := Aside0.mk ((zT : w.heap.size ≤ gb228)); have GE228 := Aside0.mk ((zT : w.heap.size ≤ gb228)); have NB227_228 := Aside0.mk ((zL : gb227 ≠ gb228)); have NB228_227 := Aside0.mk ((zM : gb228 ≠ gb227)); replace BK227 := Aside0.mk (blk_below (g := gb227) zK hb); replace HB := Aside0.mk (below_step zG hb); clear hb hbox hg; have hnb12 := NB227_228.out; have hnc12 := NB228_227.out; obtain ⟨hcz13_0, hcz13_1, hcz13_2, hcz13_3, hcz13_4, hcz13_5, hcz13_6, hcz13_7, hfz13_0, hfz13_1, hfz13_2, hfz13_3, hfz13_4, hfz13_5, hfz13_6, hfz13_7⟩ := zd8 BK227.out (.int .i64 a0_0) (.int .i64 a0_1) (.int .i64 a0_2) (.int .i64 a0_3) (.int .i64 a0_4) (.string a0_5) (.int .i64 a0_6) (.slice A0_7 l0_7.length c0_7); obtain ⟨hcz14_0, hcz14_1, hcz14_2, hfz14_0, hfz14_1, hfz14_2⟩ := zd3 BK228.out (.int .i64 a1_0) (.slice A1_1 l1_1.length c1_1) (.int .i64 a1_2)))
   go_ret
   exact ⟨zE, zG⟩
 ·rw [if_neg c3] at H
  have c3b0 : decide (0 ≤ a0_6) = false := decide_eq_false c3
  clear c3
  obtain rfl := Option.some.inj H
  go_enter Tryz.func69, Tryz.ntmps69
  go_wp2_with (first | ((with_reducible refine gate_dst (N := 2) rfl ?_); refine zX (N := 2) (cs := #[.int .i64 a0_0, .int .i64 a0_1, .int .i64 a0_2, .int .i64 a0_3, .int .i64 a0_4, .string a0_5, .int .i64 a0_6, .slice A0_7 l0_7.length c0_7]) (t := 31) (h := ?_); intro gb227 hg w15 hbox hb; have BK227 := Aside0.mk hbox; have GW227 := Aside0.mk ((zS : w.heap.size ≤ gb227)); have GE227 := Aside0.mk ((zS : w.heap.size ≤ gb227)); replace HB := Aside0.mk (below_step zB hb); clear hb hbox hg) | ((with_reducible refine gate_dst (N := 3) rfl ?_); refine zX (N := 3) (cs := #[.int .i64 a1_0, .slice A1_1 l1_1.length c1_1, .int .i64 a1_2]) (t := 49) (h := ?_); intro gb228 hg w16 hbox hb; have BK228 := Aside0.mk hbox; have GW228 := Aside0.mk ((zT : w.heap.size ≤ gb228)); have GE228 := Aside0.mk ((zT : w.heap.size ≤ gb228)); have NB227_228 := Aside0.mk ((zL : gb227 ≠ gb228)); have NB228_227 := Aside0.mk ((zM : gb228 ≠ gb227)); replace BK227 := Aside0.mk (blk_below (g := gb227) zK hb); replace HB := Aside0.mk (below_step zG hb); clear hb hbox hg; have hnb17 := NB227_228.out; have hnc17 := NB228_227.out; obtain ⟨hcz18_0, hcz18_1, hcz18_2, hcz18_3, hcz18_4, hcz18_5, hcz18_6, hcz18_7, hfz18_0, hfz18_1, hfz18_2, hfz18_3, hfz18_4, hfz18_5, hfz18_6, hfz18_7⟩ := zd8 BK227.out (.int .i64 a0_0) (.int .i64 a0_1) (.int .i64 a0_2) (.int .i64 a0_3) (.int .i64 a0_4) (.string a0_5) (.int .i64 a0_6) (.slice A0_7 l0_7.length c0_7)))
  go_ret
  exact ⟨zE, zG⟩
end Go.Proofs.YtjlhhjfmekjbhaaGreatDoor.Pq

namespace Go.Proofs.YtjlhhjfmekjbhaaGreatDoor.Pq
open Go.RowKit Go.Proofs.YtjlhhjfmekjbhaaGreatDoorW.PrintWords Go.Proofs.YtjlhhjfmekjbhaaGreatDoorW.PrintLast Go.Proofs.YtjlhhjfmekjbhaaGreatDoorW.PrintMore
set_option linter.unusedVariables false
set_option linter.unusedSimpArgs false
/-! ### slices_Equal_int_int: function 85 -/
def slices_Equal_int_int.l0 : Nat → List Int → List Int → Int → Int → Option (Bool)
 | 0, _, _, _, _ => none
 | k + 1, x0, x1, x12, x13 => if x13 < x12 then (if 0 ≤ x13 then (if x13 < (x0.length : Int) then (if x13 < (x1.length : Int) then (if (rd x0 x13) = (rd x1 x13) then (slices_Equal_int_int.l0 k x0 x1 x12 (wrap64 (x13 + 1))) else (some false)) else (none)) else (none)) else (none)) else (some true)
def slices_Equal_int_int.f (k : Nat) (l0 : List Int) (l1 : List Int) : Option (Bool) := if (l0.length : Int) = (l1.length : Int) then (slices_Equal_int_int.l0 k l0 l1 (l0.length : Int) 0) else (some false)
end Go.Proofs.YtjlhhjfmekjbhaaGreatDoor.Pq

namespace Go.Proofs.YtjlhhjfmekjbhaaGreatDoor.Pq
open Go.RowKit Go.Proofs.YtjlhhjfmekjbhaaGreatDoorW.PrintWords Go.Proofs.YtjlhhjfmekjbhaaGreatDoorW.PrintLast Go.Proofs.YtjlhhjfmekjbhaaGreatDoorW.PrintMore
set_option linter.unusedVariables false
set_option linter.unusedSimpArgs false
/-! ### code_sameIns: function 40 -/
def code_sameIns.f (k : Nat) (a0_0 : Int) (a0_1 : Int) (a0_2 : Int) (a0_3 : Int) (a0_4 : Int) (a0_5 : ByteArray) (a0_6 : Int) (l0_7 : List Int) (a1_0 : Int) (a1_1 : Int) (a1_2 : Int) (a1_3 : Int) (a1_4 : Int) (a1_5 : ByteArray) (a1_6 : Int) (l1_7 : List Int) : Option (Bool) := (slices_Equal_int_int.f k l0_7 l1_7).bind fun t233 => (if t233 = true then (if a0_0 = a1_0 then (if a0_1 = a1_1 then (if a0_2 = a1_2 then (if a0_3 = a1_3 then (if a0_4 = a1_4 then (if a0_5.toList = a1_5.toList then (some (a0_6 == a1_6)) else (some false)) else (some false)) else (some false)) else (some false)) else (some false)) else (some false)) else (some false))
end Go.Proofs.YtjlhhjfmekjbhaaGreatDoor.Pq

/- What an instruction must be: the rules' functions; code.is, code.at. No condition. -/
namespace Go.Proofs.YtjlhhjfmekjbhaaGreatDoor.Cd
open Go.RowKit Go.Proofs.YtjlhhjfmekjbhaaGreatDoorW.PrintWords Go.Proofs.YtjlhhjfmekjbhaaGreatDoorW.PrintLast Go.Proofs.YtjlhhjfmekjbhaaGreatDoorW.PrintMore Go.Proofs.YtjlhhjfmekjbhaaGreatDoor.Pq
set_option linter.unusedVariables false
set_option linter.unusedSimpArgs false
def insV (x : S31) (A : Option Addr) (c : Nat) : Value := .agg #[.int .i64 x.f0, .int .i64 x.f1, .int .i64 x.f2, .int .i64 x.f3, .int .i64 x.f4, .string x.f5, .int .i64 x.f6, .slice A x.f7.length c]
def aroV (r : Int) (B : Option Addr) (d : Nat) (l : List S31) (u : Int) : Value := .agg #[.int .i64 r, .slice B l.length d, .int .i64 u]
structure ArgsOk (W : World) (x : S31) (A : Option Addr) (c : Nat) (B : Option Addr) (d : Nat) (l : List S31) : Prop where
  hx : Kd.C (Kd.int .i64) W A x.f7.length x.f7
  hc : x.f7.length ≤ c
  hl : Kd.C k31 W B l.length l
  hd : l.length ≤ d
  hs : x.f5.size ≤ maxLen
theorem enters {n : Nat} {fn : Func} (hf : Tryz.prog.funcs[n]? = some fn) (hn : (fn.name == "runtime.NumGoroutine") = false) (hb : fn.body.isNone = false) (args : Array Value) (W : World) : (callFunc n args).run Tryz.prog W = .ok (.enter n args) W := by
  have hn' : ¬ fn.name = "runtime.NumGoroutine" := by simpa using hn
  have hb' : ¬ fn.body = none := fun e => by rw [e] at hb; cases hb
  unfold callFunc
  simp [go_sem, hf, hn', hb']
def NumOk (W : World) (v : Value) (f : Int → List S31 → Int → Int) : Prop :=
  ∃ n cap, v = .func (.func n) #[] cap ∧ (∀ args w, (callFunc n args).run Tryz.prog w = .ok (.enter n args) w) ∧
    ∀ W', Below W.heap.size W W' → ∀ r B d l u, Kd.C k31 W' B l.length l → l.length ≤ d → Calls Tryz.prog n (#[aroV r B d l u] ++ cap) W' fun e W'' => e = .returned (.int .i64 (f r l u)) ∧ Below W'.heap.size W' W''
set_option maxRecDepth 100000 in
theorem len_ok (W : World) : NumOk W (.func (.func 67) #[] #[]) (fun _ l _ => (l.length : Int)) :=
  ⟨_, _, rfl, enters Tryz.func67 (by kernel_rfl) (by kernel_rfl), fun W' _ r B d l u hl hd => code_parts_15.calls r B d l u _ W' hl hd rfl⟩
set_option maxRecDepth 100000 in
theorem funs_ok (W : World) : NumOk W (.func (.func 68) #[] #[]) (fun _ _ u => u) :=
  ⟨_, _, rfl, enters Tryz.func68 (by kernel_rfl) (by kernel_rfl), fun W' _ r B d l u hl hd => code_parts_16.calls r B d l u _ W' hl hd rfl⟩
set_option maxHeartbeats 1000000 in
set_option maxRecDepth 100000 in
theorem is1_calls (n : Int) (p : Nat) (r : Int) (B : Option Addr) (d : Nat) (l : List S31) (u : Int) (w : World) (hc : w.cell? ⟨p, 0, none⟩ = some (.int .i64 n)) :
    Calls Tryz.prog 89 #[aroV r B d l u, .pointer (some ⟨p, 0, none⟩)] w fun e w' => e = .returned (.int .i64 n) ∧ Below w.heap.size w w' := by
  have hlt := World.block_lt_of_cell? w _ hc
  unfold aroV
  go_enter Tryz.func89, Tryz.ntmps89
  go_wp2
  go_ret
  exact ⟨by simp [*], below_alloc (Below.refl _ _) _⟩
end Go.Proofs.YtjlhhjfmekjbhaaGreatDoor.Cd

/- code.at: a number in a range. No condition. -/
namespace Go.Proofs.YtjlhhjfmekjbhaaGreatDoor.Cd
open Go.RowKit Go.Proofs.YtjlhhjfmekjbhaaGreatDoorW.PrintWords Go.Proofs.YtjlhhjfmekjbhaaGreatDoorW.PrintLast Go.Proofs.YtjlhhjfmekjbhaaGreatDoorW.PrintMore Go.Proofs.YtjlhhjfmekjbhaaGreatDoor.Pq
set_option linter.unusedVariables false
set_option linter.unusedSimpArgs false
theorem goesV_ {P : Program} {ops : Array Oper} {Q : Exit → Act → World → Prop} {oi : Oper} {N : Option Tmp} {a : Act} {w : World} {K : Act → World → Prop} {g : Operand} {n : FuncId} {cap : Array Value} {xs : Array Operand} {ts : Array TypeId}
    (hg : a.eval g = .func (.func n) #[] cap) (he : ∀ args w, (callFunc n args).run P w = .ok (.enter n args) w) (args : Array Value)
    (hw : Region.wanted oi (yielded ops a.tmps) = true) (hN : oi.dst = N) (hop : oi.op = .call { callee := .value g, args := xs, argTypes := ts }) (hargs : xs.map a.eval = args)
    (h : Calls P n (args ++ cap) w fun e w' => ∃ v, e = .returned v ∧ K (a.put N v) w') : if Region.wanted oi (yielded ops a.tmps) = true then Oper.wp P oi a w K Q else K (a.put N undef) w := by
  refine call_ n (args ++ cap) hw hN ?_ h
  have he' := he (args ++ cap) w
  unfold execOp
  simp [hop, resolve, Deferred.ofValue, invoke, hg, hargs, he']
def at1T1 : Bool × List (List Nat × List Nat) := (true, [([], []), ([0], [0]), ([], []), ([], []), ([2, 3], [2, 3]), ([1, 4], [1, 4]), ([5, 4], [5]), ([6], [6]), ([7, 6], [6, 7]), ([6], [6]), ([6], [6]), ([9, 10, 6, 6], [6, 9, 10]), ([8, 11, 6], [6, 8, 11]), ([6, 12], [6, 12]), ([13, 11, 0, 1, 2, 3, 4, 5, 6, 7, 8, 9, 10, 11, 12, 13], [13])])
def at1B1 : List Nat := [0, 1, 0, 0, 12, 31, 63, 127, 255, 127, 127, 1663, 4095, 8191, 16383]
theorem at1tab1 : rtab .any (opsOf Tryz.f88 1) = at1T1 := by kernel_rfl
theorem at1bits1 : waitsOk at1T1.2 at1B1 = true := by kernel_rfl
def AtS (w W' : World) (p q n1 n2 : Nat) (c1 c2 : Array Value) (x6 r : Int) (B : Option Addr) (d : Nat) (l : List S31) (u : Int) : Prop := (W'.cell? ⟨p, 0, none⟩ = some (.func (.func n1) #[] c1) ∧ W'.cell? ⟨q, 0, none⟩ = some (.func (.func n2) #[] c2) ∧ W'.cell? ⟨w.heap.size, 6, none⟩ = some (.int .i64 x6) ∧ W'.cell? ⟨w.heap.size + 1, 0, none⟩ = some (.int .i64 r) ∧ W'.cell? ⟨w.heap.size + 1, 1, none⟩ = some (.slice B l.length d) ∧ W'.cell? ⟨w.heap.size + 1, 2, none⟩ = some (.int .i64 u)) ∧ Below w.heap.size w W' ∧ w.heap.size + 1 < W'.heap.size
theorem AtS.step {w W W' : World} {p q n1 n2 : Nat} {c1 c2 : Array Value} {x6 r : Int} {B : Option Addr} {d : Nat} {l : List S31} {u : Int} (h : AtS w W p q n1 n2 c1 c2 x6 r B d l u) (hb : Below W.heap.size W W') : AtS w W' p q n1 n2 c1 c2 x6 r B d l u := by
  obtain ⟨⟨h0, h1, h2, h3, h4, h5⟩, hw, hs⟩ := h
  have k : ∀ {a : Addr} {v : Value}, W.cell? a = some v → W'.cell? a = some v := fun {a v} e => (hb.cell (World.block_lt_of_cell? W _ e)).trans e
  exact ⟨⟨k h0, k h1, k h2, k h3, k h4, k h5⟩, below_step hw hb, Nat.lt_of_lt_of_le hs hb.size⟩
set_option maxHeartbeats 8000000 in
set_option maxRecDepth 100000 in
theorem at1_calls (v1 v2 : Value) (f1 f2 : Int → List S31 → Int → Int) (p q : Nat) (x : S31) (A : Option Addr) (c : Nat) (r : Int) (B : Option Addr) (d : Nat) (l : List S31) (u : Int) (w : World)
    (hp : w.cell? ⟨p, 0, none⟩ = some v1) (hq : w.cell? ⟨q, 0, none⟩ = some v2) (h1 : NumOk w v1 f1) (h2 : NumOk w v2 f2) (hA : ArgsOk w x A c B d l) :
    Calls Tryz.prog 88 #[insV x A c, aroV r B d l u, .pointer (some ⟨p, 0, none⟩), .pointer (some ⟨q, 0, none⟩)] w fun e w' => e = .returned (.bool (decide (x.f6 ≥ f1 r l u) && decide (x.f6 < f2 r l u))) ∧ Below w.heap.size w w' := by
  have hlp := World.block_lt_of_cell? w _ hp
  have hlq := World.block_lt_of_cell? w _ hq
  obtain ⟨n1, c1, rfl, e1, k1⟩ := h1
  obtain ⟨n2, c2, rfl, e2, k2⟩ := h2
  have K1 := Aside0.mk (fun W' hb => k1 W' hb r B d l u (Kd.C_below hA.hl hb) hA.hd)
  have K2 := Aside0.mk (fun W' hb => k2 W' hb r B d l u (Kd.C_below hA.hl hb) hA.hd)
  have E1 := Aside0.mk e1
  have E2 := Aside0.mk e2
  clear k1 k2 hA e1 e2
  obtain ⟨x0, x1, x2, x3, x4, x5, x6, x7⟩ := x
  generalize hy1 : f1 r l u = y1 at *
  generalize hy2 : f2 r l u = y2 at *
  clear hy1 hy2
  have HS := Aside0.mk (show AtS w ((w.alloc (.cells #[.int .i64 x0, .int .i64 x1, .int .i64 x2, .int .i64 x3, .int .i64 x4, .string x5, .int .i64 x6, .slice A x7.length c] 31)).alloc (.cells #[.int .i64 r, .slice B l.length d, .int .i64 u] 49)).drew p q n1 n2 c1 c2 x6 r B d l u from by
    have b1 : ((w.alloc (.cells #[.int .i64 x0, .int .i64 x1, .int .i64 x2, .int .i64 x3, .int .i64 x4, .string x5, .int .i64 x6, .slice A x7.length c] 31)).alloc (.cells #[.int .i64 r, .slice B l.length d, .int .i64 u] 49)).heap[w.heap.size]? = some (.cells #[.int .i64 x0, .int .i64 x1, .int .i64 x2, .int .i64 x3, .int .i64 x4, .string x5, .int .i64 x6, .slice A x7.length c] 31) := blk_alloc (heap_alloc_new w _) _
    have b2 : ((w.alloc (.cells #[.int .i64 x0, .int .i64 x1, .int .i64 x2, .int .i64 x3, .int .i64 x4, .string x5, .int .i64 x6, .slice A x7.length c] 31)).alloc (.cells #[.int .i64 r, .slice B l.length d, .int .i64 u] 49)).heap[w.heap.size + 1]? = some (.cells #[.int .i64 r, .slice B l.length d, .int .i64 u] 49) := by have := heap_alloc_new (w.alloc (.cells #[.int .i64 x0, .int .i64 x1, .int .i64 x2, .int .i64 x3, .int .i64 x4, .string x5, .int .i64 x6, .slice A x7.length c] 31)) (.cells #[.int .i64 r, .slice B l.length d, .int .i64 u] 49); simpa using this
    have hb : Below w.heap.size w ((w.alloc (.cells #[.int .i64 x0, .int .i64 x1, .int .i64 x2, .int .i64 x3, .int .i64 x4, .string x5, .int .i64 x6, .slice A x7.length c] 31)).alloc (.cells #[.int .i64 r, .slice B l.length d, .int .i64 u] 49)) := below_alloc (below_alloc (Below.refl _ _) _) _
    refine ⟨⟨(hb.cell hlp).trans hp, (hb.cell hlq).trans hq, (blk_cell b1 6).trans rfl, (blk_cell b2 0).trans rfl, (blk_cell b2 1).trans rfl, (blk_cell b2 2).trans rfl⟩, below_drew hb, ?_⟩
    have := blk_lt b2
    exact this)
  unfold insV aroV at *
  by_cases hg : y1 ≤ x6
  case neg =>
    have g1 : decide (y1 ≤ x6) = false := decide_eq_false hg
    have hg' : Aside0 (¬ y1 ≤ x6) := Aside0.mk hg
    clear hg
    go_enter Tryz.func88, Tryz.ntmps88
    go_wp2
    refine start_ (n := 15) (S := fun W' => W'.cell? ⟨p, 0, none⟩ = some (.func (.func n1) #[] c1) ∧ W'.cell? ⟨q, 0, none⟩ = some (.func (.func n2) #[] c2) ∧ W'.cell? ⟨w.heap.size, 6, none⟩ = some (.int .i64 x6) ∧ W'.cell? ⟨w.heap.size + 1, 0, none⟩ = some (.int .i64 r) ∧ W'.cell? ⟨w.heap.size + 1, 1, none⟩ = some (.slice B l.length d) ∧ W'.cell? ⟨w.heap.size + 1, 2, none⟩ = some (.int .i64 u)) (ds := []) #[false, false, false, false, false, false, false, false, false, false, false, false, false, false, false] (by kernel_rfl) rfl rfl HS.out.1 (fun hHeld => ?_)
    refine with_tabW at1tab1 at1bits1 (fun HT_ HW_ => ?_)
    generalize ((w.alloc (.cells #[.int .i64 x0, .int .i64 x1, .int .i64 x2, .int .i64 x3, .int .i64 x4, .string x5, .int .i64 x6, .slice A x7.length c] 31)).alloc (.cells #[.int .i64 r, .slice B l.length d, .int .i64 u] 49)).drew = w0 at HS hHeld ⊢
    refine pure_ (i := 0) (N := some 7) (v := ?_) (a' := ?_) #[true, false, false, false, false, false, false, false, false, false, false, false, false, false, false] rfl rfl (any_of HT_.out (by kernel_rfl)) (fun _ _ _ h => h) (Or.inl ⟨by rfl, ?_⟩) ?_ ?_
    rotate_left
    · intro w'
      first | (go_simp; with_reducible rfl)
    rotate_left
    · simp only [Act.put, List.setIfInBounds_toArray, List.set_cons_zero, List.set_cons_succ, i64_w, i32_w]
      rfl
    refine take_ (i := 1) (N := some 8) (v := ?_) (a' := ?_) #[true, true, false, false, false, false, false, false, false, false, false, false, false, false, false] rfl rfl (take_ofW HT_.out HW_.out (by kernel_rfl)) (fun _ _ _ h => h) (Or.inl ⟨by rfl, ?_⟩) hHeld ?_ ?_
    rotate_left
    · rintro w' ⟨s0, s1, s2, s3, s4, s5⟩
      first | (go_simp; with_reducible rfl)
    rotate_left
    · simp only [Act.put, List.setIfInBounds_toArray, List.set_cons_zero, List.set_cons_succ, i64_w, i32_w]
      rfl
    refine take_ (i := 2) (N := some 9) (v := ?_) (a' := ?_) #[true, true, true, false, false, false, false, false, false, false, false, false, false, false, false] rfl rfl (take_ofW HT_.out HW_.out (by kernel_rfl)) (fun _ _ _ h => h) (Or.inl ⟨by rfl, ?_⟩) hHeld ?_ ?_
    rotate_left
    · rintro w' ⟨s0, s1, s2, s3, s4, s5⟩
      first | (go_simp; with_reducible rfl)
    rotate_left
    · simp only [Act.put, List.setIfInBounds_toArray, List.set_cons_zero, List.set_cons_succ, i64_w, i32_w]
      rfl
    refine take_ (i := 3) (N := some 10) (v := ?_) (a' := ?_) #[true, true, true, true, false, false, false, false, false, false, false, false, false, false, false] rfl rfl (take_ofW HT_.out HW_.out (by kernel_rfl)) (fun _ _ _ h => h) (Or.inl ⟨by rfl, ?_⟩) hHeld ?_ ?_
    rotate_left
    · rintro w' ⟨s0, s1, s2, s3, s4, s5⟩
      first | (go_simp; with_reducible rfl)
    rotate_left
    · simp only [Act.put, List.setIfInBounds_toArray, List.set_cons_zero, List.set_cons_succ, i64_w, i32_w]
      rfl
    refine one_ (i := 4) (N := some 11) #[true, true, true, true, true, false, false, false, false, false, false, false, false, false, false] rfl rfl (one_of HT_.out (by kernel_rfl)) (by decide) (fun K hK => ?_)
    refine goesV_ (g := .tmp 9) rfl E1.out #[.agg #[.int .i64 r, .slice B l.length d, .int .i64 u]] (by rfl) rfl rfl (by (try simp only [List.map_toArray, List.map_cons, List.map_nil]); first | done | rfl) ?_
    refine (K1.out _ HS.out.2.1).mono ?_
    rintro e w1 ⟨rfl, hb⟩
    refine ⟨_, rfl, ?_⟩
    have HS1 := Aside0.mk (HS.out.step hb)
    clear hb HS
    refine hK.out _ _ HS1.out.1 (fun hHeld => ?_)
    clear hK K
    refine norm_ (a' := ?_) ?_ ?_
    rotate_left
    · show Act.put _ (some 11) _ = _
      simp only [Act.put, List.setIfInBounds_toArray, List.set_cons_zero, List.set_cons_succ, i64_w, i32_w]
      rfl
    refine pure_ (i := 5) (N := some 12) (v := ?_) (a' := ?_) #[true, true, true, true, true, true, false, false, false, false, false, false, false, false, false] rfl rfl (any_of HT_.out (by kernel_rfl)) (fun _ _ _ h => h) (Or.inl ⟨by rfl, ?_⟩) ?_ ?_
    rotate_left
    · intro w'
      first | (go_simp; with_reducible rfl)
    rotate_left
    · simp only [Act.put, List.setIfInBounds_toArray, List.set_cons_zero, List.set_cons_succ, i64_w, i32_w]
      rfl
    refine pure_ (i := 6) (N := some 13) (v := ?_) (a' := ?_) #[true, true, true, true, true, true, true, false, false, false, false, false, false, false, false] rfl rfl (any_of HT_.out (by kernel_rfl)) (fun _ _ _ h => h) (Or.inl ⟨by rfl, ?_⟩) ?_ ?_
    rotate_left
    · intro w'
      first | (go_simp; with_reducible rfl)
    rotate_left
    · simp only [Act.put, List.setIfInBounds_toArray, List.set_cons_zero, List.set_cons_succ, i64_w, i32_w]
      rfl
    refine pure_ (i := 7) (N := some 14) (v := undef) (a' := ?_) #[true, true, true, true, true, true, true, true, false, false, false, false, false, false, false] rfl rfl (any_of HT_.out (by kernel_rfl)) (fun _ _ _ h => h) (Or.inr ⟨by rfl, rfl⟩) ?_ ?_
    rotate_left
    · simp only [Act.put, List.setIfInBounds_toArray, List.set_cons_zero, List.set_cons_succ, i64_w, i32_w]
      rfl
    refine pure_ (i := 8) (N := some 15) (v := undef) (a' := ?_) #[true, true, true, true, true, true, true, true, true, false, false, false, false, false, false] rfl rfl (any_of HT_.out (by kernel_rfl)) (fun _ _ _ h => h) (Or.inr ⟨by rfl, rfl⟩) ?_ ?_
    rotate_left
    · simp only [Act.put, List.setIfInBounds_toArray, List.set_cons_zero, List.set_cons_succ, i64_w, i32_w]
      rfl
    refine pure_ (i := 9) (N := some 16) (v := undef) (a' := ?_) #[true, true, true, true, true, true, true, true, true, true, false, false, false, false, false] rfl rfl (any_of HT_.out (by kernel_rfl)) (fun _ _ _ h => h) (Or.inr ⟨by rfl, rfl⟩) ?_ ?_
    rotate_left
    · simp only [Act.put, List.setIfInBounds_toArray, List.set_cons_zero, List.set_cons_succ, i64_w, i32_w]
      rfl
    refine pure_ (i := 10) (N := some 17) (v := undef) (a' := ?_) #[true, true, true, true, true, true, true, true, true, true, true, false, false, false, false] rfl rfl (any_of HT_.out (by kernel_rfl)) (fun _ _ _ h => h) (Or.inr ⟨by rfl, rfl⟩) ?_ ?_
    rotate_left
    · simp only [Act.put, List.setIfInBounds_toArray, List.set_cons_zero, List.set_cons_succ, i64_w, i32_w]
      rfl
    refine pure_ (i := 11) (N := some 18) (v := undef) (a' := ?_) #[true, true, true, true, true, true, true, true, true, true, true, true, false, false, false] rfl rfl (any_of HT_.out (by kernel_rfl)) (fun _ _ _ h => h) (Or.inr ⟨by rfl, rfl⟩) ?_ ?_
    rotate_left
    · simp only [Act.put, List.setIfInBounds_toArray, List.set_cons_zero, List.set_cons_succ, i64_w, i32_w]
      rfl
    refine pure_ (i := 12) (N := some 19) (v := undef) (a' := ?_) #[true, true, true, true, true, true, true, true, true, true, true, true, true, false, false] rfl rfl (any_of HT_.out (by kernel_rfl)) (fun _ _ _ h => h) (Or.inr ⟨by rfl, rfl⟩) ?_ ?_
    rotate_left
    · simp only [Act.put, List.setIfInBounds_toArray, List.set_cons_zero, List.set_cons_succ, i64_w, i32_w]
      rfl
    refine pure_ (i := 13) (N := some 20) (v := ?_) (a' := ?_) #[true, true, true, true, true, true, true, true, true, true, true, true, true, true, false] rfl rfl (any_of HT_.out (by kernel_rfl)) (fun _ _ _ h => h) (Or.inl ⟨by rfl, ?_⟩) ?_ ?_
    rotate_left
    · intro w'
      first | (go_simp; with_reducible rfl)
    rotate_left
    · simp only [Act.put, List.setIfInBounds_toArray, List.set_cons_zero, List.set_cons_succ, i64_w, i32_w]
      rfl
    refine pure_ (i := 14) (N := some 6) (v := ?_) (a' := ?_) #[true, true, true, true, true, true, true, true, true, true, true, true, true, true, true] rfl rfl (any_of HT_.out (by kernel_rfl)) (fun _ _ _ h => h) (Or.inl ⟨by rfl, ?_⟩) ?_ ?_
    rotate_left
    · intro w'
      first | (go_simp; with_reducible rfl)
    rotate_left
    · simp only [Act.put, List.setIfInBounds_toArray, List.set_cons_zero, List.set_cons_succ, i64_w, i32_w]
      rfl
    refine done_ (done_of HT_.out (by kernel_rfl)) ?_
    try go_wp2
    go_ret
    exact ⟨by simp [*], HS1.out.2.1⟩
  case pos =>
    have g1 : decide (y1 ≤ x6) = true := decide_eq_true hg
    have hg' : Aside0 (y1 ≤ x6) := Aside0.mk hg
    clear hg
    go_enter Tryz.func88, Tryz.ntmps88
    go_wp2
    refine start_ (n := 15) (S := fun W' => W'.cell? ⟨p, 0, none⟩ = some (.func (.func n1) #[] c1) ∧ W'.cell? ⟨q, 0, none⟩ = some (.func (.func n2) #[] c2) ∧ W'.cell? ⟨w.heap.size, 6, none⟩ = some (.int .i64 x6) ∧ W'.cell? ⟨w.heap.size + 1, 0, none⟩ = some (.int .i64 r) ∧ W'.cell? ⟨w.heap.size + 1, 1, none⟩ = some (.slice B l.length d) ∧ W'.cell? ⟨w.heap.size + 1, 2, none⟩ = some (.int .i64 u)) (ds := []) #[false, false, false, false, false, false, false, false, false, false, false, false, false, false, false] (by kernel_rfl) rfl rfl HS.out.1 (fun hHeld => ?_)
    refine with_tabW at1tab1 at1bits1 (fun HT_ HW_ => ?_)
    generalize ((w.alloc (.cells #[.int .i64 x0, .int .i64 x1, .int .i64 x2, .int .i64 x3, .int .i64 x4, .string x5, .int .i64 x6, .slice A x7.length c] 31)).alloc (.cells #[.int .i64 r, .slice B l.length d, .int .i64 u] 49)).drew = w0 at HS hHeld ⊢
    refine pure_ (i := 0) (N := some 7) (v := ?_) (a' := ?_) #[true, false, false, false, false, false, false, false, false, false, false, false, false, false, false] rfl rfl (any_of HT_.out (by kernel_rfl)) (fun _ _ _ h => h) (Or.inl ⟨by rfl, ?_⟩) ?_ ?_
    rotate_left
    · intro w'
      first | (go_simp; with_reducible rfl)
    rotate_left
    · simp only [Act.put, List.setIfInBounds_toArray, List.set_cons_zero, List.set_cons_succ, i64_w, i32_w]
      rfl
    refine take_ (i := 1) (N := some 8) (v := ?_) (a' := ?_) #[true, true, false, false, false, false, false, false, false, false, false, false, false, false, false] rfl rfl (take_ofW HT_.out HW_.out (by kernel_rfl)) (fun _ _ _ h => h) (Or.inl ⟨by rfl, ?_⟩) hHeld ?_ ?_
    rotate_left
    · rintro w' ⟨s0, s1, s2, s3, s4, s5⟩
      first | (go_simp; with_reducible rfl)
    rotate_left
    · simp only [Act.put, List.setIfInBounds_toArray, List.set_cons_zero, List.set_cons_succ, i64_w, i32_w]
      rfl
    refine take_ (i := 2) (N := some 9) (v := ?_) (a' := ?_) #[true, true, true, false, false, false, false, false, false, false, false, false, false, false, false] rfl rfl (take_ofW HT_.out HW_.out (by kernel_rfl)) (fun _ _ _ h => h) (Or.inl ⟨by rfl, ?_⟩) hHeld ?_ ?_
    rotate_left
    · rintro w' ⟨s0, s1, s2, s3, s4, s5⟩
      first | (go_simp; with_reducible rfl)
    rotate_left
    · simp only [Act.put, List.setIfInBounds_toArray, List.set_cons_zero, List.set_cons_succ, i64_w, i32_w]
      rfl
    refine take_ (i := 3) (N := some 10) (v := ?_) (a' := ?_) #[true, true, true, true, false, false, false, false, false, false, false, false, false, false, false] rfl rfl (take_ofW HT_.out HW_.out (by kernel_rfl)) (fun _ _ _ h => h) (Or.inl ⟨by rfl, ?_⟩) hHeld ?_ ?_
    rotate_left
    · rintro w' ⟨s0, s1, s2, s3, s4, s5⟩
      first | (go_simp; with_reducible rfl)
    rotate_left
    · simp only [Act.put, List.setIfInBounds_toArray, List.set_cons_zero, List.set_cons_succ, i64_w, i32_w]
      rfl
    refine one_ (i := 4) (N := some 11) #[true, true, true, true, true, false, false, false, false, false, false, false, false, false, false] rfl rfl (one_of HT_.out (by kernel_rfl)) (by decide) (fun K hK => ?_)
    refine goesV_ (g := .tmp 9) rfl E1.out #[.agg #[.int .i64 r, .slice B l.length d, .int .i64 u]] (by rfl) rfl rfl (by (try simp only [List.map_toArray, List.map_cons, List.map_nil]); first | done | rfl) ?_
    refine (K1.out _ HS.out.2.1).mono ?_
    rintro e w1 ⟨rfl, hb⟩
    refine ⟨_, rfl, ?_⟩
    have HS1 := Aside0.mk (HS.out.step hb)
    clear hb HS
    refine hK.out _ _ HS1.out.1 (fun hHeld => ?_)
    clear hK K
    refine norm_ (a' := ?_) ?_ ?_
    rotate_left
    · show Act.put _ (some 11) _ = _
      simp only [Act.put, List.setIfInBounds_toArray, List.set_cons_zero, List.set_cons_succ, i64_w, i32_w]
      rfl
    refine pure_ (i := 5) (N := some 12) (v := ?_) (a' := ?_) #[true, true, true, true, true, true, false, false, false, false, false, false, false, false, false] rfl rfl (any_of HT_.out (by kernel_rfl)) (fun _ _ _ h => h) (Or.inl ⟨by rfl, ?_⟩) ?_ ?_
    rotate_left
    · intro w'
      first | (go_simp; with_reducible rfl)
    rotate_left
    · simp only [Act.put, List.setIfInBounds_toArray, List.set_cons_zero, List.set_cons_succ, i64_w, i32_w]
      rfl
    refine pure_ (i := 6) (N := some 13) (v := ?_) (a' := ?_) #[true, true, true, true, true, true, true, false, false, false, false, false, false, false, false] rfl rfl (any_of HT_.out (by kernel_rfl)) (fun _ _ _ h => h) (Or.inl ⟨by rfl, ?_⟩) ?_ ?_
    rotate_left
    · intro w'
      first | (go_simp; with_reducible rfl)
    rotate_left
    · simp only [Act.put, List.setIfInBounds_toArray, List.set_cons_zero, List.set_cons_succ, i64_w, i32_w]
      rfl
    refine pure_ (i := 7) (N := some 14) (v := ?_) (a' := ?_) #[true, true, true, true, true, true, true, true, false, false, false, false, false, false, false] rfl rfl (any_of HT_.out (by kernel_rfl)) (fun _ _ _ h => h) (Or.inl ⟨by rfl, ?_⟩) ?_ ?_
    rotate_left
    · intro w'
      first | (go_simp; with_reducible rfl)
    rotate_left
    · simp only [Act.put, List.setIfInBounds_toArray, List.set_cons_zero, List.set_cons_succ, i64_w, i32_w]
      rfl
    refine take_ (i := 8) (N := some 15) (v := ?_) (a' := ?_) #[true, true, true, true, true, true, true, true, true, false, false, false, false, false, false] rfl rfl (take_ofW HT_.out HW_.out (by kernel_rfl)) (fun _ _ _ h => h) (Or.inl ⟨by rfl, ?_⟩) hHeld ?_ ?_
    rotate_left
    · rintro w' ⟨s0, s1, s2, s3, s4, s5⟩
      first | (go_simp; with_reducible rfl)
    rotate_left
    · simp only [Act.put, List.setIfInBounds_toArray, List.set_cons_zero, List.set_cons_succ, i64_w, i32_w]
      rfl
    refine take_ (i := 9) (N := some 16) (v := ?_) (a' := ?_) #[true, true, true, true, true, true, true, true, true, true, false, false, false, false, false] rfl rfl (take_ofW HT_.out HW_.out (by kernel_rfl)) (fun _ _ _ h => h) (Or.inl ⟨by rfl, ?_⟩) hHeld ?_ ?_
    rotate_left
    · rintro w' ⟨s0, s1, s2, s3, s4, s5⟩
      first | (go_simp; with_reducible rfl)
    rotate_left
    · simp only [Act.put, List.setIfInBounds_toArray, List.set_cons_zero, List.set_cons_succ, i64_w, i32_w]
      rfl
    refine take_ (i := 10) (N := some 17) (v := ?_) (a' := ?_) #[true, true, true, true, true, true, true, true, true, true, true, false, false, false, false] rfl rfl (take_ofW HT_.out HW_.out (by kernel_rfl)) (fun _ _ _ h => h) (Or.inl ⟨by rfl, ?_⟩) hHeld ?_ ?_
    rotate_left
    · rintro w' ⟨s0, s1, s2, s3, s4, s5⟩
      first | (go_simp; with_reducible rfl)
    rotate_left
    · simp only [Act.put, List.setIfInBounds_toArray, List.set_cons_zero, List.set_cons_succ, i64_w, i32_w]
      rfl
    refine one_ (i := 11) (N := some 18) #[true, true, true, true, true, true, true, true, true, true, true, true, false, false, false] rfl rfl (one_of HT_.out (by kernel_rfl)) (by decide) (fun K hK => ?_)
    refine goesV_ (g := .tmp 16) rfl E2.out #[.agg #[.int .i64 r, .slice B l.length d, .int .i64 u]] (by rfl) rfl rfl (by (try simp only [List.map_toArray, List.map_cons, List.map_nil]); first | done | rfl) ?_
    refine (K2.out _ HS1.out.2.1).mono ?_
    rintro e w2 ⟨rfl, hb⟩
    refine ⟨_, rfl, ?_⟩
    have HS2 := Aside0.mk (HS1.out.step hb)
    clear hb HS1
    refine hK.out _ _ HS2.out.1 (fun hHeld => ?_)
    clear hK K
    refine norm_ (a' := ?_) ?_ ?_
    rotate_left
    · show Act.put _ (some 18) _ = _
      simp only [Act.put, List.setIfInBounds_toArray, List.set_cons_zero, List.set_cons_succ, i64_w, i32_w]
      rfl
    refine pure_ (i := 12) (N := some 19) (v := ?_) (a' := ?_) #[true, true, true, true, true, true, true, true, true, true, true, true, true, false, false] rfl rfl (any_of HT_.out (by kernel_rfl)) (fun _ _ _ h => h) (Or.inl ⟨by rfl, ?_⟩) ?_ ?_
    rotate_left
    · intro w'
      first | (go_simp; with_reducible rfl)
    rotate_left
    · simp only [Act.put, List.setIfInBounds_toArray, List.set_cons_zero, List.set_cons_succ, i64_w, i32_w]
      rfl
    refine pure_ (i := 13) (N := some 20) (v := ?_) (a' := ?_) #[true, true, true, true, true, true, true, true, true, true, true, true, true, true, false] rfl rfl (any_of HT_.out (by kernel_rfl)) (fun _ _ _ h => h) (Or.inl ⟨by rfl, ?_⟩) ?_ ?_
    rotate_left
    · intro w'
      first | (go_simp; with_reducible rfl)
    rotate_left
    · simp only [Act.put, List.setIfInBounds_toArray, List.set_cons_zero, List.set_cons_succ, i64_w, i32_w]
      rfl
    refine pure_ (i := 14) (N := some 6) (v := ?_) (a' := ?_) #[true, true, true, true, true, true, true, true, true, true, true, true, true, true, true] rfl rfl (any_of HT_.out (by kernel_rfl)) (fun _ _ _ h => h) (Or.inl ⟨by rfl, ?_⟩) ?_ ?_
    rotate_left
    · intro w'
      first | (go_simp; with_reducible rfl)
    rotate_left
    · simp only [Act.put, List.setIfInBounds_toArray, List.set_cons_zero, List.set_cons_succ, i64_w, i32_w]
      rfl
    refine done_ (done_of HT_.out (by kernel_rfl)) ?_
    try go_wp2
    go_ret
    exact ⟨by simp [*], HS2.out.2.1⟩
end Go.Proofs.YtjlhhjfmekjbhaaGreatDoor.Cd

/- slices.ContainsFunc over a predicate that answers what a Lean predicate says. No condition. -/
namespace Go.Proofs.YtjlhhjfmekjbhaaGreatDoor.Cd
open Go.RowKit Go.Proofs.YtjlhhjfmekjbhaaGreatDoorW.PrintWords Go.Proofs.YtjlhhjfmekjbhaaGreatDoorW.PrintLast Go.Proofs.YtjlhhjfmekjbhaaGreatDoorW.PrintMore Go.Proofs.YtjlhhjfmekjbhaaGreatDoor.Pq
set_option linter.unusedVariables false
set_option linter.unusedSimpArgs false
theorem any_take {α : Type} (l : List α) (P : α → Bool) (d : α) (j : Nat) (h : j < l.length) : (l.take (j + 1)).any P = ((l.take j).any P || P (l.getD j d)) := by
  have e : l.take (j + 1) = l.take j ++ [l.getD j d] := by
    rw [List.take_add_one, List.getElem?_eq_getElem h]
    simp [List.getD, h]
  rw [e]
  simp
theorem any_of_take {α : Type} (l : List α) (P : α → Bool) (j : Nat) (h : (l.take j).any P = true) : l.any P = true := by
  obtain ⟨x, hx, hp⟩ := List.any_eq_true.1 h
  exact List.any_eq_true.2 ⟨x, List.mem_of_mem_take hx, hp⟩
def PredI (W : World) (v : Value) (P : Int → Bool) : Prop :=
  ∃ n cap, v = .func (.func n) #[] cap ∧ (∀ args w, (callFunc n args).run Tryz.prog w = .ok (.enter n args) w) ∧
    ∀ W', Below W.heap.size W W' → ∀ x : Int, Calls Tryz.prog n (#[.int .i64 x] ++ cap) W' fun e W'' => e = .returned (.bool (P x)) ∧ Below W'.heap.size W' W''
def PredX (W : World) (v : Value) (l : List S31) (P : S31 → Bool) : Prop :=
  ∃ n cap, v = .func (.func n) #[] cap ∧ (∀ args w, (callFunc n args).run Tryz.prog w = .ok (.enter n args) w) ∧
    ∀ W', Below W.heap.size W W' → ∀ x A c, x ∈ l → Kd.C (Kd.int .i64) W' A x.f7.length x.f7 → x.f7.length ≤ c → Calls Tryz.prog n (#[insV x A c] ++ cap) W' fun e W'' => e = .returned (.bool (P x)) ∧ Below W'.heap.size W' W''
set_option maxHeartbeats 8000000 in
set_option maxRecDepth 100000 in
theorem indexI (v : Value) (P : Int → Bool) (A : Option Addr) (c : Nat) (l : List Int) (w : World) (h : PredI w v P) (hl : Kd.C (Kd.int .i64) w A l.length l) (hc : l.length ≤ c) (hn : l.length ≤ 140737488355328) :
    Calls Tryz.prog 87 #[.slice A l.length c, v] w fun e w' => (∃ i : Int, e = .returned (.int .i64 i) ∧ (decide (0 ≤ i)) = l.any P) ∧ Below w.heap.size w w' := by
  obtain ⟨n, cap, rfl, en, K⟩ := h
  have K0 := Aside0.mk K
  have HR := Aside0.mk hl
  clear K hl
  go_enter Tryz.func87, Tryz.ntmps87
  go_wp2
  go_loopg [5, 8] l.length (fun kq _ i W => ∃ j : Nat, i = .int .i64 j ∧ j + kq = l.length ∧ (l.take j).any P = false ∧ Below w.heap.size w W)
  case atStart => exact ⟨0, rfl, by omega, rfl, by repeat (first | exact Below.refl _ _ | apply below_drew1)⟩
  case round =>
    obtain ⟨j, rfl, hj, hp, hb⟩ := hrel
    have HB := Aside0.mk hb
    have HP := Aside0.mk hp
    clear hb hp
    by_cases hlt : j < l.length
    · obtain ⟨ad, rfl, hc0⟩ := Kd.at_int (Kd.C_below HR.out HB.out) (j : Int) (by omega) (by omega)
      rw [Int.toNat_natCast] at hc0
      have HG := Aside0.mk (show rd l (j : Int) = l.getD j 0 by unfold rd; rw [Int.toNat_natCast])
      generalize rd l (j : Int) = y at *
      have HT := Aside0.mk (any_take l P 0 j hlt)
      have hg : decide ((j : Int) < (l.length : Int)) = true := decide_eq_true (by omega)
      have hw : wrap64 ((j : Int) + 1) = ((j + 1 : Nat) : Int) := by unfold wrap64; omega
      by_cases hP : P y = true
      · go_wp2_with (first | (refine (K0.out _ HB.out y).mono ?_; rintro e w1 ⟨rfl, hb1⟩; have HB1 := Aside0.mk (below_step HB.out hb1); clear hb1))
        go_ret
        refine ⟨⟨(j : Int), by simp [*], ?_⟩, HB1.out⟩
        rw [decide_eq_true (by omega)]
        exact (any_of_take l P (j + 1) (by rw [HT.out, ← HG.out, hP]; simp)).symm
      · have hP' : P y = false := by simpa using hP
        clear hP
        go_wp2_with (first | (refine (K0.out _ HB.out y).mono ?_; rintro e w1 ⟨rfl, hb1⟩; have HB1 := Aside0.mk (below_step HB.out hb1); clear hb1))
        go_roundg (gk - 1)
        case measure => omega
        case rel => exact ⟨j + 1, by go_num, by omega, by rw [HT.out, ← HG.out, hP', HP.out]; rfl, HB1.out⟩
    · obtain rfl : j = l.length := by omega
      have hg : decide ((l.length : Int) < (l.length : Int)) = false := decide_eq_false (by omega)
      go_wp2
      go_ret
      refine ⟨⟨-1, by simp [*], ?_⟩, HB.out⟩
      have hp := HP.out
      rw [List.take_length] at hp
      rw [hp]
      rfl
set_option maxHeartbeats 4000000 in
set_option maxRecDepth 100000 in
theorem containsI (v : Value) (P : Int → Bool) (A : Option Addr) (c : Nat) (l : List Int) (w : World) (h : PredI w v P) (hl : Kd.C (Kd.int .i64) w A l.length l) (hc : l.length ≤ c) (hn : l.length ≤ 140737488355328) :
    Calls Tryz.prog 62 #[.slice A l.length c, v] w fun e w' => e = .returned (.bool (l.any P)) ∧ Below w.heap.size w w' := by
  have HI := Aside0.mk (indexI v P A c l w h hl hc hn)
  clear h hl hc hn
  go_enter Tryz.func62, Tryz.ntmps62
  go_wp2_with (go_at_call 87; refine HI.out.mono ?_; rintro e w1 ⟨⟨i, rfl, hi⟩, hb⟩; have HB1 := Aside0.mk hb; clear hb)
  go_ret
  exact ⟨by simp [*], HB1.out⟩
set_option maxHeartbeats 8000000 in
set_option maxRecDepth 100000 in
theorem indexX (v : Value) (P : S31 → Bool) (A : Option Addr) (c : Nat) (l : List S31) (w : World) (h : PredX w v l P) (hl : Kd.C k31 w A l.length l) (hc : l.length ≤ c) (hn : l.length ≤ 140737488355328) :
    Calls Tryz.prog 70 #[.slice A l.length c, v] w fun e w' => (∃ i : Int, e = .returned (.int .i64 i) ∧ (decide (0 ≤ i)) = l.any P) ∧ Below w.heap.size w w' := by
  obtain ⟨n, cap, rfl, en, K⟩ := h
  have K0 := Aside0.mk K
  have HR := Aside0.mk hl
  clear K hl
  go_enter Tryz.func70, Tryz.ntmps70
  go_wp2
  go_loopg [5, 8] l.length (fun kq _ i W => ∃ j : Nat, i = .int .i64 j ∧ j + kq = l.length ∧ (l.take j).any P = false ∧ Below w.heap.size w W)
  case atStart => exact ⟨0, rfl, by omega, rfl, by repeat (first | exact Below.refl _ _ | apply below_drew1)⟩
  case round =>
    obtain ⟨j, rfl, hj, hp, hb⟩ := hrel
    have HB := Aside0.mk hb
    have HP := Aside0.mk hp
    clear hb hp
    by_cases hlt : j < l.length
    · obtain ⟨ad, A7, c7, rfl, hc0, hc1, hc2, hc3, hc4, hc5, hc6, hc7, hcl, hcr⟩ := at_T31 (Kd.C_below HR.out HB.out) (j : Int) (by omega) (by omega)
      rw [Int.toNat_natCast] at hc0 hc1 hc2 hc3 hc4 hc5 hc6 hc7
      have HCR := Aside0.mk hcr
      have HCL := Aside0.mk hcl
      clear hcr hcl
      have HG := Aside0.mk (show rd_T31 l (j : Int) = l.getD j z31 by unfold rd_T31; rw [Int.toNat_natCast])
      have HM := Aside0.mk (show rd_T31 l (j : Int) ∈ l by rw [HG.out, List.getD_eq_getElem?_getD, List.getElem?_eq_getElem hlt]; exact List.getElem_mem hlt)
      generalize rd_T31 l (j : Int) = y at *
      have HT := Aside0.mk (any_take l P z31 j hlt)
      have hg : decide ((j : Int) < (l.length : Int)) = true := decide_eq_true (by omega)
      have hw : wrap64 ((j : Int) + 1) = ((j + 1 : Nat) : Int) := by unfold wrap64; omega
      by_cases hP : P y = true
      · go_wp2_with (first | (refine (K0.out _ HB.out y A7 c7 HM.out HCR.out HCL.out).mono ?_; unfold insV at *; rintro e w1 ⟨rfl, hb1⟩; have HB1 := Aside0.mk (below_step HB.out hb1); clear hb1))
        go_ret
        refine ⟨⟨(j : Int), by simp [*], ?_⟩, HB1.out⟩
        rw [decide_eq_true (by omega)]
        exact (any_of_take l P (j + 1) (by rw [HT.out, ← HG.out, hP]; simp)).symm
      · have hP' : P y = false := by simpa using hP
        clear hP
        go_wp2_with (first | (refine (K0.out _ HB.out y A7 c7 HM.out HCR.out HCL.out).mono ?_; unfold insV at *; rintro e w1 ⟨rfl, hb1⟩; have HB1 := Aside0.mk (below_step HB.out hb1); clear hb1))
        go_roundg (gk - 1)
        case measure => omega
        case rel => exact ⟨j + 1, by go_num, by omega, by rw [HT.out, ← HG.out, hP', HP.out]; rfl, HB1.out⟩
    · obtain rfl : j = l.length := by omega
      have hg : decide ((l.length : Int) < (l.length : Int)) = false := decide_eq_false (by omega)
      go_wp2
      go_ret
      refine ⟨⟨-1, by simp [*], ?_⟩, HB.out⟩
      have hp := HP.out
      rw [List.take_length] at hp
      rw [hp]
      rfl
set_option maxHeartbeats 4000000 in
set_option maxRecDepth 100000 in
theorem containsX (v : Value) (P : S31 → Bool) (A : Option Addr) (c : Nat) (l : List S31) (w : World) (h : PredX w v l P) (hl : Kd.C k31 w A l.length l) (hc : l.length ≤ c) (hn : l.length ≤ 140737488355328) :
    Calls Tryz.prog 23 #[.slice A l.length c, v] w fun e w' => e = .returned (.bool (l.any P)) ∧ Below w.heap.size w w' := by
  have HI := Aside0.mk (indexX v P A c l w h hl hc hn)
  clear h hl hc hn
  go_enter Tryz.func23, Tryz.ntmps23
  go_wp2_with (go_at_call 70; refine HI.out.mono ?_; rintro e w1 ⟨⟨i, rfl, hi⟩, hb⟩; have HB1 := Aside0.mk hb; clear hb)
  go_ret
  exact ⟨by simp [*], HB1.out⟩
end Go.Proofs.YtjlhhjfmekjbhaaGreatDoor.Cd

