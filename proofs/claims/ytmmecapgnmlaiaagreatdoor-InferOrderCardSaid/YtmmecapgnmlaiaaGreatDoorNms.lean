/- syntax.checkNames -/
import Derived.Test.YtmmecapgnmlaiaaGreatDoorZxe
import Derived.Test.YtmmecapgnmlaiaaGreatDoorZxa
namespace Go.Proofs.YtmmecapgnmlaiaaGreatDoor
open Go.RowKit Go.Proofs
def opB (n : ByteArray) : Bool:=decide (n.size = 1) && decide (0 ≤ Lib.indexByte [43,45,42,61,60] (n.data.toList.headD 0))
def nmB (k : Int) (n : ByteArray) (names : Int) : Bool:=
 if k = 5 then n.toList.isEmpty || labelB n else if k = 10 then opB n else if 1 ≤ names then nameB n else true
def namesE (k : Int) (n m : ByteArray) (names : Int) : Int:=
 if nmB k n names = false ∨ (names = 2 ∧ nameB m = false) then 6 else if k = 13 ∧ (n.toList == m.toList) = true then 7 else 0
theorem after_call {w : World} {o : Obj} {w1 : World} (h : Below (w.alloc o).heap.size (w.alloc o) w1) : Below w.heap.size w w1 ∧ w.heap.size < w1.heap.size:=
 ⟨((Below.refl _ _).alloc (Nat.le_refl _) o).trans (h.mono (by simp)),by have:=h.size;simp at this;omega⟩
set_option maxHeartbeats 1000000 in
theorem checkNames_s (k : Int) (hk : k = 1 ∨ k = 2 ∨ k = 7 ∨ k = 12 ∨ k = 9 ∨ k = 15 ∨ k = 11 ∨ k = 14) (n m : ByteArray) (i d : Int) (v : Value) (w : World) : Calls Tryz.prog 234 #[.agg #[.int .i64 k,.string n,.string m,.int .i64 i,.int .i64 d,v],.int .i64 0] w fun e w' =>
  e = .returned (.int .i64 (namesE k n m 0)) ∧ Below w.heap.size w w':=by
 have HB:=Lib.hid (fun o => (Below.refl w.heap.size w).alloc (Nat.le_refl _) o)
 have tok1 : True:=trivial
 rcases hk with rfl | rfl | rfl | rfl | rfl | rfl | rfl | rfl
 all_goals
  go_enter Tryz.func234,Tryz.ntmps234
  go_wp2_with (first | (go_at_call 55;refine (label_any _ _).mono ?_;rintro e w1 ⟨rfl,hb1⟩;obtain ⟨hc1,hf1⟩:=bcell hb1;obtain ⟨hB1,hz1⟩:=after_call hb1) | (go_at_call 260;refine (contains_one _ _ _).mono ?_;rintro e w1 ⟨rfl,rfl⟩) | (go_at_call 231;have _t:=tok1;refine (name_any _ _).mono ?_;rintro e w1 ⟨rfl,hb1⟩;obtain ⟨hc1,hf1⟩:=bcell hb1;obtain ⟨hB1,hz1⟩:=after_call hb1;clear tok1 _t) | (go_at_call 231;refine (name_any _ _).mono ?_;rintro e w2 ⟨rfl,hb2⟩;obtain ⟨hc2,hf2⟩:=bcell hb2;have hB2:=hB1.trans (hb2.mono (by omega))))
  go_ret
  refine ⟨ret_int ?_,by first | exact HB.out _ | exact hB2 | exact hB1⟩
  simp [namesE,nmB]
set_option maxHeartbeats 1000000 in
theorem checkNames_o (k : Int) (hk : k = 3 ∨ k = 6 ∨ k = 8) (n m : ByteArray) (i d : Int) (v : Value) (w : World) : Calls Tryz.prog 234 #[.agg #[.int .i64 k,.string n,.string m,.int .i64 i,.int .i64 d,v],.int .i64 1] w fun e w' =>
  e = .returned (.int .i64 (namesE k n m 1)) ∧ Below w.heap.size w w':=by
 have HB:=Lib.hid (fun o => (Below.refl w.heap.size w).alloc (Nat.le_refl _) o)
 have tok1 : True:=trivial
 rcases hk with rfl | rfl | rfl <;> cases h1 : nameB n
 all_goals
  go_enter Tryz.func234,Tryz.ntmps234
  go_wp2_with (first | (go_at_call 55;refine (label_any _ _).mono ?_;rintro e w1 ⟨rfl,hb1⟩;obtain ⟨hc1,hf1⟩:=bcell hb1;obtain ⟨hB1,hz1⟩:=after_call hb1) | (go_at_call 260;refine (contains_one _ _ _).mono ?_;rintro e w1 ⟨rfl,rfl⟩) | (go_at_call 231;have _t:=tok1;refine (name_any _ _).mono ?_;rintro e w1 ⟨rfl,hb1⟩;obtain ⟨hc1,hf1⟩:=bcell hb1;obtain ⟨hB1,hz1⟩:=after_call hb1;clear tok1 _t) | (go_at_call 231;refine (name_any _ _).mono ?_;rintro e w2 ⟨rfl,hb2⟩;obtain ⟨hc2,hf2⟩:=bcell hb2;have hB2:=hB1.trans (hb2.mono (by omega))))
  go_ret
  refine ⟨ret_int ?_,by first | exact HB.out _ | exact hB2 | exact hB1⟩
  simp [namesE,nmB,h1]
set_option maxHeartbeats 1000000 in
theorem checkNames_d (k : Int) (hk : k = 4 ∨ k = 13) (n m : ByteArray) (i d : Int) (v : Value) (w : World) : Calls Tryz.prog 234 #[.agg #[.int .i64 k,.string n,.string m,.int .i64 i,.int .i64 d,v],.int .i64 2] w fun e w' =>
  e = .returned (.int .i64 (namesE k n m 2)) ∧ Below w.heap.size w w':=by
 have HB:=Lib.hid (fun o => (Below.refl w.heap.size w).alloc (Nat.le_refl _) o)
 have tok1 : True:=trivial
 have key : nameB n = false ∨ (nameB n = true ∧ nameB m = false) ∨ (nameB n = true ∧ nameB m = true ∧ (n.toList == m.toList) = false) ∨ (nameB n = true ∧ nameB m = true ∧ (n.toList == m.toList) = true):=by
  cases nameB n <;> cases nameB m <;> cases n.toList == m.toList <;> simp
 rcases hk with rfl | rfl <;> rcases key with h1 | ⟨h1,h2⟩ | ⟨h1,h2,h3⟩ | ⟨h1,h2,h3⟩
 all_goals
  go_enter Tryz.func234,Tryz.ntmps234
  go_wp2_with (first | (go_at_call 55;refine (label_any _ _).mono ?_;rintro e w1 ⟨rfl,hb1⟩;obtain ⟨hc1,hf1⟩:=bcell hb1;obtain ⟨hB1,hz1⟩:=after_call hb1) | (go_at_call 260;refine (contains_one _ _ _).mono ?_;rintro e w1 ⟨rfl,rfl⟩) | (go_at_call 231;have _t:=tok1;refine (name_any _ _).mono ?_;rintro e w1 ⟨rfl,hb1⟩;obtain ⟨hc1,hf1⟩:=bcell hb1;obtain ⟨hB1,hz1⟩:=after_call hb1;clear tok1 _t) | (go_at_call 231;refine (name_any _ _).mono ?_;rintro e w2 ⟨rfl,hb2⟩;obtain ⟨hc2,hf2⟩:=bcell hb2;have hB2:=hB1.trans (hb2.mono (by omega))))
  go_ret
  refine ⟨ret_int ?_,by first | exact HB.out _ | exact hB2 | exact hB1⟩
  first | (simp [namesE,nmB,h1];done) | (simp [namesE,nmB,h1,h2];done) | (simp [namesE,nmB,h1,h2,h3];done)
set_option maxHeartbeats 1000000 in
theorem checkNames_5 (n m : ByteArray) (i d : Int) (v : Value) (w : World) : Calls Tryz.prog 234 #[.agg #[.int .i64 5,.string n,.string m,.int .i64 i,.int .i64 d,v],.int .i64 1] w fun e w' =>
  e = .returned (.int .i64 (namesE 5 n m 1)) ∧ Below w.heap.size w w':=by
 have HB:=Lib.hid (fun o => (Below.refl w.heap.size w).alloc (Nat.le_refl _) o)
 have tok1 : True:=trivial
 by_cases h0 : n.toList = []
 ·go_enter Tryz.func234,Tryz.ntmps234
  go_wp2_with (first | (go_at_call 55;refine (label_any _ _).mono ?_;rintro e w1 ⟨rfl,hb1⟩;obtain ⟨hc1,hf1⟩:=bcell hb1;obtain ⟨hB1,hz1⟩:=after_call hb1) | (go_at_call 260;refine (contains_one _ _ _).mono ?_;rintro e w1 ⟨rfl,rfl⟩) | (go_at_call 231;have _t:=tok1;refine (name_any _ _).mono ?_;rintro e w1 ⟨rfl,hb1⟩;obtain ⟨hc1,hf1⟩:=bcell hb1;obtain ⟨hB1,hz1⟩:=after_call hb1;clear tok1 _t) | (go_at_call 231;refine (name_any _ _).mono ?_;rintro e w2 ⟨rfl,hb2⟩;obtain ⟨hc2,hf2⟩:=bcell hb2;have hB2:=hB1.trans (hb2.mono (by omega))))
  go_ret
  refine ⟨ret_int ?_,by first | exact HB.out _ | exact hB2 | exact hB1⟩
  simp [namesE,nmB,h0]
 ·have h1 : n.toList.isEmpty = false:=by simpa using h0
  have h2 : (n.toList == []) = false:=by simpa using h0
  cases h3 : labelB n
  all_goals
   go_enter Tryz.func234,Tryz.ntmps234
   go_wp2_with (first | (go_at_call 55;refine (label_any _ _).mono ?_;rintro e w1 ⟨rfl,hb1⟩;obtain ⟨hc1,hf1⟩:=bcell hb1;obtain ⟨hB1,hz1⟩:=after_call hb1) | (go_at_call 260;refine (contains_one _ _ _).mono ?_;rintro e w1 ⟨rfl,rfl⟩) | (go_at_call 231;have _t:=tok1;refine (name_any _ _).mono ?_;rintro e w1 ⟨rfl,hb1⟩;obtain ⟨hc1,hf1⟩:=bcell hb1;obtain ⟨hB1,hz1⟩:=after_call hb1;clear tok1 _t) | (go_at_call 231;refine (name_any _ _).mono ?_;rintro e w2 ⟨rfl,hb2⟩;obtain ⟨hc2,hf2⟩:=bcell hb2;have hB2:=hB1.trans (hb2.mono (by omega))))
   go_ret
   refine ⟨ret_int ?_,by first | exact HB.out _ | exact hB2 | exact hB1⟩
   simp [namesE,nmB,h0,h3]
set_option maxHeartbeats 1000000 in
theorem checkNames_10 (n m : ByteArray) (i d : Int) (v : Value) (w : World) : Calls Tryz.prog 234 #[.agg #[.int .i64 10,.string n,.string m,.int .i64 i,.int .i64 d,v],.int .i64 1] w fun e w' =>
  e = .returned (.int .i64 (namesE 10 n m 1)) ∧ Below w.heap.size w w':=by
 have HB:=Lib.hid (fun o => (Below.refl w.heap.size w).alloc (Nat.le_refl _) o)
 have tok1 : True:=trivial
 by_cases h0 : n.size = 1
 ·obtain ⟨c,rfl⟩:=size_one h0
  clear h0
  by_cases h1 : 0 ≤ Lib.indexByte [43,45,42,61,60] c
  ·have h2 : decide (0 ≤ Lib.indexByte [43,45,42,61,60] c) = true:=by simpa using h1
   go_enter Tryz.func234,Tryz.ntmps234
   go_wp2_with (first | (go_at_call 55;refine (label_any _ _).mono ?_;rintro e w1 ⟨rfl,hb1⟩;obtain ⟨hc1,hf1⟩:=bcell hb1;obtain ⟨hB1,hz1⟩:=after_call hb1) | (go_at_call 260;refine (contains_one _ _ _).mono ?_;rintro e w1 ⟨rfl,rfl⟩) | (go_at_call 231;have _t:=tok1;refine (name_any _ _).mono ?_;rintro e w1 ⟨rfl,hb1⟩;obtain ⟨hc1,hf1⟩:=bcell hb1;obtain ⟨hB1,hz1⟩:=after_call hb1;clear tok1 _t) | (go_at_call 231;refine (name_any _ _).mono ?_;rintro e w2 ⟨rfl,hb2⟩;obtain ⟨hc2,hf2⟩:=bcell hb2;have hB2:=hB1.trans (hb2.mono (by omega))))
   go_ret
   refine ⟨ret_int ?_,by first | exact HB.out _ | exact hB2 | exact hB1⟩
   simp [namesE,nmB,opB,h1,ByteArray.size]
  ·have h2 : decide (0 ≤ Lib.indexByte [43,45,42,61,60] c) = false:=by simpa using h1
   go_enter Tryz.func234,Tryz.ntmps234
   go_wp2_with (first | (go_at_call 55;refine (label_any _ _).mono ?_;rintro e w1 ⟨rfl,hb1⟩;obtain ⟨hc1,hf1⟩:=bcell hb1;obtain ⟨hB1,hz1⟩:=after_call hb1) | (go_at_call 260;refine (contains_one _ _ _).mono ?_;rintro e w1 ⟨rfl,rfl⟩) | (go_at_call 231;have _t:=tok1;refine (name_any _ _).mono ?_;rintro e w1 ⟨rfl,hb1⟩;obtain ⟨hc1,hf1⟩:=bcell hb1;obtain ⟨hB1,hz1⟩:=after_call hb1;clear tok1 _t) | (go_at_call 231;refine (name_any _ _).mono ?_;rintro e w2 ⟨rfl,hb2⟩;obtain ⟨hc2,hf2⟩:=bcell hb2;have hB2:=hB1.trans (hb2.mono (by omega))))
   go_ret
   refine ⟨ret_int ?_,by first | exact HB.out _ | exact hB2 | exact hB1⟩
   simp [namesE,nmB,opB,h2,ByteArray.size]
 ·have h1 : ((n.size : Int) == 1) = false:=by simp;omega
  have H0:=Lib.hid h0
  clear h0
  go_enter Tryz.func234,Tryz.ntmps234
  go_wp2
  go_ret
  refine ⟨ret_int ?_,HB.out _⟩
  simp [namesE,nmB,opB,H0.out]
theorem checkNames_any (k a b c : Int) (n m : ByteArray) (i d : Int) (v : Value) (w : World) (hk : shapeZ k = (a,b,c,true)) : Calls Tryz.prog 234 #[.agg #[.int .i64 k,.string n,.string m,.int .i64 i,.int .i64 d,v],.int .i64 a] w fun e w' =>
  e = .returned (.int .i64 (namesE k n m a)) ∧ Below w.heap.size w w':=by
 by_cases h : knownZ k
 ·unfold knownZ at h
  rcases h with rfl | rfl | rfl | rfl | rfl | rfl | rfl | rfl | rfl | rfl | rfl | rfl | rfl | rfl | rfl
  all_goals
   simp only [shapeZ,Int.reduceEq,if_true,if_false,Prod.mk.injEq] at hk
   obtain ⟨rfl,rfl,rfl,_⟩:=hk
  ·exact checkNames_s 1 (by simp) n m i d v w
  ·exact checkNames_s 2 (by simp) n m i d v w
  ·exact checkNames_o 3 (by simp) n m i d v w
  ·exact checkNames_d 4 (by simp) n m i d v w
  ·exact checkNames_5 n m i d v w
  ·exact checkNames_o 6 (by simp) n m i d v w
  ·exact checkNames_s 7 (by simp) n m i d v w
  ·exact checkNames_s 12 (by simp) n m i d v w
  ·exact checkNames_o 8 (by simp) n m i d v w
  ·exact checkNames_10 n m i d v w
  ·exact checkNames_s 9 (by simp) n m i d v w
  ·exact checkNames_s 15 (by simp) n m i d v w
  ·exact checkNames_s 11 (by simp) n m i d v w
  ·exact checkNames_d 13 (by simp) n m i d v w
  ·exact checkNames_s 14 (by simp) n m i d v w
 ·rw [shapeZ_no h] at hk
  simp at hk
end Go.Proofs.YtmmecapgnmlaiaaGreatDoor
