/- syntax.checkNames -/
import Derived.Test.YtnfndgmlnoeelaaGreatDoorZlc
namespace Go.Proofs.YtnfndgmlnoeelaaGreatDoor
open Go.RowKit Go.Proofs
def opB (n : ByteArray) : Bool:=decide (n.size = 1) && decide (0 ≤ Lib.indexByte [43,45,42,61,60] (n.data.toList.headD 0))
def nmB (k : Int) (n : ByteArray) (names : Int) : Bool:=
 if k = 5 then n.toList.isEmpty || labelB n else if k = 10 then opB n else if 1 ≤ names then nameB n else true
def namesE (k : Int) (n m : ByteArray) (names : Int) : Int:=
 if nmB k n names = false ∨ (names = 2 ∧ nameB m = false) then 6 else if k = 13 ∧ (n.toList == m.toList) = true then 7 else 0
theorem after_call {w : World} {o : Obj} {w1 : World} (h : Below (w.alloc o).heap.size (w.alloc o) w1) : Below w.heap.size w w1 ∧ w.heap.size < w1.heap.size:=
 ⟨((Below.refl _ _).alloc (Nat.le_refl _) o).trans (h.mono (by simp)),by have:=h.size;simp at this;omega⟩
set_option maxHeartbeats 1000000 in
theorem checkNames_1 (n m : ByteArray) (i d : Int) (v : Value) (w : World) : Calls Tryz.prog 171 #[.agg #[.int .i64 1,.string n,.string m,.int .i64 i,.int .i64 d,v],.int .i64 0] w fun e w' =>
  e = .returned (.int .i64 (namesE 1 n m 0)) ∧ Below w.heap.size w w':=by
 have HB:=Lib.hid (fun o => (Below.refl w.heap.size w).alloc (Nat.le_refl _) o)
 have tok1 : True:=trivial
 go_enter Tryz.func171,Tryz.ntmps171
 go_wp2_with (first | (go_at_call 82;refine (label_any _ _).mono ?_;rintro e w1 ⟨rfl,hb1⟩;obtain ⟨hc1,hf1⟩:=bcell hb1;obtain ⟨hB1,hz1⟩:=after_call hb1) | (go_at_call 179;refine (contains_one _ _ _).mono ?_;rintro e w1 ⟨rfl,rfl⟩) | (go_at_call 167;have _t:=tok1;refine (name_any _ _).mono ?_;rintro e w1 ⟨rfl,hb1⟩;obtain ⟨hc1,hf1⟩:=bcell hb1;obtain ⟨hB1,hz1⟩:=after_call hb1;clear tok1 _t) | (go_at_call 167;refine (name_any _ _).mono ?_;rintro e w2 ⟨rfl,hb2⟩;obtain ⟨hc2,hf2⟩:=bcell hb2;have hB2:=hB1.trans (hb2.mono (by omega))))
 go_ret
 refine ⟨ret_int ?_,by first | exact HB.out _ | exact hB2 | exact hB1⟩
 simp [namesE,nmB]
set_option maxHeartbeats 1000000 in
theorem checkNames_2 (n m : ByteArray) (i d : Int) (v : Value) (w : World) : Calls Tryz.prog 171 #[.agg #[.int .i64 2,.string n,.string m,.int .i64 i,.int .i64 d,v],.int .i64 0] w fun e w' =>
  e = .returned (.int .i64 (namesE 2 n m 0)) ∧ Below w.heap.size w w':=by
 have HB:=Lib.hid (fun o => (Below.refl w.heap.size w).alloc (Nat.le_refl _) o)
 have tok1 : True:=trivial
 go_enter Tryz.func171,Tryz.ntmps171
 go_wp2_with (first | (go_at_call 82;refine (label_any _ _).mono ?_;rintro e w1 ⟨rfl,hb1⟩;obtain ⟨hc1,hf1⟩:=bcell hb1;obtain ⟨hB1,hz1⟩:=after_call hb1) | (go_at_call 179;refine (contains_one _ _ _).mono ?_;rintro e w1 ⟨rfl,rfl⟩) | (go_at_call 167;have _t:=tok1;refine (name_any _ _).mono ?_;rintro e w1 ⟨rfl,hb1⟩;obtain ⟨hc1,hf1⟩:=bcell hb1;obtain ⟨hB1,hz1⟩:=after_call hb1;clear tok1 _t) | (go_at_call 167;refine (name_any _ _).mono ?_;rintro e w2 ⟨rfl,hb2⟩;obtain ⟨hc2,hf2⟩:=bcell hb2;have hB2:=hB1.trans (hb2.mono (by omega))))
 go_ret
 refine ⟨ret_int ?_,by first | exact HB.out _ | exact hB2 | exact hB1⟩
 simp [namesE,nmB]
set_option maxHeartbeats 1000000 in
theorem checkNames_3 (n m : ByteArray) (i d : Int) (v : Value) (w : World) : Calls Tryz.prog 171 #[.agg #[.int .i64 3,.string n,.string m,.int .i64 i,.int .i64 d,v],.int .i64 1] w fun e w' =>
  e = .returned (.int .i64 (namesE 3 n m 1)) ∧ Below w.heap.size w w':=by
 have HB:=Lib.hid (fun o => (Below.refl w.heap.size w).alloc (Nat.le_refl _) o)
 have tok1 : True:=trivial
 cases h1 : nameB n
 all_goals
  go_enter Tryz.func171,Tryz.ntmps171
  go_wp2_with (first | (go_at_call 82;refine (label_any _ _).mono ?_;rintro e w1 ⟨rfl,hb1⟩;obtain ⟨hc1,hf1⟩:=bcell hb1;obtain ⟨hB1,hz1⟩:=after_call hb1) | (go_at_call 179;refine (contains_one _ _ _).mono ?_;rintro e w1 ⟨rfl,rfl⟩) | (go_at_call 167;have _t:=tok1;refine (name_any _ _).mono ?_;rintro e w1 ⟨rfl,hb1⟩;obtain ⟨hc1,hf1⟩:=bcell hb1;obtain ⟨hB1,hz1⟩:=after_call hb1;clear tok1 _t) | (go_at_call 167;refine (name_any _ _).mono ?_;rintro e w2 ⟨rfl,hb2⟩;obtain ⟨hc2,hf2⟩:=bcell hb2;have hB2:=hB1.trans (hb2.mono (by omega))))
  go_ret
  refine ⟨ret_int ?_,by first | exact HB.out _ | exact hB2 | exact hB1⟩
  simp [namesE,nmB,h1]
set_option maxHeartbeats 1000000 in
theorem checkNames_4 (n m : ByteArray) (i d : Int) (v : Value) (w : World) : Calls Tryz.prog 171 #[.agg #[.int .i64 4,.string n,.string m,.int .i64 i,.int .i64 d,v],.int .i64 2] w fun e w' =>
  e = .returned (.int .i64 (namesE 4 n m 2)) ∧ Below w.heap.size w w':=by
 have HB:=Lib.hid (fun o => (Below.refl w.heap.size w).alloc (Nat.le_refl _) o)
 have tok1 : True:=trivial
 cases h1 : nameB n
 ·go_enter Tryz.func171,Tryz.ntmps171
  go_wp2_with (first | (go_at_call 82;refine (label_any _ _).mono ?_;rintro e w1 ⟨rfl,hb1⟩;obtain ⟨hc1,hf1⟩:=bcell hb1;obtain ⟨hB1,hz1⟩:=after_call hb1) | (go_at_call 179;refine (contains_one _ _ _).mono ?_;rintro e w1 ⟨rfl,rfl⟩) | (go_at_call 167;have _t:=tok1;refine (name_any _ _).mono ?_;rintro e w1 ⟨rfl,hb1⟩;obtain ⟨hc1,hf1⟩:=bcell hb1;obtain ⟨hB1,hz1⟩:=after_call hb1;clear tok1 _t) | (go_at_call 167;refine (name_any _ _).mono ?_;rintro e w2 ⟨rfl,hb2⟩;obtain ⟨hc2,hf2⟩:=bcell hb2;have hB2:=hB1.trans (hb2.mono (by omega))))
  go_ret
  refine ⟨ret_int ?_,by first | exact HB.out _ | exact hB2 | exact hB1⟩
  simp [namesE,nmB,h1]
 ·cases h2 : nameB m
  all_goals
   go_enter Tryz.func171,Tryz.ntmps171
   go_wp2_with (first | (go_at_call 82;refine (label_any _ _).mono ?_;rintro e w1 ⟨rfl,hb1⟩;obtain ⟨hc1,hf1⟩:=bcell hb1;obtain ⟨hB1,hz1⟩:=after_call hb1) | (go_at_call 179;refine (contains_one _ _ _).mono ?_;rintro e w1 ⟨rfl,rfl⟩) | (go_at_call 167;have _t:=tok1;refine (name_any _ _).mono ?_;rintro e w1 ⟨rfl,hb1⟩;obtain ⟨hc1,hf1⟩:=bcell hb1;obtain ⟨hB1,hz1⟩:=after_call hb1;clear tok1 _t) | (go_at_call 167;refine (name_any _ _).mono ?_;rintro e w2 ⟨rfl,hb2⟩;obtain ⟨hc2,hf2⟩:=bcell hb2;have hB2:=hB1.trans (hb2.mono (by omega))))
   go_ret
   refine ⟨ret_int ?_,by first | exact HB.out _ | exact hB2 | exact hB1⟩
   simp [namesE,nmB,h1,h2]
set_option maxHeartbeats 1000000 in
theorem checkNames_5 (n m : ByteArray) (i d : Int) (v : Value) (w : World) : Calls Tryz.prog 171 #[.agg #[.int .i64 5,.string n,.string m,.int .i64 i,.int .i64 d,v],.int .i64 1] w fun e w' =>
  e = .returned (.int .i64 (namesE 5 n m 1)) ∧ Below w.heap.size w w':=by
 have HB:=Lib.hid (fun o => (Below.refl w.heap.size w).alloc (Nat.le_refl _) o)
 have tok1 : True:=trivial
 by_cases h0 : n.toList = []
 ·go_enter Tryz.func171,Tryz.ntmps171
  go_wp2_with (first | (go_at_call 82;refine (label_any _ _).mono ?_;rintro e w1 ⟨rfl,hb1⟩;obtain ⟨hc1,hf1⟩:=bcell hb1;obtain ⟨hB1,hz1⟩:=after_call hb1) | (go_at_call 179;refine (contains_one _ _ _).mono ?_;rintro e w1 ⟨rfl,rfl⟩) | (go_at_call 167;have _t:=tok1;refine (name_any _ _).mono ?_;rintro e w1 ⟨rfl,hb1⟩;obtain ⟨hc1,hf1⟩:=bcell hb1;obtain ⟨hB1,hz1⟩:=after_call hb1;clear tok1 _t) | (go_at_call 167;refine (name_any _ _).mono ?_;rintro e w2 ⟨rfl,hb2⟩;obtain ⟨hc2,hf2⟩:=bcell hb2;have hB2:=hB1.trans (hb2.mono (by omega))))
  go_ret
  refine ⟨ret_int ?_,by first | exact HB.out _ | exact hB2 | exact hB1⟩
  simp [namesE,nmB,h0]
 ·have h1 : n.toList.isEmpty = false:=by simpa using h0
  have h2 : (n.toList == []) = false:=by simpa using h0
  cases h3 : labelB n
  all_goals
   go_enter Tryz.func171,Tryz.ntmps171
   go_wp2_with (first | (go_at_call 82;refine (label_any _ _).mono ?_;rintro e w1 ⟨rfl,hb1⟩;obtain ⟨hc1,hf1⟩:=bcell hb1;obtain ⟨hB1,hz1⟩:=after_call hb1) | (go_at_call 179;refine (contains_one _ _ _).mono ?_;rintro e w1 ⟨rfl,rfl⟩) | (go_at_call 167;have _t:=tok1;refine (name_any _ _).mono ?_;rintro e w1 ⟨rfl,hb1⟩;obtain ⟨hc1,hf1⟩:=bcell hb1;obtain ⟨hB1,hz1⟩:=after_call hb1;clear tok1 _t) | (go_at_call 167;refine (name_any _ _).mono ?_;rintro e w2 ⟨rfl,hb2⟩;obtain ⟨hc2,hf2⟩:=bcell hb2;have hB2:=hB1.trans (hb2.mono (by omega))))
   go_ret
   refine ⟨ret_int ?_,by first | exact HB.out _ | exact hB2 | exact hB1⟩
   simp [namesE,nmB,h0,h3]
set_option maxHeartbeats 1000000 in
theorem checkNames_6 (n m : ByteArray) (i d : Int) (v : Value) (w : World) : Calls Tryz.prog 171 #[.agg #[.int .i64 6,.string n,.string m,.int .i64 i,.int .i64 d,v],.int .i64 1] w fun e w' =>
  e = .returned (.int .i64 (namesE 6 n m 1)) ∧ Below w.heap.size w w':=by
 have HB:=Lib.hid (fun o => (Below.refl w.heap.size w).alloc (Nat.le_refl _) o)
 have tok1 : True:=trivial
 cases h1 : nameB n
 all_goals
  go_enter Tryz.func171,Tryz.ntmps171
  go_wp2_with (first | (go_at_call 82;refine (label_any _ _).mono ?_;rintro e w1 ⟨rfl,hb1⟩;obtain ⟨hc1,hf1⟩:=bcell hb1;obtain ⟨hB1,hz1⟩:=after_call hb1) | (go_at_call 179;refine (contains_one _ _ _).mono ?_;rintro e w1 ⟨rfl,rfl⟩) | (go_at_call 167;have _t:=tok1;refine (name_any _ _).mono ?_;rintro e w1 ⟨rfl,hb1⟩;obtain ⟨hc1,hf1⟩:=bcell hb1;obtain ⟨hB1,hz1⟩:=after_call hb1;clear tok1 _t) | (go_at_call 167;refine (name_any _ _).mono ?_;rintro e w2 ⟨rfl,hb2⟩;obtain ⟨hc2,hf2⟩:=bcell hb2;have hB2:=hB1.trans (hb2.mono (by omega))))
  go_ret
  refine ⟨ret_int ?_,by first | exact HB.out _ | exact hB2 | exact hB1⟩
  simp [namesE,nmB,h1]
set_option maxHeartbeats 1000000 in
theorem checkNames_7 (n m : ByteArray) (i d : Int) (v : Value) (w : World) : Calls Tryz.prog 171 #[.agg #[.int .i64 7,.string n,.string m,.int .i64 i,.int .i64 d,v],.int .i64 0] w fun e w' =>
  e = .returned (.int .i64 (namesE 7 n m 0)) ∧ Below w.heap.size w w':=by
 have HB:=Lib.hid (fun o => (Below.refl w.heap.size w).alloc (Nat.le_refl _) o)
 have tok1 : True:=trivial
 go_enter Tryz.func171,Tryz.ntmps171
 go_wp2_with (first | (go_at_call 82;refine (label_any _ _).mono ?_;rintro e w1 ⟨rfl,hb1⟩;obtain ⟨hc1,hf1⟩:=bcell hb1;obtain ⟨hB1,hz1⟩:=after_call hb1) | (go_at_call 179;refine (contains_one _ _ _).mono ?_;rintro e w1 ⟨rfl,rfl⟩) | (go_at_call 167;have _t:=tok1;refine (name_any _ _).mono ?_;rintro e w1 ⟨rfl,hb1⟩;obtain ⟨hc1,hf1⟩:=bcell hb1;obtain ⟨hB1,hz1⟩:=after_call hb1;clear tok1 _t) | (go_at_call 167;refine (name_any _ _).mono ?_;rintro e w2 ⟨rfl,hb2⟩;obtain ⟨hc2,hf2⟩:=bcell hb2;have hB2:=hB1.trans (hb2.mono (by omega))))
 go_ret
 refine ⟨ret_int ?_,by first | exact HB.out _ | exact hB2 | exact hB1⟩
 simp [namesE,nmB]
set_option maxHeartbeats 1000000 in
theorem checkNames_12 (n m : ByteArray) (i d : Int) (v : Value) (w : World) : Calls Tryz.prog 171 #[.agg #[.int .i64 12,.string n,.string m,.int .i64 i,.int .i64 d,v],.int .i64 0] w fun e w' =>
  e = .returned (.int .i64 (namesE 12 n m 0)) ∧ Below w.heap.size w w':=by
 have HB:=Lib.hid (fun o => (Below.refl w.heap.size w).alloc (Nat.le_refl _) o)
 have tok1 : True:=trivial
 go_enter Tryz.func171,Tryz.ntmps171
 go_wp2_with (first | (go_at_call 82;refine (label_any _ _).mono ?_;rintro e w1 ⟨rfl,hb1⟩;obtain ⟨hc1,hf1⟩:=bcell hb1;obtain ⟨hB1,hz1⟩:=after_call hb1) | (go_at_call 179;refine (contains_one _ _ _).mono ?_;rintro e w1 ⟨rfl,rfl⟩) | (go_at_call 167;have _t:=tok1;refine (name_any _ _).mono ?_;rintro e w1 ⟨rfl,hb1⟩;obtain ⟨hc1,hf1⟩:=bcell hb1;obtain ⟨hB1,hz1⟩:=after_call hb1;clear tok1 _t) | (go_at_call 167;refine (name_any _ _).mono ?_;rintro e w2 ⟨rfl,hb2⟩;obtain ⟨hc2,hf2⟩:=bcell hb2;have hB2:=hB1.trans (hb2.mono (by omega))))
 go_ret
 refine ⟨ret_int ?_,by first | exact HB.out _ | exact hB2 | exact hB1⟩
 simp [namesE,nmB]
set_option maxHeartbeats 1000000 in
theorem checkNames_8 (n m : ByteArray) (i d : Int) (v : Value) (w : World) : Calls Tryz.prog 171 #[.agg #[.int .i64 8,.string n,.string m,.int .i64 i,.int .i64 d,v],.int .i64 1] w fun e w' =>
  e = .returned (.int .i64 (namesE 8 n m 1)) ∧ Below w.heap.size w w':=by
 have HB:=Lib.hid (fun o => (Below.refl w.heap.size w).alloc (Nat.le_refl _) o)
 have tok1 : True:=trivial
 cases h1 : nameB n
 all_goals
  go_enter Tryz.func171,Tryz.ntmps171
  go_wp2_with (first | (go_at_call 82;refine (label_any _ _).mono ?_;rintro e w1 ⟨rfl,hb1⟩;obtain ⟨hc1,hf1⟩:=bcell hb1;obtain ⟨hB1,hz1⟩:=after_call hb1) | (go_at_call 179;refine (contains_one _ _ _).mono ?_;rintro e w1 ⟨rfl,rfl⟩) | (go_at_call 167;have _t:=tok1;refine (name_any _ _).mono ?_;rintro e w1 ⟨rfl,hb1⟩;obtain ⟨hc1,hf1⟩:=bcell hb1;obtain ⟨hB1,hz1⟩:=after_call hb1;clear tok1 _t) | (go_at_call 167;refine (name_any _ _).mono ?_;rintro e w2 ⟨rfl,hb2⟩;obtain ⟨hc2,hf2⟩:=bcell hb2;have hB2:=hB1.trans (hb2.mono (by omega))))
  go_ret
  refine ⟨ret_int ?_,by first | exact HB.out _ | exact hB2 | exact hB1⟩
  simp [namesE,nmB,h1]
set_option maxHeartbeats 1000000 in
theorem checkNames_10 (n m : ByteArray) (i d : Int) (v : Value) (w : World) : Calls Tryz.prog 171 #[.agg #[.int .i64 10,.string n,.string m,.int .i64 i,.int .i64 d,v],.int .i64 1] w fun e w' =>
  e = .returned (.int .i64 (namesE 10 n m 1)) ∧ Below w.heap.size w w':=by
 have HB:=Lib.hid (fun o => (Below.refl w.heap.size w).alloc (Nat.le_refl _) o)
 have tok1 : True:=trivial
 by_cases h0 : n.size = 1
 ·obtain ⟨c,rfl⟩:=size_one h0
  clear h0
  by_cases h1 : 0 ≤ Lib.indexByte [43,45,42,61,60] c
  ·have h2 : decide (0 ≤ Lib.indexByte [43,45,42,61,60] c) = true:=by simpa using h1
   go_enter Tryz.func171,Tryz.ntmps171
   go_wp2_with (first | (go_at_call 82;refine (label_any _ _).mono ?_;rintro e w1 ⟨rfl,hb1⟩;obtain ⟨hc1,hf1⟩:=bcell hb1;obtain ⟨hB1,hz1⟩:=after_call hb1) | (go_at_call 179;refine (contains_one _ _ _).mono ?_;rintro e w1 ⟨rfl,rfl⟩) | (go_at_call 167;have _t:=tok1;refine (name_any _ _).mono ?_;rintro e w1 ⟨rfl,hb1⟩;obtain ⟨hc1,hf1⟩:=bcell hb1;obtain ⟨hB1,hz1⟩:=after_call hb1;clear tok1 _t) | (go_at_call 167;refine (name_any _ _).mono ?_;rintro e w2 ⟨rfl,hb2⟩;obtain ⟨hc2,hf2⟩:=bcell hb2;have hB2:=hB1.trans (hb2.mono (by omega))))
   go_ret
   refine ⟨ret_int ?_,by first | exact HB.out _ | exact hB2 | exact hB1⟩
   simp [namesE,nmB,opB,h1,ByteArray.size]
  ·have h2 : decide (0 ≤ Lib.indexByte [43,45,42,61,60] c) = false:=by simpa using h1
   go_enter Tryz.func171,Tryz.ntmps171
   go_wp2_with (first | (go_at_call 82;refine (label_any _ _).mono ?_;rintro e w1 ⟨rfl,hb1⟩;obtain ⟨hc1,hf1⟩:=bcell hb1;obtain ⟨hB1,hz1⟩:=after_call hb1) | (go_at_call 179;refine (contains_one _ _ _).mono ?_;rintro e w1 ⟨rfl,rfl⟩) | (go_at_call 167;have _t:=tok1;refine (name_any _ _).mono ?_;rintro e w1 ⟨rfl,hb1⟩;obtain ⟨hc1,hf1⟩:=bcell hb1;obtain ⟨hB1,hz1⟩:=after_call hb1;clear tok1 _t) | (go_at_call 167;refine (name_any _ _).mono ?_;rintro e w2 ⟨rfl,hb2⟩;obtain ⟨hc2,hf2⟩:=bcell hb2;have hB2:=hB1.trans (hb2.mono (by omega))))
   go_ret
   refine ⟨ret_int ?_,by first | exact HB.out _ | exact hB2 | exact hB1⟩
   simp [namesE,nmB,opB,h2,ByteArray.size]
 ·have h1 : ((n.size : Int) == 1) = false:=by simp;omega
  have H0:=Lib.hid h0
  clear h0
  go_enter Tryz.func171,Tryz.ntmps171
  go_wp2
  go_ret
  refine ⟨ret_int ?_,HB.out _⟩
  simp [namesE,nmB,opB,H0.out]
set_option maxHeartbeats 1000000 in
theorem checkNames_9 (n m : ByteArray) (i d : Int) (v : Value) (w : World) : Calls Tryz.prog 171 #[.agg #[.int .i64 9,.string n,.string m,.int .i64 i,.int .i64 d,v],.int .i64 0] w fun e w' =>
  e = .returned (.int .i64 (namesE 9 n m 0)) ∧ Below w.heap.size w w':=by
 have HB:=Lib.hid (fun o => (Below.refl w.heap.size w).alloc (Nat.le_refl _) o)
 have tok1 : True:=trivial
 go_enter Tryz.func171,Tryz.ntmps171
 go_wp2_with (first | (go_at_call 82;refine (label_any _ _).mono ?_;rintro e w1 ⟨rfl,hb1⟩;obtain ⟨hc1,hf1⟩:=bcell hb1;obtain ⟨hB1,hz1⟩:=after_call hb1) | (go_at_call 179;refine (contains_one _ _ _).mono ?_;rintro e w1 ⟨rfl,rfl⟩) | (go_at_call 167;have _t:=tok1;refine (name_any _ _).mono ?_;rintro e w1 ⟨rfl,hb1⟩;obtain ⟨hc1,hf1⟩:=bcell hb1;obtain ⟨hB1,hz1⟩:=after_call hb1;clear tok1 _t) | (go_at_call 167;refine (name_any _ _).mono ?_;rintro e w2 ⟨rfl,hb2⟩;obtain ⟨hc2,hf2⟩:=bcell hb2;have hB2:=hB1.trans (hb2.mono (by omega))))
 go_ret
 refine ⟨ret_int ?_,by first | exact HB.out _ | exact hB2 | exact hB1⟩
 simp [namesE,nmB]
set_option maxHeartbeats 1000000 in
theorem checkNames_15 (n m : ByteArray) (i d : Int) (v : Value) (w : World) : Calls Tryz.prog 171 #[.agg #[.int .i64 15,.string n,.string m,.int .i64 i,.int .i64 d,v],.int .i64 0] w fun e w' =>
  e = .returned (.int .i64 (namesE 15 n m 0)) ∧ Below w.heap.size w w':=by
 have HB:=Lib.hid (fun o => (Below.refl w.heap.size w).alloc (Nat.le_refl _) o)
 have tok1 : True:=trivial
 go_enter Tryz.func171,Tryz.ntmps171
 go_wp2_with (first | (go_at_call 82;refine (label_any _ _).mono ?_;rintro e w1 ⟨rfl,hb1⟩;obtain ⟨hc1,hf1⟩:=bcell hb1;obtain ⟨hB1,hz1⟩:=after_call hb1) | (go_at_call 179;refine (contains_one _ _ _).mono ?_;rintro e w1 ⟨rfl,rfl⟩) | (go_at_call 167;have _t:=tok1;refine (name_any _ _).mono ?_;rintro e w1 ⟨rfl,hb1⟩;obtain ⟨hc1,hf1⟩:=bcell hb1;obtain ⟨hB1,hz1⟩:=after_call hb1;clear tok1 _t) | (go_at_call 167;refine (name_any _ _).mono ?_;rintro e w2 ⟨rfl,hb2⟩;obtain ⟨hc2,hf2⟩:=bcell hb2;have hB2:=hB1.trans (hb2.mono (by omega))))
 go_ret
 refine ⟨ret_int ?_,by first | exact HB.out _ | exact hB2 | exact hB1⟩
 simp [namesE,nmB]
set_option maxHeartbeats 1000000 in
theorem checkNames_11 (n m : ByteArray) (i d : Int) (v : Value) (w : World) : Calls Tryz.prog 171 #[.agg #[.int .i64 11,.string n,.string m,.int .i64 i,.int .i64 d,v],.int .i64 0] w fun e w' =>
  e = .returned (.int .i64 (namesE 11 n m 0)) ∧ Below w.heap.size w w':=by
 have HB:=Lib.hid (fun o => (Below.refl w.heap.size w).alloc (Nat.le_refl _) o)
 have tok1 : True:=trivial
 go_enter Tryz.func171,Tryz.ntmps171
 go_wp2_with (first | (go_at_call 82;refine (label_any _ _).mono ?_;rintro e w1 ⟨rfl,hb1⟩;obtain ⟨hc1,hf1⟩:=bcell hb1;obtain ⟨hB1,hz1⟩:=after_call hb1) | (go_at_call 179;refine (contains_one _ _ _).mono ?_;rintro e w1 ⟨rfl,rfl⟩) | (go_at_call 167;have _t:=tok1;refine (name_any _ _).mono ?_;rintro e w1 ⟨rfl,hb1⟩;obtain ⟨hc1,hf1⟩:=bcell hb1;obtain ⟨hB1,hz1⟩:=after_call hb1;clear tok1 _t) | (go_at_call 167;refine (name_any _ _).mono ?_;rintro e w2 ⟨rfl,hb2⟩;obtain ⟨hc2,hf2⟩:=bcell hb2;have hB2:=hB1.trans (hb2.mono (by omega))))
 go_ret
 refine ⟨ret_int ?_,by first | exact HB.out _ | exact hB2 | exact hB1⟩
 simp [namesE,nmB]
set_option maxHeartbeats 1000000 in
theorem checkNames_13 (n m : ByteArray) (i d : Int) (v : Value) (w : World) : Calls Tryz.prog 171 #[.agg #[.int .i64 13,.string n,.string m,.int .i64 i,.int .i64 d,v],.int .i64 2] w fun e w' =>
  e = .returned (.int .i64 (namesE 13 n m 2)) ∧ Below w.heap.size w w':=by
 have HB:=Lib.hid (fun o => (Below.refl w.heap.size w).alloc (Nat.le_refl _) o)
 have tok1 : True:=trivial
 cases h1 : nameB n
 ·go_enter Tryz.func171,Tryz.ntmps171
  go_wp2_with (first | (go_at_call 82;refine (label_any _ _).mono ?_;rintro e w1 ⟨rfl,hb1⟩;obtain ⟨hc1,hf1⟩:=bcell hb1;obtain ⟨hB1,hz1⟩:=after_call hb1) | (go_at_call 179;refine (contains_one _ _ _).mono ?_;rintro e w1 ⟨rfl,rfl⟩) | (go_at_call 167;have _t:=tok1;refine (name_any _ _).mono ?_;rintro e w1 ⟨rfl,hb1⟩;obtain ⟨hc1,hf1⟩:=bcell hb1;obtain ⟨hB1,hz1⟩:=after_call hb1;clear tok1 _t) | (go_at_call 167;refine (name_any _ _).mono ?_;rintro e w2 ⟨rfl,hb2⟩;obtain ⟨hc2,hf2⟩:=bcell hb2;have hB2:=hB1.trans (hb2.mono (by omega))))
  go_ret
  refine ⟨ret_int ?_,by first | exact HB.out _ | exact hB2 | exact hB1⟩
  simp [namesE,nmB,h1]
 ·cases h2 : nameB m
  ·go_enter Tryz.func171,Tryz.ntmps171
   go_wp2_with (first | (go_at_call 82;refine (label_any _ _).mono ?_;rintro e w1 ⟨rfl,hb1⟩;obtain ⟨hc1,hf1⟩:=bcell hb1;obtain ⟨hB1,hz1⟩:=after_call hb1) | (go_at_call 179;refine (contains_one _ _ _).mono ?_;rintro e w1 ⟨rfl,rfl⟩) | (go_at_call 167;have _t:=tok1;refine (name_any _ _).mono ?_;rintro e w1 ⟨rfl,hb1⟩;obtain ⟨hc1,hf1⟩:=bcell hb1;obtain ⟨hB1,hz1⟩:=after_call hb1;clear tok1 _t) | (go_at_call 167;refine (name_any _ _).mono ?_;rintro e w2 ⟨rfl,hb2⟩;obtain ⟨hc2,hf2⟩:=bcell hb2;have hB2:=hB1.trans (hb2.mono (by omega))))
   go_ret
   refine ⟨ret_int ?_,by first | exact HB.out _ | exact hB2 | exact hB1⟩
   simp [namesE,nmB,h1,h2]
  ·cases h3 : n.toList == m.toList
   all_goals
    go_enter Tryz.func171,Tryz.ntmps171
    go_wp2_with (first | (go_at_call 82;refine (label_any _ _).mono ?_;rintro e w1 ⟨rfl,hb1⟩;obtain ⟨hc1,hf1⟩:=bcell hb1;obtain ⟨hB1,hz1⟩:=after_call hb1) | (go_at_call 179;refine (contains_one _ _ _).mono ?_;rintro e w1 ⟨rfl,rfl⟩) | (go_at_call 167;have _t:=tok1;refine (name_any _ _).mono ?_;rintro e w1 ⟨rfl,hb1⟩;obtain ⟨hc1,hf1⟩:=bcell hb1;obtain ⟨hB1,hz1⟩:=after_call hb1;clear tok1 _t) | (go_at_call 167;refine (name_any _ _).mono ?_;rintro e w2 ⟨rfl,hb2⟩;obtain ⟨hc2,hf2⟩:=bcell hb2;have hB2:=hB1.trans (hb2.mono (by omega))))
    go_ret
    refine ⟨ret_int ?_,by first | exact HB.out _ | exact hB2 | exact hB1⟩
    simp [namesE,nmB,h1,h2,h3]
set_option maxHeartbeats 1000000 in
theorem checkNames_14 (n m : ByteArray) (i d : Int) (v : Value) (w : World) : Calls Tryz.prog 171 #[.agg #[.int .i64 14,.string n,.string m,.int .i64 i,.int .i64 d,v],.int .i64 0] w fun e w' =>
  e = .returned (.int .i64 (namesE 14 n m 0)) ∧ Below w.heap.size w w':=by
 have HB:=Lib.hid (fun o => (Below.refl w.heap.size w).alloc (Nat.le_refl _) o)
 have tok1 : True:=trivial
 go_enter Tryz.func171,Tryz.ntmps171
 go_wp2_with (first | (go_at_call 82;refine (label_any _ _).mono ?_;rintro e w1 ⟨rfl,hb1⟩;obtain ⟨hc1,hf1⟩:=bcell hb1;obtain ⟨hB1,hz1⟩:=after_call hb1) | (go_at_call 179;refine (contains_one _ _ _).mono ?_;rintro e w1 ⟨rfl,rfl⟩) | (go_at_call 167;have _t:=tok1;refine (name_any _ _).mono ?_;rintro e w1 ⟨rfl,hb1⟩;obtain ⟨hc1,hf1⟩:=bcell hb1;obtain ⟨hB1,hz1⟩:=after_call hb1;clear tok1 _t) | (go_at_call 167;refine (name_any _ _).mono ?_;rintro e w2 ⟨rfl,hb2⟩;obtain ⟨hc2,hf2⟩:=bcell hb2;have hB2:=hB1.trans (hb2.mono (by omega))))
 go_ret
 refine ⟨ret_int ?_,by first | exact HB.out _ | exact hB2 | exact hB1⟩
 simp [namesE,nmB]
theorem checkNames_any (k a b c : Int) (n m : ByteArray) (i d : Int) (v : Value) (w : World) (hk : shapeZ k = (a,b,c,true)) : Calls Tryz.prog 171 #[.agg #[.int .i64 k,.string n,.string m,.int .i64 i,.int .i64 d,v],.int .i64 a] w fun e w' =>
  e = .returned (.int .i64 (namesE k n m a)) ∧ Below w.heap.size w w':=by
 by_cases h : knownZ k
 ·unfold knownZ at h
  rcases h with rfl | rfl | rfl | rfl | rfl | rfl | rfl | rfl | rfl | rfl | rfl | rfl | rfl | rfl | rfl
  all_goals
   simp only [shapeZ,Int.reduceEq,if_true,if_false,Prod.mk.injEq] at hk
   obtain ⟨rfl,rfl,rfl,_⟩:=hk
  ·exact checkNames_1 n m i d v w
  ·exact checkNames_2 n m i d v w
  ·exact checkNames_3 n m i d v w
  ·exact checkNames_4 n m i d v w
  ·exact checkNames_5 n m i d v w
  ·exact checkNames_6 n m i d v w
  ·exact checkNames_7 n m i d v w
  ·exact checkNames_12 n m i d v w
  ·exact checkNames_8 n m i d v w
  ·exact checkNames_10 n m i d v w
  ·exact checkNames_9 n m i d v w
  ·exact checkNames_15 n m i d v w
  ·exact checkNames_11 n m i d v w
  ·exact checkNames_13 n m i d v w
  ·exact checkNames_14 n m i d v w
 ·rw [shapeZ_no h] at hk
  simp at hk
end Go.Proofs.YtnfndgmlnoeelaaGreatDoor
/- syntax.checkNode -/
namespace Go.Proofs.YtnfndgmlnoeelaaGreatDoor
open Go.RowKit Go.Proofs
def argB (a b c : Int) (n m : ByteArray) (i d : Int) (len : Nat) : Bool:=
 (decide (a < 1) && !n.toList.isEmpty) || (decide (a < 2) && !m.toList.isEmpty) || (decide (b < 1) && (i != 0)) || (decide (b < 2) && (d != 0)) || ((len : Int) != c)
def nodeE (k : Int) (n m : ByteArray) (i d : Int) (len : Nat) : Int:=
 match shapeZ k with
 | (_,_,_,false) => 9
 | (a,b,c,true) => if argB a b c n m i d len then 1 else if namesE k n m a = 0 then numE k i d else namesE k n m a
theorem after_two {w w1 w2 : World} {o : Obj} (h : Below w.heap.size w w1) (h2 : Below (w1.alloc o).heap.size (w1.alloc o) w2) : Below w.heap.size w w2 ∧ w1.heap.size < w2.heap.size:=
 ⟨(h.alloc h.size o).trans (h2.mono (by have:=h.size;simp;omega)),by have:=h2.size;simp at this;omega⟩
end Go.Proofs.YtnfndgmlnoeelaaGreatDoor
