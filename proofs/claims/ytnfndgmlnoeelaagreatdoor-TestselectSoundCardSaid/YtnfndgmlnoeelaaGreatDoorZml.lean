/- syntax.checkNode, some kinds -/
import Derived.Test.YtnfndgmlnoeelaaGreatDoorZld
namespace Go.Proofs.YtnfndgmlnoeelaaGreatDoor
open Go.RowKit Go.Proofs

set_option maxHeartbeats 1000000 in
theorem checkNode_5 (n m : ByteArray) (i d : Int) (A : Option Addr) (len cap : Nat) (w : World) : Calls Tryz.prog 153 #[.agg #[.int .i64 5,.string n,.string m,.int .i64 i,.int .i64 d,.slice A len cap]] w fun e w' =>
  e = .returned (.int .i64 (nodeE 5 n m i d len)) ∧ Below w.heap.size w w':=by
 have HSH : Hid (shapeZ 5 = (1,1,0,true)):=rfl
 have HN : nodeE 5 n m i d len = if argB 1 1 0 n m i d len then 1 else if namesE 5 n m 1 = 0 then numE 5 i d else namesE 5 n m 1:=rfl
 have HN':=Lib.hid HN
 clear HN
 cases hm : m.toList.isEmpty
 ·have HR:=Lib.hid (show nodeE 5 n m i d len = 1 by rw [HN'.out];simp [argB,hm])
  go_enter Tryz.func153,Tryz.ntmps153
  go_wp2_with (first | (go_at_call 170;refine (shapeOf_any _ _ _ _ _ _ HSH.out).mono ?_;rintro e w1 ⟨rfl,hb1⟩;obtain ⟨hc1,hf1⟩:=bcell hb1;obtain ⟨hB1,hz1⟩:=after_call hb1) | (go_at_call 171;refine (checkNames_any _ _ _ _ _ _ _ _ _ _ HSH.out).mono ?_;rintro e w2 ⟨rfl,hb2⟩;obtain ⟨hc2,hf2⟩:=bcell hb2;obtain ⟨hB2,hz2⟩:=after_two hB1 hb2) | (go_at_call 172;refine (checkNumbers_any _ _ _ _ _ _ _).mono ?_;rintro e w3 ⟨rfl,hb3⟩;have hB3:=hB2.trans (hb3.mono (by omega))))
  go_ret
  exact ⟨by rw [HR.out];rfl,(hB1.alloc hB1.size _)⟩
 ·skip
  by_cases zd : d = 0
  rotate_left
  ·have bd : (d == 0) = false:=by simpa using zd
   have cd : (d != 0) = true:=by simpa using zd
   have HR:=Lib.hid (show nodeE 5 n m i d len = 1 by rw [HN'.out];simp [argB,cd])
   clear zd
   go_enter Tryz.func153,Tryz.ntmps153
   go_wp2_with (first | (go_at_call 170;refine (shapeOf_any _ _ _ _ _ _ HSH.out).mono ?_;rintro e w1 ⟨rfl,hb1⟩;obtain ⟨hc1,hf1⟩:=bcell hb1;obtain ⟨hB1,hz1⟩:=after_call hb1) | (go_at_call 171;refine (checkNames_any _ _ _ _ _ _ _ _ _ _ HSH.out).mono ?_;rintro e w2 ⟨rfl,hb2⟩;obtain ⟨hc2,hf2⟩:=bcell hb2;obtain ⟨hB2,hz2⟩:=after_two hB1 hb2) | (go_at_call 172;refine (checkNumbers_any _ _ _ _ _ _ _).mono ?_;rintro e w3 ⟨rfl,hb3⟩;have hB3:=hB2.trans (hb3.mono (by omega))))
   go_ret
   exact ⟨by rw [HR.out];rfl,(hB1.alloc hB1.size _)⟩
  ·have bd : (d == 0) = true:=by simpa using zd
   have cd : (d != 0) = false:=by simpa using zd
   clear zd
   by_cases zl : len = 0
   rotate_left
   ·have bl : ((len : Int) == 0) = false:=by simp;omega
    have cl : ((len : Int) != 0) = true:=by simp;omega
    have HR:=Lib.hid (show nodeE 5 n m i d len = 1 by rw [HN'.out];simp [argB,cl])
    clear zl
    go_enter Tryz.func153,Tryz.ntmps153
    go_wp2_with (first | (go_at_call 170;refine (shapeOf_any _ _ _ _ _ _ HSH.out).mono ?_;rintro e w1 ⟨rfl,hb1⟩;obtain ⟨hc1,hf1⟩:=bcell hb1;obtain ⟨hB1,hz1⟩:=after_call hb1) | (go_at_call 171;refine (checkNames_any _ _ _ _ _ _ _ _ _ _ HSH.out).mono ?_;rintro e w2 ⟨rfl,hb2⟩;obtain ⟨hc2,hf2⟩:=bcell hb2;obtain ⟨hB2,hz2⟩:=after_two hB1 hb2) | (go_at_call 172;refine (checkNumbers_any _ _ _ _ _ _ _).mono ?_;rintro e w3 ⟨rfl,hb3⟩;have hB3:=hB2.trans (hb3.mono (by omega))))
    go_ret
    exact ⟨by rw [HR.out];rfl,(hB1.alloc hB1.size _)⟩
   ·subst zl
    have HA:=Lib.hid (show argB 1 1 0 n m i d 0 = false by simp [argB,hm,cd])
    by_cases ze : namesE 5 n m 1 = 0
    ·have be : (namesE 5 n m 1 != 0) = false:=by simpa using ze
     have HR:=Lib.hid (show nodeE 5 n m i d 0 = numE 5 i d by rw [HN'.out,HA.out];simp [ze])
     clear ze
     go_enter Tryz.func153,Tryz.ntmps153
     go_wp2_with (first | (go_at_call 170;refine (shapeOf_any _ _ _ _ _ _ HSH.out).mono ?_;rintro e w1 ⟨rfl,hb1⟩;obtain ⟨hc1,hf1⟩:=bcell hb1;obtain ⟨hB1,hz1⟩:=after_call hb1) | (go_at_call 171;refine (checkNames_any _ _ _ _ _ _ _ _ _ _ HSH.out).mono ?_;rintro e w2 ⟨rfl,hb2⟩;obtain ⟨hc2,hf2⟩:=bcell hb2;obtain ⟨hB2,hz2⟩:=after_two hB1 hb2) | (go_at_call 172;refine (checkNumbers_any _ _ _ _ _ _ _).mono ?_;rintro e w3 ⟨rfl,hb3⟩;have hB3:=hB2.trans (hb3.mono (by omega))))
     go_ret
     exact ⟨by rw [HR.out];rfl,hB3⟩
    ·have be : (namesE 5 n m 1 != 0) = true:=by simpa using ze
     have HR:=Lib.hid (show nodeE 5 n m i d 0 = namesE 5 n m 1 by rw [HN'.out,HA.out];simp [ze])
     clear ze
     go_enter Tryz.func153,Tryz.ntmps153
     go_wp2_with (first | (go_at_call 170;refine (shapeOf_any _ _ _ _ _ _ HSH.out).mono ?_;rintro e w1 ⟨rfl,hb1⟩;obtain ⟨hc1,hf1⟩:=bcell hb1;obtain ⟨hB1,hz1⟩:=after_call hb1) | (go_at_call 171;refine (checkNames_any _ _ _ _ _ _ _ _ _ _ HSH.out).mono ?_;rintro e w2 ⟨rfl,hb2⟩;obtain ⟨hc2,hf2⟩:=bcell hb2;obtain ⟨hB2,hz2⟩:=after_two hB1 hb2) | (go_at_call 172;refine (checkNumbers_any _ _ _ _ _ _ _).mono ?_;rintro e w3 ⟨rfl,hb3⟩;have hB3:=hB2.trans (hb3.mono (by omega))))
     go_ret
     exact ⟨by rw [HR.out];rfl,hB2⟩

set_option maxHeartbeats 1000000 in
theorem checkNode_6 (n m : ByteArray) (i d : Int) (A : Option Addr) (len cap : Nat) (w : World) : Calls Tryz.prog 153 #[.agg #[.int .i64 6,.string n,.string m,.int .i64 i,.int .i64 d,.slice A len cap]] w fun e w' =>
  e = .returned (.int .i64 (nodeE 6 n m i d len)) ∧ Below w.heap.size w w':=by
 have HSH : Hid (shapeZ 6 = (1,0,1,true)):=rfl
 have HN : nodeE 6 n m i d len = if argB 1 0 1 n m i d len then 1 else if namesE 6 n m 1 = 0 then numE 6 i d else namesE 6 n m 1:=rfl
 have HN':=Lib.hid HN
 clear HN
 cases hm : m.toList.isEmpty
 ·have HR:=Lib.hid (show nodeE 6 n m i d len = 1 by rw [HN'.out];simp [argB,hm])
  go_enter Tryz.func153,Tryz.ntmps153
  go_wp2_with (first | (go_at_call 170;refine (shapeOf_any _ _ _ _ _ _ HSH.out).mono ?_;rintro e w1 ⟨rfl,hb1⟩;obtain ⟨hc1,hf1⟩:=bcell hb1;obtain ⟨hB1,hz1⟩:=after_call hb1) | (go_at_call 171;refine (checkNames_any _ _ _ _ _ _ _ _ _ _ HSH.out).mono ?_;rintro e w2 ⟨rfl,hb2⟩;obtain ⟨hc2,hf2⟩:=bcell hb2;obtain ⟨hB2,hz2⟩:=after_two hB1 hb2) | (go_at_call 172;refine (checkNumbers_any _ _ _ _ _ _ _).mono ?_;rintro e w3 ⟨rfl,hb3⟩;have hB3:=hB2.trans (hb3.mono (by omega))))
  go_ret
  exact ⟨by rw [HR.out];rfl,(hB1.alloc hB1.size _)⟩
 ·skip
  by_cases zi : i = 0
  rotate_left
  ·have bi : (i == 0) = false:=by simpa using zi
   have ci : (i != 0) = true:=by simpa using zi
   have HR:=Lib.hid (show nodeE 6 n m i d len = 1 by rw [HN'.out];simp [argB,ci])
   clear zi
   go_enter Tryz.func153,Tryz.ntmps153
   go_wp2_with (first | (go_at_call 170;refine (shapeOf_any _ _ _ _ _ _ HSH.out).mono ?_;rintro e w1 ⟨rfl,hb1⟩;obtain ⟨hc1,hf1⟩:=bcell hb1;obtain ⟨hB1,hz1⟩:=after_call hb1) | (go_at_call 171;refine (checkNames_any _ _ _ _ _ _ _ _ _ _ HSH.out).mono ?_;rintro e w2 ⟨rfl,hb2⟩;obtain ⟨hc2,hf2⟩:=bcell hb2;obtain ⟨hB2,hz2⟩:=after_two hB1 hb2) | (go_at_call 172;refine (checkNumbers_any _ _ _ _ _ _ _).mono ?_;rintro e w3 ⟨rfl,hb3⟩;have hB3:=hB2.trans (hb3.mono (by omega))))
   go_ret
   exact ⟨by rw [HR.out];rfl,(hB1.alloc hB1.size _)⟩
  ·have bi : (i == 0) = true:=by simpa using zi
   have ci : (i != 0) = false:=by simpa using zi
   clear zi
   by_cases zd : d = 0
   rotate_left
   ·have bd : (d == 0) = false:=by simpa using zd
    have cd : (d != 0) = true:=by simpa using zd
    have HR:=Lib.hid (show nodeE 6 n m i d len = 1 by rw [HN'.out];simp [argB,cd])
    clear zd
    go_enter Tryz.func153,Tryz.ntmps153
    go_wp2_with (first | (go_at_call 170;refine (shapeOf_any _ _ _ _ _ _ HSH.out).mono ?_;rintro e w1 ⟨rfl,hb1⟩;obtain ⟨hc1,hf1⟩:=bcell hb1;obtain ⟨hB1,hz1⟩:=after_call hb1) | (go_at_call 171;refine (checkNames_any _ _ _ _ _ _ _ _ _ _ HSH.out).mono ?_;rintro e w2 ⟨rfl,hb2⟩;obtain ⟨hc2,hf2⟩:=bcell hb2;obtain ⟨hB2,hz2⟩:=after_two hB1 hb2) | (go_at_call 172;refine (checkNumbers_any _ _ _ _ _ _ _).mono ?_;rintro e w3 ⟨rfl,hb3⟩;have hB3:=hB2.trans (hb3.mono (by omega))))
    go_ret
    exact ⟨by rw [HR.out];rfl,(hB1.alloc hB1.size _)⟩
   ·have bd : (d == 0) = true:=by simpa using zd
    have cd : (d != 0) = false:=by simpa using zd
    clear zd
    by_cases zl : len = 1
    rotate_left
    ·have bl : ((len : Int) == 1) = false:=by simp;omega
     have cl : ((len : Int) != 1) = true:=by simp;omega
     have HR:=Lib.hid (show nodeE 6 n m i d len = 1 by rw [HN'.out];simp [argB,cl])
     clear zl
     go_enter Tryz.func153,Tryz.ntmps153
     go_wp2_with (first | (go_at_call 170;refine (shapeOf_any _ _ _ _ _ _ HSH.out).mono ?_;rintro e w1 ⟨rfl,hb1⟩;obtain ⟨hc1,hf1⟩:=bcell hb1;obtain ⟨hB1,hz1⟩:=after_call hb1) | (go_at_call 171;refine (checkNames_any _ _ _ _ _ _ _ _ _ _ HSH.out).mono ?_;rintro e w2 ⟨rfl,hb2⟩;obtain ⟨hc2,hf2⟩:=bcell hb2;obtain ⟨hB2,hz2⟩:=after_two hB1 hb2) | (go_at_call 172;refine (checkNumbers_any _ _ _ _ _ _ _).mono ?_;rintro e w3 ⟨rfl,hb3⟩;have hB3:=hB2.trans (hb3.mono (by omega))))
     go_ret
     exact ⟨by rw [HR.out];rfl,(hB1.alloc hB1.size _)⟩
    ·subst zl
     have HA:=Lib.hid (show argB 1 0 1 n m i d 1 = false by simp [argB,hm,ci,cd])
     by_cases ze : namesE 6 n m 1 = 0
     ·have be : (namesE 6 n m 1 != 0) = false:=by simpa using ze
      have HR:=Lib.hid (show nodeE 6 n m i d 1 = numE 6 i d by rw [HN'.out,HA.out];simp [ze])
      clear ze
      go_enter Tryz.func153,Tryz.ntmps153
      go_wp2_with (first | (go_at_call 170;refine (shapeOf_any _ _ _ _ _ _ HSH.out).mono ?_;rintro e w1 ⟨rfl,hb1⟩;obtain ⟨hc1,hf1⟩:=bcell hb1;obtain ⟨hB1,hz1⟩:=after_call hb1) | (go_at_call 171;refine (checkNames_any _ _ _ _ _ _ _ _ _ _ HSH.out).mono ?_;rintro e w2 ⟨rfl,hb2⟩;obtain ⟨hc2,hf2⟩:=bcell hb2;obtain ⟨hB2,hz2⟩:=after_two hB1 hb2) | (go_at_call 172;refine (checkNumbers_any _ _ _ _ _ _ _).mono ?_;rintro e w3 ⟨rfl,hb3⟩;have hB3:=hB2.trans (hb3.mono (by omega))))
      go_ret
      exact ⟨by rw [HR.out];rfl,hB3⟩
     ·have be : (namesE 6 n m 1 != 0) = true:=by simpa using ze
      have HR:=Lib.hid (show nodeE 6 n m i d 1 = namesE 6 n m 1 by rw [HN'.out,HA.out];simp [ze])
      clear ze
      go_enter Tryz.func153,Tryz.ntmps153
      go_wp2_with (first | (go_at_call 170;refine (shapeOf_any _ _ _ _ _ _ HSH.out).mono ?_;rintro e w1 ⟨rfl,hb1⟩;obtain ⟨hc1,hf1⟩:=bcell hb1;obtain ⟨hB1,hz1⟩:=after_call hb1) | (go_at_call 171;refine (checkNames_any _ _ _ _ _ _ _ _ _ _ HSH.out).mono ?_;rintro e w2 ⟨rfl,hb2⟩;obtain ⟨hc2,hf2⟩:=bcell hb2;obtain ⟨hB2,hz2⟩:=after_two hB1 hb2) | (go_at_call 172;refine (checkNumbers_any _ _ _ _ _ _ _).mono ?_;rintro e w3 ⟨rfl,hb3⟩;have hB3:=hB2.trans (hb3.mono (by omega))))
      go_ret
      exact ⟨by rw [HR.out];rfl,hB2⟩

set_option maxHeartbeats 1000000 in
theorem checkNode_7 (n m : ByteArray) (i d : Int) (A : Option Addr) (len cap : Nat) (w : World) : Calls Tryz.prog 153 #[.agg #[.int .i64 7,.string n,.string m,.int .i64 i,.int .i64 d,.slice A len cap]] w fun e w' =>
  e = .returned (.int .i64 (nodeE 7 n m i d len)) ∧ Below w.heap.size w w':=by
 have HSH : Hid (shapeZ 7 = (0,0,2,true)):=rfl
 have HN : nodeE 7 n m i d len = if argB 0 0 2 n m i d len then 1 else if namesE 7 n m 0 = 0 then numE 7 i d else namesE 7 n m 0:=rfl
 have HN':=Lib.hid HN
 clear HN
 cases hn : n.toList.isEmpty
 ·have HR:=Lib.hid (show nodeE 7 n m i d len = 1 by rw [HN'.out];simp [argB,hn])
  go_enter Tryz.func153,Tryz.ntmps153
  go_wp2_with (first | (go_at_call 170;refine (shapeOf_any _ _ _ _ _ _ HSH.out).mono ?_;rintro e w1 ⟨rfl,hb1⟩;obtain ⟨hc1,hf1⟩:=bcell hb1;obtain ⟨hB1,hz1⟩:=after_call hb1) | (go_at_call 171;refine (checkNames_any _ _ _ _ _ _ _ _ _ _ HSH.out).mono ?_;rintro e w2 ⟨rfl,hb2⟩;obtain ⟨hc2,hf2⟩:=bcell hb2;obtain ⟨hB2,hz2⟩:=after_two hB1 hb2) | (go_at_call 172;refine (checkNumbers_any _ _ _ _ _ _ _).mono ?_;rintro e w3 ⟨rfl,hb3⟩;have hB3:=hB2.trans (hb3.mono (by omega))))
  go_ret
  exact ⟨by rw [HR.out];rfl,(hB1.alloc hB1.size _)⟩
 ·skip
  cases hm : m.toList.isEmpty
  ·have HR:=Lib.hid (show nodeE 7 n m i d len = 1 by rw [HN'.out];simp [argB,hm])
   go_enter Tryz.func153,Tryz.ntmps153
   go_wp2_with (first | (go_at_call 170;refine (shapeOf_any _ _ _ _ _ _ HSH.out).mono ?_;rintro e w1 ⟨rfl,hb1⟩;obtain ⟨hc1,hf1⟩:=bcell hb1;obtain ⟨hB1,hz1⟩:=after_call hb1) | (go_at_call 171;refine (checkNames_any _ _ _ _ _ _ _ _ _ _ HSH.out).mono ?_;rintro e w2 ⟨rfl,hb2⟩;obtain ⟨hc2,hf2⟩:=bcell hb2;obtain ⟨hB2,hz2⟩:=after_two hB1 hb2) | (go_at_call 172;refine (checkNumbers_any _ _ _ _ _ _ _).mono ?_;rintro e w3 ⟨rfl,hb3⟩;have hB3:=hB2.trans (hb3.mono (by omega))))
   go_ret
   exact ⟨by rw [HR.out];rfl,(hB1.alloc hB1.size _)⟩
  ·skip
   by_cases zi : i = 0
   rotate_left
   ·have bi : (i == 0) = false:=by simpa using zi
    have ci : (i != 0) = true:=by simpa using zi
    have HR:=Lib.hid (show nodeE 7 n m i d len = 1 by rw [HN'.out];simp [argB,ci])
    clear zi
    go_enter Tryz.func153,Tryz.ntmps153
    go_wp2_with (first | (go_at_call 170;refine (shapeOf_any _ _ _ _ _ _ HSH.out).mono ?_;rintro e w1 ⟨rfl,hb1⟩;obtain ⟨hc1,hf1⟩:=bcell hb1;obtain ⟨hB1,hz1⟩:=after_call hb1) | (go_at_call 171;refine (checkNames_any _ _ _ _ _ _ _ _ _ _ HSH.out).mono ?_;rintro e w2 ⟨rfl,hb2⟩;obtain ⟨hc2,hf2⟩:=bcell hb2;obtain ⟨hB2,hz2⟩:=after_two hB1 hb2) | (go_at_call 172;refine (checkNumbers_any _ _ _ _ _ _ _).mono ?_;rintro e w3 ⟨rfl,hb3⟩;have hB3:=hB2.trans (hb3.mono (by omega))))
    go_ret
    exact ⟨by rw [HR.out];rfl,(hB1.alloc hB1.size _)⟩
   ·have bi : (i == 0) = true:=by simpa using zi
    have ci : (i != 0) = false:=by simpa using zi
    clear zi
    by_cases zd : d = 0
    rotate_left
    ·have bd : (d == 0) = false:=by simpa using zd
     have cd : (d != 0) = true:=by simpa using zd
     have HR:=Lib.hid (show nodeE 7 n m i d len = 1 by rw [HN'.out];simp [argB,cd])
     clear zd
     go_enter Tryz.func153,Tryz.ntmps153
     go_wp2_with (first | (go_at_call 170;refine (shapeOf_any _ _ _ _ _ _ HSH.out).mono ?_;rintro e w1 ⟨rfl,hb1⟩;obtain ⟨hc1,hf1⟩:=bcell hb1;obtain ⟨hB1,hz1⟩:=after_call hb1) | (go_at_call 171;refine (checkNames_any _ _ _ _ _ _ _ _ _ _ HSH.out).mono ?_;rintro e w2 ⟨rfl,hb2⟩;obtain ⟨hc2,hf2⟩:=bcell hb2;obtain ⟨hB2,hz2⟩:=after_two hB1 hb2) | (go_at_call 172;refine (checkNumbers_any _ _ _ _ _ _ _).mono ?_;rintro e w3 ⟨rfl,hb3⟩;have hB3:=hB2.trans (hb3.mono (by omega))))
     go_ret
     exact ⟨by rw [HR.out];rfl,(hB1.alloc hB1.size _)⟩
    ·have bd : (d == 0) = true:=by simpa using zd
     have cd : (d != 0) = false:=by simpa using zd
     clear zd
     by_cases zl : len = 2
     rotate_left
     ·have bl : ((len : Int) == 2) = false:=by simp;omega
      have cl : ((len : Int) != 2) = true:=by simp;omega
      have HR:=Lib.hid (show nodeE 7 n m i d len = 1 by rw [HN'.out];simp [argB,cl])
      clear zl
      go_enter Tryz.func153,Tryz.ntmps153
      go_wp2_with (first | (go_at_call 170;refine (shapeOf_any _ _ _ _ _ _ HSH.out).mono ?_;rintro e w1 ⟨rfl,hb1⟩;obtain ⟨hc1,hf1⟩:=bcell hb1;obtain ⟨hB1,hz1⟩:=after_call hb1) | (go_at_call 171;refine (checkNames_any _ _ _ _ _ _ _ _ _ _ HSH.out).mono ?_;rintro e w2 ⟨rfl,hb2⟩;obtain ⟨hc2,hf2⟩:=bcell hb2;obtain ⟨hB2,hz2⟩:=after_two hB1 hb2) | (go_at_call 172;refine (checkNumbers_any _ _ _ _ _ _ _).mono ?_;rintro e w3 ⟨rfl,hb3⟩;have hB3:=hB2.trans (hb3.mono (by omega))))
      go_ret
      exact ⟨by rw [HR.out];rfl,(hB1.alloc hB1.size _)⟩
     ·subst zl
      have HA:=Lib.hid (show argB 0 0 2 n m i d 2 = false by simp [argB,hn,hm,ci,cd])
      by_cases ze : namesE 7 n m 0 = 0
      ·have be : (namesE 7 n m 0 != 0) = false:=by simpa using ze
       have HR:=Lib.hid (show nodeE 7 n m i d 2 = numE 7 i d by rw [HN'.out,HA.out];simp [ze])
       clear ze
       go_enter Tryz.func153,Tryz.ntmps153
       go_wp2_with (first | (go_at_call 170;refine (shapeOf_any _ _ _ _ _ _ HSH.out).mono ?_;rintro e w1 ⟨rfl,hb1⟩;obtain ⟨hc1,hf1⟩:=bcell hb1;obtain ⟨hB1,hz1⟩:=after_call hb1) | (go_at_call 171;refine (checkNames_any _ _ _ _ _ _ _ _ _ _ HSH.out).mono ?_;rintro e w2 ⟨rfl,hb2⟩;obtain ⟨hc2,hf2⟩:=bcell hb2;obtain ⟨hB2,hz2⟩:=after_two hB1 hb2) | (go_at_call 172;refine (checkNumbers_any _ _ _ _ _ _ _).mono ?_;rintro e w3 ⟨rfl,hb3⟩;have hB3:=hB2.trans (hb3.mono (by omega))))
       go_ret
       exact ⟨by rw [HR.out];rfl,hB3⟩
      ·have be : (namesE 7 n m 0 != 0) = true:=by simpa using ze
       have HR:=Lib.hid (show nodeE 7 n m i d 2 = namesE 7 n m 0 by rw [HN'.out,HA.out];simp [ze])
       clear ze
       go_enter Tryz.func153,Tryz.ntmps153
       go_wp2_with (first | (go_at_call 170;refine (shapeOf_any _ _ _ _ _ _ HSH.out).mono ?_;rintro e w1 ⟨rfl,hb1⟩;obtain ⟨hc1,hf1⟩:=bcell hb1;obtain ⟨hB1,hz1⟩:=after_call hb1) | (go_at_call 171;refine (checkNames_any _ _ _ _ _ _ _ _ _ _ HSH.out).mono ?_;rintro e w2 ⟨rfl,hb2⟩;obtain ⟨hc2,hf2⟩:=bcell hb2;obtain ⟨hB2,hz2⟩:=after_two hB1 hb2) | (go_at_call 172;refine (checkNumbers_any _ _ _ _ _ _ _).mono ?_;rintro e w3 ⟨rfl,hb3⟩;have hB3:=hB2.trans (hb3.mono (by omega))))
       go_ret
       exact ⟨by rw [HR.out];rfl,hB2⟩

set_option maxHeartbeats 1000000 in
theorem checkNode_12 (n m : ByteArray) (i d : Int) (A : Option Addr) (len cap : Nat) (w : World) : Calls Tryz.prog 153 #[.agg #[.int .i64 12,.string n,.string m,.int .i64 i,.int .i64 d,.slice A len cap]] w fun e w' =>
  e = .returned (.int .i64 (nodeE 12 n m i d len)) ∧ Below w.heap.size w w':=by
 have HSH : Hid (shapeZ 12 = (0,0,2,true)):=rfl
 have HN : nodeE 12 n m i d len = if argB 0 0 2 n m i d len then 1 else if namesE 12 n m 0 = 0 then numE 12 i d else namesE 12 n m 0:=rfl
 have HN':=Lib.hid HN
 clear HN
 cases hn : n.toList.isEmpty
 ·have HR:=Lib.hid (show nodeE 12 n m i d len = 1 by rw [HN'.out];simp [argB,hn])
  go_enter Tryz.func153,Tryz.ntmps153
  go_wp2_with (first | (go_at_call 170;refine (shapeOf_any _ _ _ _ _ _ HSH.out).mono ?_;rintro e w1 ⟨rfl,hb1⟩;obtain ⟨hc1,hf1⟩:=bcell hb1;obtain ⟨hB1,hz1⟩:=after_call hb1) | (go_at_call 171;refine (checkNames_any _ _ _ _ _ _ _ _ _ _ HSH.out).mono ?_;rintro e w2 ⟨rfl,hb2⟩;obtain ⟨hc2,hf2⟩:=bcell hb2;obtain ⟨hB2,hz2⟩:=after_two hB1 hb2) | (go_at_call 172;refine (checkNumbers_any _ _ _ _ _ _ _).mono ?_;rintro e w3 ⟨rfl,hb3⟩;have hB3:=hB2.trans (hb3.mono (by omega))))
  go_ret
  exact ⟨by rw [HR.out];rfl,(hB1.alloc hB1.size _)⟩
 ·skip
  cases hm : m.toList.isEmpty
  ·have HR:=Lib.hid (show nodeE 12 n m i d len = 1 by rw [HN'.out];simp [argB,hm])
   go_enter Tryz.func153,Tryz.ntmps153
   go_wp2_with (first | (go_at_call 170;refine (shapeOf_any _ _ _ _ _ _ HSH.out).mono ?_;rintro e w1 ⟨rfl,hb1⟩;obtain ⟨hc1,hf1⟩:=bcell hb1;obtain ⟨hB1,hz1⟩:=after_call hb1) | (go_at_call 171;refine (checkNames_any _ _ _ _ _ _ _ _ _ _ HSH.out).mono ?_;rintro e w2 ⟨rfl,hb2⟩;obtain ⟨hc2,hf2⟩:=bcell hb2;obtain ⟨hB2,hz2⟩:=after_two hB1 hb2) | (go_at_call 172;refine (checkNumbers_any _ _ _ _ _ _ _).mono ?_;rintro e w3 ⟨rfl,hb3⟩;have hB3:=hB2.trans (hb3.mono (by omega))))
   go_ret
   exact ⟨by rw [HR.out];rfl,(hB1.alloc hB1.size _)⟩
  ·skip
   by_cases zi : i = 0
   rotate_left
   ·have bi : (i == 0) = false:=by simpa using zi
    have ci : (i != 0) = true:=by simpa using zi
    have HR:=Lib.hid (show nodeE 12 n m i d len = 1 by rw [HN'.out];simp [argB,ci])
    clear zi
    go_enter Tryz.func153,Tryz.ntmps153
    go_wp2_with (first | (go_at_call 170;refine (shapeOf_any _ _ _ _ _ _ HSH.out).mono ?_;rintro e w1 ⟨rfl,hb1⟩;obtain ⟨hc1,hf1⟩:=bcell hb1;obtain ⟨hB1,hz1⟩:=after_call hb1) | (go_at_call 171;refine (checkNames_any _ _ _ _ _ _ _ _ _ _ HSH.out).mono ?_;rintro e w2 ⟨rfl,hb2⟩;obtain ⟨hc2,hf2⟩:=bcell hb2;obtain ⟨hB2,hz2⟩:=after_two hB1 hb2) | (go_at_call 172;refine (checkNumbers_any _ _ _ _ _ _ _).mono ?_;rintro e w3 ⟨rfl,hb3⟩;have hB3:=hB2.trans (hb3.mono (by omega))))
    go_ret
    exact ⟨by rw [HR.out];rfl,(hB1.alloc hB1.size _)⟩
   ·have bi : (i == 0) = true:=by simpa using zi
    have ci : (i != 0) = false:=by simpa using zi
    clear zi
    by_cases zd : d = 0
    rotate_left
    ·have bd : (d == 0) = false:=by simpa using zd
     have cd : (d != 0) = true:=by simpa using zd
     have HR:=Lib.hid (show nodeE 12 n m i d len = 1 by rw [HN'.out];simp [argB,cd])
     clear zd
     go_enter Tryz.func153,Tryz.ntmps153
     go_wp2_with (first | (go_at_call 170;refine (shapeOf_any _ _ _ _ _ _ HSH.out).mono ?_;rintro e w1 ⟨rfl,hb1⟩;obtain ⟨hc1,hf1⟩:=bcell hb1;obtain ⟨hB1,hz1⟩:=after_call hb1) | (go_at_call 171;refine (checkNames_any _ _ _ _ _ _ _ _ _ _ HSH.out).mono ?_;rintro e w2 ⟨rfl,hb2⟩;obtain ⟨hc2,hf2⟩:=bcell hb2;obtain ⟨hB2,hz2⟩:=after_two hB1 hb2) | (go_at_call 172;refine (checkNumbers_any _ _ _ _ _ _ _).mono ?_;rintro e w3 ⟨rfl,hb3⟩;have hB3:=hB2.trans (hb3.mono (by omega))))
     go_ret
     exact ⟨by rw [HR.out];rfl,(hB1.alloc hB1.size _)⟩
    ·have bd : (d == 0) = true:=by simpa using zd
     have cd : (d != 0) = false:=by simpa using zd
     clear zd
     by_cases zl : len = 2
     rotate_left
     ·have bl : ((len : Int) == 2) = false:=by simp;omega
      have cl : ((len : Int) != 2) = true:=by simp;omega
      have HR:=Lib.hid (show nodeE 12 n m i d len = 1 by rw [HN'.out];simp [argB,cl])
      clear zl
      go_enter Tryz.func153,Tryz.ntmps153
      go_wp2_with (first | (go_at_call 170;refine (shapeOf_any _ _ _ _ _ _ HSH.out).mono ?_;rintro e w1 ⟨rfl,hb1⟩;obtain ⟨hc1,hf1⟩:=bcell hb1;obtain ⟨hB1,hz1⟩:=after_call hb1) | (go_at_call 171;refine (checkNames_any _ _ _ _ _ _ _ _ _ _ HSH.out).mono ?_;rintro e w2 ⟨rfl,hb2⟩;obtain ⟨hc2,hf2⟩:=bcell hb2;obtain ⟨hB2,hz2⟩:=after_two hB1 hb2) | (go_at_call 172;refine (checkNumbers_any _ _ _ _ _ _ _).mono ?_;rintro e w3 ⟨rfl,hb3⟩;have hB3:=hB2.trans (hb3.mono (by omega))))
      go_ret
      exact ⟨by rw [HR.out];rfl,(hB1.alloc hB1.size _)⟩
     ·subst zl
      have HA:=Lib.hid (show argB 0 0 2 n m i d 2 = false by simp [argB,hn,hm,ci,cd])
      by_cases ze : namesE 12 n m 0 = 0
      ·have be : (namesE 12 n m 0 != 0) = false:=by simpa using ze
       have HR:=Lib.hid (show nodeE 12 n m i d 2 = numE 12 i d by rw [HN'.out,HA.out];simp [ze])
       clear ze
       go_enter Tryz.func153,Tryz.ntmps153
       go_wp2_with (first | (go_at_call 170;refine (shapeOf_any _ _ _ _ _ _ HSH.out).mono ?_;rintro e w1 ⟨rfl,hb1⟩;obtain ⟨hc1,hf1⟩:=bcell hb1;obtain ⟨hB1,hz1⟩:=after_call hb1) | (go_at_call 171;refine (checkNames_any _ _ _ _ _ _ _ _ _ _ HSH.out).mono ?_;rintro e w2 ⟨rfl,hb2⟩;obtain ⟨hc2,hf2⟩:=bcell hb2;obtain ⟨hB2,hz2⟩:=after_two hB1 hb2) | (go_at_call 172;refine (checkNumbers_any _ _ _ _ _ _ _).mono ?_;rintro e w3 ⟨rfl,hb3⟩;have hB3:=hB2.trans (hb3.mono (by omega))))
       go_ret
       exact ⟨by rw [HR.out];rfl,hB3⟩
      ·have be : (namesE 12 n m 0 != 0) = true:=by simpa using ze
       have HR:=Lib.hid (show nodeE 12 n m i d 2 = namesE 12 n m 0 by rw [HN'.out,HA.out];simp [ze])
       clear ze
       go_enter Tryz.func153,Tryz.ntmps153
       go_wp2_with (first | (go_at_call 170;refine (shapeOf_any _ _ _ _ _ _ HSH.out).mono ?_;rintro e w1 ⟨rfl,hb1⟩;obtain ⟨hc1,hf1⟩:=bcell hb1;obtain ⟨hB1,hz1⟩:=after_call hb1) | (go_at_call 171;refine (checkNames_any _ _ _ _ _ _ _ _ _ _ HSH.out).mono ?_;rintro e w2 ⟨rfl,hb2⟩;obtain ⟨hc2,hf2⟩:=bcell hb2;obtain ⟨hB2,hz2⟩:=after_two hB1 hb2) | (go_at_call 172;refine (checkNumbers_any _ _ _ _ _ _ _).mono ?_;rintro e w3 ⟨rfl,hb3⟩;have hB3:=hB2.trans (hb3.mono (by omega))))
       go_ret
       exact ⟨by rw [HR.out];rfl,hB2⟩

end Go.Proofs.YtnfndgmlnoeelaaGreatDoor
/- syntax.checkNode, some kinds -/
namespace Go.Proofs.YtnfndgmlnoeelaaGreatDoor
open Go.RowKit Go.Proofs

set_option maxHeartbeats 1000000 in
theorem checkNode_8 (n m : ByteArray) (i d : Int) (A : Option Addr) (len cap : Nat) (w : World) : Calls Tryz.prog 153 #[.agg #[.int .i64 8,.string n,.string m,.int .i64 i,.int .i64 d,.slice A len cap]] w fun e w' =>
  e = .returned (.int .i64 (nodeE 8 n m i d len)) ∧ Below w.heap.size w w':=by
 have HSH : Hid (shapeZ 8 = (1,0,2,true)):=rfl
 have HN : nodeE 8 n m i d len = if argB 1 0 2 n m i d len then 1 else if namesE 8 n m 1 = 0 then numE 8 i d else namesE 8 n m 1:=rfl
 have HN':=Lib.hid HN
 clear HN
 cases hm : m.toList.isEmpty
 ·have HR:=Lib.hid (show nodeE 8 n m i d len = 1 by rw [HN'.out];simp [argB,hm])
  go_enter Tryz.func153,Tryz.ntmps153
  go_wp2_with (first | (go_at_call 170;refine (shapeOf_any _ _ _ _ _ _ HSH.out).mono ?_;rintro e w1 ⟨rfl,hb1⟩;obtain ⟨hc1,hf1⟩:=bcell hb1;obtain ⟨hB1,hz1⟩:=after_call hb1) | (go_at_call 171;refine (checkNames_any _ _ _ _ _ _ _ _ _ _ HSH.out).mono ?_;rintro e w2 ⟨rfl,hb2⟩;obtain ⟨hc2,hf2⟩:=bcell hb2;obtain ⟨hB2,hz2⟩:=after_two hB1 hb2) | (go_at_call 172;refine (checkNumbers_any _ _ _ _ _ _ _).mono ?_;rintro e w3 ⟨rfl,hb3⟩;have hB3:=hB2.trans (hb3.mono (by omega))))
  go_ret
  exact ⟨by rw [HR.out];rfl,(hB1.alloc hB1.size _)⟩
 ·skip
  by_cases zi : i = 0
  rotate_left
  ·have bi : (i == 0) = false:=by simpa using zi
   have ci : (i != 0) = true:=by simpa using zi
   have HR:=Lib.hid (show nodeE 8 n m i d len = 1 by rw [HN'.out];simp [argB,ci])
   clear zi
   go_enter Tryz.func153,Tryz.ntmps153
   go_wp2_with (first | (go_at_call 170;refine (shapeOf_any _ _ _ _ _ _ HSH.out).mono ?_;rintro e w1 ⟨rfl,hb1⟩;obtain ⟨hc1,hf1⟩:=bcell hb1;obtain ⟨hB1,hz1⟩:=after_call hb1) | (go_at_call 171;refine (checkNames_any _ _ _ _ _ _ _ _ _ _ HSH.out).mono ?_;rintro e w2 ⟨rfl,hb2⟩;obtain ⟨hc2,hf2⟩:=bcell hb2;obtain ⟨hB2,hz2⟩:=after_two hB1 hb2) | (go_at_call 172;refine (checkNumbers_any _ _ _ _ _ _ _).mono ?_;rintro e w3 ⟨rfl,hb3⟩;have hB3:=hB2.trans (hb3.mono (by omega))))
   go_ret
   exact ⟨by rw [HR.out];rfl,(hB1.alloc hB1.size _)⟩
  ·have bi : (i == 0) = true:=by simpa using zi
   have ci : (i != 0) = false:=by simpa using zi
   clear zi
   by_cases zd : d = 0
   rotate_left
   ·have bd : (d == 0) = false:=by simpa using zd
    have cd : (d != 0) = true:=by simpa using zd
    have HR:=Lib.hid (show nodeE 8 n m i d len = 1 by rw [HN'.out];simp [argB,cd])
    clear zd
    go_enter Tryz.func153,Tryz.ntmps153
    go_wp2_with (first | (go_at_call 170;refine (shapeOf_any _ _ _ _ _ _ HSH.out).mono ?_;rintro e w1 ⟨rfl,hb1⟩;obtain ⟨hc1,hf1⟩:=bcell hb1;obtain ⟨hB1,hz1⟩:=after_call hb1) | (go_at_call 171;refine (checkNames_any _ _ _ _ _ _ _ _ _ _ HSH.out).mono ?_;rintro e w2 ⟨rfl,hb2⟩;obtain ⟨hc2,hf2⟩:=bcell hb2;obtain ⟨hB2,hz2⟩:=after_two hB1 hb2) | (go_at_call 172;refine (checkNumbers_any _ _ _ _ _ _ _).mono ?_;rintro e w3 ⟨rfl,hb3⟩;have hB3:=hB2.trans (hb3.mono (by omega))))
    go_ret
    exact ⟨by rw [HR.out];rfl,(hB1.alloc hB1.size _)⟩
   ·have bd : (d == 0) = true:=by simpa using zd
    have cd : (d != 0) = false:=by simpa using zd
    clear zd
    by_cases zl : len = 2
    rotate_left
    ·have bl : ((len : Int) == 2) = false:=by simp;omega
     have cl : ((len : Int) != 2) = true:=by simp;omega
     have HR:=Lib.hid (show nodeE 8 n m i d len = 1 by rw [HN'.out];simp [argB,cl])
     clear zl
     go_enter Tryz.func153,Tryz.ntmps153
     go_wp2_with (first | (go_at_call 170;refine (shapeOf_any _ _ _ _ _ _ HSH.out).mono ?_;rintro e w1 ⟨rfl,hb1⟩;obtain ⟨hc1,hf1⟩:=bcell hb1;obtain ⟨hB1,hz1⟩:=after_call hb1) | (go_at_call 171;refine (checkNames_any _ _ _ _ _ _ _ _ _ _ HSH.out).mono ?_;rintro e w2 ⟨rfl,hb2⟩;obtain ⟨hc2,hf2⟩:=bcell hb2;obtain ⟨hB2,hz2⟩:=after_two hB1 hb2) | (go_at_call 172;refine (checkNumbers_any _ _ _ _ _ _ _).mono ?_;rintro e w3 ⟨rfl,hb3⟩;have hB3:=hB2.trans (hb3.mono (by omega))))
     go_ret
     exact ⟨by rw [HR.out];rfl,(hB1.alloc hB1.size _)⟩
    ·subst zl
     have HA:=Lib.hid (show argB 1 0 2 n m i d 2 = false by simp [argB,hm,ci,cd])
     by_cases ze : namesE 8 n m 1 = 0
     ·have be : (namesE 8 n m 1 != 0) = false:=by simpa using ze
      have HR:=Lib.hid (show nodeE 8 n m i d 2 = numE 8 i d by rw [HN'.out,HA.out];simp [ze])
      clear ze
      go_enter Tryz.func153,Tryz.ntmps153
      go_wp2_with (first | (go_at_call 170;refine (shapeOf_any _ _ _ _ _ _ HSH.out).mono ?_;rintro e w1 ⟨rfl,hb1⟩;obtain ⟨hc1,hf1⟩:=bcell hb1;obtain ⟨hB1,hz1⟩:=after_call hb1) | (go_at_call 171;refine (checkNames_any _ _ _ _ _ _ _ _ _ _ HSH.out).mono ?_;rintro e w2 ⟨rfl,hb2⟩;obtain ⟨hc2,hf2⟩:=bcell hb2;obtain ⟨hB2,hz2⟩:=after_two hB1 hb2) | (go_at_call 172;refine (checkNumbers_any _ _ _ _ _ _ _).mono ?_;rintro e w3 ⟨rfl,hb3⟩;have hB3:=hB2.trans (hb3.mono (by omega))))
      go_ret
      exact ⟨by rw [HR.out];rfl,hB3⟩
     ·have be : (namesE 8 n m 1 != 0) = true:=by simpa using ze
      have HR:=Lib.hid (show nodeE 8 n m i d 2 = namesE 8 n m 1 by rw [HN'.out,HA.out];simp [ze])
      clear ze
      go_enter Tryz.func153,Tryz.ntmps153
      go_wp2_with (first | (go_at_call 170;refine (shapeOf_any _ _ _ _ _ _ HSH.out).mono ?_;rintro e w1 ⟨rfl,hb1⟩;obtain ⟨hc1,hf1⟩:=bcell hb1;obtain ⟨hB1,hz1⟩:=after_call hb1) | (go_at_call 171;refine (checkNames_any _ _ _ _ _ _ _ _ _ _ HSH.out).mono ?_;rintro e w2 ⟨rfl,hb2⟩;obtain ⟨hc2,hf2⟩:=bcell hb2;obtain ⟨hB2,hz2⟩:=after_two hB1 hb2) | (go_at_call 172;refine (checkNumbers_any _ _ _ _ _ _ _).mono ?_;rintro e w3 ⟨rfl,hb3⟩;have hB3:=hB2.trans (hb3.mono (by omega))))
      go_ret
      exact ⟨by rw [HR.out];rfl,hB2⟩

set_option maxHeartbeats 1000000 in
theorem checkNode_10 (n m : ByteArray) (i d : Int) (A : Option Addr) (len cap : Nat) (w : World) : Calls Tryz.prog 153 #[.agg #[.int .i64 10,.string n,.string m,.int .i64 i,.int .i64 d,.slice A len cap]] w fun e w' =>
  e = .returned (.int .i64 (nodeE 10 n m i d len)) ∧ Below w.heap.size w w':=by
 have HSH : Hid (shapeZ 10 = (1,0,2,true)):=rfl
 have HN : nodeE 10 n m i d len = if argB 1 0 2 n m i d len then 1 else if namesE 10 n m 1 = 0 then numE 10 i d else namesE 10 n m 1:=rfl
 have HN':=Lib.hid HN
 clear HN
 cases hm : m.toList.isEmpty
 ·have HR:=Lib.hid (show nodeE 10 n m i d len = 1 by rw [HN'.out];simp [argB,hm])
  go_enter Tryz.func153,Tryz.ntmps153
  go_wp2_with (first | (go_at_call 170;refine (shapeOf_any _ _ _ _ _ _ HSH.out).mono ?_;rintro e w1 ⟨rfl,hb1⟩;obtain ⟨hc1,hf1⟩:=bcell hb1;obtain ⟨hB1,hz1⟩:=after_call hb1) | (go_at_call 171;refine (checkNames_any _ _ _ _ _ _ _ _ _ _ HSH.out).mono ?_;rintro e w2 ⟨rfl,hb2⟩;obtain ⟨hc2,hf2⟩:=bcell hb2;obtain ⟨hB2,hz2⟩:=after_two hB1 hb2) | (go_at_call 172;refine (checkNumbers_any _ _ _ _ _ _ _).mono ?_;rintro e w3 ⟨rfl,hb3⟩;have hB3:=hB2.trans (hb3.mono (by omega))))
  go_ret
  exact ⟨by rw [HR.out];rfl,(hB1.alloc hB1.size _)⟩
 ·skip
  by_cases zi : i = 0
  rotate_left
  ·have bi : (i == 0) = false:=by simpa using zi
   have ci : (i != 0) = true:=by simpa using zi
   have HR:=Lib.hid (show nodeE 10 n m i d len = 1 by rw [HN'.out];simp [argB,ci])
   clear zi
   go_enter Tryz.func153,Tryz.ntmps153
   go_wp2_with (first | (go_at_call 170;refine (shapeOf_any _ _ _ _ _ _ HSH.out).mono ?_;rintro e w1 ⟨rfl,hb1⟩;obtain ⟨hc1,hf1⟩:=bcell hb1;obtain ⟨hB1,hz1⟩:=after_call hb1) | (go_at_call 171;refine (checkNames_any _ _ _ _ _ _ _ _ _ _ HSH.out).mono ?_;rintro e w2 ⟨rfl,hb2⟩;obtain ⟨hc2,hf2⟩:=bcell hb2;obtain ⟨hB2,hz2⟩:=after_two hB1 hb2) | (go_at_call 172;refine (checkNumbers_any _ _ _ _ _ _ _).mono ?_;rintro e w3 ⟨rfl,hb3⟩;have hB3:=hB2.trans (hb3.mono (by omega))))
   go_ret
   exact ⟨by rw [HR.out];rfl,(hB1.alloc hB1.size _)⟩
  ·have bi : (i == 0) = true:=by simpa using zi
   have ci : (i != 0) = false:=by simpa using zi
   clear zi
   by_cases zd : d = 0
   rotate_left
   ·have bd : (d == 0) = false:=by simpa using zd
    have cd : (d != 0) = true:=by simpa using zd
    have HR:=Lib.hid (show nodeE 10 n m i d len = 1 by rw [HN'.out];simp [argB,cd])
    clear zd
    go_enter Tryz.func153,Tryz.ntmps153
    go_wp2_with (first | (go_at_call 170;refine (shapeOf_any _ _ _ _ _ _ HSH.out).mono ?_;rintro e w1 ⟨rfl,hb1⟩;obtain ⟨hc1,hf1⟩:=bcell hb1;obtain ⟨hB1,hz1⟩:=after_call hb1) | (go_at_call 171;refine (checkNames_any _ _ _ _ _ _ _ _ _ _ HSH.out).mono ?_;rintro e w2 ⟨rfl,hb2⟩;obtain ⟨hc2,hf2⟩:=bcell hb2;obtain ⟨hB2,hz2⟩:=after_two hB1 hb2) | (go_at_call 172;refine (checkNumbers_any _ _ _ _ _ _ _).mono ?_;rintro e w3 ⟨rfl,hb3⟩;have hB3:=hB2.trans (hb3.mono (by omega))))
    go_ret
    exact ⟨by rw [HR.out];rfl,(hB1.alloc hB1.size _)⟩
   ·have bd : (d == 0) = true:=by simpa using zd
    have cd : (d != 0) = false:=by simpa using zd
    clear zd
    by_cases zl : len = 2
    rotate_left
    ·have bl : ((len : Int) == 2) = false:=by simp;omega
     have cl : ((len : Int) != 2) = true:=by simp;omega
     have HR:=Lib.hid (show nodeE 10 n m i d len = 1 by rw [HN'.out];simp [argB,cl])
     clear zl
     go_enter Tryz.func153,Tryz.ntmps153
     go_wp2_with (first | (go_at_call 170;refine (shapeOf_any _ _ _ _ _ _ HSH.out).mono ?_;rintro e w1 ⟨rfl,hb1⟩;obtain ⟨hc1,hf1⟩:=bcell hb1;obtain ⟨hB1,hz1⟩:=after_call hb1) | (go_at_call 171;refine (checkNames_any _ _ _ _ _ _ _ _ _ _ HSH.out).mono ?_;rintro e w2 ⟨rfl,hb2⟩;obtain ⟨hc2,hf2⟩:=bcell hb2;obtain ⟨hB2,hz2⟩:=after_two hB1 hb2) | (go_at_call 172;refine (checkNumbers_any _ _ _ _ _ _ _).mono ?_;rintro e w3 ⟨rfl,hb3⟩;have hB3:=hB2.trans (hb3.mono (by omega))))
     go_ret
     exact ⟨by rw [HR.out];rfl,(hB1.alloc hB1.size _)⟩
    ·subst zl
     have HA:=Lib.hid (show argB 1 0 2 n m i d 2 = false by simp [argB,hm,ci,cd])
     by_cases ze : namesE 10 n m 1 = 0
     ·have be : (namesE 10 n m 1 != 0) = false:=by simpa using ze
      have HR:=Lib.hid (show nodeE 10 n m i d 2 = numE 10 i d by rw [HN'.out,HA.out];simp [ze])
      clear ze
      go_enter Tryz.func153,Tryz.ntmps153
      go_wp2_with (first | (go_at_call 170;refine (shapeOf_any _ _ _ _ _ _ HSH.out).mono ?_;rintro e w1 ⟨rfl,hb1⟩;obtain ⟨hc1,hf1⟩:=bcell hb1;obtain ⟨hB1,hz1⟩:=after_call hb1) | (go_at_call 171;refine (checkNames_any _ _ _ _ _ _ _ _ _ _ HSH.out).mono ?_;rintro e w2 ⟨rfl,hb2⟩;obtain ⟨hc2,hf2⟩:=bcell hb2;obtain ⟨hB2,hz2⟩:=after_two hB1 hb2) | (go_at_call 172;refine (checkNumbers_any _ _ _ _ _ _ _).mono ?_;rintro e w3 ⟨rfl,hb3⟩;have hB3:=hB2.trans (hb3.mono (by omega))))
      go_ret
      exact ⟨by rw [HR.out];rfl,hB3⟩
     ·have be : (namesE 10 n m 1 != 0) = true:=by simpa using ze
      have HR:=Lib.hid (show nodeE 10 n m i d 2 = namesE 10 n m 1 by rw [HN'.out,HA.out];simp [ze])
      clear ze
      go_enter Tryz.func153,Tryz.ntmps153
      go_wp2_with (first | (go_at_call 170;refine (shapeOf_any _ _ _ _ _ _ HSH.out).mono ?_;rintro e w1 ⟨rfl,hb1⟩;obtain ⟨hc1,hf1⟩:=bcell hb1;obtain ⟨hB1,hz1⟩:=after_call hb1) | (go_at_call 171;refine (checkNames_any _ _ _ _ _ _ _ _ _ _ HSH.out).mono ?_;rintro e w2 ⟨rfl,hb2⟩;obtain ⟨hc2,hf2⟩:=bcell hb2;obtain ⟨hB2,hz2⟩:=after_two hB1 hb2) | (go_at_call 172;refine (checkNumbers_any _ _ _ _ _ _ _).mono ?_;rintro e w3 ⟨rfl,hb3⟩;have hB3:=hB2.trans (hb3.mono (by omega))))
      go_ret
      exact ⟨by rw [HR.out];rfl,hB2⟩

set_option maxHeartbeats 1000000 in
theorem checkNode_9 (n m : ByteArray) (i d : Int) (A : Option Addr) (len cap : Nat) (w : World) : Calls Tryz.prog 153 #[.agg #[.int .i64 9,.string n,.string m,.int .i64 i,.int .i64 d,.slice A len cap]] w fun e w' =>
  e = .returned (.int .i64 (nodeE 9 n m i d len)) ∧ Below w.heap.size w w':=by
 have HSH : Hid (shapeZ 9 = (0,0,3,true)):=rfl
 have HN : nodeE 9 n m i d len = if argB 0 0 3 n m i d len then 1 else if namesE 9 n m 0 = 0 then numE 9 i d else namesE 9 n m 0:=rfl
 have HN':=Lib.hid HN
 clear HN
 cases hn : n.toList.isEmpty
 ·have HR:=Lib.hid (show nodeE 9 n m i d len = 1 by rw [HN'.out];simp [argB,hn])
  go_enter Tryz.func153,Tryz.ntmps153
  go_wp2_with (first | (go_at_call 170;refine (shapeOf_any _ _ _ _ _ _ HSH.out).mono ?_;rintro e w1 ⟨rfl,hb1⟩;obtain ⟨hc1,hf1⟩:=bcell hb1;obtain ⟨hB1,hz1⟩:=after_call hb1) | (go_at_call 171;refine (checkNames_any _ _ _ _ _ _ _ _ _ _ HSH.out).mono ?_;rintro e w2 ⟨rfl,hb2⟩;obtain ⟨hc2,hf2⟩:=bcell hb2;obtain ⟨hB2,hz2⟩:=after_two hB1 hb2) | (go_at_call 172;refine (checkNumbers_any _ _ _ _ _ _ _).mono ?_;rintro e w3 ⟨rfl,hb3⟩;have hB3:=hB2.trans (hb3.mono (by omega))))
  go_ret
  exact ⟨by rw [HR.out];rfl,(hB1.alloc hB1.size _)⟩
 ·skip
  cases hm : m.toList.isEmpty
  ·have HR:=Lib.hid (show nodeE 9 n m i d len = 1 by rw [HN'.out];simp [argB,hm])
   go_enter Tryz.func153,Tryz.ntmps153
   go_wp2_with (first | (go_at_call 170;refine (shapeOf_any _ _ _ _ _ _ HSH.out).mono ?_;rintro e w1 ⟨rfl,hb1⟩;obtain ⟨hc1,hf1⟩:=bcell hb1;obtain ⟨hB1,hz1⟩:=after_call hb1) | (go_at_call 171;refine (checkNames_any _ _ _ _ _ _ _ _ _ _ HSH.out).mono ?_;rintro e w2 ⟨rfl,hb2⟩;obtain ⟨hc2,hf2⟩:=bcell hb2;obtain ⟨hB2,hz2⟩:=after_two hB1 hb2) | (go_at_call 172;refine (checkNumbers_any _ _ _ _ _ _ _).mono ?_;rintro e w3 ⟨rfl,hb3⟩;have hB3:=hB2.trans (hb3.mono (by omega))))
   go_ret
   exact ⟨by rw [HR.out];rfl,(hB1.alloc hB1.size _)⟩
  ·skip
   by_cases zi : i = 0
   rotate_left
   ·have bi : (i == 0) = false:=by simpa using zi
    have ci : (i != 0) = true:=by simpa using zi
    have HR:=Lib.hid (show nodeE 9 n m i d len = 1 by rw [HN'.out];simp [argB,ci])
    clear zi
    go_enter Tryz.func153,Tryz.ntmps153
    go_wp2_with (first | (go_at_call 170;refine (shapeOf_any _ _ _ _ _ _ HSH.out).mono ?_;rintro e w1 ⟨rfl,hb1⟩;obtain ⟨hc1,hf1⟩:=bcell hb1;obtain ⟨hB1,hz1⟩:=after_call hb1) | (go_at_call 171;refine (checkNames_any _ _ _ _ _ _ _ _ _ _ HSH.out).mono ?_;rintro e w2 ⟨rfl,hb2⟩;obtain ⟨hc2,hf2⟩:=bcell hb2;obtain ⟨hB2,hz2⟩:=after_two hB1 hb2) | (go_at_call 172;refine (checkNumbers_any _ _ _ _ _ _ _).mono ?_;rintro e w3 ⟨rfl,hb3⟩;have hB3:=hB2.trans (hb3.mono (by omega))))
    go_ret
    exact ⟨by rw [HR.out];rfl,(hB1.alloc hB1.size _)⟩
   ·have bi : (i == 0) = true:=by simpa using zi
    have ci : (i != 0) = false:=by simpa using zi
    clear zi
    by_cases zd : d = 0
    rotate_left
    ·have bd : (d == 0) = false:=by simpa using zd
     have cd : (d != 0) = true:=by simpa using zd
     have HR:=Lib.hid (show nodeE 9 n m i d len = 1 by rw [HN'.out];simp [argB,cd])
     clear zd
     go_enter Tryz.func153,Tryz.ntmps153
     go_wp2_with (first | (go_at_call 170;refine (shapeOf_any _ _ _ _ _ _ HSH.out).mono ?_;rintro e w1 ⟨rfl,hb1⟩;obtain ⟨hc1,hf1⟩:=bcell hb1;obtain ⟨hB1,hz1⟩:=after_call hb1) | (go_at_call 171;refine (checkNames_any _ _ _ _ _ _ _ _ _ _ HSH.out).mono ?_;rintro e w2 ⟨rfl,hb2⟩;obtain ⟨hc2,hf2⟩:=bcell hb2;obtain ⟨hB2,hz2⟩:=after_two hB1 hb2) | (go_at_call 172;refine (checkNumbers_any _ _ _ _ _ _ _).mono ?_;rintro e w3 ⟨rfl,hb3⟩;have hB3:=hB2.trans (hb3.mono (by omega))))
     go_ret
     exact ⟨by rw [HR.out];rfl,(hB1.alloc hB1.size _)⟩
    ·have bd : (d == 0) = true:=by simpa using zd
     have cd : (d != 0) = false:=by simpa using zd
     clear zd
     by_cases zl : len = 3
     rotate_left
     ·have bl : ((len : Int) == 3) = false:=by simp;omega
      have cl : ((len : Int) != 3) = true:=by simp;omega
      have HR:=Lib.hid (show nodeE 9 n m i d len = 1 by rw [HN'.out];simp [argB,cl])
      clear zl
      go_enter Tryz.func153,Tryz.ntmps153
      go_wp2_with (first | (go_at_call 170;refine (shapeOf_any _ _ _ _ _ _ HSH.out).mono ?_;rintro e w1 ⟨rfl,hb1⟩;obtain ⟨hc1,hf1⟩:=bcell hb1;obtain ⟨hB1,hz1⟩:=after_call hb1) | (go_at_call 171;refine (checkNames_any _ _ _ _ _ _ _ _ _ _ HSH.out).mono ?_;rintro e w2 ⟨rfl,hb2⟩;obtain ⟨hc2,hf2⟩:=bcell hb2;obtain ⟨hB2,hz2⟩:=after_two hB1 hb2) | (go_at_call 172;refine (checkNumbers_any _ _ _ _ _ _ _).mono ?_;rintro e w3 ⟨rfl,hb3⟩;have hB3:=hB2.trans (hb3.mono (by omega))))
      go_ret
      exact ⟨by rw [HR.out];rfl,(hB1.alloc hB1.size _)⟩
     ·subst zl
      have HA:=Lib.hid (show argB 0 0 3 n m i d 3 = false by simp [argB,hn,hm,ci,cd])
      by_cases ze : namesE 9 n m 0 = 0
      ·have be : (namesE 9 n m 0 != 0) = false:=by simpa using ze
       have HR:=Lib.hid (show nodeE 9 n m i d 3 = numE 9 i d by rw [HN'.out,HA.out];simp [ze])
       clear ze
       go_enter Tryz.func153,Tryz.ntmps153
       go_wp2_with (first | (go_at_call 170;refine (shapeOf_any _ _ _ _ _ _ HSH.out).mono ?_;rintro e w1 ⟨rfl,hb1⟩;obtain ⟨hc1,hf1⟩:=bcell hb1;obtain ⟨hB1,hz1⟩:=after_call hb1) | (go_at_call 171;refine (checkNames_any _ _ _ _ _ _ _ _ _ _ HSH.out).mono ?_;rintro e w2 ⟨rfl,hb2⟩;obtain ⟨hc2,hf2⟩:=bcell hb2;obtain ⟨hB2,hz2⟩:=after_two hB1 hb2) | (go_at_call 172;refine (checkNumbers_any _ _ _ _ _ _ _).mono ?_;rintro e w3 ⟨rfl,hb3⟩;have hB3:=hB2.trans (hb3.mono (by omega))))
       go_ret
       exact ⟨by rw [HR.out];rfl,hB3⟩
      ·have be : (namesE 9 n m 0 != 0) = true:=by simpa using ze
       have HR:=Lib.hid (show nodeE 9 n m i d 3 = namesE 9 n m 0 by rw [HN'.out,HA.out];simp [ze])
       clear ze
       go_enter Tryz.func153,Tryz.ntmps153
       go_wp2_with (first | (go_at_call 170;refine (shapeOf_any _ _ _ _ _ _ HSH.out).mono ?_;rintro e w1 ⟨rfl,hb1⟩;obtain ⟨hc1,hf1⟩:=bcell hb1;obtain ⟨hB1,hz1⟩:=after_call hb1) | (go_at_call 171;refine (checkNames_any _ _ _ _ _ _ _ _ _ _ HSH.out).mono ?_;rintro e w2 ⟨rfl,hb2⟩;obtain ⟨hc2,hf2⟩:=bcell hb2;obtain ⟨hB2,hz2⟩:=after_two hB1 hb2) | (go_at_call 172;refine (checkNumbers_any _ _ _ _ _ _ _).mono ?_;rintro e w3 ⟨rfl,hb3⟩;have hB3:=hB2.trans (hb3.mono (by omega))))
       go_ret
       exact ⟨by rw [HR.out];rfl,hB2⟩

set_option maxHeartbeats 1000000 in
theorem checkNode_15 (n m : ByteArray) (i d : Int) (A : Option Addr) (len cap : Nat) (w : World) : Calls Tryz.prog 153 #[.agg #[.int .i64 15,.string n,.string m,.int .i64 i,.int .i64 d,.slice A len cap]] w fun e w' =>
  e = .returned (.int .i64 (nodeE 15 n m i d len)) ∧ Below w.heap.size w w':=by
 have HSH : Hid (shapeZ 15 = (0,0,3,true)):=rfl
 have HN : nodeE 15 n m i d len = if argB 0 0 3 n m i d len then 1 else if namesE 15 n m 0 = 0 then numE 15 i d else namesE 15 n m 0:=rfl
 have HN':=Lib.hid HN
 clear HN
 cases hn : n.toList.isEmpty
 ·have HR:=Lib.hid (show nodeE 15 n m i d len = 1 by rw [HN'.out];simp [argB,hn])
  go_enter Tryz.func153,Tryz.ntmps153
  go_wp2_with (first | (go_at_call 170;refine (shapeOf_any _ _ _ _ _ _ HSH.out).mono ?_;rintro e w1 ⟨rfl,hb1⟩;obtain ⟨hc1,hf1⟩:=bcell hb1;obtain ⟨hB1,hz1⟩:=after_call hb1) | (go_at_call 171;refine (checkNames_any _ _ _ _ _ _ _ _ _ _ HSH.out).mono ?_;rintro e w2 ⟨rfl,hb2⟩;obtain ⟨hc2,hf2⟩:=bcell hb2;obtain ⟨hB2,hz2⟩:=after_two hB1 hb2) | (go_at_call 172;refine (checkNumbers_any _ _ _ _ _ _ _).mono ?_;rintro e w3 ⟨rfl,hb3⟩;have hB3:=hB2.trans (hb3.mono (by omega))))
  go_ret
  exact ⟨by rw [HR.out];rfl,(hB1.alloc hB1.size _)⟩
 ·skip
  cases hm : m.toList.isEmpty
  ·have HR:=Lib.hid (show nodeE 15 n m i d len = 1 by rw [HN'.out];simp [argB,hm])
   go_enter Tryz.func153,Tryz.ntmps153
   go_wp2_with (first | (go_at_call 170;refine (shapeOf_any _ _ _ _ _ _ HSH.out).mono ?_;rintro e w1 ⟨rfl,hb1⟩;obtain ⟨hc1,hf1⟩:=bcell hb1;obtain ⟨hB1,hz1⟩:=after_call hb1) | (go_at_call 171;refine (checkNames_any _ _ _ _ _ _ _ _ _ _ HSH.out).mono ?_;rintro e w2 ⟨rfl,hb2⟩;obtain ⟨hc2,hf2⟩:=bcell hb2;obtain ⟨hB2,hz2⟩:=after_two hB1 hb2) | (go_at_call 172;refine (checkNumbers_any _ _ _ _ _ _ _).mono ?_;rintro e w3 ⟨rfl,hb3⟩;have hB3:=hB2.trans (hb3.mono (by omega))))
   go_ret
   exact ⟨by rw [HR.out];rfl,(hB1.alloc hB1.size _)⟩
  ·skip
   by_cases zi : i = 0
   rotate_left
   ·have bi : (i == 0) = false:=by simpa using zi
    have ci : (i != 0) = true:=by simpa using zi
    have HR:=Lib.hid (show nodeE 15 n m i d len = 1 by rw [HN'.out];simp [argB,ci])
    clear zi
    go_enter Tryz.func153,Tryz.ntmps153
    go_wp2_with (first | (go_at_call 170;refine (shapeOf_any _ _ _ _ _ _ HSH.out).mono ?_;rintro e w1 ⟨rfl,hb1⟩;obtain ⟨hc1,hf1⟩:=bcell hb1;obtain ⟨hB1,hz1⟩:=after_call hb1) | (go_at_call 171;refine (checkNames_any _ _ _ _ _ _ _ _ _ _ HSH.out).mono ?_;rintro e w2 ⟨rfl,hb2⟩;obtain ⟨hc2,hf2⟩:=bcell hb2;obtain ⟨hB2,hz2⟩:=after_two hB1 hb2) | (go_at_call 172;refine (checkNumbers_any _ _ _ _ _ _ _).mono ?_;rintro e w3 ⟨rfl,hb3⟩;have hB3:=hB2.trans (hb3.mono (by omega))))
    go_ret
    exact ⟨by rw [HR.out];rfl,(hB1.alloc hB1.size _)⟩
   ·have bi : (i == 0) = true:=by simpa using zi
    have ci : (i != 0) = false:=by simpa using zi
    clear zi
    by_cases zd : d = 0
    rotate_left
    ·have bd : (d == 0) = false:=by simpa using zd
     have cd : (d != 0) = true:=by simpa using zd
     have HR:=Lib.hid (show nodeE 15 n m i d len = 1 by rw [HN'.out];simp [argB,cd])
     clear zd
     go_enter Tryz.func153,Tryz.ntmps153
     go_wp2_with (first | (go_at_call 170;refine (shapeOf_any _ _ _ _ _ _ HSH.out).mono ?_;rintro e w1 ⟨rfl,hb1⟩;obtain ⟨hc1,hf1⟩:=bcell hb1;obtain ⟨hB1,hz1⟩:=after_call hb1) | (go_at_call 171;refine (checkNames_any _ _ _ _ _ _ _ _ _ _ HSH.out).mono ?_;rintro e w2 ⟨rfl,hb2⟩;obtain ⟨hc2,hf2⟩:=bcell hb2;obtain ⟨hB2,hz2⟩:=after_two hB1 hb2) | (go_at_call 172;refine (checkNumbers_any _ _ _ _ _ _ _).mono ?_;rintro e w3 ⟨rfl,hb3⟩;have hB3:=hB2.trans (hb3.mono (by omega))))
     go_ret
     exact ⟨by rw [HR.out];rfl,(hB1.alloc hB1.size _)⟩
    ·have bd : (d == 0) = true:=by simpa using zd
     have cd : (d != 0) = false:=by simpa using zd
     clear zd
     by_cases zl : len = 3
     rotate_left
     ·have bl : ((len : Int) == 3) = false:=by simp;omega
      have cl : ((len : Int) != 3) = true:=by simp;omega
      have HR:=Lib.hid (show nodeE 15 n m i d len = 1 by rw [HN'.out];simp [argB,cl])
      clear zl
      go_enter Tryz.func153,Tryz.ntmps153
      go_wp2_with (first | (go_at_call 170;refine (shapeOf_any _ _ _ _ _ _ HSH.out).mono ?_;rintro e w1 ⟨rfl,hb1⟩;obtain ⟨hc1,hf1⟩:=bcell hb1;obtain ⟨hB1,hz1⟩:=after_call hb1) | (go_at_call 171;refine (checkNames_any _ _ _ _ _ _ _ _ _ _ HSH.out).mono ?_;rintro e w2 ⟨rfl,hb2⟩;obtain ⟨hc2,hf2⟩:=bcell hb2;obtain ⟨hB2,hz2⟩:=after_two hB1 hb2) | (go_at_call 172;refine (checkNumbers_any _ _ _ _ _ _ _).mono ?_;rintro e w3 ⟨rfl,hb3⟩;have hB3:=hB2.trans (hb3.mono (by omega))))
      go_ret
      exact ⟨by rw [HR.out];rfl,(hB1.alloc hB1.size _)⟩
     ·subst zl
      have HA:=Lib.hid (show argB 0 0 3 n m i d 3 = false by simp [argB,hn,hm,ci,cd])
      by_cases ze : namesE 15 n m 0 = 0
      ·have be : (namesE 15 n m 0 != 0) = false:=by simpa using ze
       have HR:=Lib.hid (show nodeE 15 n m i d 3 = numE 15 i d by rw [HN'.out,HA.out];simp [ze])
       clear ze
       go_enter Tryz.func153,Tryz.ntmps153
       go_wp2_with (first | (go_at_call 170;refine (shapeOf_any _ _ _ _ _ _ HSH.out).mono ?_;rintro e w1 ⟨rfl,hb1⟩;obtain ⟨hc1,hf1⟩:=bcell hb1;obtain ⟨hB1,hz1⟩:=after_call hb1) | (go_at_call 171;refine (checkNames_any _ _ _ _ _ _ _ _ _ _ HSH.out).mono ?_;rintro e w2 ⟨rfl,hb2⟩;obtain ⟨hc2,hf2⟩:=bcell hb2;obtain ⟨hB2,hz2⟩:=after_two hB1 hb2) | (go_at_call 172;refine (checkNumbers_any _ _ _ _ _ _ _).mono ?_;rintro e w3 ⟨rfl,hb3⟩;have hB3:=hB2.trans (hb3.mono (by omega))))
       go_ret
       exact ⟨by rw [HR.out];rfl,hB3⟩
      ·have be : (namesE 15 n m 0 != 0) = true:=by simpa using ze
       have HR:=Lib.hid (show nodeE 15 n m i d 3 = namesE 15 n m 0 by rw [HN'.out,HA.out];simp [ze])
       clear ze
       go_enter Tryz.func153,Tryz.ntmps153
       go_wp2_with (first | (go_at_call 170;refine (shapeOf_any _ _ _ _ _ _ HSH.out).mono ?_;rintro e w1 ⟨rfl,hb1⟩;obtain ⟨hc1,hf1⟩:=bcell hb1;obtain ⟨hB1,hz1⟩:=after_call hb1) | (go_at_call 171;refine (checkNames_any _ _ _ _ _ _ _ _ _ _ HSH.out).mono ?_;rintro e w2 ⟨rfl,hb2⟩;obtain ⟨hc2,hf2⟩:=bcell hb2;obtain ⟨hB2,hz2⟩:=after_two hB1 hb2) | (go_at_call 172;refine (checkNumbers_any _ _ _ _ _ _ _).mono ?_;rintro e w3 ⟨rfl,hb3⟩;have hB3:=hB2.trans (hb3.mono (by omega))))
       go_ret
       exact ⟨by rw [HR.out];rfl,hB2⟩

end Go.Proofs.YtnfndgmlnoeelaaGreatDoor
