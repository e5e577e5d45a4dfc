/- syntax.checkNode, some kinds -/
import Derived.Test.YtnfndgmlnoeelaaGreatDoorZld
namespace Go.Proofs.YtnfndgmlnoeelaaGreatDoor
open Go.RowKit Go.Proofs

set_option maxHeartbeats 1000000 in
theorem checkNode_1 (n m : ByteArray) (i d : Int) (A : Option Addr) (len cap : Nat) (w : World) : Calls Tryz.prog 153 #[.agg #[.int .i64 1,.string n,.string m,.int .i64 i,.int .i64 d,.slice A len cap]] w fun e w' =>
  e = .returned (.int .i64 (nodeE 1 n m i d len)) ∧ Below w.heap.size w w':=by
 have HSH : Hid (shapeZ 1 = (0,1,0,true)):=rfl
 have HN : nodeE 1 n m i d len = if argB 0 1 0 n m i d len then 1 else if namesE 1 n m 0 = 0 then numE 1 i d else namesE 1 n m 0:=rfl
 have HN':=Lib.hid HN
 clear HN
 cases hn : n.toList.isEmpty
 ·have HR:=Lib.hid (show nodeE 1 n m i d len = 1 by rw [HN'.out];simp [argB,hn])
  go_enter Tryz.func153,Tryz.ntmps153
  go_wp2_with (first | (go_at_call 170;refine (shapeOf_any _ _ _ _ _ _ HSH.out).mono ?_;rintro e w1 ⟨rfl,hb1⟩;obtain ⟨hc1,hf1⟩:=bcell hb1;obtain ⟨hB1,hz1⟩:=after_call hb1) | (go_at_call 171;refine (checkNames_any _ _ _ _ _ _ _ _ _ _ HSH.out).mono ?_;rintro e w2 ⟨rfl,hb2⟩;obtain ⟨hc2,hf2⟩:=bcell hb2;obtain ⟨hB2,hz2⟩:=after_two hB1 hb2) | (go_at_call 172;refine (checkNumbers_any _ _ _ _ _ _ _).mono ?_;rintro e w3 ⟨rfl,hb3⟩;have hB3:=hB2.trans (hb3.mono (by omega))))
  go_ret
  exact ⟨by rw [HR.out];rfl,(hB1.alloc hB1.size _)⟩
 ·skip
  cases hm : m.toList.isEmpty
  ·have HR:=Lib.hid (show nodeE 1 n m i d len = 1 by rw [HN'.out];simp [argB,hm])
   go_enter Tryz.func153,Tryz.ntmps153
   go_wp2_with (first | (go_at_call 170;refine (shapeOf_any _ _ _ _ _ _ HSH.out).mono ?_;rintro e w1 ⟨rfl,hb1⟩;obtain ⟨hc1,hf1⟩:=bcell hb1;obtain ⟨hB1,hz1⟩:=after_call hb1) | (go_at_call 171;refine (checkNames_any _ _ _ _ _ _ _ _ _ _ HSH.out).mono ?_;rintro e w2 ⟨rfl,hb2⟩;obtain ⟨hc2,hf2⟩:=bcell hb2;obtain ⟨hB2,hz2⟩:=after_two hB1 hb2) | (go_at_call 172;refine (checkNumbers_any _ _ _ _ _ _ _).mono ?_;rintro e w3 ⟨rfl,hb3⟩;have hB3:=hB2.trans (hb3.mono (by omega))))
   go_ret
   exact ⟨by rw [HR.out];rfl,(hB1.alloc hB1.size _)⟩
  ·skip
   by_cases zd : d = 0
   rotate_left
   ·have bd : (d == 0) = false:=by simpa using zd
    have cd : (d != 0) = true:=by simpa using zd
    have HR:=Lib.hid (show nodeE 1 n m i d len = 1 by rw [HN'.out];simp [argB,cd])
    clear zd
    go_enter Tryz.func153,Tryz.ntmps153
    go_wp2_with (first | (go_at_call 170;refine (shapeOf_any _ _ _ _ _ _ HSH.out).mono ?_;rintro e w1 ⟨rfl,hb1⟩;obtain ⟨hc1,hf1⟩:=bcell hb1;obtain ⟨hB1,hz1⟩:=after_call hb1) | (go_at_call 171;refine (checkNames_any _ _ _ _ _ _ _ _ _ _ HSH.out).mono ?_;rintro e w2 ⟨rfl,hb2⟩;obtain ⟨hc2,hf2⟩:=bcell hb2;obtain ⟨hB2,hz2⟩:=after_two hB1 hb2) | (go_at_call 172;refine (checkNumbers_any _ _ _ _ _ _ _).mono ?_;rintro e w3 ⟨rfl,hb3⟩;have hB3:=hB2.trans (hb3.mono (by omega))))
    go_ret
    exact ⟨by rw [HR.out];rfl,(hB1.alloc hB1.size _)⟩
   ·have bd : (d == 0) = true:=by simpa using zd
    have cd : (d != 0) = false:=by simpa using zd
    clear zd
    by_cases zl : len = 0
    rotate_left
    ·have bl : ((len : Int) == 0) = false:=by simp;omega
     have cl : ((len : Int) != 0) = true:=by simp;omega
     have HR:=Lib.hid (show nodeE 1 n m i d len = 1 by rw [HN'.out];simp [argB,cl])
     clear zl
     go_enter Tryz.func153,Tryz.ntmps153
     go_wp2_with (first | (go_at_call 170;refine (shapeOf_any _ _ _ _ _ _ HSH.out).mono ?_;rintro e w1 ⟨rfl,hb1⟩;obtain ⟨hc1,hf1⟩:=bcell hb1;obtain ⟨hB1,hz1⟩:=after_call hb1) | (go_at_call 171;refine (checkNames_any _ _ _ _ _ _ _ _ _ _ HSH.out).mono ?_;rintro e w2 ⟨rfl,hb2⟩;obtain ⟨hc2,hf2⟩:=bcell hb2;obtain ⟨hB2,hz2⟩:=after_two hB1 hb2) | (go_at_call 172;refine (checkNumbers_any _ _ _ _ _ _ _).mono ?_;rintro e w3 ⟨rfl,hb3⟩;have hB3:=hB2.trans (hb3.mono (by omega))))
     go_ret
     exact ⟨by rw [HR.out];rfl,(hB1.alloc hB1.size _)⟩
    ·subst zl
     have HA:=Lib.hid (show argB 0 1 0 n m i d 0 = false by simp [argB,hn,hm,cd])
     by_cases ze : namesE 1 n m 0 = 0
     ·have be : (namesE 1 n m 0 != 0) = false:=by simpa using ze
      have HR:=Lib.hid (show nodeE 1 n m i d 0 = numE 1 i d by rw [HN'.out,HA.out];simp [ze])
      clear ze
      go_enter Tryz.func153,Tryz.ntmps153
      go_wp2_with (first | (go_at_call 170;refine (shapeOf_any _ _ _ _ _ _ HSH.out).mono ?_;rintro e w1 ⟨rfl,hb1⟩;obtain ⟨hc1,hf1⟩:=bcell hb1;obtain ⟨hB1,hz1⟩:=after_call hb1) | (go_at_call 171;refine (checkNames_any _ _ _ _ _ _ _ _ _ _ HSH.out).mono ?_;rintro e w2 ⟨rfl,hb2⟩;obtain ⟨hc2,hf2⟩:=bcell hb2;obtain ⟨hB2,hz2⟩:=after_two hB1 hb2) | (go_at_call 172;refine (checkNumbers_any _ _ _ _ _ _ _).mono ?_;rintro e w3 ⟨rfl,hb3⟩;have hB3:=hB2.trans (hb3.mono (by omega))))
      go_ret
      exact ⟨by rw [HR.out];rfl,hB3⟩
     ·have be : (namesE 1 n m 0 != 0) = true:=by simpa using ze
      have HR:=Lib.hid (show nodeE 1 n m i d 0 = namesE 1 n m 0 by rw [HN'.out,HA.out];simp [ze])
      clear ze
      go_enter Tryz.func153,Tryz.ntmps153
      go_wp2_with (first | (go_at_call 170;refine (shapeOf_any _ _ _ _ _ _ HSH.out).mono ?_;rintro e w1 ⟨rfl,hb1⟩;obtain ⟨hc1,hf1⟩:=bcell hb1;obtain ⟨hB1,hz1⟩:=after_call hb1) | (go_at_call 171;refine (checkNames_any _ _ _ _ _ _ _ _ _ _ HSH.out).mono ?_;rintro e w2 ⟨rfl,hb2⟩;obtain ⟨hc2,hf2⟩:=bcell hb2;obtain ⟨hB2,hz2⟩:=after_two hB1 hb2) | (go_at_call 172;refine (checkNumbers_any _ _ _ _ _ _ _).mono ?_;rintro e w3 ⟨rfl,hb3⟩;have hB3:=hB2.trans (hb3.mono (by omega))))
      go_ret
      exact ⟨by rw [HR.out];rfl,hB2⟩

set_option maxHeartbeats 1000000 in
theorem checkNode_2 (n m : ByteArray) (i d : Int) (A : Option Addr) (len cap : Nat) (w : World) : Calls Tryz.prog 153 #[.agg #[.int .i64 2,.string n,.string m,.int .i64 i,.int .i64 d,.slice A len cap]] w fun e w' =>
  e = .returned (.int .i64 (nodeE 2 n m i d len)) ∧ Below w.heap.size w w':=by
 have HSH : Hid (shapeZ 2 = (0,1,0,true)):=rfl
 have HN : nodeE 2 n m i d len = if argB 0 1 0 n m i d len then 1 else if namesE 2 n m 0 = 0 then numE 2 i d else namesE 2 n m 0:=rfl
 have HN':=Lib.hid HN
 clear HN
 cases hn : n.toList.isEmpty
 ·have HR:=Lib.hid (show nodeE 2 n m i d len = 1 by rw [HN'.out];simp [argB,hn])
  go_enter Tryz.func153,Tryz.ntmps153
  go_wp2_with (first | (go_at_call 170;refine (shapeOf_any _ _ _ _ _ _ HSH.out).mono ?_;rintro e w1 ⟨rfl,hb1⟩;obtain ⟨hc1,hf1⟩:=bcell hb1;obtain ⟨hB1,hz1⟩:=after_call hb1) | (go_at_call 171;refine (checkNames_any _ _ _ _ _ _ _ _ _ _ HSH.out).mono ?_;rintro e w2 ⟨rfl,hb2⟩;obtain ⟨hc2,hf2⟩:=bcell hb2;obtain ⟨hB2,hz2⟩:=after_two hB1 hb2) | (go_at_call 172;refine (checkNumbers_any _ _ _ _ _ _ _).mono ?_;rintro e w3 ⟨rfl,hb3⟩;have hB3:=hB2.trans (hb3.mono (by omega))))
  go_ret
  exact ⟨by rw [HR.out];rfl,(hB1.alloc hB1.size _)⟩
 ·skip
  cases hm : m.toList.isEmpty
  ·have HR:=Lib.hid (show nodeE 2 n m i d len = 1 by rw [HN'.out];simp [argB,hm])
   go_enter Tryz.func153,Tryz.ntmps153
   go_wp2_with (first | (go_at_call 170;refine (shapeOf_any _ _ _ _ _ _ HSH.out).mono ?_;rintro e w1 ⟨rfl,hb1⟩;obtain ⟨hc1,hf1⟩:=bcell hb1;obtain ⟨hB1,hz1⟩:=after_call hb1) | (go_at_call 171;refine (checkNames_any _ _ _ _ _ _ _ _ _ _ HSH.out).mono ?_;rintro e w2 ⟨rfl,hb2⟩;obtain ⟨hc2,hf2⟩:=bcell hb2;obtain ⟨hB2,hz2⟩:=after_two hB1 hb2) | (go_at_call 172;refine (checkNumbers_any _ _ _ _ _ _ _).mono ?_;rintro e w3 ⟨rfl,hb3⟩;have hB3:=hB2.trans (hb3.mono (by omega))))
   go_ret
   exact ⟨by rw [HR.out];rfl,(hB1.alloc hB1.size _)⟩
  ·skip
   by_cases zd : d = 0
   rotate_left
   ·have bd : (d == 0) = false:=by simpa using zd
    have cd : (d != 0) = true:=by simpa using zd
    have HR:=Lib.hid (show nodeE 2 n m i d len = 1 by rw [HN'.out];simp [argB,cd])
    clear zd
    go_enter Tryz.func153,Tryz.ntmps153
    go_wp2_with (first | (go_at_call 170;refine (shapeOf_any _ _ _ _ _ _ HSH.out).mono ?_;rintro e w1 ⟨rfl,hb1⟩;obtain ⟨hc1,hf1⟩:=bcell hb1;obtain ⟨hB1,hz1⟩:=after_call hb1) | (go_at_call 171;refine (checkNames_any _ _ _ _ _ _ _ _ _ _ HSH.out).mono ?_;rintro e w2 ⟨rfl,hb2⟩;obtain ⟨hc2,hf2⟩:=bcell hb2;obtain ⟨hB2,hz2⟩:=after_two hB1 hb2) | (go_at_call 172;refine (checkNumbers_any _ _ _ _ _ _ _).mono ?_;rintro e w3 ⟨rfl,hb3⟩;have hB3:=hB2.trans (hb3.mono (by omega))))
    go_ret
    exact ⟨by rw [HR.out];rfl,(hB1.alloc hB1.size _)⟩
   ·have bd : (d == 0) = true:=by simpa using zd
    have cd : (d != 0) = false:=by simpa using zd
    clear zd
    by_cases zl : len = 0
    rotate_left
    ·have bl : ((len : Int) == 0) = false:=by simp;omega
     have cl : ((len : Int) != 0) = true:=by simp;omega
     have HR:=Lib.hid (show nodeE 2 n m i d len = 1 by rw [HN'.out];simp [argB,cl])
     clear zl
     go_enter Tryz.func153,Tryz.ntmps153
     go_wp2_with (first | (go_at_call 170;refine (shapeOf_any _ _ _ _ _ _ HSH.out).mono ?_;rintro e w1 ⟨rfl,hb1⟩;obtain ⟨hc1,hf1⟩:=bcell hb1;obtain ⟨hB1,hz1⟩:=after_call hb1) | (go_at_call 171;refine (checkNames_any _ _ _ _ _ _ _ _ _ _ HSH.out).mono ?_;rintro e w2 ⟨rfl,hb2⟩;obtain ⟨hc2,hf2⟩:=bcell hb2;obtain ⟨hB2,hz2⟩:=after_two hB1 hb2) | (go_at_call 172;refine (checkNumbers_any _ _ _ _ _ _ _).mono ?_;rintro e w3 ⟨rfl,hb3⟩;have hB3:=hB2.trans (hb3.mono (by omega))))
     go_ret
     exact ⟨by rw [HR.out];rfl,(hB1.alloc hB1.size _)⟩
    ·subst zl
     have HA:=Lib.hid (show argB 0 1 0 n m i d 0 = false by simp [argB,hn,hm,cd])
     by_cases ze : namesE 2 n m 0 = 0
     ·have be : (namesE 2 n m 0 != 0) = false:=by simpa using ze
      have HR:=Lib.hid (show nodeE 2 n m i d 0 = numE 2 i d by rw [HN'.out,HA.out];simp [ze])
      clear ze
      go_enter Tryz.func153,Tryz.ntmps153
      go_wp2_with (first | (go_at_call 170;refine (shapeOf_any _ _ _ _ _ _ HSH.out).mono ?_;rintro e w1 ⟨rfl,hb1⟩;obtain ⟨hc1,hf1⟩:=bcell hb1;obtain ⟨hB1,hz1⟩:=after_call hb1) | (go_at_call 171;refine (checkNames_any _ _ _ _ _ _ _ _ _ _ HSH.out).mono ?_;rintro e w2 ⟨rfl,hb2⟩;obtain ⟨hc2,hf2⟩:=bcell hb2;obtain ⟨hB2,hz2⟩:=after_two hB1 hb2) | (go_at_call 172;refine (checkNumbers_any _ _ _ _ _ _ _).mono ?_;rintro e w3 ⟨rfl,hb3⟩;have hB3:=hB2.trans (hb3.mono (by omega))))
      go_ret
      exact ⟨by rw [HR.out];rfl,hB3⟩
     ·have be : (namesE 2 n m 0 != 0) = true:=by simpa using ze
      have HR:=Lib.hid (show nodeE 2 n m i d 0 = namesE 2 n m 0 by rw [HN'.out,HA.out];simp [ze])
      clear ze
      go_enter Tryz.func153,Tryz.ntmps153
      go_wp2_with (first | (go_at_call 170;refine (shapeOf_any _ _ _ _ _ _ HSH.out).mono ?_;rintro e w1 ⟨rfl,hb1⟩;obtain ⟨hc1,hf1⟩:=bcell hb1;obtain ⟨hB1,hz1⟩:=after_call hb1) | (go_at_call 171;refine (checkNames_any _ _ _ _ _ _ _ _ _ _ HSH.out).mono ?_;rintro e w2 ⟨rfl,hb2⟩;obtain ⟨hc2,hf2⟩:=bcell hb2;obtain ⟨hB2,hz2⟩:=after_two hB1 hb2) | (go_at_call 172;refine (checkNumbers_any _ _ _ _ _ _ _).mono ?_;rintro e w3 ⟨rfl,hb3⟩;have hB3:=hB2.trans (hb3.mono (by omega))))
      go_ret
      exact ⟨by rw [HR.out];rfl,hB2⟩

set_option maxHeartbeats 1000000 in
theorem checkNode_3 (n m : ByteArray) (i d : Int) (A : Option Addr) (len cap : Nat) (w : World) : Calls Tryz.prog 153 #[.agg #[.int .i64 3,.string n,.string m,.int .i64 i,.int .i64 d,.slice A len cap]] w fun e w' =>
  e = .returned (.int .i64 (nodeE 3 n m i d len)) ∧ Below w.heap.size w w':=by
 have HSH : Hid (shapeZ 3 = (1,0,0,true)):=rfl
 have HN : nodeE 3 n m i d len = if argB 1 0 0 n m i d len then 1 else if namesE 3 n m 1 = 0 then numE 3 i d else namesE 3 n m 1:=rfl
 have HN':=Lib.hid HN
 clear HN
 cases hm : m.toList.isEmpty
 ·have HR:=Lib.hid (show nodeE 3 n m i d len = 1 by rw [HN'.out];simp [argB,hm])
  go_enter Tryz.func153,Tryz.ntmps153
  go_wp2_with (first | (go_at_call 170;refine (shapeOf_any _ _ _ _ _ _ HSH.out).mono ?_;rintro e w1 ⟨rfl,hb1⟩;obtain ⟨hc1,hf1⟩:=bcell hb1;obtain ⟨hB1,hz1⟩:=after_call hb1) | (go_at_call 171;refine (checkNames_any _ _ _ _ _ _ _ _ _ _ HSH.out).mono ?_;rintro e w2 ⟨rfl,hb2⟩;obtain ⟨hc2,hf2⟩:=bcell hb2;obtain ⟨hB2,hz2⟩:=after_two hB1 hb2) | (go_at_call 172;refine (checkNumbers_any _ _ _ _ _ _ _).mono ?_;rintro e w3 ⟨rfl,hb3⟩;have hB3:=hB2.trans (hb3.mono (by omega))))
  go_ret
  exact ⟨by rw [HR.out];rfl,(hB1.alloc hB1.size _)⟩
 ·skip
  by_cases zi : i = 0
  rotate_left
  ·have bi : (i == 0) = false:=by simpa using zi
   have ci : (i != 0) = true:=by simpa using zi
   have HR:=Lib.hid (show nodeE 3 n m i d len = 1 by rw [HN'.out];simp [argB,ci])
   clear zi
   go_enter Tryz.func153,Tryz.ntmps153
   go_wp2_with (first | (go_at_call 170;refine (shapeOf_any _ _ _ _ _ _ HSH.out).mono ?_;rintro e w1 ⟨rfl,hb1⟩;obtain ⟨hc1,hf1⟩:=bcell hb1;obtain ⟨hB1,hz1⟩:=after_call hb1) | (go_at_call 171;refine (checkNames_any _ _ _ _ _ _ _ _ _ _ HSH.out).mono ?_;rintro e w2 ⟨rfl,hb2⟩;obtain ⟨hc2,hf2⟩:=bcell hb2;obtain ⟨hB2,hz2⟩:=after_two hB1 hb2) | (go_at_call 172;refine (checkNumbers_any _ _ _ _ _ _ _).mono ?_;rintro e w3 ⟨rfl,hb3⟩;have hB3:=hB2.trans (hb3.mono (by omega))))
   go_ret
   exact ⟨by rw [HR.out];rfl,(hB1.alloc hB1.size _)⟩
  ·have bi : (i == 0) = true:=by simpa using zi
   have ci : (i != 0) = false:=by simpa using zi
   clear zi
   by_cases zd : d = 0
   rotate_left
   ·have bd : (d == 0) = false:=by simpa using zd
    have cd : (d != 0) = true:=by simpa using zd
    have HR:=Lib.hid (show nodeE 3 n m i d len = 1 by rw [HN'.out];simp [argB,cd])
    clear zd
    go_enter Tryz.func153,Tryz.ntmps153
    go_wp2_with (first | (go_at_call 170;refine (shapeOf_any _ _ _ _ _ _ HSH.out).mono ?_;rintro e w1 ⟨rfl,hb1⟩;obtain ⟨hc1,hf1⟩:=bcell hb1;obtain ⟨hB1,hz1⟩:=after_call hb1) | (go_at_call 171;refine (checkNames_any _ _ _ _ _ _ _ _ _ _ HSH.out).mono ?_;rintro e w2 ⟨rfl,hb2⟩;obtain ⟨hc2,hf2⟩:=bcell hb2;obtain ⟨hB2,hz2⟩:=after_two hB1 hb2) | (go_at_call 172;refine (checkNumbers_any _ _ _ _ _ _ _).mono ?_;rintro e w3 ⟨rfl,hb3⟩;have hB3:=hB2.trans (hb3.mono (by omega))))
    go_ret
    exact ⟨by rw [HR.out];rfl,(hB1.alloc hB1.size _)⟩
   ·have bd : (d == 0) = true:=by simpa using zd
    have cd : (d != 0) = false:=by simpa using zd
    clear zd
    by_cases zl : len = 0
    rotate_left
    ·have bl : ((len : Int) == 0) = false:=by simp;omega
     have cl : ((len : Int) != 0) = true:=by simp;omega
     have HR:=Lib.hid (show nodeE 3 n m i d len = 1 by rw [HN'.out];simp [argB,cl])
     clear zl
     go_enter Tryz.func153,Tryz.ntmps153
     go_wp2_with (first | (go_at_call 170;refine (shapeOf_any _ _ _ _ _ _ HSH.out).mono ?_;rintro e w1 ⟨rfl,hb1⟩;obtain ⟨hc1,hf1⟩:=bcell hb1;obtain ⟨hB1,hz1⟩:=after_call hb1) | (go_at_call 171;refine (checkNames_any _ _ _ _ _ _ _ _ _ _ HSH.out).mono ?_;rintro e w2 ⟨rfl,hb2⟩;obtain ⟨hc2,hf2⟩:=bcell hb2;obtain ⟨hB2,hz2⟩:=after_two hB1 hb2) | (go_at_call 172;refine (checkNumbers_any _ _ _ _ _ _ _).mono ?_;rintro e w3 ⟨rfl,hb3⟩;have hB3:=hB2.trans (hb3.mono (by omega))))
     go_ret
     exact ⟨by rw [HR.out];rfl,(hB1.alloc hB1.size _)⟩
    ·subst zl
     have HA:=Lib.hid (show argB 1 0 0 n m i d 0 = false by simp [argB,hm,ci,cd])
     by_cases ze : namesE 3 n m 1 = 0
     ·have be : (namesE 3 n m 1 != 0) = false:=by simpa using ze
      have HR:=Lib.hid (show nodeE 3 n m i d 0 = numE 3 i d by rw [HN'.out,HA.out];simp [ze])
      clear ze
      go_enter Tryz.func153,Tryz.ntmps153
      go_wp2_with (first | (go_at_call 170;refine (shapeOf_any _ _ _ _ _ _ HSH.out).mono ?_;rintro e w1 ⟨rfl,hb1⟩;obtain ⟨hc1,hf1⟩:=bcell hb1;obtain ⟨hB1,hz1⟩:=after_call hb1) | (go_at_call 171;refine (checkNames_any _ _ _ _ _ _ _ _ _ _ HSH.out).mono ?_;rintro e w2 ⟨rfl,hb2⟩;obtain ⟨hc2,hf2⟩:=bcell hb2;obtain ⟨hB2,hz2⟩:=after_two hB1 hb2) | (go_at_call 172;refine (checkNumbers_any _ _ _ _ _ _ _).mono ?_;rintro e w3 ⟨rfl,hb3⟩;have hB3:=hB2.trans (hb3.mono (by omega))))
      go_ret
      exact ⟨by rw [HR.out];rfl,hB3⟩
     ·have be : (namesE 3 n m 1 != 0) = true:=by simpa using ze
      have HR:=Lib.hid (show nodeE 3 n m i d 0 = namesE 3 n m 1 by rw [HN'.out,HA.out];simp [ze])
      clear ze
      go_enter Tryz.func153,Tryz.ntmps153
      go_wp2_with (first | (go_at_call 170;refine (shapeOf_any _ _ _ _ _ _ HSH.out).mono ?_;rintro e w1 ⟨rfl,hb1⟩;obtain ⟨hc1,hf1⟩:=bcell hb1;obtain ⟨hB1,hz1⟩:=after_call hb1) | (go_at_call 171;refine (checkNames_any _ _ _ _ _ _ _ _ _ _ HSH.out).mono ?_;rintro e w2 ⟨rfl,hb2⟩;obtain ⟨hc2,hf2⟩:=bcell hb2;obtain ⟨hB2,hz2⟩:=after_two hB1 hb2) | (go_at_call 172;refine (checkNumbers_any _ _ _ _ _ _ _).mono ?_;rintro e w3 ⟨rfl,hb3⟩;have hB3:=hB2.trans (hb3.mono (by omega))))
      go_ret
      exact ⟨by rw [HR.out];rfl,hB2⟩

set_option maxHeartbeats 1000000 in
theorem checkNode_4 (n m : ByteArray) (i d : Int) (A : Option Addr) (len cap : Nat) (w : World) : Calls Tryz.prog 153 #[.agg #[.int .i64 4,.string n,.string m,.int .i64 i,.int .i64 d,.slice A len cap]] w fun e w' =>
  e = .returned (.int .i64 (nodeE 4 n m i d len)) ∧ Below w.heap.size w w':=by
 have HSH : Hid (shapeZ 4 = (2,0,0,true)):=rfl
 have HN : nodeE 4 n m i d len = if argB 2 0 0 n m i d len then 1 else if namesE 4 n m 2 = 0 then numE 4 i d else namesE 4 n m 2:=rfl
 have HN':=Lib.hid HN
 clear HN
 by_cases zi : i = 0
 rotate_left
 ·have bi : (i == 0) = false:=by simpa using zi
  have ci : (i != 0) = true:=by simpa using zi
  have HR:=Lib.hid (show nodeE 4 n m i d len = 1 by rw [HN'.out];simp [argB,ci])
  clear zi
  go_enter Tryz.func153,Tryz.ntmps153
  go_wp2_with (first | (go_at_call 170;refine (shapeOf_any _ _ _ _ _ _ HSH.out).mono ?_;rintro e w1 ⟨rfl,hb1⟩;obtain ⟨hc1,hf1⟩:=bcell hb1;obtain ⟨hB1,hz1⟩:=after_call hb1) | (go_at_call 171;refine (checkNames_any _ _ _ _ _ _ _ _ _ _ HSH.out).mono ?_;rintro e w2 ⟨rfl,hb2⟩;obtain ⟨hc2,hf2⟩:=bcell hb2;obtain ⟨hB2,hz2⟩:=after_two hB1 hb2) | (go_at_call 172;refine (checkNumbers_any _ _ _ _ _ _ _).mono ?_;rintro e w3 ⟨rfl,hb3⟩;have hB3:=hB2.trans (hb3.mono (by omega))))
  go_ret
  exact ⟨by rw [HR.out];rfl,(hB1.alloc hB1.size _)⟩
 ·have bi : (i == 0) = true:=by simpa using zi
  have ci : (i != 0) = false:=by simpa using zi
  clear zi
  by_cases zd : d = 0
  rotate_left
  ·have bd : (d == 0) = false:=by simpa using zd
   have cd : (d != 0) = true:=by simpa using zd
   have HR:=Lib.hid (show nodeE 4 n m i d len = 1 by rw [HN'.out];simp [argB,cd])
   clear zd
   go_enter Tryz.func153,Tryz.ntmps153
   go_wp2_with (first | (go_at_call 170;refine (shapeOf_any _ _ _ _ _ _ HSH.out).mono ?_;rintro e w1 ⟨rfl,hb1⟩;obtain ⟨hc1,hf1⟩:=bcell hb1;obtain ⟨hB1,hz1⟩:=after_call hb1) | (go_at_call 171;refine (checkNames_any _ _ _ _ _ _ _ _ _ _ HSH.out).mono ?_;rintro e w2 ⟨rfl,hb2⟩;obtain ⟨hc2,hf2⟩:=bcell hb2;obtain ⟨hB2,hz2⟩:=after_two hB1 hb2) | (go_at_call 172;refine (checkNumbers_any _ _ _ _ _ _ _).mono ?_;rintro e w3 ⟨rfl,hb3⟩;have hB3:=hB2.trans (hb3.mono (by omega))))
   go_ret
   exact ⟨by rw [HR.out];rfl,(hB1.alloc hB1.size _)⟩
  ·have bd : (d == 0) = true:=by simpa using zd
   have cd : (d != 0) = false:=by simpa using zd
   clear zd
   by_cases zl : len = 0
   rotate_left
   ·have bl : ((len : Int) == 0) = false:=by simp;omega
    have cl : ((len : Int) != 0) = true:=by simp;omega
    have HR:=Lib.hid (show nodeE 4 n m i d len = 1 by rw [HN'.out];simp [argB,cl])
    clear zl
    go_enter Tryz.func153,Tryz.ntmps153
    go_wp2_with (first | (go_at_call 170;refine (shapeOf_any _ _ _ _ _ _ HSH.out).mono ?_;rintro e w1 ⟨rfl,hb1⟩;obtain ⟨hc1,hf1⟩:=bcell hb1;obtain ⟨hB1,hz1⟩:=after_call hb1) | (go_at_call 171;refine (checkNames_any _ _ _ _ _ _ _ _ _ _ HSH.out).mono ?_;rintro e w2 ⟨rfl,hb2⟩;obtain ⟨hc2,hf2⟩:=bcell hb2;obtain ⟨hB2,hz2⟩:=after_two hB1 hb2) | (go_at_call 172;refine (checkNumbers_any _ _ _ _ _ _ _).mono ?_;rintro e w3 ⟨rfl,hb3⟩;have hB3:=hB2.trans (hb3.mono (by omega))))
    go_ret
    exact ⟨by rw [HR.out];rfl,(hB1.alloc hB1.size _)⟩
   ·subst zl
    have HA:=Lib.hid (show argB 2 0 0 n m i d 0 = false by simp [argB,ci,cd])
    by_cases ze : namesE 4 n m 2 = 0
    ·have be : (namesE 4 n m 2 != 0) = false:=by simpa using ze
     have HR:=Lib.hid (show nodeE 4 n m i d 0 = numE 4 i d by rw [HN'.out,HA.out];simp [ze])
     clear ze
     go_enter Tryz.func153,Tryz.ntmps153
     go_wp2_with (first | (go_at_call 170;refine (shapeOf_any _ _ _ _ _ _ HSH.out).mono ?_;rintro e w1 ⟨rfl,hb1⟩;obtain ⟨hc1,hf1⟩:=bcell hb1;obtain ⟨hB1,hz1⟩:=after_call hb1) | (go_at_call 171;refine (checkNames_any _ _ _ _ _ _ _ _ _ _ HSH.out).mono ?_;rintro e w2 ⟨rfl,hb2⟩;obtain ⟨hc2,hf2⟩:=bcell hb2;obtain ⟨hB2,hz2⟩:=after_two hB1 hb2) | (go_at_call 172;refine (checkNumbers_any _ _ _ _ _ _ _).mono ?_;rintro e w3 ⟨rfl,hb3⟩;have hB3:=hB2.trans (hb3.mono (by omega))))
     go_ret
     exact ⟨by rw [HR.out];rfl,hB3⟩
    ·have be : (namesE 4 n m 2 != 0) = true:=by simpa using ze
     have HR:=Lib.hid (show nodeE 4 n m i d 0 = namesE 4 n m 2 by rw [HN'.out,HA.out];simp [ze])
     clear ze
     go_enter Tryz.func153,Tryz.ntmps153
     go_wp2_with (first | (go_at_call 170;refine (shapeOf_any _ _ _ _ _ _ HSH.out).mono ?_;rintro e w1 ⟨rfl,hb1⟩;obtain ⟨hc1,hf1⟩:=bcell hb1;obtain ⟨hB1,hz1⟩:=after_call hb1) | (go_at_call 171;refine (checkNames_any _ _ _ _ _ _ _ _ _ _ HSH.out).mono ?_;rintro e w2 ⟨rfl,hb2⟩;obtain ⟨hc2,hf2⟩:=bcell hb2;obtain ⟨hB2,hz2⟩:=after_two hB1 hb2) | (go_at_call 172;refine (checkNumbers_any _ _ _ _ _ _ _).mono ?_;rintro e w3 ⟨rfl,hb3⟩;have hB3:=hB2.trans (hb3.mono (by omega))))
     go_ret
     exact ⟨by rw [HR.out];rfl,hB2⟩

end Go.Proofs.YtnfndgmlnoeelaaGreatDoor
/- syntax.checkNode, some kinds -/
namespace Go.Proofs.YtnfndgmlnoeelaaGreatDoor
open Go.RowKit Go.Proofs

set_option maxHeartbeats 1000000 in
theorem checkNode_11 (n m : ByteArray) (i d : Int) (A : Option Addr) (len cap : Nat) (w : World) : Calls Tryz.prog 153 #[.agg #[.int .i64 11,.string n,.string m,.int .i64 i,.int .i64 d,.slice A len cap]] w fun e w' =>
  e = .returned (.int .i64 (nodeE 11 n m i d len)) ∧ Below w.heap.size w w':=by
 have HSH : Hid (shapeZ 11 = (0,0,0,true)):=rfl
 have HN : nodeE 11 n m i d len = if argB 0 0 0 n m i d len then 1 else if namesE 11 n m 0 = 0 then numE 11 i d else namesE 11 n m 0:=rfl
 have HN':=Lib.hid HN
 clear HN
 cases hn : n.toList.isEmpty
 ·have HR:=Lib.hid (show nodeE 11 n m i d len = 1 by rw [HN'.out];simp [argB,hn])
  go_enter Tryz.func153,Tryz.ntmps153
  go_wp2_with (first | (go_at_call 170;refine (shapeOf_any _ _ _ _ _ _ HSH.out).mono ?_;rintro e w1 ⟨rfl,hb1⟩;obtain ⟨hc1,hf1⟩:=bcell hb1;obtain ⟨hB1,hz1⟩:=after_call hb1) | (go_at_call 171;refine (checkNames_any _ _ _ _ _ _ _ _ _ _ HSH.out).mono ?_;rintro e w2 ⟨rfl,hb2⟩;obtain ⟨hc2,hf2⟩:=bcell hb2;obtain ⟨hB2,hz2⟩:=after_two hB1 hb2) | (go_at_call 172;refine (checkNumbers_any _ _ _ _ _ _ _).mono ?_;rintro e w3 ⟨rfl,hb3⟩;have hB3:=hB2.trans (hb3.mono (by omega))))
  go_ret
  exact ⟨by rw [HR.out];rfl,(hB1.alloc hB1.size _)⟩
 ·skip
  cases hm : m.toList.isEmpty
  ·have HR:=Lib.hid (show nodeE 11 n m i d len = 1 by rw [HN'.out];simp [argB,hm])
   go_enter Tryz.func153,Tryz.ntmps153
   go_wp2_with (first | (go_at_call 170;refine (shapeOf_any _ _ _ _ _ _ HSH.out).mono ?_;rintro e w1 ⟨rfl,hb1⟩;obtain ⟨hc1,hf1⟩:=bcell hb1;obtain ⟨hB1,hz1⟩:=after_call hb1) | (go_at_call 171;refine (checkNames_any _ _ _ _ _ _ _ _ _ _ HSH.out).mono ?_;rintro e w2 ⟨rfl,hb2⟩;obtain ⟨hc2,hf2⟩:=bcell hb2;obtain ⟨hB2,hz2⟩:=after_two hB1 hb2) | (go_at_call 172;refine (checkNumbers_any _ _ _ _ _ _ _).mono ?_;rintro e w3 ⟨rfl,hb3⟩;have hB3:=hB2.trans (hb3.mono (by omega))))
   go_ret
   exact ⟨by rw [HR.out];rfl,(hB1.alloc hB1.size _)⟩
  ·skip
   by_cases zi : i = 0
   rotate_left
   ·have bi : (i == 0) = false:=by simpa using zi
    have ci : (i != 0) = true:=by simpa using zi
    have HR:=Lib.hid (show nodeE 11 n m i d len = 1 by rw [HN'.out];simp [argB,ci])
    clear zi
    go_enter Tryz.func153,Tryz.ntmps153
    go_wp2_with (first | (go_at_call 170;refine (shapeOf_any _ _ _ _ _ _ HSH.out).mono ?_;rintro e w1 ⟨rfl,hb1⟩;obtain ⟨hc1,hf1⟩:=bcell hb1;obtain ⟨hB1,hz1⟩:=after_call hb1) | (go_at_call 171;refine (checkNames_any _ _ _ _ _ _ _ _ _ _ HSH.out).mono ?_;rintro e w2 ⟨rfl,hb2⟩;obtain ⟨hc2,hf2⟩:=bcell hb2;obtain ⟨hB2,hz2⟩:=after_two hB1 hb2) | (go_at_call 172;refine (checkNumbers_any _ _ _ _ _ _ _).mono ?_;rintro e w3 ⟨rfl,hb3⟩;have hB3:=hB2.trans (hb3.mono (by omega))))
    go_ret
    exact ⟨by rw [HR.out];rfl,(hB1.alloc hB1.size _)⟩
   ·have bi : (i == 0) = true:=by simpa using zi
    have ci : (i != 0) = false:=by simpa using zi
    clear zi
    by_cases zd : d = 0
    rotate_left
    ·have bd : (d == 0) = false:=by simpa using zd
     have cd : (d != 0) = true:=by simpa using zd
     have HR:=Lib.hid (show nodeE 11 n m i d len = 1 by rw [HN'.out];simp [argB,cd])
     clear zd
     go_enter Tryz.func153,Tryz.ntmps153
     go_wp2_with (first | (go_at_call 170;refine (shapeOf_any _ _ _ _ _ _ HSH.out).mono ?_;rintro e w1 ⟨rfl,hb1⟩;obtain ⟨hc1,hf1⟩:=bcell hb1;obtain ⟨hB1,hz1⟩:=after_call hb1) | (go_at_call 171;refine (checkNames_any _ _ _ _ _ _ _ _ _ _ HSH.out).mono ?_;rintro e w2 ⟨rfl,hb2⟩;obtain ⟨hc2,hf2⟩:=bcell hb2;obtain ⟨hB2,hz2⟩:=after_two hB1 hb2) | (go_at_call 172;refine (checkNumbers_any _ _ _ _ _ _ _).mono ?_;rintro e w3 ⟨rfl,hb3⟩;have hB3:=hB2.trans (hb3.mono (by omega))))
     go_ret
     exact ⟨by rw [HR.out];rfl,(hB1.alloc hB1.size _)⟩
    ·have bd : (d == 0) = true:=by simpa using zd
     have cd : (d != 0) = false:=by simpa using zd
     clear zd
     by_cases zl : len = 0
     rotate_left
     ·have bl : ((len : Int) == 0) = false:=by simp;omega
      have cl : ((len : Int) != 0) = true:=by simp;omega
      have HR:=Lib.hid (show nodeE 11 n m i d len = 1 by rw [HN'.out];simp [argB,cl])
      clear zl
      go_enter Tryz.func153,Tryz.ntmps153
      go_wp2_with (first | (go_at_call 170;refine (shapeOf_any _ _ _ _ _ _ HSH.out).mono ?_;rintro e w1 ⟨rfl,hb1⟩;obtain ⟨hc1,hf1⟩:=bcell hb1;obtain ⟨hB1,hz1⟩:=after_call hb1) | (go_at_call 171;refine (checkNames_any _ _ _ _ _ _ _ _ _ _ HSH.out).mono ?_;rintro e w2 ⟨rfl,hb2⟩;obtain ⟨hc2,hf2⟩:=bcell hb2;obtain ⟨hB2,hz2⟩:=after_two hB1 hb2) | (go_at_call 172;refine (checkNumbers_any _ _ _ _ _ _ _).mono ?_;rintro e w3 ⟨rfl,hb3⟩;have hB3:=hB2.trans (hb3.mono (by omega))))
      go_ret
      exact ⟨by rw [HR.out];rfl,(hB1.alloc hB1.size _)⟩
     ·subst zl
      have HA:=Lib.hid (show argB 0 0 0 n m i d 0 = false by simp [argB,hn,hm,ci,cd])
      by_cases ze : namesE 11 n m 0 = 0
      ·have be : (namesE 11 n m 0 != 0) = false:=by simpa using ze
       have HR:=Lib.hid (show nodeE 11 n m i d 0 = numE 11 i d by rw [HN'.out,HA.out];simp [ze])
       clear ze
       go_enter Tryz.func153,Tryz.ntmps153
       go_wp2_with (first | (go_at_call 170;refine (shapeOf_any _ _ _ _ _ _ HSH.out).mono ?_;rintro e w1 ⟨rfl,hb1⟩;obtain ⟨hc1,hf1⟩:=bcell hb1;obtain ⟨hB1,hz1⟩:=after_call hb1) | (go_at_call 171;refine (checkNames_any _ _ _ _ _ _ _ _ _ _ HSH.out).mono ?_;rintro e w2 ⟨rfl,hb2⟩;obtain ⟨hc2,hf2⟩:=bcell hb2;obtain ⟨hB2,hz2⟩:=after_two hB1 hb2) | (go_at_call 172;refine (checkNumbers_any _ _ _ _ _ _ _).mono ?_;rintro e w3 ⟨rfl,hb3⟩;have hB3:=hB2.trans (hb3.mono (by omega))))
       go_ret
       exact ⟨by rw [HR.out];rfl,hB3⟩
      ·have be : (namesE 11 n m 0 != 0) = true:=by simpa using ze
       have HR:=Lib.hid (show nodeE 11 n m i d 0 = namesE 11 n m 0 by rw [HN'.out,HA.out];simp [ze])
       clear ze
       go_enter Tryz.func153,Tryz.ntmps153
       go_wp2_with (first | (go_at_call 170;refine (shapeOf_any _ _ _ _ _ _ HSH.out).mono ?_;rintro e w1 ⟨rfl,hb1⟩;obtain ⟨hc1,hf1⟩:=bcell hb1;obtain ⟨hB1,hz1⟩:=after_call hb1) | (go_at_call 171;refine (checkNames_any _ _ _ _ _ _ _ _ _ _ HSH.out).mono ?_;rintro e w2 ⟨rfl,hb2⟩;obtain ⟨hc2,hf2⟩:=bcell hb2;obtain ⟨hB2,hz2⟩:=after_two hB1 hb2) | (go_at_call 172;refine (checkNumbers_any _ _ _ _ _ _ _).mono ?_;rintro e w3 ⟨rfl,hb3⟩;have hB3:=hB2.trans (hb3.mono (by omega))))
       go_ret
       exact ⟨by rw [HR.out];rfl,hB2⟩

set_option maxHeartbeats 1000000 in
theorem checkNode_13 (n m : ByteArray) (i d : Int) (A : Option Addr) (len cap : Nat) (w : World) : Calls Tryz.prog 153 #[.agg #[.int .i64 13,.string n,.string m,.int .i64 i,.int .i64 d,.slice A len cap]] w fun e w' =>
  e = .returned (.int .i64 (nodeE 13 n m i d len)) ∧ Below w.heap.size w w':=by
 have HSH : Hid (shapeZ 13 = (2,0,3,true)):=rfl
 have HN : nodeE 13 n m i d len = if argB 2 0 3 n m i d len then 1 else if namesE 13 n m 2 = 0 then numE 13 i d else namesE 13 n m 2:=rfl
 have HN':=Lib.hid HN
 clear HN
 by_cases zi : i = 0
 rotate_left
 ·have bi : (i == 0) = false:=by simpa using zi
  have ci : (i != 0) = true:=by simpa using zi
  have HR:=Lib.hid (show nodeE 13 n m i d len = 1 by rw [HN'.out];simp [argB,ci])
  clear zi
  go_enter Tryz.func153,Tryz.ntmps153
  go_wp2_with (first | (go_at_call 170;refine (shapeOf_any _ _ _ _ _ _ HSH.out).mono ?_;rintro e w1 ⟨rfl,hb1⟩;obtain ⟨hc1,hf1⟩:=bcell hb1;obtain ⟨hB1,hz1⟩:=after_call hb1) | (go_at_call 171;refine (checkNames_any _ _ _ _ _ _ _ _ _ _ HSH.out).mono ?_;rintro e w2 ⟨rfl,hb2⟩;obtain ⟨hc2,hf2⟩:=bcell hb2;obtain ⟨hB2,hz2⟩:=after_two hB1 hb2) | (go_at_call 172;refine (checkNumbers_any _ _ _ _ _ _ _).mono ?_;rintro e w3 ⟨rfl,hb3⟩;have hB3:=hB2.trans (hb3.mono (by omega))))
  go_ret
  exact ⟨by rw [HR.out];rfl,(hB1.alloc hB1.size _)⟩
 ·have bi : (i == 0) = true:=by simpa using zi
  have ci : (i != 0) = false:=by simpa using zi
  clear zi
  by_cases zd : d = 0
  rotate_left
  ·have bd : (d == 0) = false:=by simpa using zd
   have cd : (d != 0) = true:=by simpa using zd
   have HR:=Lib.hid (show nodeE 13 n m i d len = 1 by rw [HN'.out];simp [argB,cd])
   clear zd
   go_enter Tryz.func153,Tryz.ntmps153
   go_wp2_with (first | (go_at_call 170;refine (shapeOf_any _ _ _ _ _ _ HSH.out).mono ?_;rintro e w1 ⟨rfl,hb1⟩;obtain ⟨hc1,hf1⟩:=bcell hb1;obtain ⟨hB1,hz1⟩:=after_call hb1) | (go_at_call 171;refine (checkNames_any _ _ _ _ _ _ _ _ _ _ HSH.out).mono ?_;rintro e w2 ⟨rfl,hb2⟩;obtain ⟨hc2,hf2⟩:=bcell hb2;obtain ⟨hB2,hz2⟩:=after_two hB1 hb2) | (go_at_call 172;refine (checkNumbers_any _ _ _ _ _ _ _).mono ?_;rintro e w3 ⟨rfl,hb3⟩;have hB3:=hB2.trans (hb3.mono (by omega))))
   go_ret
   exact ⟨by rw [HR.out];rfl,(hB1.alloc hB1.size _)⟩
  ·have bd : (d == 0) = true:=by simpa using zd
   have cd : (d != 0) = false:=by simpa using zd
   clear zd
   by_cases zl : len = 3
   rotate_left
   ·have bl : ((len : Int) == 3) = false:=by simp;omega
    have cl : ((len : Int) != 3) = true:=by simp;omega
    have HR:=Lib.hid (show nodeE 13 n m i d len = 1 by rw [HN'.out];simp [argB,cl])
    clear zl
    go_enter Tryz.func153,Tryz.ntmps153
    go_wp2_with (first | (go_at_call 170;refine (shapeOf_any _ _ _ _ _ _ HSH.out).mono ?_;rintro e w1 ⟨rfl,hb1⟩;obtain ⟨hc1,hf1⟩:=bcell hb1;obtain ⟨hB1,hz1⟩:=after_call hb1) | (go_at_call 171;refine (checkNames_any _ _ _ _ _ _ _ _ _ _ HSH.out).mono ?_;rintro e w2 ⟨rfl,hb2⟩;obtain ⟨hc2,hf2⟩:=bcell hb2;obtain ⟨hB2,hz2⟩:=after_two hB1 hb2) | (go_at_call 172;refine (checkNumbers_any _ _ _ _ _ _ _).mono ?_;rintro e w3 ⟨rfl,hb3⟩;have hB3:=hB2.trans (hb3.mono (by omega))))
    go_ret
    exact ⟨by rw [HR.out];rfl,(hB1.alloc hB1.size _)⟩
   ·subst zl
    have HA:=Lib.hid (show argB 2 0 3 n m i d 3 = false by simp [argB,ci,cd])
    by_cases ze : namesE 13 n m 2 = 0
    ·have be : (namesE 13 n m 2 != 0) = false:=by simpa using ze
     have HR:=Lib.hid (show nodeE 13 n m i d 3 = numE 13 i d by rw [HN'.out,HA.out];simp [ze])
     clear ze
     go_enter Tryz.func153,Tryz.ntmps153
     go_wp2_with (first | (go_at_call 170;refine (shapeOf_any _ _ _ _ _ _ HSH.out).mono ?_;rintro e w1 ⟨rfl,hb1⟩;obtain ⟨hc1,hf1⟩:=bcell hb1;obtain ⟨hB1,hz1⟩:=after_call hb1) | (go_at_call 171;refine (checkNames_any _ _ _ _ _ _ _ _ _ _ HSH.out).mono ?_;rintro e w2 ⟨rfl,hb2⟩;obtain ⟨hc2,hf2⟩:=bcell hb2;obtain ⟨hB2,hz2⟩:=after_two hB1 hb2) | (go_at_call 172;refine (checkNumbers_any _ _ _ _ _ _ _).mono ?_;rintro e w3 ⟨rfl,hb3⟩;have hB3:=hB2.trans (hb3.mono (by omega))))
     go_ret
     exact ⟨by rw [HR.out];rfl,hB3⟩
    ·have be : (namesE 13 n m 2 != 0) = true:=by simpa using ze
     have HR:=Lib.hid (show nodeE 13 n m i d 3 = namesE 13 n m 2 by rw [HN'.out,HA.out];simp [ze])
     clear ze
     go_enter Tryz.func153,Tryz.ntmps153
     go_wp2_with (first | (go_at_call 170;refine (shapeOf_any _ _ _ _ _ _ HSH.out).mono ?_;rintro e w1 ⟨rfl,hb1⟩;obtain ⟨hc1,hf1⟩:=bcell hb1;obtain ⟨hB1,hz1⟩:=after_call hb1) | (go_at_call 171;refine (checkNames_any _ _ _ _ _ _ _ _ _ _ HSH.out).mono ?_;rintro e w2 ⟨rfl,hb2⟩;obtain ⟨hc2,hf2⟩:=bcell hb2;obtain ⟨hB2,hz2⟩:=after_two hB1 hb2) | (go_at_call 172;refine (checkNumbers_any _ _ _ _ _ _ _).mono ?_;rintro e w3 ⟨rfl,hb3⟩;have hB3:=hB2.trans (hb3.mono (by omega))))
     go_ret
     exact ⟨by rw [HR.out];rfl,hB2⟩

set_option maxHeartbeats 1000000 in
theorem checkNode_14 (n m : ByteArray) (i d : Int) (A : Option Addr) (len cap : Nat) (w : World) : Calls Tryz.prog 153 #[.agg #[.int .i64 14,.string n,.string m,.int .i64 i,.int .i64 d,.slice A len cap]] w fun e w' =>
  e = .returned (.int .i64 (nodeE 14 n m i d len)) ∧ Below w.heap.size w w':=by
 have HSH : Hid (shapeZ 14 = (0,2,0,true)):=rfl
 have HN : nodeE 14 n m i d len = if argB 0 2 0 n m i d len then 1 else if namesE 14 n m 0 = 0 then numE 14 i d else namesE 14 n m 0:=rfl
 have HN':=Lib.hid HN
 clear HN
 cases hn : n.toList.isEmpty
 ·have HR:=Lib.hid (show nodeE 14 n m i d len = 1 by rw [HN'.out];simp [argB,hn])
  go_enter Tryz.func153,Tryz.ntmps153
  go_wp2_with (first | (go_at_call 170;refine (shapeOf_any _ _ _ _ _ _ HSH.out).mono ?_;rintro e w1 ⟨rfl,hb1⟩;obtain ⟨hc1,hf1⟩:=bcell hb1;obtain ⟨hB1,hz1⟩:=after_call hb1) | (go_at_call 171;refine (checkNames_any _ _ _ _ _ _ _ _ _ _ HSH.out).mono ?_;rintro e w2 ⟨rfl,hb2⟩;obtain ⟨hc2,hf2⟩:=bcell hb2;obtain ⟨hB2,hz2⟩:=after_two hB1 hb2) | (go_at_call 172;refine (checkNumbers_any _ _ _ _ _ _ _).mono ?_;rintro e w3 ⟨rfl,hb3⟩;have hB3:=hB2.trans (hb3.mono (by omega))))
  go_ret
  exact ⟨by rw [HR.out];rfl,(hB1.alloc hB1.size _)⟩
 ·skip
  cases hm : m.toList.isEmpty
  ·have HR:=Lib.hid (show nodeE 14 n m i d len = 1 by rw [HN'.out];simp [argB,hm])
   go_enter Tryz.func153,Tryz.ntmps153
   go_wp2_with (first | (go_at_call 170;refine (shapeOf_any _ _ _ _ _ _ HSH.out).mono ?_;rintro e w1 ⟨rfl,hb1⟩;obtain ⟨hc1,hf1⟩:=bcell hb1;obtain ⟨hB1,hz1⟩:=after_call hb1) | (go_at_call 171;refine (checkNames_any _ _ _ _ _ _ _ _ _ _ HSH.out).mono ?_;rintro e w2 ⟨rfl,hb2⟩;obtain ⟨hc2,hf2⟩:=bcell hb2;obtain ⟨hB2,hz2⟩:=after_two hB1 hb2) | (go_at_call 172;refine (checkNumbers_any _ _ _ _ _ _ _).mono ?_;rintro e w3 ⟨rfl,hb3⟩;have hB3:=hB2.trans (hb3.mono (by omega))))
   go_ret
   exact ⟨by rw [HR.out];rfl,(hB1.alloc hB1.size _)⟩
  ·skip
   by_cases zl : len = 0
   rotate_left
   ·have bl : ((len : Int) == 0) = false:=by simp;omega
    have cl : ((len : Int) != 0) = true:=by simp;omega
    have HR:=Lib.hid (show nodeE 14 n m i d len = 1 by rw [HN'.out];simp [argB,cl])
    clear zl
    go_enter Tryz.func153,Tryz.ntmps153
    go_wp2_with (first | (go_at_call 170;refine (shapeOf_any _ _ _ _ _ _ HSH.out).mono ?_;rintro e w1 ⟨rfl,hb1⟩;obtain ⟨hc1,hf1⟩:=bcell hb1;obtain ⟨hB1,hz1⟩:=after_call hb1) | (go_at_call 171;refine (checkNames_any _ _ _ _ _ _ _ _ _ _ HSH.out).mono ?_;rintro e w2 ⟨rfl,hb2⟩;obtain ⟨hc2,hf2⟩:=bcell hb2;obtain ⟨hB2,hz2⟩:=after_two hB1 hb2) | (go_at_call 172;refine (checkNumbers_any _ _ _ _ _ _ _).mono ?_;rintro e w3 ⟨rfl,hb3⟩;have hB3:=hB2.trans (hb3.mono (by omega))))
    go_ret
    exact ⟨by rw [HR.out];rfl,(hB1.alloc hB1.size _)⟩
   ·subst zl
    have HA:=Lib.hid (show argB 0 2 0 n m i d 0 = false by simp [argB,hn,hm])
    by_cases ze : namesE 14 n m 0 = 0
    ·have be : (namesE 14 n m 0 != 0) = false:=by simpa using ze
     have HR:=Lib.hid (show nodeE 14 n m i d 0 = numE 14 i d by rw [HN'.out,HA.out];simp [ze])
     clear ze
     go_enter Tryz.func153,Tryz.ntmps153
     go_wp2_with (first | (go_at_call 170;refine (shapeOf_any _ _ _ _ _ _ HSH.out).mono ?_;rintro e w1 ⟨rfl,hb1⟩;obtain ⟨hc1,hf1⟩:=bcell hb1;obtain ⟨hB1,hz1⟩:=after_call hb1) | (go_at_call 171;refine (checkNames_any _ _ _ _ _ _ _ _ _ _ HSH.out).mono ?_;rintro e w2 ⟨rfl,hb2⟩;obtain ⟨hc2,hf2⟩:=bcell hb2;obtain ⟨hB2,hz2⟩:=after_two hB1 hb2) | (go_at_call 172;refine (checkNumbers_any _ _ _ _ _ _ _).mono ?_;rintro e w3 ⟨rfl,hb3⟩;have hB3:=hB2.trans (hb3.mono (by omega))))
     go_ret
     exact ⟨by rw [HR.out];rfl,hB3⟩
    ·have be : (namesE 14 n m 0 != 0) = true:=by simpa using ze
     have HR:=Lib.hid (show nodeE 14 n m i d 0 = namesE 14 n m 0 by rw [HN'.out,HA.out];simp [ze])
     clear ze
     go_enter Tryz.func153,Tryz.ntmps153
     go_wp2_with (first | (go_at_call 170;refine (shapeOf_any _ _ _ _ _ _ HSH.out).mono ?_;rintro e w1 ⟨rfl,hb1⟩;obtain ⟨hc1,hf1⟩:=bcell hb1;obtain ⟨hB1,hz1⟩:=after_call hb1) | (go_at_call 171;refine (checkNames_any _ _ _ _ _ _ _ _ _ _ HSH.out).mono ?_;rintro e w2 ⟨rfl,hb2⟩;obtain ⟨hc2,hf2⟩:=bcell hb2;obtain ⟨hB2,hz2⟩:=after_two hB1 hb2) | (go_at_call 172;refine (checkNumbers_any _ _ _ _ _ _ _).mono ?_;rintro e w3 ⟨rfl,hb3⟩;have hB3:=hB2.trans (hb3.mono (by omega))))
     go_ret
     exact ⟨by rw [HR.out];rfl,hB2⟩

end Go.Proofs.YtnfndgmlnoeelaaGreatDoor
