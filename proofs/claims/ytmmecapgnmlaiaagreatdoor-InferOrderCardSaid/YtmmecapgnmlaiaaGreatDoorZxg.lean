/- syntax.checkNode, some kinds -/
import Derived.Test.YtmmecapgnmlaiaaGreatDoorZxf
namespace Go.Proofs.YtmmecapgnmlaiaaGreatDoor
open Go.RowKit Go.Proofs
set_option maxHeartbeats 1000000 in
theorem checkNode_1 (n m : ByteArray) (i d : Int) (A : Option Addr) (len cap : Nat) (w : World) : Calls Tryz.prog 173 #[.agg #[.int .i64 1,.string n,.string m,.int .i64 i,.int .i64 d,.slice A len cap]] w fun e w' =>
  e = .returned (.int .i64 (nodeE 1 n m i d len)) ∧ Below w.heap.size w w':=by
 have HSH : Hid (shapeZ 1 = (0,1,0,true)):=rfl
 have HN : nodeE 1 n m i d len = if argB 0 1 0 n m i d len then 1 else if namesE 1 n m 0 = 0 then numE 1 i d else namesE 1 n m 0:=rfl
 have HN':=Lib.hid HN
 clear HN
 cases hn : n.toList.isEmpty
 have HR:=Lib.hid (show nodeE 1 n m i d len = 1 by rw [HN'.out];simp [argB,hn])
 rotate_left
 cases hm : m.toList.isEmpty
 have HR:=Lib.hid (show nodeE 1 n m i d len = 1 by rw [HN'.out];simp [argB,hm])
 rotate_left
 rcases (Classical.em (d = 0)).symm with zd | zd
 have bd : (d == 0) = false:=by simpa using zd
 have cd : (d != 0) = true:=by simpa using zd
 have HR:=Lib.hid (show nodeE 1 n m i d len = 1 by rw [HN'.out];simp [argB,cd])
 clear zd
 rotate_left
 have bd : (d == 0) = true:=by simpa using zd
 have cd : (d != 0) = false:=by simpa using zd
 clear zd
 rcases (Classical.em (len = 0)).symm with zl | zl
 have bl : ((len : Int) == 0) = false:=by simp;omega
 have cl : ((len : Int) != 0) = true:=by simp;omega
 have HR:=Lib.hid (show nodeE 1 n m i d len = 1 by rw [HN'.out];simp [argB,cl])
 clear zl
 rotate_left
 subst zl
 have HA:=Lib.hid (show argB 0 1 0 n m i d 0 = false by simp [argB,hn,hm,cd])
 by_cases ze : namesE 1 n m 0 = 0
 have be : (namesE 1 n m 0 != 0) = false:=by simpa using ze
 have HR:=Lib.hid (show nodeE 1 n m i d 0 = numE 1 i d by rw [HN'.out,HA.out];simp [ze])
 clear ze
 rotate_left
 have be : (namesE 1 n m 0 != 0) = true:=by simpa using ze
 have HR:=Lib.hid (show nodeE 1 n m i d 0 = namesE 1 n m 0 by rw [HN'.out,HA.out];simp [ze])
 clear ze
 all_goals (
  go_enter Tryz.func173,Tryz.ntmps173
  go_wp2_with (first | (go_at_call 233;refine (shapeOf_any _ _ _ _ _ _ HSH.out).mono ?_;rintro e w1 ⟨rfl,hb1⟩;obtain ⟨hc1,hf1⟩:=bcell hb1;obtain ⟨hB1,hz1⟩:=after_call hb1) | (go_at_call 234;refine (checkNames_any _ _ _ _ _ _ _ _ _ _ HSH.out).mono ?_;rintro e w2 ⟨rfl,hb2⟩;obtain ⟨hc2,hf2⟩:=bcell hb2;obtain ⟨hB2,hz2⟩:=after_two hB1 hb2) | (go_at_call 235;refine (checkNumbers_any _ _ _ _ _ _ _).mono ?_;rintro e w3 ⟨rfl,hb3⟩;have hB3:=hB2.trans (hb3.mono (by omega))))
  go_ret
  exact ⟨by rw [HR.out];rfl,by first | exact hB1.alloc hB1.size _ | exact hB3 | exact hB2⟩)
set_option maxHeartbeats 1000000 in
theorem checkNode_2 (n m : ByteArray) (i d : Int) (A : Option Addr) (len cap : Nat) (w : World) : Calls Tryz.prog 173 #[.agg #[.int .i64 2,.string n,.string m,.int .i64 i,.int .i64 d,.slice A len cap]] w fun e w' =>
  e = .returned (.int .i64 (nodeE 2 n m i d len)) ∧ Below w.heap.size w w':=by
 have HSH : Hid (shapeZ 2 = (0,1,0,true)):=rfl
 have HN : nodeE 2 n m i d len = if argB 0 1 0 n m i d len then 1 else if namesE 2 n m 0 = 0 then numE 2 i d else namesE 2 n m 0:=rfl
 have HN':=Lib.hid HN
 clear HN
 cases hn : n.toList.isEmpty
 have HR:=Lib.hid (show nodeE 2 n m i d len = 1 by rw [HN'.out];simp [argB,hn])
 rotate_left
 cases hm : m.toList.isEmpty
 have HR:=Lib.hid (show nodeE 2 n m i d len = 1 by rw [HN'.out];simp [argB,hm])
 rotate_left
 rcases (Classical.em (d = 0)).symm with zd | zd
 have bd : (d == 0) = false:=by simpa using zd
 have cd : (d != 0) = true:=by simpa using zd
 have HR:=Lib.hid (show nodeE 2 n m i d len = 1 by rw [HN'.out];simp [argB,cd])
 clear zd
 rotate_left
 have bd : (d == 0) = true:=by simpa using zd
 have cd : (d != 0) = false:=by simpa using zd
 clear zd
 rcases (Classical.em (len = 0)).symm with zl | zl
 have bl : ((len : Int) == 0) = false:=by simp;omega
 have cl : ((len : Int) != 0) = true:=by simp;omega
 have HR:=Lib.hid (show nodeE 2 n m i d len = 1 by rw [HN'.out];simp [argB,cl])
 clear zl
 rotate_left
 subst zl
 have HA:=Lib.hid (show argB 0 1 0 n m i d 0 = false by simp [argB,hn,hm,cd])
 by_cases ze : namesE 2 n m 0 = 0
 have be : (namesE 2 n m 0 != 0) = false:=by simpa using ze
 have HR:=Lib.hid (show nodeE 2 n m i d 0 = numE 2 i d by rw [HN'.out,HA.out];simp [ze])
 clear ze
 rotate_left
 have be : (namesE 2 n m 0 != 0) = true:=by simpa using ze
 have HR:=Lib.hid (show nodeE 2 n m i d 0 = namesE 2 n m 0 by rw [HN'.out,HA.out];simp [ze])
 clear ze
 all_goals (
  go_enter Tryz.func173,Tryz.ntmps173
  go_wp2_with (first | (go_at_call 233;refine (shapeOf_any _ _ _ _ _ _ HSH.out).mono ?_;rintro e w1 ⟨rfl,hb1⟩;obtain ⟨hc1,hf1⟩:=bcell hb1;obtain ⟨hB1,hz1⟩:=after_call hb1) | (go_at_call 234;refine (checkNames_any _ _ _ _ _ _ _ _ _ _ HSH.out).mono ?_;rintro e w2 ⟨rfl,hb2⟩;obtain ⟨hc2,hf2⟩:=bcell hb2;obtain ⟨hB2,hz2⟩:=after_two hB1 hb2) | (go_at_call 235;refine (checkNumbers_any _ _ _ _ _ _ _).mono ?_;rintro e w3 ⟨rfl,hb3⟩;have hB3:=hB2.trans (hb3.mono (by omega))))
  go_ret
  exact ⟨by rw [HR.out];rfl,by first | exact hB1.alloc hB1.size _ | exact hB3 | exact hB2⟩)
set_option maxHeartbeats 1000000 in
theorem checkNode_3 (n m : ByteArray) (i d : Int) (A : Option Addr) (len cap : Nat) (w : World) : Calls Tryz.prog 173 #[.agg #[.int .i64 3,.string n,.string m,.int .i64 i,.int .i64 d,.slice A len cap]] w fun e w' =>
  e = .returned (.int .i64 (nodeE 3 n m i d len)) ∧ Below w.heap.size w w':=by
 have HSH : Hid (shapeZ 3 = (1,0,0,true)):=rfl
 have HN : nodeE 3 n m i d len = if argB 1 0 0 n m i d len then 1 else if namesE 3 n m 1 = 0 then numE 3 i d else namesE 3 n m 1:=rfl
 have HN':=Lib.hid HN
 clear HN
 cases hm : m.toList.isEmpty
 have HR:=Lib.hid (show nodeE 3 n m i d len = 1 by rw [HN'.out];simp [argB,hm])
 rotate_left
 rcases (Classical.em (i = 0)).symm with zi | zi
 have bi : (i == 0) = false:=by simpa using zi
 have ci : (i != 0) = true:=by simpa using zi
 have HR:=Lib.hid (show nodeE 3 n m i d len = 1 by rw [HN'.out];simp [argB,ci])
 clear zi
 rotate_left
 have bi : (i == 0) = true:=by simpa using zi
 have ci : (i != 0) = false:=by simpa using zi
 clear zi
 rcases (Classical.em (d = 0)).symm with zd | zd
 have bd : (d == 0) = false:=by simpa using zd
 have cd : (d != 0) = true:=by simpa using zd
 have HR:=Lib.hid (show nodeE 3 n m i d len = 1 by rw [HN'.out];simp [argB,cd])
 clear zd
 rotate_left
 have bd : (d == 0) = true:=by simpa using zd
 have cd : (d != 0) = false:=by simpa using zd
 clear zd
 rcases (Classical.em (len = 0)).symm with zl | zl
 have bl : ((len : Int) == 0) = false:=by simp;omega
 have cl : ((len : Int) != 0) = true:=by simp;omega
 have HR:=Lib.hid (show nodeE 3 n m i d len = 1 by rw [HN'.out];simp [argB,cl])
 clear zl
 rotate_left
 subst zl
 have HA:=Lib.hid (show argB 1 0 0 n m i d 0 = false by simp [argB,hm,ci,cd])
 by_cases ze : namesE 3 n m 1 = 0
 have be : (namesE 3 n m 1 != 0) = false:=by simpa using ze
 have HR:=Lib.hid (show nodeE 3 n m i d 0 = numE 3 i d by rw [HN'.out,HA.out];simp [ze])
 clear ze
 rotate_left
 have be : (namesE 3 n m 1 != 0) = true:=by simpa using ze
 have HR:=Lib.hid (show nodeE 3 n m i d 0 = namesE 3 n m 1 by rw [HN'.out,HA.out];simp [ze])
 clear ze
 all_goals (
  go_enter Tryz.func173,Tryz.ntmps173
  go_wp2_with (first | (go_at_call 233;refine (shapeOf_any _ _ _ _ _ _ HSH.out).mono ?_;rintro e w1 ⟨rfl,hb1⟩;obtain ⟨hc1,hf1⟩:=bcell hb1;obtain ⟨hB1,hz1⟩:=after_call hb1) | (go_at_call 234;refine (checkNames_any _ _ _ _ _ _ _ _ _ _ HSH.out).mono ?_;rintro e w2 ⟨rfl,hb2⟩;obtain ⟨hc2,hf2⟩:=bcell hb2;obtain ⟨hB2,hz2⟩:=after_two hB1 hb2) | (go_at_call 235;refine (checkNumbers_any _ _ _ _ _ _ _).mono ?_;rintro e w3 ⟨rfl,hb3⟩;have hB3:=hB2.trans (hb3.mono (by omega))))
  go_ret
  exact ⟨by rw [HR.out];rfl,by first | exact hB1.alloc hB1.size _ | exact hB3 | exact hB2⟩)
set_option maxHeartbeats 1000000 in
theorem checkNode_4 (n m : ByteArray) (i d : Int) (A : Option Addr) (len cap : Nat) (w : World) : Calls Tryz.prog 173 #[.agg #[.int .i64 4,.string n,.string m,.int .i64 i,.int .i64 d,.slice A len cap]] w fun e w' =>
  e = .returned (.int .i64 (nodeE 4 n m i d len)) ∧ Below w.heap.size w w':=by
 have HSH : Hid (shapeZ 4 = (2,0,0,true)):=rfl
 have HN : nodeE 4 n m i d len = if argB 2 0 0 n m i d len then 1 else if namesE 4 n m 2 = 0 then numE 4 i d else namesE 4 n m 2:=rfl
 have HN':=Lib.hid HN
 clear HN
 rcases (Classical.em (i = 0)).symm with zi | zi
 have bi : (i == 0) = false:=by simpa using zi
 have ci : (i != 0) = true:=by simpa using zi
 have HR:=Lib.hid (show nodeE 4 n m i d len = 1 by rw [HN'.out];simp [argB,ci])
 clear zi
 rotate_left
 have bi : (i == 0) = true:=by simpa using zi
 have ci : (i != 0) = false:=by simpa using zi
 clear zi
 rcases (Classical.em (d = 0)).symm with zd | zd
 have bd : (d == 0) = false:=by simpa using zd
 have cd : (d != 0) = true:=by simpa using zd
 have HR:=Lib.hid (show nodeE 4 n m i d len = 1 by rw [HN'.out];simp [argB,cd])
 clear zd
 rotate_left
 have bd : (d == 0) = true:=by simpa using zd
 have cd : (d != 0) = false:=by simpa using zd
 clear zd
 rcases (Classical.em (len = 0)).symm with zl | zl
 have bl : ((len : Int) == 0) = false:=by simp;omega
 have cl : ((len : Int) != 0) = true:=by simp;omega
 have HR:=Lib.hid (show nodeE 4 n m i d len = 1 by rw [HN'.out];simp [argB,cl])
 clear zl
 rotate_left
 subst zl
 have HA:=Lib.hid (show argB 2 0 0 n m i d 0 = false by simp [argB,ci,cd])
 by_cases ze : namesE 4 n m 2 = 0
 have be : (namesE 4 n m 2 != 0) = false:=by simpa using ze
 have HR:=Lib.hid (show nodeE 4 n m i d 0 = numE 4 i d by rw [HN'.out,HA.out];simp [ze])
 clear ze
 rotate_left
 have be : (namesE 4 n m 2 != 0) = true:=by simpa using ze
 have HR:=Lib.hid (show nodeE 4 n m i d 0 = namesE 4 n m 2 by rw [HN'.out,HA.out];simp [ze])
 clear ze
 all_goals (
  go_enter Tryz.func173,Tryz.ntmps173
  go_wp2_with (first | (go_at_call 233;refine (shapeOf_any _ _ _ _ _ _ HSH.out).mono ?_;rintro e w1 ⟨rfl,hb1⟩;obtain ⟨hc1,hf1⟩:=bcell hb1;obtain ⟨hB1,hz1⟩:=after_call hb1) | (go_at_call 234;refine (checkNames_any _ _ _ _ _ _ _ _ _ _ HSH.out).mono ?_;rintro e w2 ⟨rfl,hb2⟩;obtain ⟨hc2,hf2⟩:=bcell hb2;obtain ⟨hB2,hz2⟩:=after_two hB1 hb2) | (go_at_call 235;refine (checkNumbers_any _ _ _ _ _ _ _).mono ?_;rintro e w3 ⟨rfl,hb3⟩;have hB3:=hB2.trans (hb3.mono (by omega))))
  go_ret
  exact ⟨by rw [HR.out];rfl,by first | exact hB1.alloc hB1.size _ | exact hB3 | exact hB2⟩)
end Go.Proofs.YtmmecapgnmlaiaaGreatDoor
/- syntax.checkNode, some kinds -/
namespace Go.Proofs.YtmmecapgnmlaiaaGreatDoor
open Go.RowKit Go.Proofs
set_option maxHeartbeats 1000000 in
theorem checkNode_8 (n m : ByteArray) (i d : Int) (A : Option Addr) (len cap : Nat) (w : World) : Calls Tryz.prog 173 #[.agg #[.int .i64 8,.string n,.string m,.int .i64 i,.int .i64 d,.slice A len cap]] w fun e w' =>
  e = .returned (.int .i64 (nodeE 8 n m i d len)) ∧ Below w.heap.size w w':=by
 have HSH : Hid (shapeZ 8 = (1,0,2,true)):=rfl
 have HN : nodeE 8 n m i d len = if argB 1 0 2 n m i d len then 1 else if namesE 8 n m 1 = 0 then numE 8 i d else namesE 8 n m 1:=rfl
 have HN':=Lib.hid HN
 clear HN
 cases hm : m.toList.isEmpty
 have HR:=Lib.hid (show nodeE 8 n m i d len = 1 by rw [HN'.out];simp [argB,hm])
 rotate_left
 rcases (Classical.em (i = 0)).symm with zi | zi
 have bi : (i == 0) = false:=by simpa using zi
 have ci : (i != 0) = true:=by simpa using zi
 have HR:=Lib.hid (show nodeE 8 n m i d len = 1 by rw [HN'.out];simp [argB,ci])
 clear zi
 rotate_left
 have bi : (i == 0) = true:=by simpa using zi
 have ci : (i != 0) = false:=by simpa using zi
 clear zi
 rcases (Classical.em (d = 0)).symm with zd | zd
 have bd : (d == 0) = false:=by simpa using zd
 have cd : (d != 0) = true:=by simpa using zd
 have HR:=Lib.hid (show nodeE 8 n m i d len = 1 by rw [HN'.out];simp [argB,cd])
 clear zd
 rotate_left
 have bd : (d == 0) = true:=by simpa using zd
 have cd : (d != 0) = false:=by simpa using zd
 clear zd
 rcases (Classical.em (len = 2)).symm with zl | zl
 have bl : ((len : Int) == 2) = false:=by simp;omega
 have cl : ((len : Int) != 2) = true:=by simp;omega
 have HR:=Lib.hid (show nodeE 8 n m i d len = 1 by rw [HN'.out];simp [argB,cl])
 clear zl
 rotate_left
 subst zl
 have HA:=Lib.hid (show argB 1 0 2 n m i d 2 = false by simp [argB,hm,ci,cd])
 by_cases ze : namesE 8 n m 1 = 0
 have be : (namesE 8 n m 1 != 0) = false:=by simpa using ze
 have HR:=Lib.hid (show nodeE 8 n m i d 2 = numE 8 i d by rw [HN'.out,HA.out];simp [ze])
 clear ze
 rotate_left
 have be : (namesE 8 n m 1 != 0) = true:=by simpa using ze
 have HR:=Lib.hid (show nodeE 8 n m i d 2 = namesE 8 n m 1 by rw [HN'.out,HA.out];simp [ze])
 clear ze
 all_goals (
  go_enter Tryz.func173,Tryz.ntmps173
  go_wp2_with (first | (go_at_call 233;refine (shapeOf_any _ _ _ _ _ _ HSH.out).mono ?_;rintro e w1 ⟨rfl,hb1⟩;obtain ⟨hc1,hf1⟩:=bcell hb1;obtain ⟨hB1,hz1⟩:=after_call hb1) | (go_at_call 234;refine (checkNames_any _ _ _ _ _ _ _ _ _ _ HSH.out).mono ?_;rintro e w2 ⟨rfl,hb2⟩;obtain ⟨hc2,hf2⟩:=bcell hb2;obtain ⟨hB2,hz2⟩:=after_two hB1 hb2) | (go_at_call 235;refine (checkNumbers_any _ _ _ _ _ _ _).mono ?_;rintro e w3 ⟨rfl,hb3⟩;have hB3:=hB2.trans (hb3.mono (by omega))))
  go_ret
  exact ⟨by rw [HR.out];rfl,by first | exact hB1.alloc hB1.size _ | exact hB3 | exact hB2⟩)
set_option maxHeartbeats 1000000 in
theorem checkNode_10 (n m : ByteArray) (i d : Int) (A : Option Addr) (len cap : Nat) (w : World) : Calls Tryz.prog 173 #[.agg #[.int .i64 10,.string n,.string m,.int .i64 i,.int .i64 d,.slice A len cap]] w fun e w' =>
  e = .returned (.int .i64 (nodeE 10 n m i d len)) ∧ Below w.heap.size w w':=by
 have HSH : Hid (shapeZ 10 = (1,0,2,true)):=rfl
 have HN : nodeE 10 n m i d len = if argB 1 0 2 n m i d len then 1 else if namesE 10 n m 1 = 0 then numE 10 i d else namesE 10 n m 1:=rfl
 have HN':=Lib.hid HN
 clear HN
 cases hm : m.toList.isEmpty
 have HR:=Lib.hid (show nodeE 10 n m i d len = 1 by rw [HN'.out];simp [argB,hm])
 rotate_left
 rcases (Classical.em (i = 0)).symm with zi | zi
 have bi : (i == 0) = false:=by simpa using zi
 have ci : (i != 0) = true:=by simpa using zi
 have HR:=Lib.hid (show nodeE 10 n m i d len = 1 by rw [HN'.out];simp [argB,ci])
 clear zi
 rotate_left
 have bi : (i == 0) = true:=by simpa using zi
 have ci : (i != 0) = false:=by simpa using zi
 clear zi
 rcases (Classical.em (d = 0)).symm with zd | zd
 have bd : (d == 0) = false:=by simpa using zd
 have cd : (d != 0) = true:=by simpa using zd
 have HR:=Lib.hid (show nodeE 10 n m i d len = 1 by rw [HN'.out];simp [argB,cd])
 clear zd
 rotate_left
 have bd : (d == 0) = true:=by simpa using zd
 have cd : (d != 0) = false:=by simpa using zd
 clear zd
 rcases (Classical.em (len = 2)).symm with zl | zl
 have bl : ((len : Int) == 2) = false:=by simp;omega
 have cl : ((len : Int) != 2) = true:=by simp;omega
 have HR:=Lib.hid (show nodeE 10 n m i d len = 1 by rw [HN'.out];simp [argB,cl])
 clear zl
 rotate_left
 subst zl
 have HA:=Lib.hid (show argB 1 0 2 n m i d 2 = false by simp [argB,hm,ci,cd])
 by_cases ze : namesE 10 n m 1 = 0
 have be : (namesE 10 n m 1 != 0) = false:=by simpa using ze
 have HR:=Lib.hid (show nodeE 10 n m i d 2 = numE 10 i d by rw [HN'.out,HA.out];simp [ze])
 clear ze
 rotate_left
 have be : (namesE 10 n m 1 != 0) = true:=by simpa using ze
 have HR:=Lib.hid (show nodeE 10 n m i d 2 = namesE 10 n m 1 by rw [HN'.out,HA.out];simp [ze])
 clear ze
 all_goals (
  go_enter Tryz.func173,Tryz.ntmps173
  go_wp2_with (first | (go_at_call 233;refine (shapeOf_any _ _ _ _ _ _ HSH.out).mono ?_;rintro e w1 ⟨rfl,hb1⟩;obtain ⟨hc1,hf1⟩:=bcell hb1;obtain ⟨hB1,hz1⟩:=after_call hb1) | (go_at_call 234;refine (checkNames_any _ _ _ _ _ _ _ _ _ _ HSH.out).mono ?_;rintro e w2 ⟨rfl,hb2⟩;obtain ⟨hc2,hf2⟩:=bcell hb2;obtain ⟨hB2,hz2⟩:=after_two hB1 hb2) | (go_at_call 235;refine (checkNumbers_any _ _ _ _ _ _ _).mono ?_;rintro e w3 ⟨rfl,hb3⟩;have hB3:=hB2.trans (hb3.mono (by omega))))
  go_ret
  exact ⟨by rw [HR.out];rfl,by first | exact hB1.alloc hB1.size _ | exact hB3 | exact hB2⟩)
set_option maxHeartbeats 1000000 in
theorem checkNode_9 (n m : ByteArray) (i d : Int) (A : Option Addr) (len cap : Nat) (w : World) : Calls Tryz.prog 173 #[.agg #[.int .i64 9,.string n,.string m,.int .i64 i,.int .i64 d,.slice A len cap]] w fun e w' =>
  e = .returned (.int .i64 (nodeE 9 n m i d len)) ∧ Below w.heap.size w w':=by
 have HSH : Hid (shapeZ 9 = (0,0,3,true)):=rfl
 have HN : nodeE 9 n m i d len = if argB 0 0 3 n m i d len then 1 else if namesE 9 n m 0 = 0 then numE 9 i d else namesE 9 n m 0:=rfl
 have HN':=Lib.hid HN
 clear HN
 cases hn : n.toList.isEmpty
 have HR:=Lib.hid (show nodeE 9 n m i d len = 1 by rw [HN'.out];simp [argB,hn])
 rotate_left
 cases hm : m.toList.isEmpty
 have HR:=Lib.hid (show nodeE 9 n m i d len = 1 by rw [HN'.out];simp [argB,hm])
 rotate_left
 rcases (Classical.em (i = 0)).symm with zi | zi
 have bi : (i == 0) = false:=by simpa using zi
 have ci : (i != 0) = true:=by simpa using zi
 have HR:=Lib.hid (show nodeE 9 n m i d len = 1 by rw [HN'.out];simp [argB,ci])
 clear zi
 rotate_left
 have bi : (i == 0) = true:=by simpa using zi
 have ci : (i != 0) = false:=by simpa using zi
 clear zi
 rcases (Classical.em (d = 0)).symm with zd | zd
 have bd : (d == 0) = false:=by simpa using zd
 have cd : (d != 0) = true:=by simpa using zd
 have HR:=Lib.hid (show nodeE 9 n m i d len = 1 by rw [HN'.out];simp [argB,cd])
 clear zd
 rotate_left
 have bd : (d == 0) = true:=by simpa using zd
 have cd : (d != 0) = false:=by simpa using zd
 clear zd
 rcases (Classical.em (len = 3)).symm with zl | zl
 have bl : ((len : Int) == 3) = false:=by simp;omega
 have cl : ((len : Int) != 3) = true:=by simp;omega
 have HR:=Lib.hid (show nodeE 9 n m i d len = 1 by rw [HN'.out];simp [argB,cl])
 clear zl
 rotate_left
 subst zl
 have HA:=Lib.hid (show argB 0 0 3 n m i d 3 = false by simp [argB,hn,hm,ci,cd])
 by_cases ze : namesE 9 n m 0 = 0
 have be : (namesE 9 n m 0 != 0) = false:=by simpa using ze
 have HR:=Lib.hid (show nodeE 9 n m i d 3 = numE 9 i d by rw [HN'.out,HA.out];simp [ze])
 clear ze
 rotate_left
 have be : (namesE 9 n m 0 != 0) = true:=by simpa using ze
 have HR:=Lib.hid (show nodeE 9 n m i d 3 = namesE 9 n m 0 by rw [HN'.out,HA.out];simp [ze])
 clear ze
 all_goals (
  go_enter Tryz.func173,Tryz.ntmps173
  go_wp2_with (first | (go_at_call 233;refine (shapeOf_any _ _ _ _ _ _ HSH.out).mono ?_;rintro e w1 ⟨rfl,hb1⟩;obtain ⟨hc1,hf1⟩:=bcell hb1;obtain ⟨hB1,hz1⟩:=after_call hb1) | (go_at_call 234;refine (checkNames_any _ _ _ _ _ _ _ _ _ _ HSH.out).mono ?_;rintro e w2 ⟨rfl,hb2⟩;obtain ⟨hc2,hf2⟩:=bcell hb2;obtain ⟨hB2,hz2⟩:=after_two hB1 hb2) | (go_at_call 235;refine (checkNumbers_any _ _ _ _ _ _ _).mono ?_;rintro e w3 ⟨rfl,hb3⟩;have hB3:=hB2.trans (hb3.mono (by omega))))
  go_ret
  exact ⟨by rw [HR.out];rfl,by first | exact hB1.alloc hB1.size _ | exact hB3 | exact hB2⟩)
set_option maxHeartbeats 1000000 in
theorem checkNode_15 (n m : ByteArray) (i d : Int) (A : Option Addr) (len cap : Nat) (w : World) : Calls Tryz.prog 173 #[.agg #[.int .i64 15,.string n,.string m,.int .i64 i,.int .i64 d,.slice A len cap]] w fun e w' =>
  e = .returned (.int .i64 (nodeE 15 n m i d len)) ∧ Below w.heap.size w w':=by
 have HSH : Hid (shapeZ 15 = (0,0,3,true)):=rfl
 have HN : nodeE 15 n m i d len = if argB 0 0 3 n m i d len then 1 else if namesE 15 n m 0 = 0 then numE 15 i d else namesE 15 n m 0:=rfl
 have HN':=Lib.hid HN
 clear HN
 cases hn : n.toList.isEmpty
 have HR:=Lib.hid (show nodeE 15 n m i d len = 1 by rw [HN'.out];simp [argB,hn])
 rotate_left
 cases hm : m.toList.isEmpty
 have HR:=Lib.hid (show nodeE 15 n m i d len = 1 by rw [HN'.out];simp [argB,hm])
 rotate_left
 rcases (Classical.em (i = 0)).symm with zi | zi
 have bi : (i == 0) = false:=by simpa using zi
 have ci : (i != 0) = true:=by simpa using zi
 have HR:=Lib.hid (show nodeE 15 n m i d len = 1 by rw [HN'.out];simp [argB,ci])
 clear zi
 rotate_left
 have bi : (i == 0) = true:=by simpa using zi
 have ci : (i != 0) = false:=by simpa using zi
 clear zi
 rcases (Classical.em (d = 0)).symm with zd | zd
 have bd : (d == 0) = false:=by simpa using zd
 have cd : (d != 0) = true:=by simpa using zd
 have HR:=Lib.hid (show nodeE 15 n m i d len = 1 by rw [HN'.out];simp [argB,cd])
 clear zd
 rotate_left
 have bd : (d == 0) = true:=by simpa using zd
 have cd : (d != 0) = false:=by simpa using zd
 clear zd
 rcases (Classical.em (len = 3)).symm with zl | zl
 have bl : ((len : Int) == 3) = false:=by simp;omega
 have cl : ((len : Int) != 3) = true:=by simp;omega
 have HR:=Lib.hid (show nodeE 15 n m i d len = 1 by rw [HN'.out];simp [argB,cl])
 clear zl
 rotate_left
 subst zl
 have HA:=Lib.hid (show argB 0 0 3 n m i d 3 = false by simp [argB,hn,hm,ci,cd])
 by_cases ze : namesE 15 n m 0 = 0
 have be : (namesE 15 n m 0 != 0) = false:=by simpa using ze
 have HR:=Lib.hid (show nodeE 15 n m i d 3 = numE 15 i d by rw [HN'.out,HA.out];simp [ze])
 clear ze
 rotate_left
 have be : (namesE 15 n m 0 != 0) = true:=by simpa using ze
 have HR:=Lib.hid (show nodeE 15 n m i d 3 = namesE 15 n m 0 by rw [HN'.out,HA.out];simp [ze])
 clear ze
 all_goals (
  go_enter Tryz.func173,Tryz.ntmps173
  go_wp2_with (first | (go_at_call 233;refine (shapeOf_any _ _ _ _ _ _ HSH.out).mono ?_;rintro e w1 ⟨rfl,hb1⟩;obtain ⟨hc1,hf1⟩:=bcell hb1;obtain ⟨hB1,hz1⟩:=after_call hb1) | (go_at_call 234;refine (checkNames_any _ _ _ _ _ _ _ _ _ _ HSH.out).mono ?_;rintro e w2 ⟨rfl,hb2⟩;obtain ⟨hc2,hf2⟩:=bcell hb2;obtain ⟨hB2,hz2⟩:=after_two hB1 hb2) | (go_at_call 235;refine (checkNumbers_any _ _ _ _ _ _ _).mono ?_;rintro e w3 ⟨rfl,hb3⟩;have hB3:=hB2.trans (hb3.mono (by omega))))
  go_ret
  exact ⟨by rw [HR.out];rfl,by first | exact hB1.alloc hB1.size _ | exact hB3 | exact hB2⟩)
end Go.Proofs.YtmmecapgnmlaiaaGreatDoor
/- syntax.checkNode, some kinds -/
namespace Go.Proofs.YtmmecapgnmlaiaaGreatDoor
open Go.RowKit Go.Proofs
set_option maxHeartbeats 1000000 in
theorem checkNode_no (k : Int) (hk : ¬ knownZ k) (n m : ByteArray) (i d : Int) (A : Option Addr) (len cap : Nat) (w : World) : Calls Tryz.prog 173 #[.agg #[.int .i64 k,.string n,.string m,.int .i64 i,.int .i64 d,.slice A len cap]] w fun e w' =>
  e = .returned (.int .i64 (nodeE k n m i d len)) ∧ Below w.heap.size w w':=by
 have HSH:=Lib.hid (shapeZ_no hk)
 have HR:=Lib.hid (show nodeE k n m i d len = 9 by unfold nodeE;rw [HSH.out])
 clear hk
 go_enter Tryz.func173,Tryz.ntmps173
 go_wp2_with (go_at_call 233;refine (shapeOf_any _ _ _ _ _ _ HSH.out).mono ?_;rintro e w1 ⟨rfl,hb1⟩;obtain ⟨hB1,hz1⟩:=after_call hb1)
 go_ret
 exact ⟨by rw [HR.out];rfl,hB1.alloc hB1.size _⟩
theorem checkNode_any (k : Int) (n m : ByteArray) (i d : Int) (A : Option Addr) (len cap : Nat) (w : World) : Calls Tryz.prog 173 #[.agg #[.int .i64 k,.string n,.string m,.int .i64 i,.int .i64 d,.slice A len cap]] w fun e w' =>
  e = .returned (.int .i64 (nodeE k n m i d len)) ∧ Below w.heap.size w w':=by
 by_cases h : knownZ k
 ·unfold knownZ at h
  rcases h with rfl | rfl | rfl | rfl | rfl | rfl | rfl | rfl | rfl | rfl | rfl | rfl | rfl | rfl | rfl
  ·exact checkNode_1 n m i d A len cap w
  ·exact checkNode_2 n m i d A len cap w
  ·exact checkNode_3 n m i d A len cap w
  ·exact checkNode_4 n m i d A len cap w
  ·exact checkNode_5 n m i d A len cap w
  ·exact checkNode_6 n m i d A len cap w
  ·exact checkNode_7 n m i d A len cap w
  ·exact checkNode_12 n m i d A len cap w
  ·exact checkNode_8 n m i d A len cap w
  ·exact checkNode_10 n m i d A len cap w
  ·exact checkNode_9 n m i d A len cap w
  ·exact checkNode_15 n m i d A len cap w
  ·exact checkNode_11 n m i d A len cap w
  ·exact checkNode_13 n m i d A len cap w
  ·exact checkNode_14 n m i d A len cap w
 ·exact checkNode_no k h n m i d A len cap w
end Go.Proofs.YtmmecapgnmlaiaaGreatDoor
