/- syntax.checkNode -/
import Derived.Test.YtmmecapgnmlaiaaGreatDoorNms
import Derived.Test.YtmmecapgnmlaiaaGreatDoorZxa
namespace Go.Proofs.YtmmecapgnmlaiaaGreatDoor
open Go.RowKit Go.Proofs
def argB (a b c : Int) (n m : ByteArray) (i d : Int) (len : Nat) : Bool:=
 (decide (a < 1) && !n.toList.isEmpty) || (decide (a < 2) && !m.toList.isEmpty) || (decide (b < 1) && (i != 0)) || (decide (b < 2) && (d != 0)) || ((len : Int) != c)
def nodeE (k : Int) (n m : ByteArray) (i d : Int) (len : Nat) : Int:=
 match shapeZ k with
 | (_,_,_,false) => 9
 | (a,b,c,true) => if argB a b c n m i d len then 1 else if namesE k n m a = 0 then numE k i d else namesE k n m a
theorem after_two {w w1 w2 : World} {o : Obj} (h : Below w.heap.size w w1) (h2 : Below (w1.alloc o).heap.size (w1.alloc o) w2) : Below w.heap.size w w2 ∧ w1.heap.size < w2.heap.size:=
 ⟨(h.alloc h.size o).trans (h2.mono (by have:=h.size;simp;omega)),by have:=h2.size;simp at this;omega⟩
end Go.Proofs.YtmmecapgnmlaiaaGreatDoor
/- syntax.checkNode, some kinds -/
namespace Go.Proofs.YtmmecapgnmlaiaaGreatDoor
open Go.RowKit Go.Proofs
set_option maxHeartbeats 1000000 in
theorem checkNode_5 (n m : ByteArray) (i d : Int) (A : Option Addr) (len cap : Nat) (w : World) : Calls Tryz.prog 173 #[.agg #[.int .i64 5,.string n,.string m,.int .i64 i,.int .i64 d,.slice A len cap]] w fun e w' =>
  e = .returned (.int .i64 (nodeE 5 n m i d len)) ∧ Below w.heap.size w w':=by
 have HSH : Hid (shapeZ 5 = (1,1,0,true)):=rfl
 have HN : nodeE 5 n m i d len = if argB 1 1 0 n m i d len then 1 else if namesE 5 n m 1 = 0 then numE 5 i d else namesE 5 n m 1:=rfl
 have HN':=Lib.hid HN
 clear HN
 cases hm : m.toList.isEmpty
 have HR:=Lib.hid (show nodeE 5 n m i d len = 1 by rw [HN'.out];simp [argB,hm])
 rotate_left
 rcases (Classical.em (d = 0)).symm with zd | zd
 have bd : (d == 0) = false:=by simpa using zd
 have cd : (d != 0) = true:=by simpa using zd
 have HR:=Lib.hid (show nodeE 5 n m i d len = 1 by rw [HN'.out];simp [argB,cd])
 clear zd
 rotate_left
 have bd : (d == 0) = true:=by simpa using zd
 have cd : (d != 0) = false:=by simpa using zd
 clear zd
 rcases (Classical.em (len = 0)).symm with zl | zl
 have bl : ((len : Int) == 0) = false:=by simp;omega
 have cl : ((len : Int) != 0) = true:=by simp;omega
 have HR:=Lib.hid (show nodeE 5 n m i d len = 1 by rw [HN'.out];simp [argB,cl])
 clear zl
 rotate_left
 subst zl
 have HA:=Lib.hid (show argB 1 1 0 n m i d 0 = false by simp [argB,hm,cd])
 by_cases ze : namesE 5 n m 1 = 0
 have be : (namesE 5 n m 1 != 0) = false:=by simpa using ze
 have HR:=Lib.hid (show nodeE 5 n m i d 0 = numE 5 i d by rw [HN'.out,HA.out];simp [ze])
 clear ze
 rotate_left
 have be : (namesE 5 n m 1 != 0) = true:=by simpa using ze
 have HR:=Lib.hid (show nodeE 5 n m i d 0 = namesE 5 n m 1 by rw [HN'.out,HA.out];simp [ze])
 clear ze
 all_goals (
  go_enter Tryz.func173,Tryz.ntmps173
  go_wp2_with (first | (go_at_call 233;refine (shapeOf_any _ _ _ _ _ _ HSH.out).mono ?_;rintro e w1 ⟨rfl,hb1⟩;obtain ⟨hc1,hf1⟩:=bcell hb1;obtain ⟨hB1,hz1⟩:=after_call hb1) | (go_at_call 234;refine (checkNames_any _ _ _ _ _ _ _ _ _ _ HSH.out).mono ?_;rintro e w2 ⟨rfl,hb2⟩;obtain ⟨hc2,hf2⟩:=bcell hb2;obtain ⟨hB2,hz2⟩:=after_two hB1 hb2) | (go_at_call 235;refine (checkNumbers_any _ _ _ _ _ _ _).mono ?_;rintro e w3 ⟨rfl,hb3⟩;have hB3:=hB2.trans (hb3.mono (by omega))))
  go_ret
  exact ⟨by rw [HR.out];rfl,by first | exact hB1.alloc hB1.size _ | exact hB3 | exact hB2⟩)
set_option maxHeartbeats 1000000 in
theorem checkNode_6 (n m : ByteArray) (i d : Int) (A : Option Addr) (len cap : Nat) (w : World) : Calls Tryz.prog 173 #[.agg #[.int .i64 6,.string n,.string m,.int .i64 i,.int .i64 d,.slice A len cap]] w fun e w' =>
  e = .returned (.int .i64 (nodeE 6 n m i d len)) ∧ Below w.heap.size w w':=by
 have HSH : Hid (shapeZ 6 = (1,0,1,true)):=rfl
 have HN : nodeE 6 n m i d len = if argB 1 0 1 n m i d len then 1 else if namesE 6 n m 1 = 0 then numE 6 i d else namesE 6 n m 1:=rfl
 have HN':=Lib.hid HN
 clear HN
 cases hm : m.toList.isEmpty
 have HR:=Lib.hid (show nodeE 6 n m i d len = 1 by rw [HN'.out];simp [argB,hm])
 rotate_left
 rcases (Classical.em (i = 0)).symm with zi | zi
 have bi : (i == 0) = false:=by simpa using zi
 have ci : (i != 0) = true:=by simpa using zi
 have HR:=Lib.hid (show nodeE 6 n m i d len = 1 by rw [HN'.out];simp [argB,ci])
 clear zi
 rotate_left
 have bi : (i == 0) = true:=by simpa using zi
 have ci : (i != 0) = false:=by simpa using zi
 clear zi
 rcases (Classical.em (d = 0)).symm with zd | zd
 have bd : (d == 0) = false:=by simpa using zd
 have cd : (d != 0) = true:=by simpa using zd
 have HR:=Lib.hid (show nodeE 6 n m i d len = 1 by rw [HN'.out];simp [argB,cd])
 clear zd
 rotate_left
 have bd : (d == 0) = true:=by simpa using zd
 have cd : (d != 0) = false:=by simpa using zd
 clear zd
 rcases (Classical.em (len = 1)).symm with zl | zl
 have bl : ((len : Int) == 1) = false:=by simp;omega
 have cl : ((len : Int) != 1) = true:=by simp;omega
 have HR:=Lib.hid (show nodeE 6 n m i d len = 1 by rw [HN'.out];simp [argB,cl])
 clear zl
 rotate_left
 subst zl
 have HA:=Lib.hid (show argB 1 0 1 n m i d 1 = false by simp [argB,hm,ci,cd])
 by_cases ze : namesE 6 n m 1 = 0
 have be : (namesE 6 n m 1 != 0) = false:=by simpa using ze
 have HR:=Lib.hid (show nodeE 6 n m i d 1 = numE 6 i d by rw [HN'.out,HA.out];simp [ze])
 clear ze
 rotate_left
 have be : (namesE 6 n m 1 != 0) = true:=by simpa using ze
 have HR:=Lib.hid (show nodeE 6 n m i d 1 = namesE 6 n m 1 by rw [HN'.out,HA.out];simp [ze])
 clear ze
 all_goals (
  go_enter Tryz.func173,Tryz.ntmps173
  go_wp2_with (first | (go_at_call 233;refine (shapeOf_any _ _ _ _ _ _ HSH.out).mono ?_;rintro e w1 ⟨rfl,hb1⟩;obtain ⟨hc1,hf1⟩:=bcell hb1;obtain ⟨hB1,hz1⟩:=after_call hb1) | (go_at_call 234;refine (checkNames_any _ _ _ _ _ _ _ _ _ _ HSH.out).mono ?_;rintro e w2 ⟨rfl,hb2⟩;obtain ⟨hc2,hf2⟩:=bcell hb2;obtain ⟨hB2,hz2⟩:=after_two hB1 hb2) | (go_at_call 235;refine (checkNumbers_any _ _ _ _ _ _ _).mono ?_;rintro e w3 ⟨rfl,hb3⟩;have hB3:=hB2.trans (hb3.mono (by omega))))
  go_ret
  exact ⟨by rw [HR.out];rfl,by first | exact hB1.alloc hB1.size _ | exact hB3 | exact hB2⟩)
set_option maxHeartbeats 1000000 in
theorem checkNode_7 (n m : ByteArray) (i d : Int) (A : Option Addr) (len cap : Nat) (w : World) : Calls Tryz.prog 173 #[.agg #[.int .i64 7,.string n,.string m,.int .i64 i,.int .i64 d,.slice A len cap]] w fun e w' =>
  e = .returned (.int .i64 (nodeE 7 n m i d len)) ∧ Below w.heap.size w w':=by
 have HSH : Hid (shapeZ 7 = (0,0,2,true)):=rfl
 have HN : nodeE 7 n m i d len = if argB 0 0 2 n m i d len then 1 else if namesE 7 n m 0 = 0 then numE 7 i d else namesE 7 n m 0:=rfl
 have HN':=Lib.hid HN
 clear HN
 cases hn : n.toList.isEmpty
 have HR:=Lib.hid (show nodeE 7 n m i d len = 1 by rw [HN'.out];simp [argB,hn])
 rotate_left
 cases hm : m.toList.isEmpty
 have HR:=Lib.hid (show nodeE 7 n m i d len = 1 by rw [HN'.out];simp [argB,hm])
 rotate_left
 rcases (Classical.em (i = 0)).symm with zi | zi
 have bi : (i == 0) = false:=by simpa using zi
 have ci : (i != 0) = true:=by simpa using zi
 have HR:=Lib.hid (show nodeE 7 n m i d len = 1 by rw [HN'.out];simp [argB,ci])
 clear zi
 rotate_left
 have bi : (i == 0) = true:=by simpa using zi
 have ci : (i != 0) = false:=by simpa using zi
 clear zi
 rcases (Classical.em (d = 0)).symm with zd | zd
 have bd : (d == 0) = false:=by simpa using zd
 have cd : (d != 0) = true:=by simpa using zd
 have HR:=Lib.hid (show nodeE 7 n m i d len = 1 by rw [HN'.out];simp [argB,cd])
 clear zd
 rotate_left
 have bd : (d == 0) = true:=by simpa using zd
 have cd : (d != 0) = false:=by simpa using zd
 clear zd
 rcases (Classical.em (len = 2)).symm with zl | zl
 have bl : ((len : Int) == 2) = false:=by simp;omega
 have cl : ((len : Int) != 2) = true:=by simp;omega
 have HR:=Lib.hid (show nodeE 7 n m i d len = 1 by rw [HN'.out];simp [argB,cl])
 clear zl
 rotate_left
 subst zl
 have HA:=Lib.hid (show argB 0 0 2 n m i d 2 = false by simp [argB,hn,hm,ci,cd])
 by_cases ze : namesE 7 n m 0 = 0
 have be : (namesE 7 n m 0 != 0) = false:=by simpa using ze
 have HR:=Lib.hid (show nodeE 7 n m i d 2 = numE 7 i d by rw [HN'.out,HA.out];simp [ze])
 clear ze
 rotate_left
 have be : (namesE 7 n m 0 != 0) = true:=by simpa using ze
 have HR:=Lib.hid (show nodeE 7 n m i d 2 = namesE 7 n m 0 by rw [HN'.out,HA.out];simp [ze])
 clear ze
 all_goals (
  go_enter Tryz.func173,Tryz.ntmps173
  go_wp2_with (first | (go_at_call 233;refine (shapeOf_any _ _ _ _ _ _ HSH.out).mono ?_;rintro e w1 ⟨rfl,hb1⟩;obtain ⟨hc1,hf1⟩:=bcell hb1;obtain ⟨hB1,hz1⟩:=after_call hb1) | (go_at_call 234;refine (checkNames_any _ _ _ _ _ _ _ _ _ _ HSH.out).mono ?_;rintro e w2 ⟨rfl,hb2⟩;obtain ⟨hc2,hf2⟩:=bcell hb2;obtain ⟨hB2,hz2⟩:=after_two hB1 hb2) | (go_at_call 235;refine (checkNumbers_any _ _ _ _ _ _ _).mono ?_;rintro e w3 ⟨rfl,hb3⟩;have hB3:=hB2.trans (hb3.mono (by omega))))
  go_ret
  exact ⟨by rw [HR.out];rfl,by first | exact hB1.alloc hB1.size _ | exact hB3 | exact hB2⟩)
set_option maxHeartbeats 1000000 in
theorem checkNode_12 (n m : ByteArray) (i d : Int) (A : Option Addr) (len cap : Nat) (w : World) : Calls Tryz.prog 173 #[.agg #[.int .i64 12,.string n,.string m,.int .i64 i,.int .i64 d,.slice A len cap]] w fun e w' =>
  e = .returned (.int .i64 (nodeE 12 n m i d len)) ∧ Below w.heap.size w w':=by
 have HSH : Hid (shapeZ 12 = (0,0,2,true)):=rfl
 have HN : nodeE 12 n m i d len = if argB 0 0 2 n m i d len then 1 else if namesE 12 n m 0 = 0 then numE 12 i d else namesE 12 n m 0:=rfl
 have HN':=Lib.hid HN
 clear HN
 cases hn : n.toList.isEmpty
 have HR:=Lib.hid (show nodeE 12 n m i d len = 1 by rw [HN'.out];simp [argB,hn])
 rotate_left
 cases hm : m.toList.isEmpty
 have HR:=Lib.hid (show nodeE 12 n m i d len = 1 by rw [HN'.out];simp [argB,hm])
 rotate_left
 rcases (Classical.em (i = 0)).symm with zi | zi
 have bi : (i == 0) = false:=by simpa using zi
 have ci : (i != 0) = true:=by simpa using zi
 have HR:=Lib.hid (show nodeE 12 n m i d len = 1 by rw [HN'.out];simp [argB,ci])
 clear zi
 rotate_left
 have bi : (i == 0) = true:=by simpa using zi
 have ci : (i != 0) = false:=by simpa using zi
 clear zi
 rcases (Classical.em (d = 0)).symm with zd | zd
 have bd : (d == 0) = false:=by simpa using zd
 have cd : (d != 0) = true:=by simpa using zd
 have HR:=Lib.hid (show nodeE 12 n m i d len = 1 by rw [HN'.out];simp [argB,cd])
 clear zd
 rotate_left
 have bd : (d == 0) = true:=by simpa using zd
 have cd : (d != 0) = false:=by simpa using zd
 clear zd
 rcases (Classical.em (len = 2)).symm with zl | zl
 have bl : ((len : Int) == 2) = false:=by simp;omega
 have cl : ((len : Int) != 2) = true:=by simp;omega
 have HR:=Lib.hid (show nodeE 12 n m i d len = 1 by rw [HN'.out];simp [argB,cl])
 clear zl
 rotate_left
 subst zl
 have HA:=Lib.hid (show argB 0 0 2 n m i d 2 = false by simp [argB,hn,hm,ci,cd])
 by_cases ze : namesE 12 n m 0 = 0
 have be : (namesE 12 n m 0 != 0) = false:=by simpa using ze
 have HR:=Lib.hid (show nodeE 12 n m i d 2 = numE 12 i d by rw [HN'.out,HA.out];simp [ze])
 clear ze
 rotate_left
 have be : (namesE 12 n m 0 != 0) = true:=by simpa using ze
 have HR:=Lib.hid (show nodeE 12 n m i d 2 = namesE 12 n m 0 by rw [HN'.out,HA.out];simp [ze])
 clear ze
 all_goals (
  go_enter Tryz.func173,Tryz.ntmps173
  go_wp2_with (first | (go_at_call 233;refine (shapeOf_any _ _ _ _ _ _ HSH.out).mono ?_;rintro e w1 ⟨rfl,hb1⟩;obtain ⟨hc1,hf1⟩:=bcell hb1;obtain ⟨hB1,hz1⟩:=after_call hb1) | (go_at_call 234;refine (checkNames_any _ _ _ _ _ _ _ _ _ _ HSH.out).mono ?_;rintro e w2 ⟨rfl,hb2⟩;obtain ⟨hc2,hf2⟩:=bcell hb2;obtain ⟨hB2,hz2⟩:=after_two hB1 hb2) | (go_at_call 235;refine (checkNumbers_any _ _ _ _ _ _ _).mono ?_;rintro e w3 ⟨rfl,hb3⟩;have hB3:=hB2.trans (hb3.mono (by omega))))
  go_ret
  exact ⟨by rw [HR.out];rfl,by first | exact hB1.alloc hB1.size _ | exact hB3 | exact hB2⟩)
end Go.Proofs.YtmmecapgnmlaiaaGreatDoor
/- syntax.checkNode, some kinds -/
namespace Go.Proofs.YtmmecapgnmlaiaaGreatDoor
open Go.RowKit Go.Proofs
set_option maxHeartbeats 1000000 in
theorem checkNode_11 (n m : ByteArray) (i d : Int) (A : Option Addr) (len cap : Nat) (w : World) : Calls Tryz.prog 173 #[.agg #[.int .i64 11,.string n,.string m,.int .i64 i,.int .i64 d,.slice A len cap]] w fun e w' =>
  e = .returned (.int .i64 (nodeE 11 n m i d len)) ∧ Below w.heap.size w w':=by
 have HSH : Hid (shapeZ 11 = (0,0,0,true)):=rfl
 have HN : nodeE 11 n m i d len = if argB 0 0 0 n m i d len then 1 else if namesE 11 n m 0 = 0 then numE 11 i d else namesE 11 n m 0:=rfl
 have HN':=Lib.hid HN
 clear HN
 cases hn : n.toList.isEmpty
 have HR:=Lib.hid (show nodeE 11 n m i d len = 1 by rw [HN'.out];simp [argB,hn])
 rotate_left
 cases hm : m.toList.isEmpty
 have HR:=Lib.hid (show nodeE 11 n m i d len = 1 by rw [HN'.out];simp [argB,hm])
 rotate_left
 rcases (Classical.em (i = 0)).symm with zi | zi
 have bi : (i == 0) = false:=by simpa using zi
 have ci : (i != 0) = true:=by simpa using zi
 have HR:=Lib.hid (show nodeE 11 n m i d len = 1 by rw [HN'.out];simp [argB,ci])
 clear zi
 rotate_left
 have bi : (i == 0) = true:=by simpa using zi
 have ci : (i != 0) = false:=by simpa using zi
 clear zi
 rcases (Classical.em (d = 0)).symm with zd | zd
 have bd : (d == 0) = false:=by simpa using zd
 have cd : (d != 0) = true:=by simpa using zd
 have HR:=Lib.hid (show nodeE 11 n m i d len = 1 by rw [HN'.out];simp [argB,cd])
 clear zd
 rotate_left
 have bd : (d == 0) = true:=by simpa using zd
 have cd : (d != 0) = false:=by simpa using zd
 clear zd
 rcases (Classical.em (len = 0)).symm with zl | zl
 have bl : ((len : Int) == 0) = false:=by simp;omega
 have cl : ((len : Int) != 0) = true:=by simp;omega
 have HR:=Lib.hid (show nodeE 11 n m i d len = 1 by rw [HN'.out];simp [argB,cl])
 clear zl
 rotate_left
 subst zl
 have HA:=Lib.hid (show argB 0 0 0 n m i d 0 = false by simp [argB,hn,hm,ci,cd])
 by_cases ze : namesE 11 n m 0 = 0
 have be : (namesE 11 n m 0 != 0) = false:=by simpa using ze
 have HR:=Lib.hid (show nodeE 11 n m i d 0 = numE 11 i d by rw [HN'.out,HA.out];simp [ze])
 clear ze
 rotate_left
 have be : (namesE 11 n m 0 != 0) = true:=by simpa using ze
 have HR:=Lib.hid (show nodeE 11 n m i d 0 = namesE 11 n m 0 by rw [HN'.out,HA.out];simp [ze])
 clear ze
 all_goals (
  go_enter Tryz.func173,Tryz.ntmps173
  go_wp2_with (first | (go_at_call 233;refine (shapeOf_any _ _ _ _ _ _ HSH.out).mono ?_;rintro e w1 ⟨rfl,hb1⟩;obtain ⟨hc1,hf1⟩:=bcell hb1;obtain ⟨hB1,hz1⟩:=after_call hb1) | (go_at_call 234;refine (checkNames_any _ _ _ _ _ _ _ _ _ _ HSH.out).mono ?_;rintro e w2 ⟨rfl,hb2⟩;obtain ⟨hc2,hf2⟩:=bcell hb2;obtain ⟨hB2,hz2⟩:=after_two hB1 hb2) | (go_at_call 235;refine (checkNumbers_any _ _ _ _ _ _ _).mono ?_;rintro e w3 ⟨rfl,hb3⟩;have hB3:=hB2.trans (hb3.mono (by omega))))
  go_ret
  exact ⟨by rw [HR.out];rfl,by first | exact hB1.alloc hB1.size _ | exact hB3 | exact hB2⟩)
set_option maxHeartbeats 1000000 in
theorem checkNode_13 (n m : ByteArray) (i d : Int) (A : Option Addr) (len cap : Nat) (w : World) : Calls Tryz.prog 173 #[.agg #[.int .i64 13,.string n,.string m,.int .i64 i,.int .i64 d,.slice A len cap]] w fun e w' =>
  e = .returned (.int .i64 (nodeE 13 n m i d len)) ∧ Below w.heap.size w w':=by
 have HSH : Hid (shapeZ 13 = (2,0,3,true)):=rfl
 have HN : nodeE 13 n m i d len = if argB 2 0 3 n m i d len then 1 else if namesE 13 n m 2 = 0 then numE 13 i d else namesE 13 n m 2:=rfl
 have HN':=Lib.hid HN
 clear HN
 rcases (Classical.em (i = 0)).symm with zi | zi
 have bi : (i == 0) = false:=by simpa using zi
 have ci : (i != 0) = true:=by simpa using zi
 have HR:=Lib.hid (show nodeE 13 n m i d len = 1 by rw [HN'.out];simp [argB,ci])
 clear zi
 rotate_left
 have bi : (i == 0) = true:=by simpa using zi
 have ci : (i != 0) = false:=by simpa using zi
 clear zi
 rcases (Classical.em (d = 0)).symm with zd | zd
 have bd : (d == 0) = false:=by simpa using zd
 have cd : (d != 0) = true:=by simpa using zd
 have HR:=Lib.hid (show nodeE 13 n m i d len = 1 by rw [HN'.out];simp [argB,cd])
 clear zd
 rotate_left
 have bd : (d == 0) = true:=by simpa using zd
 have cd : (d != 0) = false:=by simpa using zd
 clear zd
 rcases (Classical.em (len = 3)).symm with zl | zl
 have bl : ((len : Int) == 3) = false:=by simp;omega
 have cl : ((len : Int) != 3) = true:=by simp;omega
 have HR:=Lib.hid (show nodeE 13 n m i d len = 1 by rw [HN'.out];simp [argB,cl])
 clear zl
 rotate_left
 subst zl
 have HA:=Lib.hid (show argB 2 0 3 n m i d 3 = false by simp [argB,ci,cd])
 by_cases ze : namesE 13 n m 2 = 0
 have be : (namesE 13 n m 2 != 0) = false:=by simpa using ze
 have HR:=Lib.hid (show nodeE 13 n m i d 3 = numE 13 i d by rw [HN'.out,HA.out];simp [ze])
 clear ze
 rotate_left
 have be : (namesE 13 n m 2 != 0) = true:=by simpa using ze
 have HR:=Lib.hid (show nodeE 13 n m i d 3 = namesE 13 n m 2 by rw [HN'.out,HA.out];simp [ze])
 clear ze
 all_goals (
  go_enter Tryz.func173,Tryz.ntmps173
  go_wp2_with (first | (go_at_call 233;refine (shapeOf_any _ _ _ _ _ _ HSH.out).mono ?_;rintro e w1 ⟨rfl,hb1⟩;obtain ⟨hc1,hf1⟩:=bcell hb1;obtain ⟨hB1,hz1⟩:=after_call hb1) | (go_at_call 234;refine (checkNames_any _ _ _ _ _ _ _ _ _ _ HSH.out).mono ?_;rintro e w2 ⟨rfl,hb2⟩;obtain ⟨hc2,hf2⟩:=bcell hb2;obtain ⟨hB2,hz2⟩:=after_two hB1 hb2) | (go_at_call 235;refine (checkNumbers_any _ _ _ _ _ _ _).mono ?_;rintro e w3 ⟨rfl,hb3⟩;have hB3:=hB2.trans (hb3.mono (by omega))))
  go_ret
  exact ⟨by rw [HR.out];rfl,by first | exact hB1.alloc hB1.size _ | exact hB3 | exact hB2⟩)
set_option maxHeartbeats 1000000 in
theorem checkNode_14 (n m : ByteArray) (i d : Int) (A : Option Addr) (len cap : Nat) (w : World) : Calls Tryz.prog 173 #[.agg #[.int .i64 14,.string n,.string m,.int .i64 i,.int .i64 d,.slice A len cap]] w fun e w' =>
  e = .returned (.int .i64 (nodeE 14 n m i d len)) ∧ Below w.heap.size w w':=by
 have HSH : Hid (shapeZ 14 = (0,2,0,true)):=rfl
 have HN : nodeE 14 n m i d len = if argB 0 2 0 n m i d len then 1 else if namesE 14 n m 0 = 0 then numE 14 i d else namesE 14 n m 0:=rfl
 have HN':=Lib.hid HN
 clear HN
 cases hn : n.toList.isEmpty
 have HR:=Lib.hid (show nodeE 14 n m i d len = 1 by rw [HN'.out];simp [argB,hn])
 rotate_left
 cases hm : m.toList.isEmpty
 have HR:=Lib.hid (show nodeE 14 n m i d len = 1 by rw [HN'.out];simp [argB,hm])
 rotate_left
 rcases (Classical.em (len = 0)).symm with zl | zl
 have bl : ((len : Int) == 0) = false:=by simp;omega
 have cl : ((len : Int) != 0) = true:=by simp;omega
 have HR:=Lib.hid (show nodeE 14 n m i d len = 1 by rw [HN'.out];simp [argB,cl])
 clear zl
 rotate_left
 subst zl
 have HA:=Lib.hid (show argB 0 2 0 n m i d 0 = false by simp [argB,hn,hm])
 by_cases ze : namesE 14 n m 0 = 0
 have be : (namesE 14 n m 0 != 0) = false:=by simpa using ze
 have HR:=Lib.hid (show nodeE 14 n m i d 0 = numE 14 i d by rw [HN'.out,HA.out];simp [ze])
 clear ze
 rotate_left
 have be : (namesE 14 n m 0 != 0) = true:=by simpa using ze
 have HR:=Lib.hid (show nodeE 14 n m i d 0 = namesE 14 n m 0 by rw [HN'.out,HA.out];simp [ze])
 clear ze
 all_goals (
  go_enter Tryz.func173,Tryz.ntmps173
  go_wp2_with (first | (go_at_call 233;refine (shapeOf_any _ _ _ _ _ _ HSH.out).mono ?_;rintro e w1 ⟨rfl,hb1⟩;obtain ⟨hc1,hf1⟩:=bcell hb1;obtain ⟨hB1,hz1⟩:=after_call hb1) | (go_at_call 234;refine (checkNames_any _ _ _ _ _ _ _ _ _ _ HSH.out).mono ?_;rintro e w2 ⟨rfl,hb2⟩;obtain ⟨hc2,hf2⟩:=bcell hb2;obtain ⟨hB2,hz2⟩:=after_two hB1 hb2) | (go_at_call 235;refine (checkNumbers_any _ _ _ _ _ _ _).mono ?_;rintro e w3 ⟨rfl,hb3⟩;have hB3:=hB2.trans (hb3.mono (by omega))))
  go_ret
  exact ⟨by rw [HR.out];rfl,by first | exact hB1.alloc hB1.size _ | exact hB3 | exact hB2⟩)
end Go.Proofs.YtmmecapgnmlaiaaGreatDoor
