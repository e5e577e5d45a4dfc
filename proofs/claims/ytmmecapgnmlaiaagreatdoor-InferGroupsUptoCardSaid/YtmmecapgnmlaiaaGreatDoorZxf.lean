/- syntax.checkNode -/
import Derived.Test.YtmmecapgnmlaiaaGreatDoorZxe
set_option maxRecDepth 100000
set_option maxHeartbeats 16000000
namespace Go.Proofs.Q
open Go.RowKit Go.Proofs
def ak (a b c:Int)(n m:ByteArray)(i d:Int)(len:Nat):Bool:=
 (decide (a<1)&&!n.toList.isEmpty)||(decide (a<2)&&!m.toList.isEmpty)||(decide (b<1)&&(i != 0))||(decide (b<2)&&(d != 0))||((len:Int) != c)
def aj (k:Int)(n m:ByteArray)(i d:Int)(len:Nat):Int:=
 match bB k with
 | (_,_,_,false)=>9
 | (a,b,c,true)=>if ak a b c n m i d len then 1 else if ah k n m a=0 then bU k i d else ah k n m a
theorem dI {w w1 w2:World}{o:Obj}(h:Below w.heap.size w w1)(h2:Below (w1.alloc o).heap.size (w1.alloc o) w2):Below w.heap.size w w2∧w1.heap.size<w2.heap.size:=
 ⟨(h.alloc h.size o).trans (h2.mono (by have:=h.size;simp;omega)),by have:=h2.size;simp at this;omega⟩
theorem CK (n m:ByteArray)(i d:Int)(A:Option Addr)(len cap:Nat)(w:World):Calls Tryz.prog 173 #[.agg #[.int .i64 1,.string n,.string m,.int .i64 i,.int .i64 d,.slice A len cap]] w fun e w' =>
  e=.returned (.int .i64 (aj 1 n m i d len))∧Below w.heap.size w w':=by
 have HSH:Hid (bB 1=(0,1,0,true)):=rfl
 have HN:aj 1 n m i d len=if ak 0 1 0 n m i d len then 1 else if ah 1 n m 0=0 then bU 1 i d else ah 1 n m 0:=rfl
 have HN':=Sk HN
 clear HN
 cases hn:n.toList.isEmpty
 have HR:=Sk (show aj 1 n m i d len=1 by rw[HN'.out];simp[ak,hn])
 rotate_left
 cases hm:m.toList.isEmpty
 have HR:=Sk (show aj 1 n m i d len=1 by rw[HN'.out];simp[ak,hm])
 rotate_left
 rcases (TP (d=0)).symm with zd|zd
 have bd:(d==0)=false:=by simpa using zd
 have cd:(d != 0)=true:=by simpa using zd
 have HR:=Sk (show aj 1 n m i d len=1 by rw[HN'.out];simp[ak,cd])
 clear zd
 rotate_left
 have bd:(d==0)=true:=by simpa using zd
 have cd:(d != 0)=false:=by simpa using zd
 clear zd
 rcases (TP (len=0)).symm with zl|zl
 have bl:((len:Int)==0)=false:=by simp;omega
 have cl:((len:Int) != 0)=true:=by simp;omega
 have HR:=Sk (show aj 1 n m i d len=1 by rw[HN'.out];simp[ak,cl])
 clear zl
 rotate_left
 subst zl
 have HA:=Sk (show ak 0 1 0 n m i d 0=false by simp[ak,hn,hm,cd])
 by_cases ze:ah 1 n m 0=0
 have be:(ah 1 n m 0 != 0)=false:=by simpa using ze
 have HR:=Sk (show aj 1 n m i d 0=bU 1 i d by rw[HN'.out,HA.out];simp[ze])
 clear ze
 rotate_left
 have be:(ah 1 n m 0 != 0)=true:=by simpa using ze
 have HR:=Sk (show aj 1 n m i d 0=ah 1 n m 0 by rw[HN'.out,HA.out];simp[ze])
 clear ze
 all_goals (
  go_enter Tryz.func173,Tryz.ntmps173
  go_wp2_with (first|(go_at_call 233;refine(bV _ _ _ _ _ _ HSH.out).mono ?_;rintro e w1 ⟨rfl,hb1⟩;obtain⟨hc1,hf1⟩:=aN hb1;obtain⟨hB1,hz1⟩:=ay hb1)|(go_at_call 234;refine(bI _ _ _ _ _ _ _ _ _ _ HSH.out).mono ?_;rintro e w2 ⟨rfl,hb2⟩;obtain⟨hc2,hf2⟩:=aN hb2;obtain⟨hB2,hz2⟩:=dI hB1 hb2)|(go_at_call 235;refine(bC _ _ _ _ _ _ _).mono ?_;rintro e w3 ⟨rfl,hb3⟩;have hB3:=hB2.trans (hb3.mono (by omega))))
  go_ret
  exact⟨by rw[HR.out];rfl,by first|exact hB1.alloc hB1.size _|exact hB3|exact hB2⟩)
theorem CO (n m:ByteArray)(i d:Int)(A:Option Addr)(len cap:Nat)(w:World):Calls Tryz.prog 173 #[.agg #[.int .i64 2,.string n,.string m,.int .i64 i,.int .i64 d,.slice A len cap]] w fun e w' =>
  e=.returned (.int .i64 (aj 2 n m i d len))∧Below w.heap.size w w':=by
 have HSH:Hid (bB 2=(0,1,0,true)):=rfl
 have HN:aj 2 n m i d len=if ak 0 1 0 n m i d len then 1 else if ah 2 n m 0=0 then bU 2 i d else ah 2 n m 0:=rfl
 have HN':=Sk HN
 clear HN
 cases hn:n.toList.isEmpty
 have HR:=Sk (show aj 2 n m i d len=1 by rw[HN'.out];simp[ak,hn])
 rotate_left
 cases hm:m.toList.isEmpty
 have HR:=Sk (show aj 2 n m i d len=1 by rw[HN'.out];simp[ak,hm])
 rotate_left
 rcases (TP (d=0)).symm with zd|zd
 have bd:(d==0)=false:=by simpa using zd
 have cd:(d != 0)=true:=by simpa using zd
 have HR:=Sk (show aj 2 n m i d len=1 by rw[HN'.out];simp[ak,cd])
 clear zd
 rotate_left
 have bd:(d==0)=true:=by simpa using zd
 have cd:(d != 0)=false:=by simpa using zd
 clear zd
 rcases (TP (len=0)).symm with zl|zl
 have bl:((len:Int)==0)=false:=by simp;omega
 have cl:((len:Int) != 0)=true:=by simp;omega
 have HR:=Sk (show aj 2 n m i d len=1 by rw[HN'.out];simp[ak,cl])
 clear zl
 rotate_left
 subst zl
 have HA:=Sk (show ak 0 1 0 n m i d 0=false by simp[ak,hn,hm,cd])
 by_cases ze:ah 2 n m 0=0
 have be:(ah 2 n m 0 != 0)=false:=by simpa using ze
 have HR:=Sk (show aj 2 n m i d 0=bU 2 i d by rw[HN'.out,HA.out];simp[ze])
 clear ze
 rotate_left
 have be:(ah 2 n m 0 != 0)=true:=by simpa using ze
 have HR:=Sk (show aj 2 n m i d 0=ah 2 n m 0 by rw[HN'.out,HA.out];simp[ze])
 clear ze
 all_goals (
  go_enter Tryz.func173,Tryz.ntmps173
  go_wp2_with (first|(go_at_call 233;refine(bV _ _ _ _ _ _ HSH.out).mono ?_;rintro e w1 ⟨rfl,hb1⟩;obtain⟨hc1,hf1⟩:=aN hb1;obtain⟨hB1,hz1⟩:=ay hb1)|(go_at_call 234;refine(bI _ _ _ _ _ _ _ _ _ _ HSH.out).mono ?_;rintro e w2 ⟨rfl,hb2⟩;obtain⟨hc2,hf2⟩:=aN hb2;obtain⟨hB2,hz2⟩:=dI hB1 hb2)|(go_at_call 235;refine(bC _ _ _ _ _ _ _).mono ?_;rintro e w3 ⟨rfl,hb3⟩;have hB3:=hB2.trans (hb3.mono (by omega))))
  go_ret
  exact⟨by rw[HR.out];rfl,by first|exact hB1.alloc hB1.size _|exact hB3|exact hB2⟩)
theorem CP (n m:ByteArray)(i d:Int)(A:Option Addr)(len cap:Nat)(w:World):Calls Tryz.prog 173 #[.agg #[.int .i64 3,.string n,.string m,.int .i64 i,.int .i64 d,.slice A len cap]] w fun e w' =>
  e=.returned (.int .i64 (aj 3 n m i d len))∧Below w.heap.size w w':=by
 have HSH:Hid (bB 3=(1,0,0,true)):=rfl
 have HN:aj 3 n m i d len=if ak 1 0 0 n m i d len then 1 else if ah 3 n m 1=0 then bU 3 i d else ah 3 n m 1:=rfl
 have HN':=Sk HN
 clear HN
 cases hm:m.toList.isEmpty
 have HR:=Sk (show aj 3 n m i d len=1 by rw[HN'.out];simp[ak,hm])
 rotate_left
 rcases (TP (i=0)).symm with zi|zi
 have bi:(i==0)=false:=by simpa using zi
 have ci:(i != 0)=true:=by simpa using zi
 have HR:=Sk (show aj 3 n m i d len=1 by rw[HN'.out];simp[ak,ci])
 clear zi
 rotate_left
 have bi:(i==0)=true:=by simpa using zi
 have ci:(i != 0)=false:=by simpa using zi
 clear zi
 rcases (TP (d=0)).symm with zd|zd
 have bd:(d==0)=false:=by simpa using zd
 have cd:(d != 0)=true:=by simpa using zd
 have HR:=Sk (show aj 3 n m i d len=1 by rw[HN'.out];simp[ak,cd])
 clear zd
 rotate_left
 have bd:(d==0)=true:=by simpa using zd
 have cd:(d != 0)=false:=by simpa using zd
 clear zd
 rcases (TP (len=0)).symm with zl|zl
 have bl:((len:Int)==0)=false:=by simp;omega
 have cl:((len:Int) != 0)=true:=by simp;omega
 have HR:=Sk (show aj 3 n m i d len=1 by rw[HN'.out];simp[ak,cl])
 clear zl
 rotate_left
 subst zl
 have HA:=Sk (show ak 1 0 0 n m i d 0=false by simp[ak,hm,ci,cd])
 by_cases ze:ah 3 n m 1=0
 have be:(ah 3 n m 1 != 0)=false:=by simpa using ze
 have HR:=Sk (show aj 3 n m i d 0=bU 3 i d by rw[HN'.out,HA.out];simp[ze])
 clear ze
 rotate_left
 have be:(ah 3 n m 1 != 0)=true:=by simpa using ze
 have HR:=Sk (show aj 3 n m i d 0=ah 3 n m 1 by rw[HN'.out,HA.out];simp[ze])
 clear ze
 all_goals (
  go_enter Tryz.func173,Tryz.ntmps173
  go_wp2_with (first|(go_at_call 233;refine(bV _ _ _ _ _ _ HSH.out).mono ?_;rintro e w1 ⟨rfl,hb1⟩;obtain⟨hc1,hf1⟩:=aN hb1;obtain⟨hB1,hz1⟩:=ay hb1)|(go_at_call 234;refine(bI _ _ _ _ _ _ _ _ _ _ HSH.out).mono ?_;rintro e w2 ⟨rfl,hb2⟩;obtain⟨hc2,hf2⟩:=aN hb2;obtain⟨hB2,hz2⟩:=dI hB1 hb2)|(go_at_call 235;refine(bC _ _ _ _ _ _ _).mono ?_;rintro e w3 ⟨rfl,hb3⟩;have hB3:=hB2.trans (hb3.mono (by omega))))
  go_ret
  exact⟨by rw[HR.out];rfl,by first|exact hB1.alloc hB1.size _|exact hB3|exact hB2⟩)
theorem CQ (n m:ByteArray)(i d:Int)(A:Option Addr)(len cap:Nat)(w:World):Calls Tryz.prog 173 #[.agg #[.int .i64 4,.string n,.string m,.int .i64 i,.int .i64 d,.slice A len cap]] w fun e w' =>
  e=.returned (.int .i64 (aj 4 n m i d len))∧Below w.heap.size w w':=by
 have HSH:Hid (bB 4=(2,0,0,true)):=rfl
 have HN:aj 4 n m i d len=if ak 2 0 0 n m i d len then 1 else if ah 4 n m 2=0 then bU 4 i d else ah 4 n m 2:=rfl
 have HN':=Sk HN
 clear HN
 rcases (TP (i=0)).symm with zi|zi
 have bi:(i==0)=false:=by simpa using zi
 have ci:(i != 0)=true:=by simpa using zi
 have HR:=Sk (show aj 4 n m i d len=1 by rw[HN'.out];simp[ak,ci])
 clear zi
 rotate_left
 have bi:(i==0)=true:=by simpa using zi
 have ci:(i != 0)=false:=by simpa using zi
 clear zi
 rcases (TP (d=0)).symm with zd|zd
 have bd:(d==0)=false:=by simpa using zd
 have cd:(d != 0)=true:=by simpa using zd
 have HR:=Sk (show aj 4 n m i d len=1 by rw[HN'.out];simp[ak,cd])
 clear zd
 rotate_left
 have bd:(d==0)=true:=by simpa using zd
 have cd:(d != 0)=false:=by simpa using zd
 clear zd
 rcases (TP (len=0)).symm with zl|zl
 have bl:((len:Int)==0)=false:=by simp;omega
 have cl:((len:Int) != 0)=true:=by simp;omega
 have HR:=Sk (show aj 4 n m i d len=1 by rw[HN'.out];simp[ak,cl])
 clear zl
 rotate_left
 subst zl
 have HA:=Sk (show ak 2 0 0 n m i d 0=false by simp[ak,ci,cd])
 by_cases ze:ah 4 n m 2=0
 have be:(ah 4 n m 2 != 0)=false:=by simpa using ze
 have HR:=Sk (show aj 4 n m i d 0=bU 4 i d by rw[HN'.out,HA.out];simp[ze])
 clear ze
 rotate_left
 have be:(ah 4 n m 2 != 0)=true:=by simpa using ze
 have HR:=Sk (show aj 4 n m i d 0=ah 4 n m 2 by rw[HN'.out,HA.out];simp[ze])
 clear ze
 all_goals (
  go_enter Tryz.func173,Tryz.ntmps173
  go_wp2_with (first|(go_at_call 233;refine(bV _ _ _ _ _ _ HSH.out).mono ?_;rintro e w1 ⟨rfl,hb1⟩;obtain⟨hc1,hf1⟩:=aN hb1;obtain⟨hB1,hz1⟩:=ay hb1)|(go_at_call 234;refine(bI _ _ _ _ _ _ _ _ _ _ HSH.out).mono ?_;rintro e w2 ⟨rfl,hb2⟩;obtain⟨hc2,hf2⟩:=aN hb2;obtain⟨hB2,hz2⟩:=dI hB1 hb2)|(go_at_call 235;refine(bC _ _ _ _ _ _ _).mono ?_;rintro e w3 ⟨rfl,hb3⟩;have hB3:=hB2.trans (hb3.mono (by omega))))
  go_ret
  exact⟨by rw[HR.out];rfl,by first|exact hB1.alloc hB1.size _|exact hB3|exact hB2⟩)
theorem CR (n m:ByteArray)(i d:Int)(A:Option Addr)(len cap:Nat)(w:World):Calls Tryz.prog 173 #[.agg #[.int .i64 5,.string n,.string m,.int .i64 i,.int .i64 d,.slice A len cap]] w fun e w' =>
  e=.returned (.int .i64 (aj 5 n m i d len))∧Below w.heap.size w w':=by
 have HSH:Hid (bB 5=(1,1,0,true)):=rfl
 have HN:aj 5 n m i d len=if ak 1 1 0 n m i d len then 1 else if ah 5 n m 1=0 then bU 5 i d else ah 5 n m 1:=rfl
 have HN':=Sk HN
 clear HN
 cases hm:m.toList.isEmpty
 have HR:=Sk (show aj 5 n m i d len=1 by rw[HN'.out];simp[ak,hm])
 rotate_left
 rcases (TP (d=0)).symm with zd|zd
 have bd:(d==0)=false:=by simpa using zd
 have cd:(d != 0)=true:=by simpa using zd
 have HR:=Sk (show aj 5 n m i d len=1 by rw[HN'.out];simp[ak,cd])
 clear zd
 rotate_left
 have bd:(d==0)=true:=by simpa using zd
 have cd:(d != 0)=false:=by simpa using zd
 clear zd
 rcases (TP (len=0)).symm with zl|zl
 have bl:((len:Int)==0)=false:=by simp;omega
 have cl:((len:Int) != 0)=true:=by simp;omega
 have HR:=Sk (show aj 5 n m i d len=1 by rw[HN'.out];simp[ak,cl])
 clear zl
 rotate_left
 subst zl
 have HA:=Sk (show ak 1 1 0 n m i d 0=false by simp[ak,hm,cd])
 by_cases ze:ah 5 n m 1=0
 have be:(ah 5 n m 1 != 0)=false:=by simpa using ze
 have HR:=Sk (show aj 5 n m i d 0=bU 5 i d by rw[HN'.out,HA.out];simp[ze])
 clear ze
 rotate_left
 have be:(ah 5 n m 1 != 0)=true:=by simpa using ze
 have HR:=Sk (show aj 5 n m i d 0=ah 5 n m 1 by rw[HN'.out,HA.out];simp[ze])
 clear ze
 all_goals (
  go_enter Tryz.func173,Tryz.ntmps173
  go_wp2_with (first|(go_at_call 233;refine(bV _ _ _ _ _ _ HSH.out).mono ?_;rintro e w1 ⟨rfl,hb1⟩;obtain⟨hc1,hf1⟩:=aN hb1;obtain⟨hB1,hz1⟩:=ay hb1)|(go_at_call 234;refine(bI _ _ _ _ _ _ _ _ _ _ HSH.out).mono ?_;rintro e w2 ⟨rfl,hb2⟩;obtain⟨hc2,hf2⟩:=aN hb2;obtain⟨hB2,hz2⟩:=dI hB1 hb2)|(go_at_call 235;refine(bC _ _ _ _ _ _ _).mono ?_;rintro e w3 ⟨rfl,hb3⟩;have hB3:=hB2.trans (hb3.mono (by omega))))
  go_ret
  exact⟨by rw[HR.out];rfl,by first|exact hB1.alloc hB1.size _|exact hB3|exact hB2⟩)
theorem CS (n m:ByteArray)(i d:Int)(A:Option Addr)(len cap:Nat)(w:World):Calls Tryz.prog 173 #[.agg #[.int .i64 6,.string n,.string m,.int .i64 i,.int .i64 d,.slice A len cap]] w fun e w' =>
  e=.returned (.int .i64 (aj 6 n m i d len))∧Below w.heap.size w w':=by
 have HSH:Hid (bB 6=(1,0,1,true)):=rfl
 have HN:aj 6 n m i d len=if ak 1 0 1 n m i d len then 1 else if ah 6 n m 1=0 then bU 6 i d else ah 6 n m 1:=rfl
 have HN':=Sk HN
 clear HN
 cases hm:m.toList.isEmpty
 have HR:=Sk (show aj 6 n m i d len=1 by rw[HN'.out];simp[ak,hm])
 rotate_left
 rcases (TP (i=0)).symm with zi|zi
 have bi:(i==0)=false:=by simpa using zi
 have ci:(i != 0)=true:=by simpa using zi
 have HR:=Sk (show aj 6 n m i d len=1 by rw[HN'.out];simp[ak,ci])
 clear zi
 rotate_left
 have bi:(i==0)=true:=by simpa using zi
 have ci:(i != 0)=false:=by simpa using zi
 clear zi
 rcases (TP (d=0)).symm with zd|zd
 have bd:(d==0)=false:=by simpa using zd
 have cd:(d != 0)=true:=by simpa using zd
 have HR:=Sk (show aj 6 n m i d len=1 by rw[HN'.out];simp[ak,cd])
 clear zd
 rotate_left
 have bd:(d==0)=true:=by simpa using zd
 have cd:(d != 0)=false:=by simpa using zd
 clear zd
 rcases (TP (len=1)).symm with zl|zl
 have bl:((len:Int)==1)=false:=by simp;omega
 have cl:((len:Int) != 1)=true:=by simp;omega
 have HR:=Sk (show aj 6 n m i d len=1 by rw[HN'.out];simp[ak,cl])
 clear zl
 rotate_left
 subst zl
 have HA:=Sk (show ak 1 0 1 n m i d 1=false by simp[ak,hm,ci,cd])
 by_cases ze:ah 6 n m 1=0
 have be:(ah 6 n m 1 != 0)=false:=by simpa using ze
 have HR:=Sk (show aj 6 n m i d 1=bU 6 i d by rw[HN'.out,HA.out];simp[ze])
 clear ze
 rotate_left
 have be:(ah 6 n m 1 != 0)=true:=by simpa using ze
 have HR:=Sk (show aj 6 n m i d 1=ah 6 n m 1 by rw[HN'.out,HA.out];simp[ze])
 clear ze
 all_goals (
  go_enter Tryz.func173,Tryz.ntmps173
  go_wp2_with (first|(go_at_call 233;refine(bV _ _ _ _ _ _ HSH.out).mono ?_;rintro e w1 ⟨rfl,hb1⟩;obtain⟨hc1,hf1⟩:=aN hb1;obtain⟨hB1,hz1⟩:=ay hb1)|(go_at_call 234;refine(bI _ _ _ _ _ _ _ _ _ _ HSH.out).mono ?_;rintro e w2 ⟨rfl,hb2⟩;obtain⟨hc2,hf2⟩:=aN hb2;obtain⟨hB2,hz2⟩:=dI hB1 hb2)|(go_at_call 235;refine(bC _ _ _ _ _ _ _).mono ?_;rintro e w3 ⟨rfl,hb3⟩;have hB3:=hB2.trans (hb3.mono (by omega))))
  go_ret
  exact⟨by rw[HR.out];rfl,by first|exact hB1.alloc hB1.size _|exact hB3|exact hB2⟩)
theorem CU (n m:ByteArray)(i d:Int)(A:Option Addr)(len cap:Nat)(w:World):Calls Tryz.prog 173 #[.agg #[.int .i64 7,.string n,.string m,.int .i64 i,.int .i64 d,.slice A len cap]] w fun e w' =>
  e=.returned (.int .i64 (aj 7 n m i d len))∧Below w.heap.size w w':=by
 have HSH:Hid (bB 7=(0,0,2,true)):=rfl
 have HN:aj 7 n m i d len=if ak 0 0 2 n m i d len then 1 else if ah 7 n m 0=0 then bU 7 i d else ah 7 n m 0:=rfl
 have HN':=Sk HN
 clear HN
 cases hn:n.toList.isEmpty
 have HR:=Sk (show aj 7 n m i d len=1 by rw[HN'.out];simp[ak,hn])
 rotate_left
 cases hm:m.toList.isEmpty
 have HR:=Sk (show aj 7 n m i d len=1 by rw[HN'.out];simp[ak,hm])
 rotate_left
 rcases (TP (i=0)).symm with zi|zi
 have bi:(i==0)=false:=by simpa using zi
 have ci:(i != 0)=true:=by simpa using zi
 have HR:=Sk (show aj 7 n m i d len=1 by rw[HN'.out];simp[ak,ci])
 clear zi
 rotate_left
 have bi:(i==0)=true:=by simpa using zi
 have ci:(i != 0)=false:=by simpa using zi
 clear zi
 rcases (TP (d=0)).symm with zd|zd
 have bd:(d==0)=false:=by simpa using zd
 have cd:(d != 0)=true:=by simpa using zd
 have HR:=Sk (show aj 7 n m i d len=1 by rw[HN'.out];simp[ak,cd])
 clear zd
 rotate_left
 have bd:(d==0)=true:=by simpa using zd
 have cd:(d != 0)=false:=by simpa using zd
 clear zd
 rcases (TP (len=2)).symm with zl|zl
 have bl:((len:Int)==2)=false:=by simp;omega
 have cl:((len:Int) != 2)=true:=by simp;omega
 have HR:=Sk (show aj 7 n m i d len=1 by rw[HN'.out];simp[ak,cl])
 clear zl
 rotate_left
 subst zl
 have HA:=Sk (show ak 0 0 2 n m i d 2=false by simp[ak,hn,hm,ci,cd])
 by_cases ze:ah 7 n m 0=0
 have be:(ah 7 n m 0 != 0)=false:=by simpa using ze
 have HR:=Sk (show aj 7 n m i d 2=bU 7 i d by rw[HN'.out,HA.out];simp[ze])
 clear ze
 rotate_left
 have be:(ah 7 n m 0 != 0)=true:=by simpa using ze
 have HR:=Sk (show aj 7 n m i d 2=ah 7 n m 0 by rw[HN'.out,HA.out];simp[ze])
 clear ze
 all_goals (
  go_enter Tryz.func173,Tryz.ntmps173
  go_wp2_with (first|(go_at_call 233;refine(bV _ _ _ _ _ _ HSH.out).mono ?_;rintro e w1 ⟨rfl,hb1⟩;obtain⟨hc1,hf1⟩:=aN hb1;obtain⟨hB1,hz1⟩:=ay hb1)|(go_at_call 234;refine(bI _ _ _ _ _ _ _ _ _ _ HSH.out).mono ?_;rintro e w2 ⟨rfl,hb2⟩;obtain⟨hc2,hf2⟩:=aN hb2;obtain⟨hB2,hz2⟩:=dI hB1 hb2)|(go_at_call 235;refine(bC _ _ _ _ _ _ _).mono ?_;rintro e w3 ⟨rfl,hb3⟩;have hB3:=hB2.trans (hb3.mono (by omega))))
  go_ret
  exact⟨by rw[HR.out];rfl,by first|exact hB1.alloc hB1.size _|exact hB3|exact hB2⟩)
theorem Ag (n m:ByteArray)(i d:Int)(A:Option Addr)(len cap:Nat)(w:World):Calls Tryz.prog 173 #[.agg #[.int .i64 12,.string n,.string m,.int .i64 i,.int .i64 d,.slice A len cap]] w fun e w' =>
  e=.returned (.int .i64 (aj 12 n m i d len))∧Below w.heap.size w w':=by
 have HSH:Hid (bB 12=(0,0,2,true)):=rfl
 have HN:aj 12 n m i d len=if ak 0 0 2 n m i d len then 1 else if ah 12 n m 0=0 then bU 12 i d else ah 12 n m 0:=rfl
 have HN':=Sk HN
 clear HN
 cases hn:n.toList.isEmpty
 have HR:=Sk (show aj 12 n m i d len=1 by rw[HN'.out];simp[ak,hn])
 rotate_left
 cases hm:m.toList.isEmpty
 have HR:=Sk (show aj 12 n m i d len=1 by rw[HN'.out];simp[ak,hm])
 rotate_left
 rcases (TP (i=0)).symm with zi|zi
 have bi:(i==0)=false:=by simpa using zi
 have ci:(i != 0)=true:=by simpa using zi
 have HR:=Sk (show aj 12 n m i d len=1 by rw[HN'.out];simp[ak,ci])
 clear zi
 rotate_left
 have bi:(i==0)=true:=by simpa using zi
 have ci:(i != 0)=false:=by simpa using zi
 clear zi
 rcases (TP (d=0)).symm with zd|zd
 have bd:(d==0)=false:=by simpa using zd
 have cd:(d != 0)=true:=by simpa using zd
 have HR:=Sk (show aj 12 n m i d len=1 by rw[HN'.out];simp[ak,cd])
 clear zd
 rotate_left
 have bd:(d==0)=true:=by simpa using zd
 have cd:(d != 0)=false:=by simpa using zd
 clear zd
 rcases (TP (len=2)).symm with zl|zl
 have bl:((len:Int)==2)=false:=by simp;omega
 have cl:((len:Int) != 2)=true:=by simp;omega
 have HR:=Sk (show aj 12 n m i d len=1 by rw[HN'.out];simp[ak,cl])
 clear zl
 rotate_left
 subst zl
 have HA:=Sk (show ak 0 0 2 n m i d 2=false by simp[ak,hn,hm,ci,cd])
 by_cases ze:ah 12 n m 0=0
 have be:(ah 12 n m 0 != 0)=false:=by simpa using ze
 have HR:=Sk (show aj 12 n m i d 2=bU 12 i d by rw[HN'.out,HA.out];simp[ze])
 clear ze
 rotate_left
 have be:(ah 12 n m 0 != 0)=true:=by simpa using ze
 have HR:=Sk (show aj 12 n m i d 2=ah 12 n m 0 by rw[HN'.out,HA.out];simp[ze])
 clear ze
 all_goals (
  go_enter Tryz.func173,Tryz.ntmps173
  go_wp2_with (first|(go_at_call 233;refine(bV _ _ _ _ _ _ HSH.out).mono ?_;rintro e w1 ⟨rfl,hb1⟩;obtain⟨hc1,hf1⟩:=aN hb1;obtain⟨hB1,hz1⟩:=ay hb1)|(go_at_call 234;refine(bI _ _ _ _ _ _ _ _ _ _ HSH.out).mono ?_;rintro e w2 ⟨rfl,hb2⟩;obtain⟨hc2,hf2⟩:=aN hb2;obtain⟨hB2,hz2⟩:=dI hB1 hb2)|(go_at_call 235;refine(bC _ _ _ _ _ _ _).mono ?_;rintro e w3 ⟨rfl,hb3⟩;have hB3:=hB2.trans (hb3.mono (by omega))))
  go_ret
  exact⟨by rw[HR.out];rfl,by first|exact hB1.alloc hB1.size _|exact hB3|exact hB2⟩)
theorem CV (n m:ByteArray)(i d:Int)(A:Option Addr)(len cap:Nat)(w:World):Calls Tryz.prog 173 #[.agg #[.int .i64 8,.string n,.string m,.int .i64 i,.int .i64 d,.slice A len cap]] w fun e w' =>
  e=.returned (.int .i64 (aj 8 n m i d len))∧Below w.heap.size w w':=by
 have HSH:Hid (bB 8=(1,0,2,true)):=rfl
 have HN:aj 8 n m i d len=if ak 1 0 2 n m i d len then 1 else if ah 8 n m 1=0 then bU 8 i d else ah 8 n m 1:=rfl
 have HN':=Sk HN
 clear HN
 cases hm:m.toList.isEmpty
 have HR:=Sk (show aj 8 n m i d len=1 by rw[HN'.out];simp[ak,hm])
 rotate_left
 rcases (TP (i=0)).symm with zi|zi
 have bi:(i==0)=false:=by simpa using zi
 have ci:(i != 0)=true:=by simpa using zi
 have HR:=Sk (show aj 8 n m i d len=1 by rw[HN'.out];simp[ak,ci])
 clear zi
 rotate_left
 have bi:(i==0)=true:=by simpa using zi
 have ci:(i != 0)=false:=by simpa using zi
 clear zi
 rcases (TP (d=0)).symm with zd|zd
 have bd:(d==0)=false:=by simpa using zd
 have cd:(d != 0)=true:=by simpa using zd
 have HR:=Sk (show aj 8 n m i d len=1 by rw[HN'.out];simp[ak,cd])
 clear zd
 rotate_left
 have bd:(d==0)=true:=by simpa using zd
 have cd:(d != 0)=false:=by simpa using zd
 clear zd
 rcases (TP (len=2)).symm with zl|zl
 have bl:((len:Int)==2)=false:=by simp;omega
 have cl:((len:Int) != 2)=true:=by simp;omega
 have HR:=Sk (show aj 8 n m i d len=1 by rw[HN'.out];simp[ak,cl])
 clear zl
 rotate_left
 subst zl
 have HA:=Sk (show ak 1 0 2 n m i d 2=false by simp[ak,hm,ci,cd])
 by_cases ze:ah 8 n m 1=0
 have be:(ah 8 n m 1 != 0)=false:=by simpa using ze
 have HR:=Sk (show aj 8 n m i d 2=bU 8 i d by rw[HN'.out,HA.out];simp[ze])
 clear ze
 rotate_left
 have be:(ah 8 n m 1 != 0)=true:=by simpa using ze
 have HR:=Sk (show aj 8 n m i d 2=ah 8 n m 1 by rw[HN'.out,HA.out];simp[ze])
 clear ze
 all_goals (
  go_enter Tryz.func173,Tryz.ntmps173
  go_wp2_with (first|(go_at_call 233;refine(bV _ _ _ _ _ _ HSH.out).mono ?_;rintro e w1 ⟨rfl,hb1⟩;obtain⟨hc1,hf1⟩:=aN hb1;obtain⟨hB1,hz1⟩:=ay hb1)|(go_at_call 234;refine(bI _ _ _ _ _ _ _ _ _ _ HSH.out).mono ?_;rintro e w2 ⟨rfl,hb2⟩;obtain⟨hc2,hf2⟩:=aN hb2;obtain⟨hB2,hz2⟩:=dI hB1 hb2)|(go_at_call 235;refine(bC _ _ _ _ _ _ _).mono ?_;rintro e w3 ⟨rfl,hb3⟩;have hB3:=hB2.trans (hb3.mono (by omega))))
  go_ret
  exact⟨by rw[HR.out];rfl,by first|exact hB1.alloc hB1.size _|exact hB3|exact hB2⟩)
theorem Ah (n m:ByteArray)(i d:Int)(A:Option Addr)(len cap:Nat)(w:World):Calls Tryz.prog 173 #[.agg #[.int .i64 10,.string n,.string m,.int .i64 i,.int .i64 d,.slice A len cap]] w fun e w' =>
  e=.returned (.int .i64 (aj 10 n m i d len))∧Below w.heap.size w w':=by
 have HSH:Hid (bB 10=(1,0,2,true)):=rfl
 have HN:aj 10 n m i d len=if ak 1 0 2 n m i d len then 1 else if ah 10 n m 1=0 then bU 10 i d else ah 10 n m 1:=rfl
 have HN':=Sk HN
 clear HN
 cases hm:m.toList.isEmpty
 have HR:=Sk (show aj 10 n m i d len=1 by rw[HN'.out];simp[ak,hm])
 rotate_left
 rcases (TP (i=0)).symm with zi|zi
 have bi:(i==0)=false:=by simpa using zi
 have ci:(i != 0)=true:=by simpa using zi
 have HR:=Sk (show aj 10 n m i d len=1 by rw[HN'.out];simp[ak,ci])
 clear zi
 rotate_left
 have bi:(i==0)=true:=by simpa using zi
 have ci:(i != 0)=false:=by simpa using zi
 clear zi
 rcases (TP (d=0)).symm with zd|zd
 have bd:(d==0)=false:=by simpa using zd
 have cd:(d != 0)=true:=by simpa using zd
 have HR:=Sk (show aj 10 n m i d len=1 by rw[HN'.out];simp[ak,cd])
 clear zd
 rotate_left
 have bd:(d==0)=true:=by simpa using zd
 have cd:(d != 0)=false:=by simpa using zd
 clear zd
 rcases (TP (len=2)).symm with zl|zl
 have bl:((len:Int)==2)=false:=by simp;omega
 have cl:((len:Int) != 2)=true:=by simp;omega
 have HR:=Sk (show aj 10 n m i d len=1 by rw[HN'.out];simp[ak,cl])
 clear zl
 rotate_left
 subst zl
 have HA:=Sk (show ak 1 0 2 n m i d 2=false by simp[ak,hm,ci,cd])
 by_cases ze:ah 10 n m 1=0
 have be:(ah 10 n m 1 != 0)=false:=by simpa using ze
 have HR:=Sk (show aj 10 n m i d 2=bU 10 i d by rw[HN'.out,HA.out];simp[ze])
 clear ze
 rotate_left
 have be:(ah 10 n m 1 != 0)=true:=by simpa using ze
 have HR:=Sk (show aj 10 n m i d 2=ah 10 n m 1 by rw[HN'.out,HA.out];simp[ze])
 clear ze
 all_goals (
  go_enter Tryz.func173,Tryz.ntmps173
  go_wp2_with (first|(go_at_call 233;refine(bV _ _ _ _ _ _ HSH.out).mono ?_;rintro e w1 ⟨rfl,hb1⟩;obtain⟨hc1,hf1⟩:=aN hb1;obtain⟨hB1,hz1⟩:=ay hb1)|(go_at_call 234;refine(bI _ _ _ _ _ _ _ _ _ _ HSH.out).mono ?_;rintro e w2 ⟨rfl,hb2⟩;obtain⟨hc2,hf2⟩:=aN hb2;obtain⟨hB2,hz2⟩:=dI hB1 hb2)|(go_at_call 235;refine(bC _ _ _ _ _ _ _).mono ?_;rintro e w3 ⟨rfl,hb3⟩;have hB3:=hB2.trans (hb3.mono (by omega))))
  go_ret
  exact⟨by rw[HR.out];rfl,by first|exact hB1.alloc hB1.size _|exact hB3|exact hB2⟩)
theorem CW (n m:ByteArray)(i d:Int)(A:Option Addr)(len cap:Nat)(w:World):Calls Tryz.prog 173 #[.agg #[.int .i64 9,.string n,.string m,.int .i64 i,.int .i64 d,.slice A len cap]] w fun e w' =>
  e=.returned (.int .i64 (aj 9 n m i d len))∧Below w.heap.size w w':=by
 have HSH:Hid (bB 9=(0,0,3,true)):=rfl
 have HN:aj 9 n m i d len=if ak 0 0 3 n m i d len then 1 else if ah 9 n m 0=0 then bU 9 i d else ah 9 n m 0:=rfl
 have HN':=Sk HN
 clear HN
 cases hn:n.toList.isEmpty
 have HR:=Sk (show aj 9 n m i d len=1 by rw[HN'.out];simp[ak,hn])
 rotate_left
 cases hm:m.toList.isEmpty
 have HR:=Sk (show aj 9 n m i d len=1 by rw[HN'.out];simp[ak,hm])
 rotate_left
 rcases (TP (i=0)).symm with zi|zi
 have bi:(i==0)=false:=by simpa using zi
 have ci:(i != 0)=true:=by simpa using zi
 have HR:=Sk (show aj 9 n m i d len=1 by rw[HN'.out];simp[ak,ci])
 clear zi
 rotate_left
 have bi:(i==0)=true:=by simpa using zi
 have ci:(i != 0)=false:=by simpa using zi
 clear zi
 rcases (TP (d=0)).symm with zd|zd
 have bd:(d==0)=false:=by simpa using zd
 have cd:(d != 0)=true:=by simpa using zd
 have HR:=Sk (show aj 9 n m i d len=1 by rw[HN'.out];simp[ak,cd])
 clear zd
 rotate_left
 have bd:(d==0)=true:=by simpa using zd
 have cd:(d != 0)=false:=by simpa using zd
 clear zd
 rcases (TP (len=3)).symm with zl|zl
 have bl:((len:Int)==3)=false:=by simp;omega
 have cl:((len:Int) != 3)=true:=by simp;omega
 have HR:=Sk (show aj 9 n m i d len=1 by rw[HN'.out];simp[ak,cl])
 clear zl
 rotate_left
 subst zl
 have HA:=Sk (show ak 0 0 3 n m i d 3=false by simp[ak,hn,hm,ci,cd])
 by_cases ze:ah 9 n m 0=0
 have be:(ah 9 n m 0 != 0)=false:=by simpa using ze
 have HR:=Sk (show aj 9 n m i d 3=bU 9 i d by rw[HN'.out,HA.out];simp[ze])
 clear ze
 rotate_left
 have be:(ah 9 n m 0 != 0)=true:=by simpa using ze
 have HR:=Sk (show aj 9 n m i d 3=ah 9 n m 0 by rw[HN'.out,HA.out];simp[ze])
 clear ze
 all_goals (
  go_enter Tryz.func173,Tryz.ntmps173
  go_wp2_with (first|(go_at_call 233;refine(bV _ _ _ _ _ _ HSH.out).mono ?_;rintro e w1 ⟨rfl,hb1⟩;obtain⟨hc1,hf1⟩:=aN hb1;obtain⟨hB1,hz1⟩:=ay hb1)|(go_at_call 234;refine(bI _ _ _ _ _ _ _ _ _ _ HSH.out).mono ?_;rintro e w2 ⟨rfl,hb2⟩;obtain⟨hc2,hf2⟩:=aN hb2;obtain⟨hB2,hz2⟩:=dI hB1 hb2)|(go_at_call 235;refine(bC _ _ _ _ _ _ _).mono ?_;rintro e w3 ⟨rfl,hb3⟩;have hB3:=hB2.trans (hb3.mono (by omega))))
  go_ret
  exact⟨by rw[HR.out];rfl,by first|exact hB1.alloc hB1.size _|exact hB3|exact hB2⟩)
theorem Ai (n m:ByteArray)(i d:Int)(A:Option Addr)(len cap:Nat)(w:World):Calls Tryz.prog 173 #[.agg #[.int .i64 15,.string n,.string m,.int .i64 i,.int .i64 d,.slice A len cap]] w fun e w' =>
  e=.returned (.int .i64 (aj 15 n m i d len))∧Below w.heap.size w w':=by
 have HSH:Hid (bB 15=(0,0,3,true)):=rfl
 have HN:aj 15 n m i d len=if ak 0 0 3 n m i d len then 1 else if ah 15 n m 0=0 then bU 15 i d else ah 15 n m 0:=rfl
 have HN':=Sk HN
 clear HN
 cases hn:n.toList.isEmpty
 have HR:=Sk (show aj 15 n m i d len=1 by rw[HN'.out];simp[ak,hn])
 rotate_left
 cases hm:m.toList.isEmpty
 have HR:=Sk (show aj 15 n m i d len=1 by rw[HN'.out];simp[ak,hm])
 rotate_left
 rcases (TP (i=0)).symm with zi|zi
 have bi:(i==0)=false:=by simpa using zi
 have ci:(i != 0)=true:=by simpa using zi
 have HR:=Sk (show aj 15 n m i d len=1 by rw[HN'.out];simp[ak,ci])
 clear zi
 rotate_left
 have bi:(i==0)=true:=by simpa using zi
 have ci:(i != 0)=false:=by simpa using zi
 clear zi
 rcases (TP (d=0)).symm with zd|zd
 have bd:(d==0)=false:=by simpa using zd
 have cd:(d != 0)=true:=by simpa using zd
 have HR:=Sk (show aj 15 n m i d len=1 by rw[HN'.out];simp[ak,cd])
 clear zd
 rotate_left
 have bd:(d==0)=true:=by simpa using zd
 have cd:(d != 0)=false:=by simpa using zd
 clear zd
 rcases (TP (len=3)).symm with zl|zl
 have bl:((len:Int)==3)=false:=by simp;omega
 have cl:((len:Int) != 3)=true:=by simp;omega
 have HR:=Sk (show aj 15 n m i d len=1 by rw[HN'.out];simp[ak,cl])
 clear zl
 rotate_left
 subst zl
 have HA:=Sk (show ak 0 0 3 n m i d 3=false by simp[ak,hn,hm,ci,cd])
 by_cases ze:ah 15 n m 0=0
 have be:(ah 15 n m 0 != 0)=false:=by simpa using ze
 have HR:=Sk (show aj 15 n m i d 3=bU 15 i d by rw[HN'.out,HA.out];simp[ze])
 clear ze
 rotate_left
 have be:(ah 15 n m 0 != 0)=true:=by simpa using ze
 have HR:=Sk (show aj 15 n m i d 3=ah 15 n m 0 by rw[HN'.out,HA.out];simp[ze])
 clear ze
 all_goals (
  go_enter Tryz.func173,Tryz.ntmps173
  go_wp2_with (first|(go_at_call 233;refine(bV _ _ _ _ _ _ HSH.out).mono ?_;rintro e w1 ⟨rfl,hb1⟩;obtain⟨hc1,hf1⟩:=aN hb1;obtain⟨hB1,hz1⟩:=ay hb1)|(go_at_call 234;refine(bI _ _ _ _ _ _ _ _ _ _ HSH.out).mono ?_;rintro e w2 ⟨rfl,hb2⟩;obtain⟨hc2,hf2⟩:=aN hb2;obtain⟨hB2,hz2⟩:=dI hB1 hb2)|(go_at_call 235;refine(bC _ _ _ _ _ _ _).mono ?_;rintro e w3 ⟨rfl,hb3⟩;have hB3:=hB2.trans (hb3.mono (by omega))))
  go_ret
  exact⟨by rw[HR.out];rfl,by first|exact hB1.alloc hB1.size _|exact hB3|exact hB2⟩)
theorem Aj (n m:ByteArray)(i d:Int)(A:Option Addr)(len cap:Nat)(w:World):Calls Tryz.prog 173 #[.agg #[.int .i64 11,.string n,.string m,.int .i64 i,.int .i64 d,.slice A len cap]] w fun e w' =>
  e=.returned (.int .i64 (aj 11 n m i d len))∧Below w.heap.size w w':=by
 have HSH:Hid (bB 11=(0,0,0,true)):=rfl
 have HN:aj 11 n m i d len=if ak 0 0 0 n m i d len then 1 else if ah 11 n m 0=0 then bU 11 i d else ah 11 n m 0:=rfl
 have HN':=Sk HN
 clear HN
 cases hn:n.toList.isEmpty
 have HR:=Sk (show aj 11 n m i d len=1 by rw[HN'.out];simp[ak,hn])
 rotate_left
 cases hm:m.toList.isEmpty
 have HR:=Sk (show aj 11 n m i d len=1 by rw[HN'.out];simp[ak,hm])
 rotate_left
 rcases (TP (i=0)).symm with zi|zi
 have bi:(i==0)=false:=by simpa using zi
 have ci:(i != 0)=true:=by simpa using zi
 have HR:=Sk (show aj 11 n m i d len=1 by rw[HN'.out];simp[ak,ci])
 clear zi
 rotate_left
 have bi:(i==0)=true:=by simpa using zi
 have ci:(i != 0)=false:=by simpa using zi
 clear zi
 rcases (TP (d=0)).symm with zd|zd
 have bd:(d==0)=false:=by simpa using zd
 have cd:(d != 0)=true:=by simpa using zd
 have HR:=Sk (show aj 11 n m i d len=1 by rw[HN'.out];simp[ak,cd])
 clear zd
 rotate_left
 have bd:(d==0)=true:=by simpa using zd
 have cd:(d != 0)=false:=by simpa using zd
 clear zd
 rcases (TP (len=0)).symm with zl|zl
 have bl:((len:Int)==0)=false:=by simp;omega
 have cl:((len:Int) != 0)=true:=by simp;omega
 have HR:=Sk (show aj 11 n m i d len=1 by rw[HN'.out];simp[ak,cl])
 clear zl
 rotate_left
 subst zl
 have HA:=Sk (show ak 0 0 0 n m i d 0=false by simp[ak,hn,hm,ci,cd])
 by_cases ze:ah 11 n m 0=0
 have be:(ah 11 n m 0 != 0)=false:=by simpa using ze
 have HR:=Sk (show aj 11 n m i d 0=bU 11 i d by rw[HN'.out,HA.out];simp[ze])
 clear ze
 rotate_left
 have be:(ah 11 n m 0 != 0)=true:=by simpa using ze
 have HR:=Sk (show aj 11 n m i d 0=ah 11 n m 0 by rw[HN'.out,HA.out];simp[ze])
 clear ze
 all_goals (
  go_enter Tryz.func173,Tryz.ntmps173
  go_wp2_with (first|(go_at_call 233;refine(bV _ _ _ _ _ _ HSH.out).mono ?_;rintro e w1 ⟨rfl,hb1⟩;obtain⟨hc1,hf1⟩:=aN hb1;obtain⟨hB1,hz1⟩:=ay hb1)|(go_at_call 234;refine(bI _ _ _ _ _ _ _ _ _ _ HSH.out).mono ?_;rintro e w2 ⟨rfl,hb2⟩;obtain⟨hc2,hf2⟩:=aN hb2;obtain⟨hB2,hz2⟩:=dI hB1 hb2)|(go_at_call 235;refine(bC _ _ _ _ _ _ _).mono ?_;rintro e w3 ⟨rfl,hb3⟩;have hB3:=hB2.trans (hb3.mono (by omega))))
  go_ret
  exact⟨by rw[HR.out];rfl,by first|exact hB1.alloc hB1.size _|exact hB3|exact hB2⟩)
theorem Ak (n m:ByteArray)(i d:Int)(A:Option Addr)(len cap:Nat)(w:World):Calls Tryz.prog 173 #[.agg #[.int .i64 13,.string n,.string m,.int .i64 i,.int .i64 d,.slice A len cap]] w fun e w' =>
  e=.returned (.int .i64 (aj 13 n m i d len))∧Below w.heap.size w w':=by
 have HSH:Hid (bB 13=(2,0,3,true)):=rfl
 have HN:aj 13 n m i d len=if ak 2 0 3 n m i d len then 1 else if ah 13 n m 2=0 then bU 13 i d else ah 13 n m 2:=rfl
 have HN':=Sk HN
 clear HN
 rcases (TP (i=0)).symm with zi|zi
 have bi:(i==0)=false:=by simpa using zi
 have ci:(i != 0)=true:=by simpa using zi
 have HR:=Sk (show aj 13 n m i d len=1 by rw[HN'.out];simp[ak,ci])
 clear zi
 rotate_left
 have bi:(i==0)=true:=by simpa using zi
 have ci:(i != 0)=false:=by simpa using zi
 clear zi
 rcases (TP (d=0)).symm with zd|zd
 have bd:(d==0)=false:=by simpa using zd
 have cd:(d != 0)=true:=by simpa using zd
 have HR:=Sk (show aj 13 n m i d len=1 by rw[HN'.out];simp[ak,cd])
 clear zd
 rotate_left
 have bd:(d==0)=true:=by simpa using zd
 have cd:(d != 0)=false:=by simpa using zd
 clear zd
 rcases (TP (len=3)).symm with zl|zl
 have bl:((len:Int)==3)=false:=by simp;omega
 have cl:((len:Int) != 3)=true:=by simp;omega
 have HR:=Sk (show aj 13 n m i d len=1 by rw[HN'.out];simp[ak,cl])
 clear zl
 rotate_left
 subst zl
 have HA:=Sk (show ak 2 0 3 n m i d 3=false by simp[ak,ci,cd])
 by_cases ze:ah 13 n m 2=0
 have be:(ah 13 n m 2 != 0)=false:=by simpa using ze
 have HR:=Sk (show aj 13 n m i d 3=bU 13 i d by rw[HN'.out,HA.out];simp[ze])
 clear ze
 rotate_left
 have be:(ah 13 n m 2 != 0)=true:=by simpa using ze
 have HR:=Sk (show aj 13 n m i d 3=ah 13 n m 2 by rw[HN'.out,HA.out];simp[ze])
 clear ze
 all_goals (
  go_enter Tryz.func173,Tryz.ntmps173
  go_wp2_with (first|(go_at_call 233;refine(bV _ _ _ _ _ _ HSH.out).mono ?_;rintro e w1 ⟨rfl,hb1⟩;obtain⟨hc1,hf1⟩:=aN hb1;obtain⟨hB1,hz1⟩:=ay hb1)|(go_at_call 234;refine(bI _ _ _ _ _ _ _ _ _ _ HSH.out).mono ?_;rintro e w2 ⟨rfl,hb2⟩;obtain⟨hc2,hf2⟩:=aN hb2;obtain⟨hB2,hz2⟩:=dI hB1 hb2)|(go_at_call 235;refine(bC _ _ _ _ _ _ _).mono ?_;rintro e w3 ⟨rfl,hb3⟩;have hB3:=hB2.trans (hb3.mono (by omega))))
  go_ret
  exact⟨by rw[HR.out];rfl,by first|exact hB1.alloc hB1.size _|exact hB3|exact hB2⟩)
theorem Al (n m:ByteArray)(i d:Int)(A:Option Addr)(len cap:Nat)(w:World):Calls Tryz.prog 173 #[.agg #[.int .i64 14,.string n,.string m,.int .i64 i,.int .i64 d,.slice A len cap]] w fun e w' =>
  e=.returned (.int .i64 (aj 14 n m i d len))∧Below w.heap.size w w':=by
 have HSH:Hid (bB 14=(0,2,0,true)):=rfl
 have HN:aj 14 n m i d len=if ak 0 2 0 n m i d len then 1 else if ah 14 n m 0=0 then bU 14 i d else ah 14 n m 0:=rfl
 have HN':=Sk HN
 clear HN
 cases hn:n.toList.isEmpty
 have HR:=Sk (show aj 14 n m i d len=1 by rw[HN'.out];simp[ak,hn])
 rotate_left
 cases hm:m.toList.isEmpty
 have HR:=Sk (show aj 14 n m i d len=1 by rw[HN'.out];simp[ak,hm])
 rotate_left
 rcases (TP (len=0)).symm with zl|zl
 have bl:((len:Int)==0)=false:=by simp;omega
 have cl:((len:Int) != 0)=true:=by simp;omega
 have HR:=Sk (show aj 14 n m i d len=1 by rw[HN'.out];simp[ak,cl])
 clear zl
 rotate_left
 subst zl
 have HA:=Sk (show ak 0 2 0 n m i d 0=false by simp[ak,hn,hm])
 by_cases ze:ah 14 n m 0=0
 have be:(ah 14 n m 0 != 0)=false:=by simpa using ze
 have HR:=Sk (show aj 14 n m i d 0=bU 14 i d by rw[HN'.out,HA.out];simp[ze])
 clear ze
 rotate_left
 have be:(ah 14 n m 0 != 0)=true:=by simpa using ze
 have HR:=Sk (show aj 14 n m i d 0=ah 14 n m 0 by rw[HN'.out,HA.out];simp[ze])
 clear ze
 all_goals (
  go_enter Tryz.func173,Tryz.ntmps173
  go_wp2_with (first|(go_at_call 233;refine(bV _ _ _ _ _ _ HSH.out).mono ?_;rintro e w1 ⟨rfl,hb1⟩;obtain⟨hc1,hf1⟩:=aN hb1;obtain⟨hB1,hz1⟩:=ay hb1)|(go_at_call 234;refine(bI _ _ _ _ _ _ _ _ _ _ HSH.out).mono ?_;rintro e w2 ⟨rfl,hb2⟩;obtain⟨hc2,hf2⟩:=aN hb2;obtain⟨hB2,hz2⟩:=dI hB1 hb2)|(go_at_call 235;refine(bC _ _ _ _ _ _ _).mono ?_;rintro e w3 ⟨rfl,hb3⟩;have hB3:=hB2.trans (hb3.mono (by omega))))
  go_ret
  exact⟨by rw[HR.out];rfl,by first|exact hB1.alloc hB1.size _|exact hB3|exact hB2⟩)
theorem Am (k:Int)(hk:¬eU k)(n m:ByteArray)(i d:Int)(A:Option Addr)(len cap:Nat)(w:World):Calls Tryz.prog 173 #[.agg #[.int .i64 k,.string n,.string m,.int .i64 i,.int .i64 d,.slice A len cap]] w fun e w' =>
  e=.returned (.int .i64 (aj k n m i d len))∧Below w.heap.size w w':=by
 have HSH:=Sk (iZ hk)
 have HR:=Sk (show aj k n m i d len=9 by unfold aj;rw[HSH.out])
 clear hk
 go_enter Tryz.func173,Tryz.ntmps173
 go_wp2_with (go_at_call 233;refine(bV _ _ _ _ _ _ HSH.out).mono ?_;rintro e w1 ⟨rfl,hb1⟩;obtain⟨hB1,hz1⟩:=ay hb1)
 go_ret
 exact⟨by rw[HR.out];rfl,hB1.alloc hB1.size _⟩
theorem qx (k:Int)(n m:ByteArray)(i d:Int)(A:Option Addr)(len cap:Nat)(w:World):Calls Tryz.prog 173 #[.agg #[.int .i64 k,.string n,.string m,.int .i64 i,.int .i64 d,.slice A len cap]] w fun e w' =>
  e=.returned (.int .i64 (aj k n m i d len))∧Below w.heap.size w w':=by
 by_cases h:eU k
 ·unfold eU at h
  rcases h with rfl|rfl|rfl|rfl|rfl|rfl|rfl|rfl|rfl|rfl|rfl|rfl|rfl|rfl|rfl
  ·exact CK n m i d A len cap w
  ·exact CO n m i d A len cap w
  ·exact CP n m i d A len cap w
  ·exact CQ n m i d A len cap w
  ·exact CR n m i d A len cap w
  ·exact CS n m i d A len cap w
  ·exact CU n m i d A len cap w
  ·exact Ag n m i d A len cap w
  ·exact CV n m i d A len cap w
  ·exact Ah n m i d A len cap w
  ·exact CW n m i d A len cap w
  ·exact Ai n m i d A len cap w
  ·exact Aj n m i d A len cap w
  ·exact Ak n m i d A len cap w
  ·exact Al n m i d A len cap w
 ·exact Am k h n m i d A len cap w
end Go.Proofs.Q
