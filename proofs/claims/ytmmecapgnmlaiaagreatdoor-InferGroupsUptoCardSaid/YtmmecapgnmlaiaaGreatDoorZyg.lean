/- helper lemmas -/
import Derived.Test.YtmmecapgnmlaiaaGreatDoorZyc
import Derived.Test.YtmmecapgnmlaiaaGreatDoorZxg
set_option maxRecDepth 100000
set_option maxHeartbeats 16000000
namespace Go.Proofs.Q
open Go.RowKit Go.Proofs Go.Shelf
theorem lM (k a b c:Int)(ok:Bool)(w:World)(h:bB k=(a,b,c,ok)):Calls Tryz.prog 273 #[.int .i64 k] w fun e w' =>
  e=.returned (.tuple #[.agg #[.bool (decide (1≤a)),.bool (decide (2≤a)),.bool (decide (1≤b)),.bool (decide (2≤b)),.int .i64 c],.bool ok])∧Below w.heap.size w w':=by
 have HB:=Sk (fun o=>(TA w.heap.size w).alloc (SA _) o)
 by_cases hk:eU k
 ·unfold eU at hk
  rcases hk with rfl|rfl|rfl|rfl|rfl|rfl|rfl|rfl|rfl|rfl|rfl|rfl|rfl|rfl|rfl
  all_goals
   simp only[bB,Int.reduceEq,if_true,if_false,Prod.mk.injEq]at h
   obtain⟨rfl,rfl,rfl,rfl⟩:=h
   go_enter Tryz.func273,Tryz.ntmps273
   go_wp2
   exact Ua (by simp[results,Tryz.results273,go_sem]) rfl ⟨rfl,HB.out _⟩
 ·rw[iZ hk]at h
  simp only[Prod.mk.injEq]at h
  obtain⟨rfl,rfl,rfl,rfl⟩:=h
  unfold eU at hk
  have HK:=Sk hk
  clear hk
  have n1:(k==1)=false:=by have:=HK.out;simp;omega
  have n2:(k==2)=false:=by have:=HK.out;simp;omega
  have n3:(k==3)=false:=by have:=HK.out;simp;omega
  have n4:(k==4)=false:=by have:=HK.out;simp;omega
  have n5:(k==5)=false:=by have:=HK.out;simp;omega
  have n6:(k==6)=false:=by have:=HK.out;simp;omega
  have n7:(k==7)=false:=by have:=HK.out;simp;omega
  have n12:(k==12)=false:=by have:=HK.out;simp;omega
  have n8:(k==8)=false:=by have:=HK.out;simp;omega
  have n10:(k==10)=false:=by have:=HK.out;simp;omega
  have n9:(k==9)=false:=by have:=HK.out;simp;omega
  have n15:(k==15)=false:=by have:=HK.out;simp;omega
  have n11:(k==11)=false:=by have:=HK.out;simp;omega
  have n13:(k==13)=false:=by have:=HK.out;simp;omega
  have n14:(k==14)=false:=by have:=HK.out;simp;omega
  go_enter Tryz.func273,Tryz.ntmps273
  go_wp2
  exact Ua (by simp[results,Tryz.results273,go_sem]) rfl ⟨rfl,HB.out _⟩
theorem BR (k:Int)(n m:ByteArray)(i d:Int)(v:Value)(w:World):Calls Tryz.prog 275 #[.agg #[.int .i64 k,.string n,.string m,.int .i64 i,.int .i64 d,v]] w fun e w' =>
  e=.returned (.bool (kC k i d))∧Below w.heap.size w w':=by
 have HB:=Sk (fun o=>(TA w.heap.size w).alloc (SA _) o)
 by_cases hk:k=1∨k=2∨k=5∨k=14
 ·rcases hk with rfl|rfl|rfl|rfl
  all_goals
   go_enter Tryz.func275,Tryz.ntmps275
   go_wp2
  all_goals go_ret
  all_goals refine⟨zT ?_,HB.out _⟩
  all_goals simp[kC]
  all_goals (try simp_all)
  all_goals (try omega)
 ·have HK:=Sk hk
  have n1:(k==1)=false:=by simp;omega
  have n2:(k==2)=false:=by simp;omega
  have n5:(k==5)=false:=by simp;omega
  have n14:(k==14)=false:=by simp;omega
  clear hk
  go_enter Tryz.func275,Tryz.ntmps275
  go_wp2
  go_ret
  refine⟨zT ?_,HB.out _⟩
  have:=HK.out
  unfold kC
  rw[TW (by omega),TW (by omega),TW (by omega),TW (by omega)]
def oo:List ByteArray:=[⟨#[43]⟩,⟨#[45]⟩,⟨#[42]⟩,⟨#[61]⟩,⟨#[60]⟩]
theorem Ec (n:ByteArray):gU oo n=opB n:=by
 have e:n.toList=n.data.toList:=ByteArray.toList_eq n
 have hsz:n.data.toList.length=n.size:=by simp
 unfold gU opB oo
 rw[e]
 generalize n.data.toList=l at hsz
 rw[←hsz]
 match l with
 | []=>simp[ByteArray.toList_eq]
 | [c] =>
  simp only[List.any_cons,List.any_nil,ByteArray.toList_eq,List.headD_cons,Lib.indexByte,SY,decide_true,Bool.true_and]
  by_cases h1:c=43
  ·subst h1;rfl
  by_cases h2:c=45
  ·subst h2;rfl
  by_cases h3:c=42
  ·subst h3;rfl
  by_cases h4:c=61
  ·subst h4;rfl
  by_cases h5:c=60
  ·subst h5;rfl
  simp[h1,h2,h3,h4,h5,Ne.symm h1,Ne.symm h2,Ne.symm h3,Ne.symm h4,Ne.symm h5]
 | c::c'::r =>
  simp[ByteArray.toList_eq]
def gY (k:Int)(n m:ByteArray)(p q:Bool):Bool:=(!q||aT m)&&(if k=5 then n.toList.isEmpty||bN n else if k=10 then opB n else !p||aT n)
theorem Ee (w:World):SlS (w.alloc (.cells #[.string ⟨#[43]⟩,.string ⟨#[45]⟩,.string ⟨#[42]⟩,.string ⟨#[61]⟩,.string ⟨#[60]⟩] 9)) (w.alloc (.cells #[.string ⟨#[43]⟩,.string ⟨#[45]⟩,.string ⟨#[42]⟩,.string ⟨#[61]⟩,.string ⟨#[60]⟩] 9)).heap.size (some ⟨w.heap.size,0,none⟩) 5 oo:=Eb w oo _ (by decide)
theorem BS (k:Int)(n m:ByteArray)(i d:Int)(v:Value)(p q r1 r2:Bool)(c:Int)(w:World)(hn:n.size≤1000)(hm:m.size≤1000)(hq:q=false∨aT m=true) :
  Calls Tryz.prog 274 #[.agg #[.int .i64 k,.string n,.string m,.int .i64 i,.int .i64 d,v],.agg #[.bool p,.bool q,.bool r1,.bool r2,.int .i64 c]] w fun e w' =>
  e=.returned (.bool (if k=5 then n.toList.isEmpty||bN n else if k=10 then opB n else !p||aT n))∧Below w.heap.size w w':=by
 obtain⟨W0,hW0⟩:∃W0,(w.alloc (.cells #[.int .i64 k,.string n,.string m,.int .i64 i,.int .i64 d,v] 44)).alloc (.cells #[.bool p,.bool q,.bool r1,.bool r2,.int .i64 c] 310)=W0:=⟨_,rfl⟩
 have hB0:Below w.heap.size w W0:=by subst hW0;exact((TA _ _).alloc (SA _) _).alloc (by simp) _
 have hz0:w.heap.size+2=W0.heap.size:=by subst hW0;simp
 have hx0:W0.heap[w.heap.size]?=some (.cells #[.int .i64 k,.string n,.string m,.int .i64 i,.int .i64 d,v] 44 (0,0)):=by
  rw[←hW0,Tt _ _ _ (by simp)]
  exact Sv w _
 have hx1:W0.heap[w.heap.size+1]?=some (.cells #[.bool p,.bool q,.bool r1,.bool r2,.int .i64 c] 310 (0,0)):=by
  rw[←hW0]
  have:=Sv (w.alloc (.cells #[.int .i64 k,.string n,.string m,.int .i64 i,.int .i64 d,v] 44)) (.cells #[.bool p,.bool q,.bool r1,.bool r2,.int .i64 c] 310)
  simpa using this
 have HC:Hid (∀X,Below W0.heap.size W0 X→Below w.heap.size w X∧X.cell? ⟨w.heap.size,0,none⟩=some (.int .i64 k)∧X.cell? ⟨w.heap.size,1,none⟩=some (.string n)∧X.cell? ⟨w.heap.size,2,none⟩=some (.string m)∧X.cell? ⟨w.heap.size+1,0,none⟩=some (.bool p)∧X.cell? ⟨w.heap.size+1,1,none⟩=some (.bool q)):=fun X hX=>by
  have h0:=(hX.block w.heap.size (by omega)).trans hx0
  have h1:=(hX.block (w.heap.size+1) (by omega)).trans hx1
  exact⟨hB0.trans (hX.mono (by omega)),Sq X _ 0 _ _ (0,0) h0,Sq X _ 1 _ _ (0,0) h0,Sq X _ 2 _ _ (0,0) h0,Sq X _ 0 _ _ (0,0) h1,Sq X _ 1 _ _ (0,0) h1⟩
 obtain⟨_,x0,x1,x2,y0,y1⟩:=HC.out W0 (TA _ _)
 obtain⟨R,HR⟩:∃R,Hid ((if k=5 then n.toList.isEmpty||bN n else if k=10 then opB n else !p||aT n)=R):=⟨_,Sk rfl⟩
 rw[HR.out]
 clear hB0 hx0 hx1
 go_enter Tryz.func274,Tryz.ntmps274
 cases q with
 | false =>
  have HB:=Sk (TA W0.heap.size W0)
  clear hq
  by_cases k5:k=5
  ·subst k5
   cases he:n.toList.isEmpty with
   | true =>
    have ER:=Sk (show R=true by rw[←HR.out];simp[he])
    have he2:n.toList=[]:=by simpa using he
    clear HR
    go_wp2
    go_ret
    exact⟨by rw[ER.out];rfl,(HC.out _ HB.out).1⟩
   | false =>
    have ER:=Sk (show R=bN n by rw[←HR.out];simp[he])
    have HL:=Sk (jB n W0 (by omega))
    have he2:(n.toList==[])=false:=by simpa using he
    clear HR
    go_wp2_with fail
    refine HL.out.mono ?_
    rintro e w2 ⟨rfl,rfl⟩
    go_wp2
    go_ret
    exact⟨by rw[ER.out];rfl,(HC.out _ HB.out).1⟩
  have k5':(k==5)=false:=by simpa using k5
  by_cases k10:k=10
  ·subst k10
   have ER:=Sk (show R=gU oo n by rw[←HR.out,Ec];simp)
   have HH:=Sk (nJ oo n _ _ _ (Ee W0))
   rw[show oo.length=5 from rfl]at HH
   have HB2:=Sk ((HC.out _ HB.out).1.alloc (HC.out _ HB.out).1.size (.cells #[.string ⟨#[43]⟩,.string ⟨#[45]⟩,.string ⟨#[42]⟩,.string ⟨#[61]⟩,.string ⟨#[60]⟩] 9))
   clear HR
   have hzX:w.heap.size<W0.heap.size:=by have:=HB.out.size;omega
   go_wp2_with fail
   refine HH.out.mono ?_
   rintro e w2 ⟨rfl,rfl⟩
   go_wp2
   go_ret
   exact⟨by rw[ER.out];rfl,HB2.out⟩
  have QN:(k==10)=false:=by simpa using k10
  cases p with
  | false =>
   have ER:=Sk (show R=true by rw[←HR.out,TW k5,TW k10];rfl)
   clear HR k5 k10
   go_wp2
   go_ret
   exact⟨by rw[ER.out];rfl,(HC.out _ HB.out).1⟩
  | true =>
   have ER:=Sk (show R=aT n by rw[←HR.out,TW k5,TW k10];rfl)
   have HN:=Sk (jq n W0 (by omega))
   clear HR k5 k10
   go_wp2_with fail
   refine HN.out.mono ?_
   rintro e w2 ⟨rfl,hb2⟩
   have HB2:=Sk ((HC.out _ HB.out).1.trans (hb2.mono (HC.out _ HB.out).1.size))
   clear hb2
   go_wp2
   go_ret
   exact⟨by rw[ER.out];rfl,HB2.out⟩
 | true =>
  have hmn:=hq.resolve_left (by simp)
  have HM:=Sk (jq m W0 (by omega))
  rw[hmn]at HM
  clear hmn hq
  go_wp2_with fail
  refine HM.out.mono ?_
  rintro e w1 ⟨rfl,hb1⟩
  have HB:=Sk hb1
  clear x0 x1 x2 y0 y1 hb1 hW0
  obtain⟨_,x0,x1,x2,y0,y1⟩:=HC.out w1 HB.out
  by_cases k5:k=5
  ·subst k5
   cases he:n.toList.isEmpty with
   | true =>
    have ER:=Sk (show R=true by rw[←HR.out];simp[he])
    have he2:n.toList=[]:=by simpa using he
    clear HR
    go_wp2
    go_ret
    exact⟨by rw[ER.out];rfl,(HC.out _ HB.out).1⟩
   | false =>
    have ER:=Sk (show R=bN n by rw[←HR.out];simp[he])
    have HL:=Sk (jB n w1 (by omega))
    have he2:(n.toList==[])=false:=by simpa using he
    clear HR
    go_wp2_with fail
    refine HL.out.mono ?_
    rintro e w2 ⟨rfl,rfl⟩
    go_wp2
    go_ret
    exact⟨by rw[ER.out];rfl,(HC.out _ HB.out).1⟩
  have k5':(k==5)=false:=by simpa using k5
  by_cases k10:k=10
  ·subst k10
   have ER:=Sk (show R=gU oo n by rw[←HR.out,Ec];simp)
   have HH:=Sk (nJ oo n _ _ _ (Ee w1))
   rw[show oo.length=5 from rfl]at HH
   have HB2:=Sk ((HC.out _ HB.out).1.alloc (HC.out _ HB.out).1.size (.cells #[.string ⟨#[43]⟩,.string ⟨#[45]⟩,.string ⟨#[42]⟩,.string ⟨#[61]⟩,.string ⟨#[60]⟩] 9))
   clear HR
   have hzX:w.heap.size<w1.heap.size:=by have:=HB.out.size;omega
   go_wp2_with fail
   refine HH.out.mono ?_
   rintro e w2 ⟨rfl,rfl⟩
   go_wp2
   go_ret
   exact⟨by rw[ER.out];rfl,HB2.out⟩
  have QN:(k==10)=false:=by simpa using k10
  cases p with
  | false =>
   have ER:=Sk (show R=true by rw[←HR.out,TW k5,TW k10];rfl)
   clear HR k5 k10
   go_wp2
   go_ret
   exact⟨by rw[ER.out];rfl,(HC.out _ HB.out).1⟩
  | true =>
   have ER:=Sk (show R=aT n by rw[←HR.out,TW k5,TW k10];rfl)
   have HN:=Sk (jq n w1 (by omega))
   clear HR k5 k10
   go_wp2_with fail
   refine HN.out.mono ?_
   rintro e w2 ⟨rfl,hb2⟩
   have HB2:=Sk ((HC.out _ HB.out).1.trans (hb2.mono (HC.out _ HB.out).1.size))
   clear hb2
   go_wp2
   go_ret
   exact⟨by rw[ER.out];rfl,HB2.out⟩
theorem Dm (k:Int)(n m:ByteArray)(i d:Int)(v:Value)(p q r1 r2:Bool)(c:Int)(w:World)(hn:n.size≤1000)(hm:m.size≤1000) :
  Calls Tryz.prog 274 #[.agg #[.int .i64 k,.string n,.string m,.int .i64 i,.int .i64 d,v],.agg #[.bool p,.bool q,.bool r1,.bool r2,.int .i64 c]] w fun e w' =>
  e=.returned (.bool (gY k n m p q))∧Below w.heap.size w w':=by
 by_cases hq:q=false∨aT m=true
 ·refine(BS k n m i d v p q r1 r2 c w hn hm hq).mono fun e w' ⟨h1,h2⟩=>⟨?_,h2⟩
  rw[h1,gY,show (!q||aT m)=true by rcases hq with rfl|h <;> simp[*],Bool.true_and]
 ·obtain rfl:q=true:=by cases q <;> simp_all
  have hmn:aT m=false:=by cases h:aT m <;> simp_all
  have ER:=Sk (show gY k n m p true=false by simp[gY,hmn])
  obtain⟨W0,hW0⟩:∃W0,(w.alloc (.cells #[.int .i64 k,.string n,.string m,.int .i64 i,.int .i64 d,v] 44)).alloc (.cells #[.bool p,.bool true,.bool r1,.bool r2,.int .i64 c] 310)=W0:=⟨_,rfl⟩
  have hB0:Below w.heap.size w W0:=by subst hW0;exact((TA _ _).alloc (SA _) _).alloc (by simp) _
  have x2:W0.cell? ⟨w.heap.size,2,none⟩=some (.string m):=by subst hW0;go_simp
  have y1:W0.cell? ⟨w.heap.size+1,1,none⟩=some (.bool true):=by subst hW0;go_simp
  have HM:=Sk (jq m W0 (by omega))
  rw[hmn]at HM
  have HB:=Sk hB0
  clear hmn hq hB0
  go_enter Tryz.func274,Tryz.ntmps274
  go_wp2_with fail
  refine HM.out.mono ?_
  rintro e w1 ⟨rfl,hb1⟩
  have HB2:=Sk (HB.out.trans (hb1.mono HB.out.size))
  clear hb1
  go_wp2
  go_ret
  exact⟨by rw[ER.out];rfl,HB2.out⟩
def Fo.ck:Fo→Int
 | .nil=>0
 | .cons k n m i d _ _ s r=>if aj k n m i d s.len=0 then (if s.ck=0 then r.ck else s.ck)else aj k n m i d s.len
def ckN (k:Int)(n m:ByteArray)(i d:Int)(s:Fo):Int:=if aj k n m i d s.len=0 then s.ck else aj k n m i d s.len
theorem Fo.MC (k:Int)(n m:ByteArray)(i d:Int)(A:Option Addr)(c:Nat)(s r:Fo):(Fo.cons k n m i d A c s r).ck=if ckN k n m i d s=0 then r.ck else ckN k n m i d s:=by
 unfold ckN
 simp only[Fo.ck]
 by_cases h:aj k n m i d s.len=0
 ·simp only[h,if_true]
 ·simp only[h,if_false]
def Fo.Short:Fo→Prop
 | .nil=>True
 | .cons _ n m _ _ _ _ s r=>(n.size≤1000∧m.size≤1000)∧s.Short∧r.Short
theorem rR {k a b c:Int}(h:bB k=(a,b,c,true)):(a=0∧b=1)∨(a=1∧b=0)∨(a=2∧b=0)∨(a=1∧b=1)∨(a=0∧b=0)∨(a=0∧b=2):=by
 by_cases hk:eU k
 ·unfold eU at hk
  rcases hk with rfl|rfl|rfl|rfl|rfl|rfl|rfl|rfl|rfl|rfl|rfl|rfl|rfl|rfl|rfl
  all_goals
   simp only[bB,Int.reduceEq,if_true,if_false,Prod.mk.injEq]at h
   obtain⟨rfl,rfl,rfl,_⟩:=h
   decide
 ·rw[iZ hk]at h
  simp at h
theorem BU {k:Int}(h:eU k):∃a b c,bB k=(a,b,c,true):=by
 unfold eU at h
 rcases h with rfl|rfl|rfl|rfl|rfl|rfl|rfl|rfl|rfl|rfl|rfl|rfl|rfl|rfl|rfl
 all_goals exact⟨_,_,_,rfl⟩
theorem BX {k a b c:Int}(h:bB k=(a,b,c,true))(n m:ByteArray)(i d:Int)(len:Nat):aj k n m i d len=if ak a b c n m i d len then 1 else if ah k n m a=0 then bU k i d else ah k n m a:=by
 unfold aj
 rw[h]
theorem Dp {k a b c:Int}(h:bB k=(a,b,c,true))(n m:ByteArray):(gY k n m (decide (1≤a)) (decide (2≤a))=false→ah k n m a=6) ∧
  (gY k n m (decide (1≤a)) (decide (2≤a))=true→ah k n m a=if k=13∧(n.toList==m.toList)=true then 7 else 0):=by
 have hab:=rR h
 have e:gY k n m (decide (1≤a)) (decide (2≤a))=!(decide (nmB k n a=false∨(a=2∧aT m=false))):=by
  unfold gY nmB
  have ha:a=0∨a=1∨a=2:=by omega
  by_cases h5:k=5
  ·simp only[h5,if_true]
   rcases ha with rfl|rfl|rfl <;> cases aT m <;> cases (n.toList.isEmpty||bN n) <;> rfl
  ·simp only[h5,if_false]
   by_cases h10:k=10
   ·simp only[h10,if_true]
    rcases ha with rfl|rfl|rfl <;> cases aT m <;> cases opB n <;> rfl
   ·simp only[h10,if_false]
    rcases ha with rfl|rfl|rfl <;> cases aT m <;> cases aT n <;> rfl
 rw[e]
 unfold ah
 by_cases hP:nmB k n a=false∨(a=2∧aT m=false)
 ·rw[SI hP];exact⟨fun _=>TY hP,fun h=>by simp at h⟩
 ·rw[SH hP];exact⟨fun h=>by simp at h,fun _=>TW hP⟩
theorem F6 (k:Int)(hk:¬eU k)(n m:ByteArray)(i d:Int)(A:Option Addr)(len cap:Nat)(w:World):Calls Tryz.prog 248 #[.agg #[.int .i64 k,.string n,.string m,.int .i64 i,.int .i64 d,.slice A len cap]] w fun e w' =>
  e=.returned (.int .i64 9)∧Below w.heap.size w w':=by
 have HSH:=Sk (fun W=>lM k 0 0 0 false W (iZ hk))
 go_enter Tryz.func248,Tryz.ntmps248
 go_wp2_with (go_at_call 273;refine(HSH.out _).mono ?_;rintro e w1 ⟨rfl,hb1⟩;obtain⟨hB1,hz1⟩:=ay hb1)
 go_ret
 exact⟨rfl,hB1.alloc hB1.size _⟩
theorem Dq (k a b c:Int)(hz:bB k=(a,b,c,true))(n m:ByteArray)(i d:Int)(A:Option Addr)(len cap:Nat)(w:World)(hA:ak a b c n m i d len=true):Calls Tryz.prog 248 #[.agg #[.int .i64 k,.string n,.string m,.int .i64 i,.int .i64 d,.slice A len cap]] w fun e w' =>
  e=.returned (.int .i64 1)∧Below w.heap.size w w':=by
 have lN:=Sk (fun W=>lM k a b c true W hz)
 have hab:=rR hz
 clear hz
 rcases hab with⟨rfl,rfl⟩|⟨rfl,rfl⟩|⟨rfl,rfl⟩|⟨rfl,rfl⟩|⟨rfl,rfl⟩|⟨rfl,rfl⟩
 have HSH:Hid (∀W,Calls Tryz.prog 273 #[.int .i64 k] W fun e w'=>e=.returned (.tuple #[.agg #[.bool false,.bool false,.bool true,.bool false,.int .i64 c],.bool true])∧Below W.heap.size W w'):=lN.out
 clear lN
 cases hn:n.toList.isEmpty
 have gn:(n.toList==[])=false:=by simpa using hn
 rotate_left
 have gn:n.toList=[]:=by simpa using hn
 cases hm:m.toList.isEmpty
 have gm:(m.toList==[])=false:=by simpa using hm
 rotate_left
 have gm:m.toList=[]:=by simpa using hm
 rcases (TP (d=0)).symm with zd|zd
 have bd:(d==0)=false:=by simpa using zd
 have cd:(d != 0)=true:=by simpa using zd
 clear zd
 rotate_left
 have bd:(d==0)=true:=by simpa using zd
 have cd:(d != 0)=false:=by simpa using zd
 clear zd
 have cl:((len:Int) != c)=true:=by simpa [ak,hn,hm,cd]using hA
 have bl:((len:Int)==c)=false:=by simpa using cl
 rotate_left
 have HSH:Hid (∀W,Calls Tryz.prog 273 #[.int .i64 k] W fun e w'=>e=.returned (.tuple #[.agg #[.bool true,.bool false,.bool false,.bool false,.int .i64 c],.bool true])∧Below W.heap.size W w'):=lN.out
 clear lN
 cases hm:m.toList.isEmpty
 have gm:(m.toList==[])=false:=by simpa using hm
 rotate_left
 have gm:m.toList=[]:=by simpa using hm
 rcases (TP (i=0)).symm with zi|zi
 have bi:(i==0)=false:=by simpa using zi
 have ci:(i != 0)=true:=by simpa using zi
 clear zi
 rotate_left
 have bi:(i==0)=true:=by simpa using zi
 have ci:(i != 0)=false:=by simpa using zi
 clear zi
 rcases (TP (d=0)).symm with zd|zd
 have bd:(d==0)=false:=by simpa using zd
 have cd:(d != 0)=true:=by simpa using zd
 clear zd
 rotate_left
 have bd:(d==0)=true:=by simpa using zd
 have cd:(d != 0)=false:=by simpa using zd
 clear zd
 have cl:((len:Int) != c)=true:=by simpa [ak,hm,ci,cd]using hA
 have bl:((len:Int)==c)=false:=by simpa using cl
 rotate_left
 have HSH:Hid (∀W,Calls Tryz.prog 273 #[.int .i64 k] W fun e w'=>e=.returned (.tuple #[.agg #[.bool true,.bool true,.bool false,.bool false,.int .i64 c],.bool true])∧Below W.heap.size W w'):=lN.out
 clear lN
 rcases (TP (i=0)).symm with zi|zi
 have bi:(i==0)=false:=by simpa using zi
 have ci:(i != 0)=true:=by simpa using zi
 clear zi
 rotate_left
 have bi:(i==0)=true:=by simpa using zi
 have ci:(i != 0)=false:=by simpa using zi
 clear zi
 rcases (TP (d=0)).symm with zd|zd
 have bd:(d==0)=false:=by simpa using zd
 have cd:(d != 0)=true:=by simpa using zd
 clear zd
 rotate_left
 have bd:(d==0)=true:=by simpa using zd
 have cd:(d != 0)=false:=by simpa using zd
 clear zd
 have cl:((len:Int) != c)=true:=by simpa [ak,ci,cd]using hA
 have bl:((len:Int)==c)=false:=by simpa using cl
 rotate_left
 have HSH:Hid (∀W,Calls Tryz.prog 273 #[.int .i64 k] W fun e w'=>e=.returned (.tuple #[.agg #[.bool true,.bool false,.bool true,.bool false,.int .i64 c],.bool true])∧Below W.heap.size W w'):=lN.out
 clear lN
 cases hm:m.toList.isEmpty
 have gm:(m.toList==[])=false:=by simpa using hm
 rotate_left
 have gm:m.toList=[]:=by simpa using hm
 rcases (TP (d=0)).symm with zd|zd
 have bd:(d==0)=false:=by simpa using zd
 have cd:(d != 0)=true:=by simpa using zd
 clear zd
 rotate_left
 have bd:(d==0)=true:=by simpa using zd
 have cd:(d != 0)=false:=by simpa using zd
 clear zd
 have cl:((len:Int) != c)=true:=by simpa [ak,hm,cd]using hA
 have bl:((len:Int)==c)=false:=by simpa using cl
 rotate_left
 have HSH:Hid (∀W,Calls Tryz.prog 273 #[.int .i64 k] W fun e w'=>e=.returned (.tuple #[.agg #[.bool false,.bool false,.bool false,.bool false,.int .i64 c],.bool true])∧Below W.heap.size W w'):=lN.out
 clear lN
 cases hn:n.toList.isEmpty
 have gn:(n.toList==[])=false:=by simpa using hn
 rotate_left
 have gn:n.toList=[]:=by simpa using hn
 cases hm:m.toList.isEmpty
 have gm:(m.toList==[])=false:=by simpa using hm
 rotate_left
 have gm:m.toList=[]:=by simpa using hm
 rcases (TP (i=0)).symm with zi|zi
 have bi:(i==0)=false:=by simpa using zi
 have ci:(i != 0)=true:=by simpa using zi
 clear zi
 rotate_left
 have bi:(i==0)=true:=by simpa using zi
 have ci:(i != 0)=false:=by simpa using zi
 clear zi
 rcases (TP (d=0)).symm with zd|zd
 have bd:(d==0)=false:=by simpa using zd
 have cd:(d != 0)=true:=by simpa using zd
 clear zd
 rotate_left
 have bd:(d==0)=true:=by simpa using zd
 have cd:(d != 0)=false:=by simpa using zd
 clear zd
 have cl:((len:Int) != c)=true:=by simpa [ak,hn,hm,ci,cd]using hA
 have bl:((len:Int)==c)=false:=by simpa using cl
 rotate_left
 have HSH:Hid (∀W,Calls Tryz.prog 273 #[.int .i64 k] W fun e w'=>e=.returned (.tuple #[.agg #[.bool false,.bool false,.bool true,.bool true,.int .i64 c],.bool true])∧Below W.heap.size W w'):=lN.out
 clear lN
 cases hn:n.toList.isEmpty
 have gn:(n.toList==[])=false:=by simpa using hn
 rotate_left
 have gn:n.toList=[]:=by simpa using hn
 cases hm:m.toList.isEmpty
 have gm:(m.toList==[])=false:=by simpa using hm
 rotate_left
 have gm:m.toList=[]:=by simpa using hm
 have cl:((len:Int) != c)=true:=by simpa [ak,hn,hm]using hA
 have bl:((len:Int)==c)=false:=by simpa using cl
 rotate_left
 all_goals (
  clear hA
  go_enter Tryz.func248,Tryz.ntmps248
  go_wp2_with (go_at_call 273;refine(HSH.out _).mono ?_;rintro e w1 ⟨rfl,hb1⟩;obtain⟨hc1,hf1⟩:=aN hb1;obtain⟨hB1,hz1⟩:=ay hb1)
  go_ret
  exact⟨rfl,hB1.alloc hB1.size _⟩)
def BZ (s:Fo):Prop:=∀(k:Int)(n m:ByteArray)(i d:Int)(A:Option Addr)(c:Nat)(w:World),n.size≤1000→m.size≤1000→s.Short→s.Sl w w.heap.size A c →
  Calls Tryz.prog 248 #[.agg #[.int .i64 k,.string n,.string m,.int .i64 i,.int .i64 d,.slice A s.len c]] w fun e w'=>e=.returned (.int .i64 (ckN k n m i d s))∧Below w.heap.size w w'
theorem KF {k a b c:Int}{n m:ByteArray}{i d:Int}{s:Fo}{p q:Bool}(hz:bB k=(a,b,c,true))(hp:decide (1≤a)=p)(hq:decide (2≤a)=q)(hA:ak a b c n m i d s.len=false) :
  (gY k n m p q=false→ckN k n m i d s=6)∧(gY k n m p q=true→(k=13∧(n.toList==m.toList)=true)→ckN k n m i d s=7) ∧
  (gY k n m p q=true→¬(k=13∧(n.toList==m.toList)=true)→kC k i d=false→ckN k n m i d s=2) ∧
  (gY k n m p q=true→¬(k=13∧(n.toList==m.toList)=true)→kC k i d=true→ckN k n m i d s=s.ck):=by
 have hE:=BX hz n m i d s.len
 rw[hA]at hE
 simp only[TN,if_false]at hE
 obtain⟨h1,h2⟩:=Dp hz n m
 subst hp hq
 refine⟨fun h=>?_,fun h h'=>?_,fun h h' hn=>?_,fun h h' hn=>?_⟩
 ·rw[h1 h,TW (by omega)]at hE
  rw[ckN,hE,TW (by omega)]
 ·rw[h2 h,TY h',TW (by omega)]at hE
  rw[ckN,hE,TW (by omega)]
 ·rw[h2 h,TW h',TY rfl,bU,hn]at hE
  rw[ckN,hE]
  rfl
 ·rw[h2 h,TW h',TY rfl,bU,hn]at hE
  rw[ckN,hE]
  rfl
theorem F7 {a b c:Int}{n m:ByteArray}{i d:Int}{l:Nat}(h:ak a b c n m i d l=false):(a<1→n.toList.isEmpty=true)∧(a<2→m.toList.isEmpty=true)∧(b<1→(i==0)=true∧(i != 0)=false)∧(b<2→(d==0)=true∧(d != 0)=false)∧(l:Int)=c:=by
 simp only[ak,Bool.or_eq_false_iff,Bool.and_eq_false_iff,decide_eq_false_iff_not,Bool.not_eq_false',bne_eq_false_iff_eq]at h
 obtain⟨⟨⟨⟨h1,h2⟩,h3⟩,h4⟩,h5⟩:=h
 exact⟨fun g=>h1.resolve_left (fun h=>h g),fun g=>h2.resolve_left (fun h=>h g),fun g=>by have:=h3.resolve_left (fun h=>h g);simp[this],fun g=>by have:=h4.resolve_left (fun h=>h g);simp[this],h5⟩
theorem six {k a b c:Int}(hz:bB k=(a,b,c,true)):∃P Q R1 R2,decide (1≤a)=P∧decide (2≤a)=Q∧decide (1≤b)=R1∧decide (2≤b)=R2 ∧
  ((a=0∧b=1∧P=false∧Q=false∧R1=true∧R2=false)∨(a=1∧b=0∧P=true∧Q=false∧R1=false∧R2=false)∨(a=2∧b=0∧P=true∧Q=true∧R1=false∧R2=false)∨(a=1∧b=1∧P=true∧Q=false∧R1=true∧R2=false)∨(a=0∧b=0∧P=false∧Q=false∧R1=false∧R2=false)∨(a=0∧b=2∧P=false∧Q=false∧R1=true∧R2=true)):=by
 refine⟨_,_,_,_,rfl,rfl,rfl,rfl,?_⟩
 rcases rR hz with⟨rfl,rfl⟩|⟨rfl,rfl⟩|⟨rfl,rfl⟩|⟨rfl,rfl⟩|⟨rfl,rfl⟩|⟨rfl,rfl⟩ <;> simp
theorem KG (s:Fo)(IH:Hid (s.All BZ))(k a b cc:Int)(hz:bB k=(a,b,cc,true))(n m:ByteArray)(i d:Int)(A:Option Addr)(c:Nat)(w:World)(hn:n.size≤1000)(hm:m.size≤1000)(HSt:Hid s.Short)(HS:Hid (s.Sl w w.heap.size A c))(hA:ak a b cc n m i d s.len=false) :
  Calls Tryz.prog 248 #[.agg #[.int .i64 k,.string n,.string m,.int .i64 i,.int .i64 d,.slice A s.len c]] w fun e w'=>e=.returned (.int .i64 (ckN k n m i d s))∧Below w.heap.size w w':=by
 have hcap:s.len≤9223372036854775807:=by have:=HS.out.1;have:=HS.out.2.1;unfold maxLen at this;omega
 obtain⟨P,Q,R1,R2,hP,hQ,hR1,hR2,QO⟩:=six hz
 have HP:=Sk (KF hz hP hQ hA)
 obtain⟨fn,fm,fi,fd,fl⟩:=F7 hA
 subst fl
 obtain⟨W0,hW0⟩:∃W0,w.alloc (.cells #[.int .i64 k,.string n,.string m,.int .i64 i,.int .i64 d,.slice A s.len c] 44)=W0:=⟨_,rfl⟩
 have hB0:Below w.heap.size w W0:=by subst hW0;exact(TA _ _).alloc (SA _) _
 have hzw:w.heap.size<W0.heap.size:=by subst hW0;simp
 have hx0:W0.heap[w.heap.size]?=some (.cells #[.int .i64 k,.string n,.string m,.int .i64 i,.int .i64 d,.slice A s.len c] 44 (0,0)):=by rw[←hW0];exact Sv w _
 have HSH:Hid (Calls Tryz.prog 273 #[.int .i64 k] W0 fun e w'=>e=.returned (.tuple #[.agg #[.bool P,.bool Q,.bool R1,.bool R2,.int .i64 s.len],.bool true])∧Below W0.heap.size W0 w'):=by
  have h:=lM k _ _ _ true W0 hz
  rw[hP,hQ,hR1,hR2]at h
  exact h
 have HNf:=Sk (fun W2=>Dm k n m i d (.slice A s.len c) P Q R1 R2 s.len W2 hn hm)
 obtain⟨nb,hnm⟩:∃q,gY k n m P Q=q:=⟨_,rfl⟩
 obtain⟨Sh,HSh⟩:∃q,Hid (Obj.cells #[.bool P,.bool Q,.bool R1,.bool R2,.int .i64 s.len] 310=q):=⟨_,Sk rfl⟩
 rw[hnm]at HP HNf
 obtain⟨R,HR⟩:∃R,Hid (ckN k n m i d s=R):=⟨_,Sk rfl⟩
 rw[HR.out]
 rw[HR.out]at HP
 clear HR hz hP hQ hR1 hR2 hnm hA
 have HX:=Sk (Sn hB0 hx0)
 have y0:W0.cell? ⟨w.heap.size,0,none⟩=some (.int .i64 k):=Sq W0 w.heap.size 0 _ _ (0,0) hx0
 clear hB0 hx0
 rcases QO with⟨rfl,rfl,rfl,rfl,rfl,rfl⟩|⟨rfl,rfl,rfl,rfl,rfl,rfl⟩|⟨rfl,rfl,rfl,rfl,rfl,rfl⟩|⟨rfl,rfl,rfl,rfl,rfl,rfl⟩|⟨rfl,rfl,rfl,rfl,rfl,rfl⟩|⟨rfl,rfl,rfl,rfl,rfl,rfl⟩
 all_goals (
  try have en:=fn (SK rfl)
  try have em:=fm (SK rfl)
  try obtain⟨bi,ci⟩:=fi (SK rfl)
  try obtain⟨bd,cd⟩:=fd (SK rfl)
  clear fn fm fi fd
  go_enter Tryz.func248,Tryz.ntmps248
  go_wp2_with fail
  refine HSH.out.mono ?_
  rintro e w1 ⟨rfl,hb1⟩
  clear HSH y0 hW0
  have hx1:=(hb1.block w.heap.size hzw).trans HX.out.2
  have hz1:w.heap.size<w1.heap.size:=SB hzw hb1.size
  have hB1:Below w.heap.size w w1:=HX.out.1.trans (hb1.mono (SF hzw))
  obtain⟨W2,HW2⟩:∃W2,Hid (w1.alloc Sh=W2):=⟨_,Sk rfl⟩
  have hz2:w1.heap.size<W2.heap.size:=by rw[←HW2.out];simp
  have hx2:W2.heap[w.heap.size]?=some (.cells #[.int .i64 k,.string n,.string m,.int .i64 i,.int .i64 d,.slice A s.len c] 44 (0,0)):=by rw[←HW2.out,Tt _ _ _ hz1];exact hx1
  have hB2:Below w.heap.size w W2:=by rw[←HW2.out];exact hB1.alloc (by omega) _
  have HC:Hid (∀X,Below W2.heap.size W2 X→Below w.heap.size w X∧w.heap.size<X.heap.size∧X.cell? ⟨w.heap.size,0,none⟩=some (.int .i64 k)∧X.cell? ⟨w.heap.size,1,none⟩=some (.string n)∧X.cell? ⟨w.heap.size,2,none⟩=some (.string m)∧X.cell? ⟨w.heap.size,3,none⟩=some (.int .i64 i)∧X.cell? ⟨w.heap.size,4,none⟩=some (.int .i64 d)∧X.cell? ⟨w.heap.size,5,none⟩=some (.slice A s.len c)):=fun X hX=>by
   have h0:=(hX.block w.heap.size (by omega)).trans hx2
   have:=hX.size
   exact⟨hB2.trans (hX.mono (by omega)),by omega,Sq X _ 0 _ _ (0,0) h0,Sq X _ 1 _ _ (0,0) h0,Sq X _ 2 _ _ (0,0) h0,Sq X _ 3 _ _ (0,0) h0,Sq X _ 4 _ _ (0,0) h0,Sq X _ 5 _ _ (0,0) h0⟩
  have x0:=Sq w1 w.heap.size 0 _ _ (0,0) hx1
  have x1:=Sq w1 w.heap.size 1 _ _ (0,0) hx1
  have x2:=Sq w1 w.heap.size 2 _ _ (0,0) hx1
  have x3:=Sq w1 w.heap.size 3 _ _ (0,0) hx1
  have x4:=Sq w1 w.heap.size 4 _ _ (0,0) hx1
  have x5:=Sq w1 w.heap.size 5 _ _ (0,0) hx1
  simp at x0 x1 x2 x3 x4 x5
  have HN:=Sk (HNf.out W2)
  clear hx1 hx2 hB1 hB2 hb1
  cases nb with
  | false =>
   obtain rfl:R=6:=HP.out.1 rfl
   clear HP
   go_wp2_with fail
   rw[HSh.out,HW2.out]
   refine HN.out.mono ?_
   rintro e w2 ⟨rfl,hb2⟩
   have HB:=Sk (HC.out w2 hb2).1
   clear hb2
   go_wp2
   go_ret
   exact⟨rfl,HB.out⟩
  | true =>
  have HP2:=Sk (Sn (HP.out.2.1 rfl) (Sn (HP.out.2.2.1 rfl) (HP.out.2.2.2 rfl)))
  clear HP
  go_wp2_with fail
  rw[HSh.out,HW2.out]
  refine HN.out.mono ?_
  rintro e w2 ⟨rfl,hb2⟩
  have HB2:=Sk hb2
  clear x0 x1 x2 x3 x4 x5 hb2 HN
  obtain⟨_,hz2',x0,x1,x2,x3,x4,x5⟩:=HC.out w2 HB2.out
  by_cases h13:k=13∧(n.toList==m.toList)=true
  ·obtain rfl:R=7:=HP2.out.1 h13
   obtain⟨rfl,R9⟩:=h13
   have HB:=Sk (HC.out w2 HB2.out).1
   clear HP2
   go_wp2
   go_ret
   exact⟨rfl,HB.out⟩
  have HR:=Sk (BR k n m i d (.slice A s.len c) w2)
  have t13:(k==13)=false∨((k==13)=true∧(n.toList==m.toList)=false):=by
   by_cases h:k=13
   ·right
    refine⟨by simpa using h,?_⟩
    cases h':n.toList==m.toList
    ·rfl
    ·exact absurd ⟨h,h'⟩ h13
   ·left
    simpa using h
  cases hnu:kC k i d with
  | false =>
   obtain rfl:R=2:=HP2.out.2.1 h13 hnu
   rw[hnu]at HR
   clear hnu HP2 h13
   rcases t13 with t|⟨t,t'⟩
   all_goals (
    go_wp2_with fail
    refine HR.out.mono ?_
    rintro e w3 ⟨rfl,hb3⟩
    have HB:=Sk (HC.out w3 (HB2.out.trans (hb3.mono HB2.out.size))).1
    clear hb3
    go_wp2
    go_ret
    exact⟨rfl,HB.out⟩)
  | true =>
   have HRs:=Sk (HP2.out.2.2 h13 hnu)
   rw[hnu]at HR
   clear hnu HP2 h13
   rcases t13 with t|⟨t,t'⟩
   all_goals (
    go_wp2_with fail
    refine HR.out.mono ?_
    rintro e w3 ⟨rfl,hb3⟩
    have HB3:=Sk (HB2.out.trans (hb3.mono HB2.out.size))
    clear hb3 x0 x1 x2 x3 x4 x5
    go_wp2_with fail
    go_loopg [5,6] s.len (fun g ct _ wr=>∃(j:Nat) (r:Fo),g=r.len∧j+r.len=s.len∧ct=.int .i64 j∧R=r.ck∧r.Short∧r.All BZ ∧
     (r≠.nil→∃b o,A=some ⟨b,o,none⟩∧b<w.heap.size∧r.At wr w.heap.size b (o+j*6))∧Below W2.heap.size W2 wr)
    case atStart =>
     refine⟨0,s,rfl,by omega,rfl,HRs.out,HSt.out,IH.out,?_,HB3.out⟩
     intro hne
     obtain⟨b,o,e,hb,h⟩:=HS.out.2.2 hne
     exact⟨b,o,e,hb,by rw[Nat.zero_mul,Nat.add_zero];exact h.keep (SA _) (fun p hp=>(HC.out _ HB3.out).1.cell hp) hb⟩
    case round =>
     obtain⟨j,r,HG,hjr,rfl,hRr,hsh,HA,HAt,HB⟩:=hrel
     have HBh:=Sk HB
     have HRr:=Sk (Sn hRr (Sn hsh HA))
     clear hRr hsh HA HB
     obtain⟨hBw,hzr,_,_,_,_,_,x5⟩:=HC.out wr HBh.out
     have HBw:=Sk hBw
     clear hBw
     cases r with
     | nil =>
      have gJ:s.len≤j:=by simp only[Fo.len]at hjr;omega
      have nT:j≤s.len:=by simp only[Fo.len]at hjr;omega
      have hR0:=HRr.out.1
      simp only[Fo.ck]at hR0
      subst hR0
      clear hjr HG HRr HRs
      go_wp2
      go_ret
      exact⟨rfl,HBw.out⟩
     | cons rk rn rm ri rd A' c' rs rr =>
      have gJ:j<s.len:=by simp only[Fo.len]at hjr;omega
      obtain⟨b,o,rfl,hb,h0,h1,h2,h3,h4,⟨h5,hc',hm',hs'⟩,hr'⟩:=HAt (by simp)
      have hcall:=HRr.out.2.2.1 rk rn rm ri rd A' c' wr HRr.out.2.1.1.1 HRr.out.2.1.1.2 HRr.out.2.1.2.1 ⟨hc',hm',fun hne=>by
       obtain⟨b',o',e,hb',h'⟩:=hs' hne
       exact⟨b',o',e,by omega,h'.keep (by omega) (fun _ _=>rfl) hb'⟩⟩
      have hRk:=HRr.out.1
      rw[Fo.MC]at hRk
      obtain⟨E1,HE1⟩:∃E1,Hid (ckN rk rn rm ri rd rs=E1):=⟨_,Sk rfl⟩
      rw[HE1.out]at hRk hcall
      have HCL:=Sk hcall
      have HK:=Sk (Sn hr' (Sn hRk HAt))
      clear hcall hRk HAt hr' hs'
      by_cases hE:E1=0
      ·subst hE
       go_wp2_with fail
       refine HCL.out.mono ?_
       rintro e w4 ⟨rfl,hb4⟩
       have HB4:=Sk hb4
       clear hb4
       go_wp2
       go_roundg rr.len
       case measure=>first|(rw[HG];simp[Fo.len];done)|(simp only[Fo.len];omega)
       case rel =>
        refine⟨j+1,rr,rfl,by simp only[Fo.len]at hjr;omega,by go_num,by rw[HK.out.2.1];rfl,HRr.out.2.1.2.2,HRr.out.2.2.2,?_,HBh.out.trans (HB4.out.mono HBh.out.size)⟩
        intro hne
        refine⟨b,o,rfl,hb,?_⟩
        rw[show o+(j+1)*6=o+j*6+6 by omega]
        exact HK.out.1.keep (SA _) (fun p hp=>HB4.out.cell (by omega)) hb
      ·have hE':(E1 != 0)=true:=by simpa using hE
       have HRE:=Sk (show R=E1 by rw[HK.out.2.1,TW hE])
       clear hE
       go_wp2_with fail
       refine HCL.out.mono ?_
       rintro e w4 ⟨rfl,hb4⟩
       have HB4:=Sk (HBw.out.trans (hb4.mono HBw.out.size))
       clear hb4
       go_wp2
       go_ret
       exact⟨by rw[HRE.out];rfl,HB4.out⟩))
theorem ME (s:Fo)(ih:s.All BZ):BZ s:=by
 intro k n m i d A c w hn hm hst hs
 by_cases hk:eU k
 ·obtain⟨a,b,cc,hz⟩:=BU hk
  cases hA:ak a b cc n m i d s.len with
  | true =>
   refine(Dq k a b cc hz n m i d A s.len c w hA).mono fun e w' ⟨h1,h2⟩=>⟨?_,h2⟩
   rw[h1,ckN,BX hz n m i d s.len,hA]
   rfl
  | false =>
   exact KG s (Sk ih) k a b cc hz n m i d A c w hn hm (Sk hst) (Sk hs) hA
 ·refine(F6 k hk n m i d A s.len c w).mono fun e w' ⟨h1,h2⟩=>⟨?_,h2⟩
  have e9:aj k n m i d s.len=9:=by unfold aj;rw[iZ hk]
  rw[h1,ckN,e9]
  rfl
theorem OA (s:Fo):BZ s:=Fo.eT ME s
end Go.Proofs.Q
