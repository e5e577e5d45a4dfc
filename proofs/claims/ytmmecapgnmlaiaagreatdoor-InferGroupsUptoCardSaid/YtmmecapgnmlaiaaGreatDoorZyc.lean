/- ref20: letter, digit, word, Word, slash, Label -/
import Derived.Test.YtmmecapgnmlaiaaGreatDoorZxe
import Derived.Test.YtmmecapgnmlaiaaGreatDoorZxb
set_option maxRecDepth 100000
set_option maxHeartbeats 16000000
namespace Go.Proofs.Q
open Go.RowKit Go.Proofs Go.Shelf
theorem jg (c:Int)(w:World):Calls Tryz.prog 205 #[.int .u8 c] w fun e w'=>e=.returned (.bool (iA c))∧w=w':=by
 by_cases h1:97≤c
 ·by_cases h2:c≤122
  all_goals
   go_enter Tryz.func205,Tryz.ntmps205
   go_wp2
   go_ret
   exact⟨by simp[iA,h1,h2],rfl⟩
 ·have h2:decide (97≤c)=false:=by simpa using h1
  go_enter Tryz.func205,Tryz.ntmps205
  go_wp2
  go_ret
  exact⟨by simp[iA];omega,rfl⟩
theorem om (c:Int)(w:World):Calls Tryz.prog 206 #[.int .u8 c] w fun e w'=>e=.returned (.bool (iY c))∧w=w':=by
 by_cases h1:48≤c
 ·by_cases h2:c≤57
  all_goals
   go_enter Tryz.func206,Tryz.ntmps206
   go_wp2
   go_ret
   exact⟨by simp[iY,h1,h2],rfl⟩
 ·have h2:decide (48≤c)=false:=by simpa using h1
  go_enter Tryz.func206,Tryz.ntmps206
  go_wp2
  go_ret
  exact⟨by simp[iY];omega,rfl⟩
def gX (s:ByteArray)(most:Nat):Bool:=decide (s.size≤most)&&jl s.data.toList
theorem IE (s:ByteArray):gX s 24=iB s:=rfl
theorem yI (s:ByteArray):gX s 20=fV s:=by
 unfold gX fV iB
 by_cases h:s.size≤20
 ·simp[h];intro _;omega
 ·simp[h]
theorem IG (s:ByteArray)(k:Nat)(h:k<s.size):s.data.toList.take (k+1)=s.data.toList.take k++[s[k]]:=by
 rw[TT (by simpa using h)];rfl
theorem FU (s:ByteArray)(h:0<s.size):jl s.data.toList=(jy s[0]&&jC s.data.toList):=by
 have e:s.data.toList[0]?=some s[0]:=gQ s 0 h
 generalize s[0]=c at e
 cases hl:s.data.toList with
 | nil=>rw[hl]at e;simp at e
 | cons a r =>
  rw[hl]at e
  simp at e
  subst e
  simp only[jl,jC,List.all_cons]
  cases jy a <;> simp
theorem qo (s:ByteArray)(most:Nat)(w:World)(hm:most≤1000)(hs:s.size≤9223372036854775807):Calls Tryz.prog 145 #[.string s,.int .i64 most] w fun e w'=>e=.returned (.bool (gX s most))∧w=w':=by
 by_cases h0:s.size=0
 ·have e2:gX s most=false:=by
   have:=toList_nil h0
   rw[ByteArray.toList_eq]at this
   simp[gX,this,jl]
  have E2:=Sk e2
  have h1:(s.size:Int)<1:=by omega
  have h2:decide ((s.size:Int)<1)=true:=by simpa using h1
  clear e2 h0
  go_enter Tryz.func145,Tryz.ntmps145
  go_wp2
  go_ret
  exact⟨by rw[E2.out];rfl,rfl⟩
 have h1:¬(s.size:Int)<1:=by omega
 have h2:decide ((s.size:Int)<1)=false:=by simpa using h1
 by_cases hmo:most<s.size
 ·have E2:=Sk (show gX s most=false by simp[gX];omega)
  have h3:decide ((most:Int)<(s.size:Int))=true:=by simp;omega
  have h4:decide (most<s.size)=true:=by simp;omega
  clear h0
  go_enter Tryz.func145,Tryz.ntmps145
  go_wp2
  go_ret
  exact⟨by rw[E2.out];rfl,rfl⟩
 have h3:decide ((most:Int)<(s.size:Int))=false:=by simp;omega
 have h4:decide (most<s.size)=false:=by simp;omega
 have hp:0<s.size:=by omega
 have HW:=Sk (show gX s most=(jy s[0]&&jC s.data.toList) by rw[←FU s hp];simp[gX];omega)
 by_cases hl:iA (s[0].toNat)=true
 ·have HL:=Sk (show jy s[0]=true from hl)
  go_enter Tryz.func145,Tryz.ntmps145
  go_wp2_with (go_at_call 205;refine(jg _ _).mono ?_;rintro e w' ⟨rfl,rfl⟩)
  go_loop [5] (fun i=>∃k:Nat,k≤s.size∧i=.int .i64 k∧jC (s.data.toList.take k)=true) (fun i=>s.size-(intOf i).toNat)
  case atStart=>exact⟨0,SC _,rfl,rfl⟩
  case round =>
   obtain⟨k,hk,rfl,hr⟩:=hrel
   have HR:=Sk hr
   clear hr hl
   by_cases hlt:k<s.size
   ·have HS:=Sk (IG s k hlt)
    have HN:=Sk (gQ s k hlt)
    have yes:(iA (s[k].toNat)||iY (s[k].toNat))=true→jC (s.data.toList.take (k+1))=true:=fun h=>by
     rw[HS.out,jC,List.all_append]
     have h1:=HR.out
     unfold jC at h1
     rw[h1]
     simpa [jy,nS]using h
    have no:(iA (s[k].toNat)||iY (s[k].toNat))=false→gX s most=false:=fun h=>by
     rw[HW.out,HL.out,Bool.true_and,jC,List.all_eq_false]
     exact⟨s[k],SV HN.out,by simpa [jy,nS]using h⟩
    have AG:=Sk (Sn yes no)
    clear yes no
    cases l1:iA (s[k].toNat)with
    | true =>
     have AG':=Sk (AG.out.1 (by rw[l1];rfl))
     go_wp2_with (first|(go_at_call 205;refine(jg _ _).mono ?_;rintro e w' ⟨rfl,rfl⟩)|(go_at_call 206;refine(om _ _).mono ?_;rintro e w' ⟨rfl,rfl⟩))
     go_round
     case rel=>exact⟨k+1,by omega,by go_num,AG'.out⟩
     case measure=>simp[intOf];omega
    | false =>
     cases d1:iY (s[k].toNat)with
     | true =>
      have AG':=Sk (AG.out.1 (by rw[l1,d1];rfl))
      go_wp2_with (first|(go_at_call 205;refine(jg _ _).mono ?_;rintro e w' ⟨rfl,rfl⟩)|(go_at_call 206;refine(om _ _).mono ?_;rintro e w' ⟨rfl,rfl⟩))
      go_round
      case rel=>exact⟨k+1,by omega,by go_num,AG'.out⟩
      case measure=>simp[intOf];omega
     | false =>
      have AG':=Sk (AG.out.2 (by rw[l1,d1];rfl))
      go_wp2_with (first|(go_at_call 205;refine(jg _ _).mono ?_;rintro e w' ⟨rfl,rfl⟩)|(go_at_call 206;refine(om _ _).mono ?_;rintro e w' ⟨rfl,rfl⟩))
      go_ret
      exact⟨by rw[AG'.out];rfl,rfl⟩
   ·have AG':=Sk (show gX s most=true by
     have hk':=HR.out
     rw[Tm (by simp;omega)]at hk'
     rw[HW.out,HL.out,hk'];rfl)
    go_wp2
    go_ret
    exact⟨by rw[AG'.out];rfl,rfl⟩
 ·have hl':iA (s[0].toNat)=false:=by simpa using hl
  have E2:=Sk (show gX s most=false by rw[HW.out,show jy s[0]=false from hl'];rfl)
  clear hl
  go_enter Tryz.func145,Tryz.ntmps145
  go_wp2_with (go_at_call 205;refine(jg _ _).mono ?_;rintro e w' ⟨rfl,rfl⟩)
  go_ret
  exact⟨by rw[E2.out];rfl,rfl⟩
theorem FV (s:ByteArray)(w:World)(hs:s.size≤9223372036854775807):Calls Tryz.prog 207 #[.string s] w fun e w'=>e=.returned (.bool (iB s))∧w=w':=by
 have H:=Sk (qo s 24 w (by omega) hs)
 rw[IE]at H
 go_enter Tryz.func207,Tryz.ntmps207
 go_wp2_with fail
 refine H.out.mono ?_
 rintro e w' ⟨rfl,rfl⟩
 go_wp2
 go_ret
 exact⟨rfl,rfl⟩
theorem rH:∀(l:List UInt8)(c:UInt8),(∀k:Nat,l[k]?≠some c)→Lib.indexByte l c=-1
 | [],_,_=>rfl
 | b::l,c,h=>by
  have h0:(b==c)=false:=by have:=h 0;simpa using this
  have hr:=rH l c (fun k=>by have:=h (k+1);simpa using this)
  simp[Lib.indexByte,h0,hr]
theorem rJ:∀(l:List UInt8)(c:UInt8)(o:Nat),l[o]?=some c→(∀k:Nat,k<o→l[k]?≠some c)→Lib.indexByte l c=o
 | [],_,_,h,_=>by simp at h
 | b::l,c,0,h,_=>by simp at h;subst h;simp[Lib.indexByte]
 | b::l,c,o+1,h,hk=>by
  have h0:(b==c)=false:=by have:=hk 0 (by omega);simpa using this
  have hr:=rJ l c o (by simpa using h) (fun k hk'=>by have:=hk (k+1) (by omega);simpa using this)
  simp[Lib.indexByte,h0,hr]
  try omega
def dV (s:ByteArray):Nat:=if Lib.indexByte s.data.toList 47=-1 then s.size else (Lib.indexByte s.data.toList 47).toNat
theorem FW {s:ByteArray}(h:∀k:Nat,s.data.toList[k]?≠some 47):dV s=s.size:=by
 unfold dV
 rw[TY (rH _ _ h)]
theorem Kz {s:ByteArray}{o:Nat}(h:s.data.toList[o]?=some 47)(hk:∀k:Nat,k<o→s.data.toList[k]?≠some 47):dV s=o:=by
 unfold dV
 rw[rJ _ _ _ h hk,TW (by omega)]
 simp
theorem Di (s:ByteArray):(dV s=s.size∧dU 47 s=[s])∨(dV s<s.size∧dU 47 s=s.extract 0 (dV s)::dU 47 (s.extract (dV s+1) s.size)):=by
 by_cases h:Lib.indexByte s.data.toList 47=-1
 ·exact .inl ⟨by unfold dV;rw[TY h],sZ 47 s h⟩
 ·obtain⟨o,ho⟩:∃o:Nat,Lib.indexByte s.data.toList 47=o:=⟨(Lib.indexByte s.data.toList 47).toNat,by have:=Lib.indexByte_ge s.data.toList 47;omega⟩
  have e:dV s=o:=by unfold dV;rw[ho,TW (by omega)];simp
  obtain⟨h1,h2⟩:=tq 47 s o ho
  exact .inr (by rw[e];exact⟨h1,h2⟩)
theorem tJ (s:ByteArray)(w:World)(hs:s.size≤1000):Calls Tryz.prog 144 #[.string s] w fun e w'=>e=.returned (.int .i64 (dV s))∧w=w':=by
 go_enter Tryz.func144,Tryz.ntmps144
 go_wp2
 go_loop [3] (fun i=>∃k:Nat,k≤s.size∧i=.int .i64 k∧∀j,j<k→s.data.toList[j]?≠some 47) (fun i=>s.size-(intOf i).toNat)
 case atStart=>exact⟨0,SC _,rfl,fun j hj=>by omega⟩
 case round =>
  obtain⟨k,hk,rfl,hr⟩:=hrel
  have HR:=Sk hr
  clear hr
  by_cases hlt:k<s.size
  ·have HN:=Sk (gQ s k hlt)
   by_cases hc:s[k]=47
   ·have E:=Sk (Kz (by rw[HN.out,hc]) HR.out)
    have c1:((s[k].toNat:Int) != 47)=false:=by rw[hc];rfl
    have c2:(s[k] != 47)=false:=by rw[hc];rfl
    have c3:s[k].toNat=47:=by rw[hc];rfl
    clear hc
    go_wp2
    go_ret
    exact⟨by rw[E.out];rfl,rfl⟩
   ·have hne:s[k].toNat≠47:=fun h=>hc (UInt8.toNat_inj.1 h)
    have c1:((s[k].toNat:Int) != 47)=true:=by simp;omega
    have E:Hid (∀j,j<k+1→s.data.toList[j]?≠some 47):=fun j hj=>by
     by_cases hjk:j=k
     ·subst hjk;rw[HN.out];simpa using hc
     ·exact HR.out j (by omega)
    clear hc
    go_wp2
    go_round
    case rel=>exact⟨k+1,by omega,by go_num,E.out⟩
    case measure=>simp[intOf];omega
  ·have E:=Sk (show dV s=k by
    obtain rfl:k=s.size:=by omega
    refine FW fun j=>?_
    by_cases hj:j<s.size
    ·exact HR.out j hj
    ·rw[Ui (by simp;omega)];simp)
   go_wp2
   go_ret
   exact⟨by rw[E.out];rfl,rfl⟩
theorem jB (s:ByteArray)(w:World)(hs:s.size≤9223372036854775807):Calls Tryz.prog 86 #[.string s] w fun e w'=>e=.returned (.bool (bN s))∧w=w':=by
 by_cases h90:s.size≤90
 ·have hd:decide (90<(s.size:Int))=false:=by simp;omega
  obtain⟨R,HR⟩:∃R,Hid (bN s=R):=⟨_,Sk rfl⟩
  have HR2:=Sk (show (dU 47 s).all fV=R by rw[←HR.out];simp[bN,h90])
  rw[HR.out]
  clear HR
  go_enter Tryz.func86,Tryz.ntmps86
  go_wp2_with (go_at_call 144;refine(tJ _ _ (by omega)).mono ?_;rintro e w' ⟨rfl,rfl⟩)
  go_loop [0,3] (fun v i=>∃cur:ByteArray,cur.size≤90∧v=.string cur∧i=.int .i64 (dV cur)∧(dU 47 cur).all fV=R) (fun v _=>match v with|.string cur=>cur.size|_=>0)
  case atStart=>exact⟨s,h90,rfl,rfl,HR2.out⟩
  case round =>
   obtain⟨cur,hcs,rfl,rfl,hR⟩:=hrel
   rcases Di cur with⟨h1,h2⟩|⟨h1,h2⟩
   ·have E:=Sk (show fV cur=R by rw[←hR,h2];simp)
    have H20:=Sk (qo cur 20 w (by omega) (by omega))
    rw[yI,E.out]at H20
    rw[h1]
    clear h1 h2 hR hd
    go_wp2_with fail
    refine H20.out.mono ?_
    rintro e w' ⟨rfl,rfl⟩
    go_wp2
    go_ret
    exact⟨rfl,rfl⟩
   ·have H20:=Sk (qo (cur.extract 0 (dV cur)) 20 w (by omega) (by simp;omega))
    rw[yI]at H20
    have hle:dV cur≤cur.size:=by omega
    have hle1:dV cur+1≤cur.size:=by omega
    have HSZ:=Sk (show (cur.extract (dV cur+1) cur.size).size=cur.size-(dV cur+1) by simp)
    have HSL:=Sk (tJ (cur.extract (dV cur+1) cur.size) w (by simp;omega))
    rw[h2,List.all_cons]at hR
    have HRR:=Sk hR
    clear hR h2
    generalize dV cur=n at *
    cases hp:fV (cur.extract 0 n)with
    | true =>
     have HR3:=Sk (show (dU 47 (cur.extract (n+1) cur.size)).all fV=R by rw[←HRR.out,hp];rfl)
     rw[hp]at H20
     clear hp HRR
     go_wp2_with fail
     refine H20.out.mono ?_
     rintro e w' ⟨rfl,rfl⟩
     go_wp2_with fail
     refine HSL.out.mono ?_
     rintro e w' ⟨rfl,rfl⟩
     go_wp2
     go_round
     case rel=>exact⟨cur.extract (n+1) cur.size,by rw[HSZ.out];omega,rfl,rfl,HR3.out⟩
     case measure=>show (cur.extract (n+1) cur.size).size<cur.size;rw[HSZ.out];omega
    | false =>
     have E:=Sk (show R=false by rw[←HRR.out,hp];rfl)
     rw[hp]at H20
     clear hp HRR
     go_wp2_with fail
     refine H20.out.mono ?_
     rintro e w' ⟨rfl,rfl⟩
     go_wp2
     go_ret
     exact⟨by rw[E.out];rfl,rfl⟩
 ·have hd:decide (90<(s.size:Int))=true:=by simp;omega
  have E:=Sk (show bN s=false by simp[bN,h90])
  go_enter Tryz.func86,Tryz.ntmps86
  go_wp2
  go_ret
  exact⟨by rw[E.out];rfl,rfl⟩
theorem nJ (l:List ByteArray)(s:ByteArray)(A:Option Addr)(c:Nat)(w:World)(hs:SlS w w.heap.size A c l) :
  Calls Tryz.prog 159 #[.slice A l.length c,.string s] w fun e w'=>e=.returned (.bool (gU l s))∧w=w':=by
 have hc1:=hs.1
 have hc2:=hs.2.1
 unfold maxLen at hc2
 have HS:=Sk hs
 clear hs
 obtain⟨E,HE⟩:∃E,Hid (gU l s=E):=⟨_,Sk rfl⟩
 rw[HE.out]
 obtain⟨n,HN⟩:∃n,Hid (l.length=n):=⟨_,Sk rfl⟩
 rw[HN.out]at hc1 ⊢
 go_enter Tryz.func159,Tryz.ntmps159
 go_wp2
 go_loop [5] (fun ct=>∃j:Nat,j≤n∧ct=.int .i64 j∧(∀i,i<j→∀v,l[i]?=some v→(v.toList==s.toList)=false)) (fun ct=>n-(intOf ct).toNat)
 case atStart=>exact⟨0,by omega,rfl,by intro i hi;omega⟩
 case round =>
  obtain⟨j,hj,rfl,HA⟩:=hrel
  have HA':=Sk HA
  clear HA
  by_cases hlt:j<n
  ·have hjl:j<l.length:=by rw[HN.out];exact hlt
   obtain⟨b,o,rfl,hb,hcell⟩:=HS.out.at_ hjl
   have hj2:=Sk (Sw hjl)
   generalize l[j]=v at hcell hj2
   clear hjl
   cases hv:v.toList==s.toList
   ·go_wp2
    go_round
    case measure=>simp[intOf];omega
    case rel =>
     refine⟨j+1,by omega,by go_num,fun i hi u hu=>?_⟩
     by_cases hij:i=j
     ·subst hij
      rw[hj2.out]at hu
      cases hu
      exact hv
     ·exact HA'.out i (by omega) u hu
   ·have HR:=Sk (show E=true by
     rw[←HE.out,gU,TF]
     exact⟨v,SV hj2.out,by rw[Bool.beq_comm]at hv;exact hv⟩)
    go_wp2
    go_ret
    exact⟨by rw[HR.out];rfl,rfl⟩
  ·have HR:=Sk (show E=false by
    rw[←HE.out,gU,TG]
    intro v hv
    obtain⟨i,hi⟩:=List.mem_iff_getElem?.1 hv
    have:=HA'.out i (by have:=(Sy.1 hi).1;rw[HN.out]at this;omega) v hi
    rw[Bool.beq_comm]at this
    simp[this])
   go_wp2
   go_ret
   exact⟨by rw[HR.out];rfl,rfl⟩
theorem Eb (w:World)(l:List ByteArray)(t:TypeId)(hl:l.length≤maxLen):SlS (w.alloc (.cells (l.map Value.string).toArray t)) (w.alloc (.cells (l.map Value.string).toArray t)).heap.size (some ⟨w.heap.size,0,none⟩) l.length l:=
 ⟨SA _,hl,fun _=>⟨w.heap.size,0,rfl,by simp,fun j s hj=>by
  rw[Nat.zero_add,Sq _ w.heap.size j _ _ (0,0) (Sv w _)]
  simp[hj]⟩⟩
def nK:List ByteArray:=reserved.map fun l=>⟨l.toArray⟩
theorem BJ (s:ByteArray):gU nK s=Ae s.toList:=by
 unfold gU nK Ae
 rw[List.any_map]
 congr 1
 funext r
 simp only[Function.comp,ByteArray.toList_eq]
theorem xw (w:World):Calls Tryz.prog 208 #[] w fun e w'=>e=.returned (.slice (some ⟨w.heap.size,0,none⟩) 17 17)∧SlS w' w'.heap.size (some ⟨w.heap.size,0,none⟩) 17 nK∧Below w.heap.size w w':=by
 go_enter Tryz.func208,Tryz.ntmps208
 go_wp2
 go_ret
 exact⟨rfl,Eb w nK _ (by decide),(TA _ _).alloc (SA _) _⟩
theorem jq (s:ByteArray)(w:World)(hs:s.size≤9223372036854775807):Calls Tryz.prog 146 #[.string s] w fun e w'=>e=.returned (.bool (aT s))∧Below w.heap.size w w':=by
 have HW:=Sk (FV s w hs)
 cases hw:iB s with
 | false =>
  have E:=Sk (show aT s=false by simp[aT,hw])
  rw[hw]at HW
  clear hw
  go_enter Tryz.func146,Tryz.ntmps146
  go_wp2_with fail
  refine HW.out.mono ?_
  rintro e w' ⟨rfl,rfl⟩
  go_wp2
  go_ret
  exact⟨by rw[E.out];rfl,TA _ _⟩
 | true =>
  have E:=Sk (show aT s=!gU nK s by rw[BJ];simp[aT,hw])
  rw[hw]at HW
  clear hw
  have HV:=Sk (xw w)
  go_enter Tryz.func146,Tryz.ntmps146
  go_wp2_with fail
  refine HW.out.mono ?_
  rintro e w' ⟨rfl,rfl⟩
  go_wp2_with fail
  refine HV.out.mono ?_
  rintro e w1 ⟨rfl,hs1,hb1⟩
  have HH:=Sk (nJ nK s _ _ w1 hs1)
  rw[show nK.length=17 from rfl]at HH
  have HB:=Sk hb1
  clear hs1 hb1
  cases hh:gU nK s
  all_goals (
   rw[hh]at E HH
   go_wp2_with fail
   refine HH.out.mono ?_
   rintro e w' ⟨rfl,rfl⟩
   go_wp2
   go_ret
   exact⟨by rw[E.out];rfl,HB.out⟩)
end Go.Proofs.Q
