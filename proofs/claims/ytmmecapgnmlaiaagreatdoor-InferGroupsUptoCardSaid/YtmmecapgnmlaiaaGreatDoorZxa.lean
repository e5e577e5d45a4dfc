/- Small lemmas for the walks -/
import Derived.Test.YtmmecapgnmlaiaaGreatDoorProg
import Derived.Deep.LoopGhost
import Derived.WalkLawsBesides
import Derived.WalkSpells
import Derived.Lib.IndexLaws
import Derived.Maps.StringElems
import Derived.DeepKeys4
import Derived.Sort.MapsRangeIn
import Derived.Test.YtmmecapgnmlaiaaGreatDoorZz
set_option maxRecDepth 100000
set_option maxHeartbeats 16000000
namespace Go.Proofs.Q
open Go.RowKit
theorem aN {W w1:World}{B:Nat}(hb:Below B W w1):(∀b o,b<B→w1.cell? ⟨b,o,none⟩=W.cell? ⟨b,o,none⟩)∧(∀b o,b<B→w1.frozen? ⟨b,o,none⟩=W.frozen? ⟨b,o,none⟩):=
 ⟨fun b o h=>hb.cell (p:=⟨b,o,none⟩) h,fun b o h=>hb.frozen (p:=⟨b,o,none⟩) h⟩
theorem gP {n:Int}(h0:-9223372036854775808≤n)(h1:n<9223372036854775808):wrap64 n=n:=by unfold wrap64;omega
theorem Ew (a b:Int):wrap64 (wrap64 a+wrap64 b)=wrap64 (a+b):=by unfold wrap64;omega
theorem gB {k:IntKind}{a b:Int}(h:a=b):Ending.returned (.int k a)=.returned (.int k b):=by rw[h]
theorem zT {a b:Bool}(h:a=b):Ending.returned (.bool a)=.returned (.bool b):=by rw[h]
theorem oC {k:IntKind}{a b:Int}(h:a=b):Value.int k a=.int k b:=by rw[h]
inductive Fo where
 | nil
 | cons (k:Int) (n m:ByteArray) (i d:Int) (A:Option Addr) (c:Nat) (s r:Fo)
namespace Fo
def len:Fo→Nat
 | .nil=>0
 | .cons _ _ _ _ _ _ _ _ r=>r.len+1
def count:Fo→Nat
 | .nil=>0
 | .cons _ _ _ _ _ _ _ s r=>s.count+1+r.count
def At (w:World)(B:Nat):Fo→Nat→Nat→Prop
 | .nil,_,_=>True
 | .cons k n m i d A c s r,b,o =>
  w.cell? ⟨b,o,none⟩=some (.int .i64 k)∧w.cell? ⟨b,o+1,none⟩=some (.string n)∧w.cell? ⟨b,o+2,none⟩=some (.string m) ∧
  w.cell? ⟨b,o+3,none⟩=some (.int .i64 i)∧w.cell? ⟨b,o+4,none⟩=some (.int .i64 d) ∧
  (w.cell? ⟨b,o+5,none⟩=some (.slice A s.len c)∧s.len≤c∧c≤maxLen∧(s≠.nil→∃b' o',A=some ⟨b',o',none⟩∧b'<B∧s.At w B b' o')) ∧
  r.At w B b (o+6)
def Sl (w:World)(B:Nat)(A:Option Addr)(c:Nat)(s:Fo):Prop:=
 s.len≤c∧c≤maxLen∧(s≠.nil→∃b' o',A=some ⟨b',o',none⟩∧b'<B∧s.At w B b' o')
theorem At.keep {w w':World}{B B':Nat}(hB:B≤B')(hk:∀p:Addr,p.block<B→w'.cell? p=w.cell? p):∀{s:Fo}{b o:Nat},b<B→s.At w B b o→s.At w' B' b o
 | .nil,_,_,_,_=>trivial
 | .cons _ _ _ _ _ _ _ s r,b,o,hb,h=>by
  obtain⟨h0,h1,h2,h3,h4,⟨h5,hc,hm,hs⟩,hr⟩:=h
  refine⟨(hk _ hb).trans h0,(hk _ hb).trans h1,(hk _ hb).trans h2,(hk _ hb).trans h3,(hk _ hb).trans h4,⟨(hk _ hb).trans h5,hc,hm,fun hne=>?_⟩,At.keep hB hk hb hr⟩
  obtain⟨b',o',e,hb',hs'⟩:=hs hne
  exact⟨b',o',e,SB hb' hB,At.keep hB hk hb' hs'⟩
theorem Sl.keep {w w':World}{B B':Nat}{A:Option Addr}{c:Nat}{s:Fo}(h:Sl w B A c s)(hB:B≤B')(hk:∀p:Addr,p.block<B→w'.cell? p=w.cell? p):Sl w' B' A c s:=
 ⟨h.1,h.2.1,fun hne=>by
  obtain⟨b',o',e,hb',hs'⟩:=h.2.2 hne
  exact⟨b',o',e,SB hb' hB,hs'.keep hB hk hb'⟩⟩
theorem Sl.below {w w':World}{A:Option Addr}{c:Nat}{s:Fo}{B:Nat}(h:Sl w B A c s)(hb:Below B w w'):Sl w' B A c s:=h.keep (SA _) fun _ hp=>hb.cell hp
def All (p:Fo→Prop):Fo→Prop
 | .nil=>True
 | .cons _ _ _ _ _ _ _ s r=>p s∧r.All p
theorem eT {p:Fo→Prop}(step:∀s,s.All p→p s)(s:Fo):p s:=by
 have h:∀s:Fo,s.All p∧p s:=by
  intro s
  induction s with
  | nil=>exact⟨trivial,step _ trivial⟩
  | cons k n m i d A c s r hs hr =>
   have ha:(Fo.cons k n m i d A c s r).All p:=⟨hs.2,hr.1⟩
   exact⟨ha,step _ ha⟩
 exact(h s).2
end Fo
def SlS (w:World)(B:Nat)(A:Option Addr)(c:Nat)(l:List ByteArray):Prop:=
 l.length≤c∧c≤maxLen∧(l≠[]→∃b o,A=some ⟨b,o,none⟩∧b<B∧∀j s,l[j]?=some s→w.cell? ⟨b,o+j,none⟩=some (.string s))
theorem SlS.keep {w w':World}{B B':Nat}{A:Option Addr}{c:Nat}{l:List ByteArray}(h:SlS w B A c l)(hB:B≤B')(hk:∀p:Addr,p.block<B→w'.cell? p=w.cell? p):SlS w' B' A c l:=
 ⟨h.1,h.2.1,fun hne=>by
  obtain⟨b,o,e,hb,hs⟩:=h.2.2 hne
  exact⟨b,o,e,SB hb hB,fun j s hj=>(hk _ hb).trans (hs j s hj)⟩⟩
theorem SlS.below {w w':World}{A:Option Addr}{c:Nat}{l:List ByteArray}{B:Nat}(h:SlS w B A c l)(hb:Below B w w'):SlS w' B A c l:=h.keep (SA _) fun _ hp=>hb.cell hp
theorem SlS.at_ {w:World}{B:Nat}{A:Option Addr}{c:Nat}{l:List ByteArray}(h:SlS w B A c l){j:Nat}(hj:j<l.length):∃b o,A=some ⟨b,o,none⟩∧b<B∧w.cell? ⟨b,o+j,none⟩=some (.string l[j]):=by
 obtain⟨b,o,e,hb,hs⟩:=h.2.2 (by intro e;subst e;simp at hj)
 exact⟨b,o,e,hb,hs j _ (Sw hj)⟩
theorem SlS.nil (w:World)(B:Nat)(A:Option Addr)(c:Nat)(hc:c≤maxLen):SlS w B A c []:=⟨by simp,hc,fun h=>absurd rfl h⟩
theorem Fo.Sl.nil (w:World)(B:Nat)(A:Option Addr)(c:Nat)(hc:c≤maxLen):Fo.Sl w B A c .nil:=⟨by simp[Fo.len],hc,fun h=>absurd rfl h⟩
end Go.Proofs.Q
namespace Go.Proofs.Q
open Go.RowKit Go.Proofs
def iA (c:Int):Bool:=decide (97≤c)&&decide (c≤122)
def iY (c:Int):Bool:=decide (48≤c)&&decide (c≤57)
def jy (c:UInt8):Bool:=iA c.toNat
def nS (c:UInt8):Bool:=iY c.toNat
def jC (l:List UInt8):Bool:=l.all fun c=>jy c||nS c
def jl:List UInt8→Bool
 | []=>false
 | c::r=>jy c&&jC r
def iB (s:ByteArray):Bool:=decide (s.size≤24)&&jl s.data.toList
theorem lU (c:Int)(w:World):Calls Tryz.prog 168 #[.int .i32 c] w fun e w'=>e=.returned (.bool (iA c))∧w=w':=by
 by_cases h1:97≤c
 ·by_cases h2:c≤122
  all_goals
   go_enter Tryz.func168,Tryz.ntmps168
   go_wp2
   go_ret
   exact⟨by simp[iA,h1,h2],rfl⟩
 ·have h2:decide (97≤c)=false:=by simpa using h1
  go_enter Tryz.func168,Tryz.ntmps168
  go_wp2
  go_ret
  exact⟨by simp[iA];omega,rfl⟩
theorem nC (c:Int)(w:World):Calls Tryz.prog 169 #[.int .i32 c] w fun e w'=>e=.returned (.bool (iY c))∧w=w':=by
 by_cases h1:48≤c
 ·by_cases h2:c≤57
  all_goals
   go_enter Tryz.func169,Tryz.ntmps169
   go_wp2
   go_ret
   exact⟨by simp[iY,h1,h2],rfl⟩
 ·have h2:decide (48≤c)=false:=by simpa using h1
  go_enter Tryz.func169,Tryz.ntmps169
  go_wp2
  go_ret
  exact⟨by simp[iY];omega,rfl⟩
theorem nD {s:ByteArray}(h:¬s.size=0):s.toList≠[]:=by
 rw[ByteArray.toList_eq]
 intro e
 have:s.data.toList.length=0:=by rw[e];rfl
 exact h (by simpa using this)
theorem toList_nil {s:ByteArray}(h:s.size=0):s.toList=[]:=by
 rw[ByteArray.toList_eq]
 exact List.eq_nil_of_length_eq_zero (by simpa using h)
def iC (l:List UInt8)(p:Nat):Bool:=if p=0 then jl l else jC (l.drop p)
theorem zU (l:List UInt8)(p:Nat)(c:UInt8)(h:l[p]?=some c)(hc:jy c=true∨(p≠0∧nS c=true)):iC l p=iC l (p+1):=by
 have hd:l.drop p=c::l.drop (p+1):=by
  obtain⟨hl,e⟩:=Sy.1 h
  rw[TQ hl,e]
 unfold iC
 rw[TW (Nat.succ_ne_zero p)]
 by_cases h0:p=0
 ·subst h0
  simp only[List.drop_zero]at hd
  rcases hc with hc|hc
  ·rw[TY rfl]
   generalize l.drop (0+1)=r at hd
   subst hd
   simp[jl,hc]
  ·exact absurd rfl hc.1
 ·rw[TW h0,hd]
  rcases hc with hc|hc <;> simp[jC,hc]
theorem Cy (l:List UInt8)(p:Nat)(c:UInt8)(h:l[p]?=some c)(hc:jy c=false)(hd':p=0∨nS c=false):iC l p=false:=by
 have hd:l.drop p=c::l.drop (p+1):=by
  obtain⟨hl,e⟩:=Sy.1 h
  rw[TQ hl,e]
 unfold iC
 by_cases h0:p=0
 ·subst h0
  simp only[List.drop_zero]at hd
  rw[TY rfl,hd]
  simp[jl,hc]
 ·rw[TW h0,hd]
  rcases hd' with e|e
  ·exact absurd e h0
  ·simp[jC,hc,e]
theorem zV (l:List UInt8)(p:Nat)(h:l.length≤p)(h0:p≠0):iC l p=true:=by
 unfold iC
 rw[TW h0,List.drop_eq_nil_of_le h]
 rfl
theorem gQ (s:ByteArray)(p:Nat)(h:p<s.size):s.data.toList[p]?=some s[p]:=by
 rw[Sw (by simpa using h)]
 rfl
theorem Ey (s:ByteArray)(p:Nat)(h:p<s.size):∃(r n:Nat),Utf8.decode s p=(r,n) ∧
  jy s[p]=iA r∧nS s[p]=iY r∧(iA r=true∨iY r=true→n=1):=by
 by_cases ha:(s[p]'h).toNat<128
 ·exact⟨_,_,decode_ascii s p h ha,rfl,rfl,fun _=>rfl⟩
 ·obtain⟨h1,_⟩:=decode_high s p h (by omega)
  have ht:=(s[p]'h).toNat_lt
  have e1:jy s[p]=false:=by simp[jy,iA];omega
  have e2:nS s[p]=false:=by simp[nS,iY];omega
  have e3:iA (Utf8.decode s p).1=false:=by simp[iA];omega
  have e4:iY (Utf8.decode s p).1=false:=by simp[iY];omega
  exact⟨(Utf8.decode s p).1,(Utf8.decode s p).2,rfl,by rw[e1,e3],by rw[e2,e4],by rw[e3,e4];simp⟩
theorem GR (s:ByteArray)(w:World)(h0:¬s.size=0)(h24:s.size≤24):Calls Tryz.prog 120 #[.string s] w fun e w'=>e=.returned (.bool (jl s.data.toList))∧Below w.heap.size w w':=by
 have e0:s.toList.isEmpty=false:=by simpa using nD h0
 have e1:(s.toList==[])=false:=by simpa using nD h0
 have e2:decide (24<(s.size:Int))=false:=by simp;omega
 have hB:∀p,Below w.heap.size w (w.iter s p):=fun p=>(TA _ _).alloc (SA _) _
 have HB:=Sk hB
 clear hB
 go_enter Tryz.func120,Tryz.ntmps120
 go_wp2
 go_loopg [] (s.size) (fun g wr=>∃p,wr=w.iter s p∧p≤s.size∧g=s.size-p∧jl s.data.toList=iC s.data.toList p)
 case atStart=>exact⟨0,rfl,by omega,rfl,rfl⟩
 case round =>
  obtain⟨p,rfl,hp,HG,HW⟩:=hrel
  have HG':=Sk HG
  clear HG
  have HW':=Sk HW
  clear HW
  by_cases hlt:p<s.size
  ·obtain⟨r,n,hd,hl,hg,hn⟩:=Ey s p hlt
   have hnext:=fun ty=>run_next_any (P:=Tryz.prog) w s p ty hlt
   rw[hd]at hnext
   simp only at hnext
   have HC:=Sk (gQ s p hlt)
   generalize s[p]=c at hl hg HC
   clear hd
   have again:jy c=true∨(p≠0∧nS c=true)→jl s.data.toList=iC s.data.toList (p+1):=fun h=>HW'.out.trans (zU _ _ _ HC.out h)
   have stop:jy c=false→p=0∨nS c=false→jl s.data.toList=false:=fun h h'=>HW'.out.trans (Cy _ _ _ HC.out h h')
   have AG:=Sk (Sn again stop)
   clear again stop
   by_cases l1:iA r=true
   ·obtain rfl:n=1:=hn (.inl l1)
    have AG':=Sk (AG.out.1 (.inl (hl.trans l1)))
    clear hl hg hn AG HC
    go_wp2_with (first|(go_at_call 168;refine(lU _ _).mono ?_;rintro e w' ⟨rfl,rfl⟩)|(go_at_call 169;refine(nC _ _).mono ?_;rintro e w' ⟨rfl,rfl⟩))
    go_roundg (s.size-(p+1))
    case measure=>rw[HG'.out];omega
    case rel=>exact⟨p+1,rfl,by omega,rfl,AG'.out⟩
   ·have l2:iA r=false:=by simpa using l1
    clear l1
    by_cases hp0:p=0
    ·have AG':=Sk (AG.out.2 (hl.trans l2) (.inl hp0))
     have p1:((p:Int)==0)=true:=by simpa using hp0
     clear hl hg hn AG HC hp0
     go_wp2_with (first|(go_at_call 168;refine(lU _ _).mono ?_;rintro e w' ⟨rfl,rfl⟩)|(go_at_call 169;refine(nC _ _).mono ?_;rintro e w' ⟨rfl,rfl⟩))
     go_ret
     exact⟨by rw[AG'.out];rfl,HB.out _⟩
    ·have p1:((p:Int)==0)=false:=by simpa using hp0
     by_cases d1:iY r=true
     ·obtain rfl:n=1:=hn (.inr d1)
      have AG':=Sk (AG.out.1 (.inr ⟨hp0,(hg.trans d1)⟩))
      clear hl hg hn AG HC hp0
      go_wp2_with (first|(go_at_call 168;refine(lU _ _).mono ?_;rintro e w' ⟨rfl,rfl⟩)|(go_at_call 169;refine(nC _ _).mono ?_;rintro e w' ⟨rfl,rfl⟩))
      go_roundg (s.size-(p+1))
      case measure=>rw[HG'.out];omega
      case rel=>exact⟨p+1,rfl,by omega,rfl,AG'.out⟩
     ·have d2:iY r=false:=by simpa using d1
      have AG':=Sk (AG.out.2 (hl.trans l2) (.inr (hg.trans d2)))
      clear hl hg hn AG HC hp0 d1
      go_wp2_with (first|(go_at_call 168;refine(lU _ _).mono ?_;rintro e w' ⟨rfl,rfl⟩)|(go_at_call 169;refine(nC _ _).mono ?_;rintro e w' ⟨rfl,rfl⟩))
      go_ret
      exact⟨by rw[AG'.out];rfl,HB.out _⟩
  ·have hnext:=fun ty=>run_next_end (P:=Tryz.prog) w s p ty hlt
   have AG':=Sk (HW'.out.trans (zV _ p (by simp;omega) (by omega)))
   go_wp2
   go_ret
   exact⟨by rw[AG'.out];rfl,HB.out _⟩
theorem uh (s:ByteArray)(w:World):Calls Tryz.prog 120 #[.string s] w fun e w'=>e=.returned (.bool (iB s))∧Below w.heap.size w w':=by
 by_cases h0:s.size=0
 ·have e0:s.toList.isEmpty=true:=by simpa using toList_nil h0
  have e1:(s.toList==[])=true:=by simpa using toList_nil h0
  have e2:iB s=false:=by
   have:=toList_nil h0
   rw[ByteArray.toList_eq]at this
   simp[iB,this,jl]
  have E2:=Sk e2
  clear e2 h0
  go_enter Tryz.func120,Tryz.ntmps120
  go_wp2
  go_ret
  exact⟨by rw[E2.out];rfl,TA _ _⟩
 by_cases h24:s.size≤24
 ·exact(GR s w h0 h24).mono fun e w' ⟨h1,h2⟩=>⟨by simp[h1,iB,h24],h2⟩
 ·have e0:s.toList.isEmpty=false:=by simpa using nD h0
  have e1:(s.toList==[])=false:=by simpa using nD h0
  have e2:decide (24<(s.size:Int))=true:=by simp;omega
  have e3:iB s=false:=by simp[iB,h24]
  have E3:=Sk e3
  clear e3
  go_enter Tryz.func120,Tryz.ntmps120
  go_wp2
  go_ret
  exact⟨by rw[E3.out];rfl,TA _ _⟩
theorem uR (s:ByteArray)(c:Int)(w:World):Calls Tryz.prog 279 #[.string s,.int .u8 c] w fun e w'=>e=.returned (.int .i64 (Lib.indexByte s.data.toList c.toNat.toUInt8))∧w=w':=by
 go_enter Tryz.func279,Tryz.ntmps279
 go_wp2
 rw[run_callFunc_extern Tryz.func286 (by kernel_rfl) (by kernel_rfl) (by kernel_rfl) (e:=Extern.BytealgIndexByte.indexByte) (by kernel_rfl),Lib.run_indexByteString]
 simp only[Result.andThen]
 rw[Oper.upon_value]
 go_wp2
 go_ret
 exact⟨rfl,rfl⟩
theorem Cz (s:ByteArray)(c:UInt8)(w:World):Calls Tryz.prog 259 #[.string s,.string ⟨#[c]⟩] w fun e w'=>e=.returned (.int .i64 (Lib.indexByte s.data.toList c))∧w=w':=by
 by_cases hs:([c]==s.toList)=true
 ·have HS:=Sk hs
  go_enter Tryz.func259,Tryz.ntmps259
  go_wp2_with fail
  go_ret
  have:=HS.out
  rw[ByteArray.toList_eq,beq_iff_eq]at this
  exact⟨by rw[←this];simp[Lib.indexByte],rfl⟩
 ·have hs':([c]==s.toList)=false:=by simpa using hs
  clear hs
  go_enter Tryz.func259,Tryz.ntmps259
  go_wp2_with (go_at_call 279;refine(uR _ _ _).mono ?_;rintro e w' ⟨rfl,rfl⟩)
  go_ret
  exact⟨rfl,rfl⟩
theorem index_one (s:ByteArray)(c:UInt8)(w:World):Calls Tryz.prog 230 #[.string s,.string ⟨#[c]⟩] w fun e w'=>e=.returned (.int .i64 (Lib.indexByte s.data.toList c))∧w=w':=by
 go_enter Tryz.func230,Tryz.ntmps230
 go_wp2_with (go_at_call 259;refine(Cz _ _ _).mono ?_;rintro e w' ⟨rfl,rfl⟩)
 go_ret
 exact⟨rfl,rfl⟩
theorem contains_one (s:ByteArray)(c:UInt8)(w:World):Calls Tryz.prog 260 #[.string s,.string ⟨#[c]⟩] w fun e w'=>e=.returned (.bool (decide (0≤Lib.indexByte s.data.toList c)))∧w=w':=by
 go_enter Tryz.func260,Tryz.ntmps260
 go_wp2_with (go_at_call 230;refine(index_one _ _ _).mono ?_;rintro e w' ⟨rfl,rfl⟩)
 go_ret
 exact⟨rfl,rfl⟩
theorem Jk {s:ByteArray}(h:s.size=1):∃c,s=⟨#[c]⟩:=by
 obtain⟨⟨l⟩⟩:=s
 match l,(show l.length=1 from h)with
 | [c],_=>exact⟨c,rfl⟩
def bB (k:Int):Int×Int×Int×Bool:=
 if k=1 then (0,1,0,true)else if k=2 then (0,1,0,true)else if k=3 then (1,0,0,true)else if k=4 then (2,0,0,true)else if k=5 then (1,1,0,true)else if k=6 then (1,0,1,true)else if k=7 then (0,0,2,true)else if k=12 then (0,0,2,true)else if k=8 then (1,0,2,true)else if k=10 then (1,0,2,true)else if k=9 then (0,0,3,true)else if k=15 then (0,0,3,true)else if k=11 then (0,0,0,true)else if k=13 then (2,0,3,true)else if k=14 then (0,2,0,true)else (0,0,0,false)
def eU (k:Int):Prop:=k=1∨k=2∨k=3∨k=4∨k=5∨k=6∨k=7∨k=12∨k=8∨k=10∨k=9∨k=15∨k=11∨k=13∨k=14
theorem iZ {k:Int}(h:¬eU k):bB k=(0,0,0,false):=by
 unfold eU at h
 unfold bB
 repeat rw[TW (by omega)]
theorem bV (k a b c:Int)(ok:Bool)(w:World)(h:bB k=(a,b,c,ok)):Calls Tryz.prog 233 #[.int .i64 k] w fun e w' =>
  e=.returned (.tuple #[.agg #[.int .i64 a,.int .i64 b,.int .i64 c],.bool ok])∧Below w.heap.size w w':=by
 have HB:=Sk (fun o=>(TA w.heap.size w).alloc (SA _) o)
 by_cases hk:eU k
 ·unfold eU at hk
  rcases hk with rfl|rfl|rfl|rfl|rfl|rfl|rfl|rfl|rfl|rfl|rfl|rfl|rfl|rfl|rfl
  all_goals
   simp only[bB,Int.reduceEq,if_true,if_false,Prod.mk.injEq]at h
   obtain⟨rfl,rfl,rfl,rfl⟩:=h
   go_enter Tryz.func233,Tryz.ntmps233
   go_wp2
   exact Ua (by simp[results,Tryz.results233,go_sem]) rfl ⟨rfl,HB.out _⟩
 ·rw[iZ hk]at h
  simp only[Prod.mk.injEq]at h
  obtain⟨rfl,rfl,rfl,rfl⟩:=h
  unfold eU at hk
  have HK:=Sk hk
  clear hk
  have n1:(k==1)=false:=by have:=HK.out;simp;omega
  have n2:(k==2)=false:=by have:=HK.out;simp;omega
  have n3:(k==3)=false:=by have:=HK.out;simp;omega
  have n4:(k==4)=false:=by have:=HK.out;simp;omega
  have n5:(k==5)=false:=by have:=HK.out;simp;omega
  have n6:(k==6)=false:=by have:=HK.out;simp;omega
  have n7:(k==7)=false:=by have:=HK.out;simp;omega
  have n12:(k==12)=false:=by have:=HK.out;simp;omega
  have n8:(k==8)=false:=by have:=HK.out;simp;omega
  have n10:(k==10)=false:=by have:=HK.out;simp;omega
  have n9:(k==9)=false:=by have:=HK.out;simp;omega
  have n15:(k==15)=false:=by have:=HK.out;simp;omega
  have n11:(k==11)=false:=by have:=HK.out;simp;omega
  have n13:(k==13)=false:=by have:=HK.out;simp;omega
  have n14:(k==14)=false:=by have:=HK.out;simp;omega
  go_enter Tryz.func233,Tryz.ntmps233
  go_wp2
  exact Ua (by simp[results,Tryz.results233,go_sem]) rfl ⟨rfl,HB.out _⟩
def kC (k i d:Int):Bool:=
 if k=1 then decide (-999999999≤i)&&decide (i≤999999999)else if k=2 then i==0||i==1 else if k=5 then decide (1≤i)&&decide (i≤999999)else
 if k=14 then decide (1≤d)&&decide (d≤999999)&&decide (0≤i)&&decide (i≤d)else true
def bU (k i d:Int):Int:=if kC k i d then 0 else 2
theorem bC (k:Int)(n m:ByteArray)(i d:Int)(v:Value)(w:World):Calls Tryz.prog 235 #[.agg #[.int .i64 k,.string n,.string m,.int .i64 i,.int .i64 d,v]] w fun e w' =>
  e=.returned (.int .i64 (bU k i d))∧Below w.heap.size w w':=by
 have HB:=Sk (fun o=>(TA w.heap.size w).alloc (SA _) o)
 by_cases hk:k=1∨k=2∨k=5∨k=14
 ·rcases hk with rfl|rfl|rfl|rfl
  all_goals
   go_enter Tryz.func235,Tryz.ntmps235
   go_wp2
  all_goals go_ret
  all_goals refine⟨gB ?_,HB.out _⟩
  all_goals simp[bU,kC]
  all_goals (try simp_all)
  all_goals (try omega)
 ·have HK:=Sk hk
  have n1:(k==1)=false:=by simp;omega
  have n2:(k==2)=false:=by simp;omega
  have n5:(k==5)=false:=by simp;omega
  have n14:(k==14)=false:=by simp;omega
  clear hk
  go_enter Tryz.func235,Tryz.ntmps235
  go_wp2
  go_ret
  refine⟨gB ?_,HB.out _⟩
  have:=HK.out
  have e:kC k i d=true:=by
   unfold kC
   rw[TW (by omega),TW (by omega),TW (by omega),TW (by omega)]
  simp[bU,e]
def rY (s:Fo):Prop:=∀(k:Int)(n m:ByteArray)(i d:Int)(A:Option Addr)(c:Nat)(w:World),s.Sl w w.heap.size A c →
  Calls Tryz.prog 33 #[.agg #[.int .i64 k,.string n,.string m,.int .i64 i,.int .i64 d,.slice A s.len c]] w fun e w'=>e=.returned (.int .i64 (wrap64 (1+s.count)))∧Below w.heap.size w w'
theorem Ez (s:Fo)(ih:s.All rY):rY s:=by
 intro k n m i d A c w hs
 have HS:=Sk hs
 clear hs
 have IH:=Sk ih
 clear ih
 have hcap:s.len≤9223372036854775807:=by have:=HS.out.1;have:=HS.out.2.1;unfold maxLen at this;omega
 go_enter Tryz.func33,Tryz.ntmps33
 go_wp2
 go_loopg [3,4] s.len (fun g t ct wr=>∃(j:Nat) (r:Fo),g=r.len∧j+r.len=s.len∧ct=.int .i64 j∧t=.int .i64 (wrap64 (1+s.count-r.count))∧r.All rY ∧
  (r≠.nil→∃b o,A=some ⟨b,o,none⟩∧b<w.heap.size∧r.At wr w.heap.size b (o+j*6)) ∧
  Below (w.heap.size+1) (w.alloc (.cells #[.int .i64 k,.string n,.string m,.int .i64 i,.int .i64 d,.slice A s.len c] 44)) wr)
 case atStart =>
  refine⟨0,s,rfl,by omega,rfl,?_,IH.out,?_,TA _ _⟩
  ·rw[show (1+(s.count:Int)-s.count)=1 by omega,gP (by omega) (by omega)]
  ·intro hne
   obtain⟨b,o,e,hb,h⟩:=HS.out.2.2 hne
   exact⟨b,o,e,hb,by rw[Nat.zero_mul,Nat.add_zero];exact h.keep (SA _) (fun p hp=>SQ w _ p hp) hb⟩
 case round =>
  obtain⟨j,r,HG,hjr,rfl,rfl,HA,HAt,HB⟩:=hrel
  have P6:wr.cell? ⟨w.heap.size,5,none⟩=some (.slice A s.len c):=(HB.cell (p:=⟨w.heap.size,5,none⟩) (by simp)).trans (by go_simp)
  cases r with
  | nil =>
   have gJ:s.len≤j:=by simp only[Fo.len]at hjr;omega
   have nT:j≤s.len:=by simp only[Fo.len]at hjr;omega
   clear hjr HG
   go_wp2
   go_ret
   refine⟨gB (congrArg _ ?_),?_⟩
   ·simp[Fo.count]
   ·exact((TA _ _).alloc (SA _) _).trans (HB.mono (by omega))
  | cons rk rn rm ri rd A' c' rs rr =>
   have gJ:j<s.len:=by simp only[Fo.len]at hjr;omega
   obtain⟨b,o,rfl,hb,h0,h1,h2,h3,h4,⟨h5,hc',hm',hs'⟩,hr'⟩:=HAt (by simp)
   obtain⟨cnt,HC⟩:∃cnt,Hid ((Fo.cons rk rn rm ri rd A' c' rs rr).count=cnt):=⟨_,rfl⟩
   rw[HC.out]
   have HS':=Sk hs'
   clear hs'
   go_wp2_with fail
   refine(HA.1 _ _ _ _ _ _ _ _ ?_).mono ?_
   ·exact⟨hc',hm',fun hne=>by
     obtain⟨b',o',e,hb',h'⟩:=HS'.out hne
     have:=HB.size
     simp at this
     exact⟨b',o',e,by omega,h'.keep (by omega) (fun _ _=>rfl) hb'⟩⟩
   rintro e w1 ⟨rfl,hb1⟩
   go_wp2
   go_roundg rr.len
   case measure=>rw[HG];simp[Fo.len]
   case rel =>
    have hsz:=HB.size
    simp at hsz
    refine⟨j+1,rr,rfl,by simp only[Fo.len]at hjr;omega,by go_num,?_,HA.2,?_,HB.trans (hb1.mono (by omega))⟩
    ·refine oC ?_
     rw[Ew]
     refine congrArg _ ?_
     have:=HC.out
     simp only[Fo.count]at this
     omega
    ·intro hne
     refine⟨b,o,rfl,hb,?_⟩
     rw[show o+(j+1)*6=o+j*6+6 by omega]
     exact hr'.keep (SA _) (fun p hp=>hb1.cell (by omega)) hb
theorem xK (s:Fo):rY s:=Fo.eT Ez s
open Go.Maps (Keyed IsMap)
def raw (v:Value):Option (DataW Value×List MemPlace):=some (.held v,[])
def uj:Option Value→DataW Value
 | none=>.nil
 | some v=>.held v
theorem o9 {a b:Option Value}(h:uj a=uj b):a=b:=by
 cases a <;> cases b <;> simp[uj]at h <;> simp[h]
structure fq (α:Type) where
 ty:TypeId
 val:α→Value
 ok:α→Prop
 law:Keyed Tryz.prog ty
 key:α→Lit
 tot:∀a,ok a→keyOf Tryz.prog ty (val a)=some (key a)
 inv:∀v kl,keyOf Tryz.prog ty v=some kl→∃a,ok a∧v=val a
 inj:∀a b,val a=val b→a=b
theorem fq.key_inj {α:Type}(K:fq α){a b:α}(ha:K.ok a)(hb:K.ok b)(h:K.key a=K.key b):a=b:=
 K.inj a b (K.law.inj (K.tot a ha) (by rw[h];exact K.tot b hb))
section
variable {α:Type}
def aQ (K:fq α)(w:World)(b N:Nat)(g:α→Option Value):Prop:=
 ∃n D,w.ownsMap (H:=Value) Tryz.prog K.ty raw b n D∧n≤N∧IsMap D∧∀a,K.ok a→D.atKey (K.key a) .nil=uj (g a)
theorem aQ.made (K:fq α)(w:World):aQ K (w.alloc (.map #[] 0)) w.heap.size 0 (fun _=>none):=
 ⟨0,_,World.ownsMap_made _ _ _ _,SA _,⟨_,rfl⟩,fun _ _=>Maps.atKey_of_not_has rfl _⟩
theorem aQ.lt {K:fq α}{w:World}{b N:Nat}{g:α→Option Value}(h:aQ K w b N g):b<w.heap.size:=by
 obtain⟨n,D,ho,_⟩:=h
 exact ho.lt
theorem aQ.keep {K:fq α}{w w':World}{b N:Nat}{g:α→Option Value}(h:aQ K w b N g)(e:w'.heap[b]?=w.heap[b]?):aQ K w' b N g:=by
 obtain⟨n,D,⟨es,cl,h,r⟩,h2⟩:=h
 exact⟨n,D,⟨es,cl,e.trans h,r⟩,h2⟩
theorem aQ.eG {K:fq α}{w:World}{b N:Nat}{g g':α→Option Value}(h:aQ K w b N g)(e:∀a,K.ok a→g a=g' a):aQ K w b N g':=by
 obtain⟨n,D,h1,h2,h3,h4⟩:=h
 exact⟨n,D,h1,h2,h3,fun a ha=>by rw[←e a ha];exact h4 a ha⟩
theorem aQ.look {K:fq α}{w:World}{b N:Nat}{g:α→Option Value}(h:aQ K w b N g)(c:Bool){t e:TypeId}(ht:Tryz.prog.underlying t=some (.map K.ty e)){z:Value}(hz:(zeroValue e).run Tryz.prog w=.ok z w){a:α}(ha:K.ok a) :
  (Instr.lookup t (.map (some b)) (K.val a) c).run Tryz.prog w=.ok (if c then .tuple #[(g a).getD z,.bool (g a).isSome]else (g a).getD z) w:=by
 obtain⟨n,D,⟨es,clock,hb,F,_,rfl⟩,_,_,hat⟩:=h
 have hg:=hat a ha
 rcases Maps.fit_look c K.law ht hz hb F (K.tot a ha)with⟨hrun,_,h2⟩|⟨e0,y,_,_,hrun,hR,h2,_⟩
 ·rw[h2]at hg
  have:g a=none:=o9 (b:=none) (by rw[←hg];rfl)
  rw[hrun,this];rfl
 ·rw[h2]at hg
  simp only[raw,TK]at hR
  have:g a=some e0.val:=o9 (b:=some e0.val) (by rw[←hg,←hR];rfl)
  rw[hrun,this];rfl
theorem aQ.put [DecidableEq α]{K:fq α}{w:World}{b N:Nat}{g:α→Option Value}(h:aQ K w b N g){t e:TypeId}(ht:Tryz.prog.underlying t=some (.map K.ty e))(hN:N<maxLen){a:α}(ha:K.ok a)(v:Value) :
  ∃w',(Instr.mapUpdate t (.map (some b)) (K.val a) v).run Tryz.prog w=.ok () w'∧aQ K w' b (N+1) (fun x=>if x=a then some v else g x)∧w.grownBy w' (some b):=by
 obtain⟨n,D,ho,hn,hm,hat⟩:=h
 obtain⟨w',hrun,ho',hg⟩:=ho.update (d:=.held v) (ps:=[]) K.law ht (by omega) (K.tot a ha) rfl
 refine⟨w',hrun,⟨n+1,_,ho',by omega,hm.put _ _,fun x hx=>?_⟩,hg⟩
 have hk:=K.law.key (K.tot x hx)
 by_cases e:x=a
 ·subst e
  rw[Maps.atKey_put_same hm hk];simp[uj]
 ·rw[Maps.atKey_put_other (fun h=>e (K.key_inj hx ha h)),hat x hx];simp[e]
section
variable {F:Fence} {n:Nat}
end
end
theorem Tryz.Jl:laidOutB Tryz.prog=true:=by kernel_rfl
theorem Tryz.LD:102 < Tryz.prog.types.size:=SK (by kernel_rfl)
theorem Tryz.Jm:(match Tryz.prog.underlying 102 with|some (.array _ _)|some (.struct _)=>true|_=>false)=true:=by kernel_rfl
theorem LG:Keyed Tryz.prog 102:=Keyed.of_law (deep_law_laid Tryz.Jl (m:=2) (by omega) Tryz.LD (by kernel_rfl) Tryz.Jm)
def rZ (n:ByteArray×Int):Value:=.agg #[.string n.1,.int .i64 n.2]
def NOk (n:ByteArray×Int):Prop:=n.1.size≤maxLen∧(Lit.int .i64 n.2).wf=true
def Jo (n:ByteArray×Int):Lit:=.string (keyBytes [.string n.1.data.toList,.int .i64 n.2])
theorem Tryz.CB:Tryz.prog.keyType 102=true:=by kernel_rfl
theorem Tryz.qG:Tryz.prog.cellsOf 102=2:=by kernel_rfl
theorem Tryz.zW:Tryz.prog.cellsOf 9=1:=by kernel_rfl
theorem Tryz.GU:Tryz.prog.cellsOf 3=1:=by kernel_rfl
theorem Tryz.OY:∃k,Tryz.prog.types.size+1=k+2:=⟨Tryz.prog.types.size-1,by kernel_rfl⟩
theorem CF (k:Nat)(x:Value):Tryz.prog.keyLits (k+1) 9 [x]=(match x with|.string s=>if s.size≤maxLen then some [.string s.data.toList]else none|_=>none):=by
 unfold Program.keyLits
 simp only[Tryz.underlying9]
 cases x <;> rfl
theorem keyLits_int (k:Nat)(x:Value):Tryz.prog.keyLits (k+1) 3 [x]=(match x with|.int q n=>if q=.i64∧(Lit.int .i64 n).wf=true then some [.int .i64 n]else none|_=>none):=by
 unfold Program.keyLits
 simp only[Tryz.underlying3]
 cases x
 case int q n =>
  by_cases h:q=.i64
  ·subst h;rfl
  ·simp[h]
 all_goals rfl
theorem qH (k:Nat)(x y:Value):Tryz.prog.keyLits (k+2) 102 [x,y]=(match x,y with|.string s,.int q n=>if s.size≤maxLen∧q=.i64∧(Lit.int .i64 n).wf=true then some [.string s.data.toList,.int .i64 n]else none|_,_=>none):=by
 unfold Program.keyLits
 simp only[Tryz.underlying102,Tryz.qG]
 simp[CF,keyLits_int,Tryz.zW,Tryz.GU]
 cases x <;> cases y <;> simp
 rename_i s q n
 by_cases h1:s.size≤maxLen <;> by_cases h2:q=.i64∧(Lit.int .i64 n).wf=true <;> simp[h1,h2]
theorem uS (v:Value):∃k,keyOf Tryz.prog 102 v=if v.formed Tryz.prog 102=true then (Tryz.prog.keyLits (k+2) 102 v.cells.toList).map (fun ls=>.string (keyBytes ls))else none:=by
 obtain⟨k,hk⟩:=Tryz.OY
 refine⟨k,?_⟩
 unfold keyOf
 rw[hk]
 simp only[Tryz.underlying102,Tryz.CB,Bool.true_and]
theorem EA (x y:Value):(Value.agg #[x,y]).formed Tryz.prog 102=true:=by
 simp[Value.formed,Tryz.underlying102,Tryz.qG]
theorem GV {n:ByteArray×Int}(h:NOk n):keyOf Tryz.prog 102 (rZ n)=some (Jo n):=by
 obtain⟨k,hk⟩:=uS (rZ n)
 rw[hk]
 unfold rZ Jo
 rw[TY (EA _ _)]
 simp[Value.cells,qH,h.1,h.2]
theorem Jp {v:Value}{kl:Lit}(h:keyOf Tryz.prog 102 v=some kl):∃n,NOk n∧v=rZ n:=by
 obtain⟨k,hk⟩:=uS v
 rw[hk]at h
 split at h
 ·rename_i hf
  unfold Value.formed at hf
  rw[Tryz.underlying102]at hf
  cases v with
  | agg cs =>
   rw[Tryz.qG]at hf
   simp only[beq_iff_eq]at hf
   match cs,hf with
   | ⟨[x,y]⟩,_ =>
    simp only[Value.cells,qH]at h
    cases x with
    | string s =>
     cases y with
     | int q n =>
      simp at h
      obtain⟨⟨h1,rfl,h2⟩,_⟩:=h
      exact⟨(s,n),⟨h1,h2⟩,rfl⟩
     | _=>simp at h
    | _=>simp at h
  | _=>simp at hf
 ·cases h
def r9:fq (ByteArray×Int) where
 ty:=102
 val:=rZ
 ok:=NOk
 law:=LG
 key:=Jo
 tot _ h:=GV h
 inv _ _ h:=Jp h
 inj a b h:=by
  simp only[rZ,Value.agg.injEq,Array.mk.injEq,List.cons.injEq,Value.string.injEq,Value.int.injEq,true_and,and_true]at h
  exact Prod.ext h.1 h.2
def Jb:fq ByteArray where
 ty:=9
 val:=.string
 ok s:=s.size≤maxLen
 law:=Maps.string_keyed Tryz.underlying9
 key s:=.string s.data.toList
 tot s h:=by simp[keyOf,Tryz.underlying9,mapKey,h]
 inv v kl h:=by
  cases v <;> simp[keyOf,Tryz.underlying9,mapKey]at h
  exact⟨_,h.1,rfl⟩
 inj a b h:=by simpa using h
end Go.Proofs.Q
namespace Go.Proofs.Q
open Go.RowKit Go.Proofs
def aH:fq Int where
 ty:=3
 val:=.int .i64
 ok i:=(Lit.int .i64 i).wf=true
 law:=Maps.int_keyed Tryz.underlying3
 key i:=.int .i64 i
 tot i h:=by simp[keyOf,Tryz.underlying3,mapKey,h]
 inv v kl h:=by
  cases v <;> simp[keyOf,Tryz.underlying3,mapKey]at h
  obtain⟨⟨rfl,h1⟩,_⟩:=h
  exact⟨_,h1,rfl⟩
 inj a b h:=by simpa using h
def Fo.depth:Fo→Nat
 | .nil=>0
 | .cons _ _ _ _ _ _ _ s r=>max (s.depth+1) r.depth
theorem Fo.pq:∀s:Fo,s.depth≤s.count
 | .nil=>SA _
 | .cons _ _ _ _ _ _ _ s r=>by
  have h1:=pq s
  have h2:=pq r
  simp only[Fo.depth,Fo.count]
  omega
def su (s:Fo):Prop:=∀(k:Int)(n m:ByteArray)(i d:Int)(A:Option Addr)(c:Nat)(w:World),s.count≤1000000→s.Sl w w.heap.size A c →
  Calls Tryz.prog 26 #[.agg #[.int .i64 k,.string n,.string m,.int .i64 i,.int .i64 d,.slice A s.len c]] w fun e w'=>e=.returned (.int .i64 (s.depth+1:Nat))∧Below w.heap.size w w'
theorem EB (s:Fo)(ih:s.All su):su s:=by
 intro k n m i d A c w hcnt hs
 have HS:=Sk hs
 clear hs
 have IH:=Sk ih
 clear ih
 have hcap:s.len≤9223372036854775807:=by have:=HS.out.1;have:=HS.out.2.1;unfold maxLen at this;omega
 obtain⟨D,HD⟩:∃D,Hid (s.depth=D):=⟨_,Sk rfl⟩
 have RH:D≤1000000:=by have:=s.pq;rw[HD.out]at this;omega
 rw[HD.out]
 go_enter Tryz.func26,Tryz.ntmps26
 go_wp2
 go_loopg [3,4] s.len (fun g t ct wr=>∃(j:Nat) (q:Nat) (r:Fo),g=r.len∧j+r.len=s.len∧ct=.int .i64 j∧t=.int .i64 q∧(max q r.depth=D∧r.count≤s.count)∧r.All su ∧
  (r≠.nil→∃b o,A=some ⟨b,o,none⟩∧b<w.heap.size∧r.At wr w.heap.size b (o+j*6)) ∧
  Below (w.heap.size+1) (w.alloc (.cells #[.int .i64 k,.string n,.string m,.int .i64 i,.int .i64 d,.slice A s.len c] 44)) wr)
 case atStart =>
  refine⟨0,0,s,rfl,by omega,rfl,rfl,⟨by rw[HD.out];omega,SA _⟩,IH.out,?_,TA _ _⟩
  intro hne
  obtain⟨b,o,e,hb,h⟩:=HS.out.2.2 hne
  exact⟨b,o,e,hb,by rw[Nat.zero_mul,Nat.add_zero];exact h.keep (SA _) (fun p hp=>SQ w _ p hp) hb⟩
 case round =>
  obtain⟨j,q,r,HG,hjr,rfl,rfl,⟨hq,hrc⟩,HA,HAt,HB⟩:=hrel
  have P6:wr.cell? ⟨w.heap.size,5,none⟩=some (.slice A s.len c):=(HB.cell (p:=⟨w.heap.size,5,none⟩) (by simp)).trans (by go_simp)
  cases r with
  | nil =>
   have gJ:s.len≤j:=by simp only[Fo.len]at hjr;omega
   have nT:j≤s.len:=by simp only[Fo.len]at hjr;omega
   have hqD:q=D:=by simp only[Fo.depth]at hq;omega
   subst hqD
   clear hjr HG hq hrc
   go_wp2
   go_ret
   refine⟨gB ?_,?_⟩
   ·go_num
   ·exact((TA _ _).alloc (SA _) _).trans (HB.mono (by omega))
  | cons rk rn rm ri rd A' c' rs rr =>
   have gJ:j<s.len:=by simp only[Fo.len]at hjr;omega
   obtain⟨b,o,rfl,hb,h0,h1,h2,h3,h4,⟨h5,hc',hm',hs'⟩,hr'⟩:=HAt (by simp)
   have hq2:q≤1000000:=by omega
   have hrs:rs.depth+1≤1000000:=by simp only[Fo.depth]at hq;omega
   have HQ:=Sk (Sn hq hrc)
   clear hq hrc
   have HS':=Sk hs'
   clear hs'
   go_wp2_with fail
   refine(HA.1 _ _ _ _ _ _ _ _ ?_ ?_).mono ?_
   ·have:=HQ.out.2
    simp only[Fo.count]at this
    omega
   ·exact⟨hc',hm',fun hne=>by
     obtain⟨b',o',e,hb',h'⟩:=HS'.out hne
     have:=HB.size
     simp at this
     exact⟨b',o',e,by omega,h'.keep (by omega) (fun _ _=>rfl) hb'⟩⟩
   rintro e w1 ⟨rfl,hb1⟩
   have HD2:Hid (∃Q,Q=rs.depth+1):=⟨_,rfl⟩
   obtain⟨Q,hQ⟩:=HD2.out
   rw[←hQ]at hrs ⊢
   have HQQ:=Sk hQ
   clear hQ HD2
   go_wp2
   all_goals (
    go_roundg rr.len
    case measure=>simp only[Fo.len];omega
    case rel =>
     have hsz:=HB.size
     simp at hsz
     refine⟨j+1,_,rr,rfl,by simp only[Fo.len]at hjr;omega,by go_num,rfl,⟨?_,?_⟩,HA.2,?_,HB.trans (hb1.mono (by omega))⟩
     ·have:=HQ.out.1
      have e:=HQQ.out
      simp only[Fo.depth]at this
      omega
     ·have:=HQ.out.2
      simp only[Fo.count]at this
      omega
     ·intro hne
      refine⟨b,o,rfl,hb,?_⟩
      rw[show o+(j+1)*6=o+j*6+6 by omega]
      exact hr'.keep (SA _) (fun p hp=>hb1.cell (by omega)) hb)
theorem GX (s:Fo):su s:=Fo.eT EB s
end Go.Proofs.Q
