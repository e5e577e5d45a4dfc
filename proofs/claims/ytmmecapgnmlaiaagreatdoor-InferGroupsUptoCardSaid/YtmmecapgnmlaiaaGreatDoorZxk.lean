/- slices.Compact at names -/
import Derived.Test.YtmmecapgnmlaiaaGreatDoorZxh
import Derived.Deep.Onto
set_option maxRecDepth 100000
set_option maxHeartbeats 16000000
namespace Go.Proofs.Q
open Go.RowKit Go.Proofs Go.Shelf
def eqN (x y:ByteArray×Int):Bool:=(x.1.toList==y.1.toList)&&(x.2==y.2)
def dd:ByteArray×Int→List (ByteArray×Int)→List (ByteArray×Int)
 | _,[]=>[]
 | p,y::r=>if eqN y p then dd y r else y::dd y r
def cZ:List (ByteArray×Int)→List (ByteArray×Int)
 | []=>[]
 | x::r=>x::dd x r
def JK (l:List (ByteArray×Int))(base:Nat)(w:World)(g:Nat)(e:Ending)(w':World):Prop:=
 ∃v,e=.returned v∧w'.ownsRow base 102 2 v (cZ l).length (aL (cZ l))∧w.grownBy w' (some g)
theorem zS (a b:ByteArray)(i j:Int)(w:World):(binOp .eql 102 (.agg #[.string a,.int .i64 i]) (.agg #[.string b,.int .i64 j])).run Tryz.prog w=.ok (.bool ((a.toList==b.toList)&&(i==j))) w:=by
 have hm:Tryz.prog.stoodInHeld 102=false:=by kernel_rfl
 rw[run_eql_struct,run_equalIn_struct w 9999 102 _ _ (by kernel_rfl) hm]
 have hf:=Tryz.underlying102
 cases h1:(a.toList==b.toList) <;> cases h2:(i==j) <;> simp[Op.eqFields,Program.fieldsOf,hf,go_sem,h1,h2]
theorem JL (a b:ByteArray)(i j:Int)(w:World):(binOp .neq 102 (.agg #[.string a,.int .i64 i]) (.agg #[.string b,.int .i64 j])).run Tryz.prog w=.ok (.bool (!((a.toList==b.toList)&&(i==j)))) w:=by
 have hm:Tryz.prog.stoodInHeld 102=false:=by kernel_rfl
 rw[run_neq_struct,run_equalIn_struct w 9999 102 _ _ (by kernel_rfl) hm]
 have hf:=Tryz.underlying102
 cases h1:(a.toList==b.toList) <;> cases h2:(i==j) <;> simp[Op.eqFields,Program.fieldsOf,hf,go_sem,h1,h2]
theorem yZ {x y:ByteArray×Int}(h:eqN y x=false)(r:List (ByteArray×Int)):dd x (y::r)=y::dd y r:=by rw[dd,TW (by rw[h];simp)]
theorem zf {x y:ByteArray×Int}(h:eqN y x=true)(r:List (ByteArray×Int)):dd x (y::r)=dd y r:=by rw[dd,TY h]
theorem EZ {w:World}{base g n cap size m:Nat}{e:TypeId}{xs:List Value}(h:w.ownsRow base e size (.slice (some ⟨g,0,none⟩) n cap) n xs)(hm:m≤n):w.ownsRow base e size (.slice (some ⟨g,0,none⟩) m cap) m (xs.take (m*size)):=by
 rcases h.2 with⟨h',_⟩|⟨g',cap',cur,h',hb,hg,h1,h2,h3,h4⟩
 ·simp at h'
 ·simp only[Value.slice.injEq,TK,Addr.mk.injEq,and_true,true_and]at h'
  obtain⟨rfl,rfl⟩:=h'
  have hms:m*size≤n*size:=Nat.mul_le_mul_right _ hm
  refine⟨by rw[Um,h.1];omega,.inr ⟨g,cap,cur,rfl,hb,hg,by omega,h2,h3,?_⟩⟩
  rw[←h4,List.take_take,Nat.min_eq_left hms]
theorem qQ {base g n cap size:Nat}{e:TypeId}:∀(vs:List Value)(o:Nat)(xs:List Value)(w:World),w.ownsRow base e size (.slice (some ⟨g,0,none⟩) n cap) n xs →
  ∃xs',(w.setCells g o vs).ownsRow base e size (.slice (some ⟨g,0,none⟩) n cap) n xs'∧xs'.take o=xs.take o∧w.grownBy (w.setCells g o vs) (some g)
 | [],o,xs,w,h=>⟨xs,h,rfl,World.grownBy.refl _ _⟩
 | v::vs,o,xs,w,h=>by
  obtain⟨h1,hg1⟩:=h.stored o v
  obtain⟨xs',h2,h3,hg2⟩:=qQ vs (o+1) _ _ h1
  refine⟨xs',h2,?_,?_⟩
  ·have:=congrArg (List.take o) h3
   rw[List.take_take,List.take_take,Nat.min_eq_left (by omega)]at this
   rw[this,List.take_set_of_le (SA _)]
  ·exact⟨hg2.os.trans hg1.os,hg2.tape.trans hg1.tape,hg2.output.trans hg1.output,SE hg1.size hg2.size,fun k hk hne=>(hg2.block k (SB hk hg1.size) hne).trans (hg1.block k hk hne)⟩
theorem yS (w:World){ops:Array Oper}{rest:List Oper}{o:Oper}{a:Act}{Q:Exit→Act→World→Prop}(hgd:o.guard=none)(s:Operand)(ho:o.op=.call { callee:=.builtin .clear,args:=#[s],argTypes:=#[99] })
  (b off n c:Nat)(hs:a.eval s=.slice (some ⟨b,off,none⟩) n c)(hn:0<n)(hc:∀j,j<n*2→(w.cell? ⟨b,off+j,none⟩).isSome=true)(hf:∀j,j<n*2→w.frozen? ⟨b,off+j,none⟩=false)
  (h:∀zs:List Value,wpList Tryz.prog ops Q rest (a.put o.dst (.tuple #[])) (w.setCells b off zs)):wpList Tryz.prog ops Q (o::rest) a w:=by
 refine wpList_plain hgd fun K hK=>?_
 obtain⟨zs,hzs⟩:∃zs,(Builtin.zeroCells (Value.cells (.agg #[.string ⟨#[]⟩,.int .i64 0])) n).toList=zs:=⟨_,rfl⟩
 have hzl:zs.length=n*2:=by rw[←hzs];simp[Builtin.zeroCells,Value.cells]
 have hz1:∀v∈zs,v.oneCell'=true:=by
  intro v hv
  rw[←hzs]at hv
  simp only[Builtin.zeroCells,Value.cells,Array.toList_map,TH,Array.toList_range]at hv
  obtain⟨j,_,rfl⟩:=hv
  rcases (show j % 2=0∨j % 2=1 by omega)with h|h <;> simp[h,Value.oneCell']
 have hst:=run_storeCells_cells (P:=Tryz.prog) b off zs 0 w (by intro j hj;simp only[Nat.add_zero];exact hc j (by omega)) (by intro j hj;simp only[Nat.add_zero];exact hf j (by omega)) hz1
 simp only[Nat.add_zero]at hst
 have hrun:(Builtin.clear_ #[99] o.type #[.slice (some ⟨b,off,none⟩) n c]).run Tryz.prog w=.ok (.tuple #[]) (w.setCells b off zs):=by
  obtain⟨m,rfl⟩:∃m,n=m+1:=⟨n-1,by omega⟩
  simp[Builtin.clear_,run_underlying Tryz.underlying99,hzs,hst]
 unfold Oper.wp
 simp[execOp,ho,resolve,invoke,builtin,hs,hrun,Result.andThen]
 exact hK _ _ (h zs)
theorem vD (x:ByteArray×Int):∀(l:List (ByteArray×Int))(j:Nat),j<l.length→((aL l).set (j*2) (.string x.1)).set (j*2+1) (.int .i64 x.2)=aL (l.set j x)
 | [],j,h=>by simp at h
 | y::l,0,_=>by simp[aL,dY]
 | y::l,j+1,h=>by
  have ih:=vD x l j (by simpa using h)
  rw[show (j+1)*2=j*2+1+1 by omega,show j*2+1+1+1=(j*2+1)+1+1 from rfl]
  simp only[aL,dY,TU,List.nil_append,List.set_cons_succ,ih]
theorem nR:∀(l:List (ByteArray×Int))(m:Nat),(aL l).take (m*2)=aL (l.take m)
 | [],m=>by simp[aL]
 | x::l,0=>by simp[aL]
 | x::l,m+1=>by
  rw[show (m+1)*2=m*2+1+1 by omega]
  simp[aL,dY,nR l m]
def Qi (l:List (ByteArray×Int))(base g cap N k:Nat)(w:World)(gg:Nat)(kv k2v:Value)(wr:World):Prop:=
 ∃(m j:Nat) (Z:List (ByteArray×Int)),gg=N-(k+2+j)∧k+2+j≤N∧1≤m∧m≤k+1+j∧kv=.int .i64 m∧k2v=.int .i64 ((j:Int)+1)∧Z.length=N∧wr.ownsRow base 102 2 (.slice (some ⟨g,0,none⟩) N cap) N (aL Z)∧w.grownBy wr (some g) ∧
  cZ l=Z.take m++dd (l.getD (k+1+j) (⟨#[]⟩,0)) (l.drop (k+2+j))∧∀i,k+1+j≤i→Z[i]?=l[i]?
theorem CY (l:List (ByteArray×Int))(base g cap:Nat)(w:World)(h:w.ownsRow base 102 2 (.slice (some ⟨g,0,none⟩) l.length cap) l.length (aL l))(hl:l.length≤1000000)(hl2:2≤l.length) :
  Calls Tryz.prog 118 #[.slice (some ⟨g,0,none⟩) l.length cap] w (JK l base w g):=by
 have hcap:l.length≤cap∧cap≤9223372036854775807:=by
  rcases h.2 with⟨h0,_⟩|⟨g',cap',cur,h0,_,_,hle,hmx,_⟩
  ·cases h0
  ·cases h0;unfold maxLen at hmx;omega
 obtain⟨N,HN⟩:∃Q,Hid (l.length=Q):=⟨_,Sk rfl⟩
 rw[HN.out]at hcap hl hl2 h ⊢
 have HO:=Sk h
 clear h
 go_enter Tryz.func118,Tryz.ntmps118
 go_wp2
 go_loopg [3] (N-1) (fun gg kv wr=>∃k:Nat,gg=N-(k+1)∧k+1≤N∧kv=.int .i64 ((k:Int)+1)∧cZ l=l.take (k+1)++dd (l.getD k (⟨#[]⟩,0)) (l.drop (k+1))∧∃q,wr=w.drewN q)
 case atStart =>
  refine⟨0,rfl,by omega,rfl,?_,0,rfl⟩
  cases l with
  | nil=>have:=HN.out;simp at this;omega
  | cons x r=>simp[cZ]
 case round =>
  obtain⟨k,HG,hk,rfl,HC,q,rfl⟩:=hrel
  have HG':=Sk (Sn HG HC)
  clear HG HC
  by_cases hlt:k+1<N
  ·have hkl:k+1<l.length:=by rw[HN.out];exact hlt
   obtain⟨x,hx⟩:∃x,l[k]?=some x:=⟨_,Sw (by omega)⟩
   obtain⟨y,hy⟩:∃y,l[k+1]?=some y:=⟨_,Sw hkl⟩
   obtain⟨x0,x1⟩:=fC x l k hx
   obtain⟨y0,y1⟩:=fC y l (k+1) hy
   have cx0:w.cell? ⟨g,k*2,none⟩=some (.string x.1):=(HO.out.cellAt (k*2) (by omega)).trans x0
   have cx1:w.cell? ⟨g,k*2+1,none⟩=some (.int .i64 x.2):=(HO.out.cellAt (k*2+1) (by omega)).trans x1
   have cy0:w.cell? ⟨g,(k+1)*2,none⟩=some (.string y.1):=(HO.out.cellAt ((k+1)*2) (by omega)).trans y0
   have cy1:w.cell? ⟨g,(k+1)*2+1,none⟩=some (.int .i64 y.2):=(HO.out.cellAt ((k+1)*2+1) (by omega)).trans y1
   have HXY:=Sk (Sn hx hy)
   clear x0 x1 y0 y1 hx hy hkl
   have hw1:IntKind.i64.wrap (k:Int)=k:=IntWalk.i64_in _ (by omega)
   have hj0:(0:Int)≤(k:Int):=by omega
   have hj1:(k:Int)<(N:Int):=by omega
   have hj2:(0:Int)≤(k:Int)+1:=by omega
   have hj3:(k:Int)+1<(N:Int):=by omega
   obtain⟨xa,xi⟩:=x
   obtain⟨ya,yi⟩:=y
   simp only at cx0 cx1 cy0 cy1
   have hdrop:l.drop (k+1)=(ya,yi)::l.drop (k+2):=by
    have h:=HXY.out.2
    rw[TQ (by rw[HN.out];omega)]
    rw[Sw (by rw[HN.out];omega)]at h
    simp only[TK]at h
    rw[h]
   have htake:l.take (k+2)=l.take (k+1)++[(ya,yi)]:=by
    rw[TT (by rw[HN.out];omega)]
    have h:=HXY.out.2
    rw[Sw (by rw[HN.out];omega)]at h
    simp only[TK]at h
    rw[h]
   have hgx:l.getD k (⟨#[]⟩,0)=(xa,xi):=by rw[TM,HXY.out.1];rfl
   have hgy:l.getD (k+1) (⟨#[]⟩,0)=(ya,yi):=by rw[TM,HXY.out.2];rfl
   have HD:=Sk (Sn hdrop (Sn htake (Sn hgx hgy)))
   clear hdrop htake hgx hgy
   have hE:=zS ya xa yi xi
   cases he:eqN (ya,yi) (xa,xi)
   ·have HEQ:=Sk he
    unfold eqN at he
    simp only at he
    rw[he]at hE
    go_wp2_with fail
    go_quiet (fail)
    go_wp2_with fail
    go_roundg (N-(k+1+1))
    case measure=>rw[HG'.out.1];omega
    case rel =>
     refine⟨k+1,rfl,by omega,by go_num,?_,q+nq,by simp[World.drewN]⟩
     rw[HG'.out.2,HD.out.1,HD.out.2.2.1,HD.out.2.2.2,yZ HEQ.out,HD.out.2.1]
     simp
   ·have HEQ:=Sk he
    unfold eqN at he
    simp only at he
    rw[he]at hE
    have HCC:=Sk (show cZ l=l.take (k+1)++dd (l.getD (k+1) (⟨#[]⟩,0)) (l.drop (k+2)) by
     rw[HG'.out.2,HD.out.1,HD.out.2.2.1,HD.out.2.2.2,zf HEQ.out])
    have hsl1:k+1<cap:=by omega
    go_wp2_with fail
    go_quiet (fail)
    clear cx0 cx1 cy0 cy1 hE he HD HXY
    go_wp2_with fail
    go_loopg [3,5] (N-(k+2)) (fun gg kv k2v wr=>Qi l base g cap N k w gg kv k2v wr)
    case atStart=>exact⟨k+1,0,l,rfl,by omega,by omega,by omega,by go_num,rfl,HN.out,HO.out,⟨rfl,rfl,rfl,SA _,fun _ _ _=>rfl⟩,HCC.out,fun _ _=>rfl⟩
    case round =>
     obtain⟨m,j,Z,HG2,hj,hm0,hm,rfl,rfl,hZ,hown,hgr,HC2,HZ⟩:=hrel
     have H2:=Sk (Sn HG2 (Sn hZ (Sn hown (Sn hgr (Sn HC2 HZ)))))
     have hmN:m<N:=by omega
     clear HG2 hZ hgr HC2 HZ
     by_cases hlt2:k+2+j<N
     ·obtain⟨x,hx⟩:∃x,Z[k+1+j]?=some x:=⟨_,Sw (by rw[H2.out.2.1];omega)⟩
      obtain⟨y,hy⟩:∃y,Z[k+2+j]?=some y:=⟨_,Sw (by rw[H2.out.2.1];omega)⟩
      obtain⟨z,hzz⟩:∃z,Z[m]?=some z:=⟨_,Sw (by rw[H2.out.2.1];omega)⟩
      obtain⟨x0,x1⟩:=fC x Z _ hx
      obtain⟨y0,y1⟩:=fC y Z _ hy
      obtain⟨z0,z1⟩:=fC z Z _ hzz
      have cx0:wr.cell? ⟨g,(k+1)*2+j*2,none⟩=some (.string x.1):=by rw[show (k+1)*2+j*2=(k+1+j)*2 by omega];exact(hown.cellAt _ (by omega)).trans x0
      have cx1:wr.cell? ⟨g,(k+1)*2+j*2+1,none⟩=some (.int .i64 x.2):=by rw[show (k+1)*2+j*2=(k+1+j)*2 by omega];exact(hown.cellAt _ (by omega)).trans x1
      have cy0:wr.cell? ⟨g,(k+1)*2+(j+1)*2,none⟩=some (.string y.1):=by rw[show (k+1)*2+(j+1)*2=(k+2+j)*2 by omega];exact(hown.cellAt _ (by omega)).trans y0
      have cy1:wr.cell? ⟨g,(k+1)*2+(j+1)*2+1,none⟩=some (.int .i64 y.2):=by rw[show (k+1)*2+(j+1)*2=(k+2+j)*2 by omega];exact(hown.cellAt _ (by omega)).trans y1
      have cz0:wr.cell? ⟨g,m*2,none⟩=some (.string z.1):=(hown.cellAt _ (by omega)).trans z0
      have cz1:wr.cell? ⟨g,m*2+1,none⟩=some (.int .i64 z.2):=(hown.cellAt _ (by omega)).trans z1
      have fz0:=hown.frozenAt (m*2)
      have fz1:=hown.frozenAt (m*2+1)
      have hst:=(hown.stored (m*2) (.string y.1)).1.stored (m*2+1) (.int .i64 y.2)
      have Nz:=(hown.stored (m*2) (.string y.1)).2
      rw[vD y Z m (by rw[H2.out.2.1];omega)]at hst
      have HXY:=Sk (Sn hx (Sn hy (Sn hst Nz)))
      clear x0 x1 y0 y1 z0 z1 hx hy hzz hst Nz hown
      have hw1:IntKind.i64.wrap (j:Int)=j:=IntWalk.i64_in _ (by omega)
      have b0:(0:Int)≤(j:Int):=by omega
      have b1:j<N-(k+1):=by omega
      have b2:j+1<N-(k+1):=by omega
      have b3:(j:Int)<((N-(k+1):Nat):Int):=by omega
      have b4:(j:Int)+1<((N-(k+1):Nat):Int):=by omega
      have b5:(0:Int)≤(j:Int)+1:=by omega
      have b6:(m:Int)<(N:Int):=by omega
      have hbz:((N-(k+1):Nat):Int)≤1000000:=by omega
      obtain⟨xa,xi⟩:=x
      obtain⟨ya,yi⟩:=y
      obtain⟨za,zi⟩:=z
      simp only at cx0 cx1 cy0 cy1 cz0 cz1 HXY
      have hZd:l.drop (k+2+j)=(ya,yi)::l.drop (k+2+(j+1)):=by
       have h:=HXY.out.2.1
       rw[H2.out.2.2.2.2.2 _ (by omega)]at h
       rw[TQ (by rw[HN.out];omega)]
       rw[Sw (by rw[HN.out];omega)]at h
       simp only[TK]at h
       rw[h]
       rfl
      have hgx:l.getD (k+1+j) (⟨#[]⟩,0)=(xa,xi):=by rw[TM,←H2.out.2.2.2.2.2 _ (SA _),HXY.out.1];rfl
      have hgy:l.getD (k+1+(j+1)) (⟨#[]⟩,0)=(ya,yi):=by rw[TM,←H2.out.2.2.2.2.2 _ (by omega),show k+1+(j+1)=k+2+j by omega,HXY.out.2.1];rfl
      have HD:=Sk (Sn hZd (Sn hgx hgy))
      clear hZd hgx hgy
      have hE:=JL ya xa yi xi
      cases he:eqN (ya,yi) (xa,xi)
      ·have HEQ:=Sk he
       unfold eqN at he
       simp only at he
       rw[he]at hE
       go_wp2_with fail
       go_quiet (fail)
       go_wp2_with fail
       go_roundg (N-(k+2+(j+1)))
       case measure=>rw[H2.out.1];omega
       case rel =>
        refine⟨m+1,j+1,Z.set m (ya,yi),rfl,by omega,by omega,by omega,by go_num,by go_num,by simpa using H2.out.2.1,HXY.out.2.2.1.1,?_,?_,?_⟩
        ·have hg:=H2.out.2.2.2.1
         have h1:=HXY.out.2.2.2
         have h2:=HXY.out.2.2.1.2
         exact⟨hg.os,hg.tape,hg.output,by simpa [World.setCell]using hg.size,fun q hq hne=>(h2.block q (by have:=hg.size;simp[World.setCell];omega) hne).trans ((h1.block q (by have:=hg.size;omega) hne).trans (hg.block q hq hne))⟩
        ·rw[H2.out.2.2.2.2.1,HD.out.1,HD.out.2.1,HD.out.2.2,yZ HEQ.out]
         rw[TT (by rw[List.length_set,H2.out.2.1];omega),List.take_set_of_le (SA _)]
         simp
        ·intro i hi
         rw[List.getElem?_set_ne (by omega)]
         exact H2.out.2.2.2.2.2 i (by omega)
      ·have HEQ:=Sk he
       unfold eqN at he
       simp only at he
       rw[he]at hE
       go_wp2_with fail
       go_quiet (fail)
       go_wp2_with fail
       go_roundg (N-(k+2+(j+1)))
       case measure=>rw[H2.out.1];omega
       case rel =>
        refine⟨m,j+1,Z,rfl,by omega,by omega,by omega,rfl,by go_num,H2.out.2.1,H2.out.2.2.1,?_,?_,fun i hi=>H2.out.2.2.2.2.2 i (by omega)⟩
        ·have hg:=H2.out.2.2.2.1
         exact⟨hg.os,hg.tape,hg.output,hg.size,hg.block⟩
        ·rw[H2.out.2.2.2.2.1,HD.out.1,HD.out.2.1,HD.out.2.2,zf HEQ.out]
     ·have Fa:=Sk (show cZ l=Z.take m by
       rw[H2.out.2.2.2.2.1,List.drop_of_length_le (by rw[HN.out];omega)]
       simp[dd])
      have b1:¬(j+1<N-(k+1)):=by omega
      have b4:decide ((j:Int)+1<((N-(k+1):Nat):Int))=false:=by simp;omega
      have hsl2:m<cap:=by omega
      have hb6:(m:Int)≤(N:Int):=by omega
      have hcl:∀i,i<(N-m)*2→(wr.cell? ⟨g,m*2+i,none⟩).isSome=true:=by
       intro i hi
       rw[hown.cellAt (m*2+i) (by omega),Sw (by rw[eZ,H2.out.2.1];omega)]
       rfl
      have hfl:∀i,i<(N-m)*2→wr.frozen? ⟨g,m*2+i,none⟩=false:=fun i _=>hown.frozenAt _
      have HCL:=Sk (Sn hcl hfl)
      clear hcl hfl hown
      go_wp2_with (with_reducible refine yS _ rfl _ rfl g (m*2) (N-m) (cap-m) rfl (by omega) HCL.out.1 HCL.out.2 ?_;intro zs)
      go_ret
      obtain⟨xs',h1,h2,h3⟩:=qQ zs (m*2) _ _ H2.out.2.2.1
      have h4:=EZ (m:=m) h1 (by omega)
      rw[h2,nR,←Fa.out]at h4
      have hlen:(cZ l).length=m:=by rw[Fa.out,Um,H2.out.2.1];omega
      refine⟨_,rfl,?_,?_⟩
      ·rw[hlen];exact h4
      ·have hg:=H2.out.2.2.2.1
       exact⟨h3.os.trans hg.os,h3.tape.trans hg.tape,h3.output.trans hg.output,SE hg.size h3.size,fun q hq hne=>(h3.block q (SB hq hg.size) hne).trans (hg.block q hq hne)⟩
  ·have Fa:=Sk (show cZ l=l by
    rw[HG'.out.2,List.drop_of_length_le (by rw[HN.out];omega),Tm (by rw[HN.out];omega)]
    simp[dd])
   have b1:decide ((k:Int)+1<(N:Int))=false:=by simp;omega
   go_wp2
   go_ret
   refine⟨_,rfl,?_,⟨rfl,rfl,rfl,SA _,fun _ _ _=>rfl⟩⟩
   rw[Fa.out,HN.out]
   exact HO.out
def gK (l:List Nd):List (ByteArray×Int):=l.filterMap fun x=>if x.k=5 then some (x.n,x.i)else none
theorem Hu:∀l:List Nd,pI l=aL (gK l)∧lF l=(gK l).length
 | []=>⟨rfl,rfl⟩
 | x::l=>by
  obtain⟨h1,h2⟩:=Hu l
  by_cases h:x.k=5
  ·refine⟨?_,?_⟩
   ·simp only[pI,gK,List.flatMap_cons,List.filterMap_cons,TY h,aL,dY]at h1 ⊢
    rw[h1]
   ·simp only[lF,gK,List.filter_cons,List.filterMap_cons,TY h]at h2 ⊢
    simp[h,h2]
  ·refine⟨?_,?_⟩
   ·simp only[pI,gK,List.flatMap_cons,List.filterMap_cons,TW h]at h1 ⊢
    rw[h1]
    rfl
   ·simp only[lF,gK,List.filter_cons,List.filterMap_cons,TW h]at h2 ⊢
    simp[h,h2]
def refsOf (l:List Nd):List (ByteArray×Int):=cZ (cK (gK l))
theorem qB (A:Option Addr)(n cap:Nat)(w:World)(hn:n<2):Calls Tryz.prog 118 #[.slice A n cap] w fun e w'=>e=.returned (.slice A n cap)∧w=w':=by
 have h:decide ((n:Int)<2)=true:=by simp;omega
 go_enter Tryz.func118,Tryz.ntmps118
 go_wp2
 go_ret
 exact⟨rfl,rfl⟩
def O8 (R:List (ByteArray×Int))(w:World)(e:Ending)(w':World):Prop:=∃v,e=.returned v∧w'.ownsRow w.heap.size 102 2 v R.length (aL R)∧Below w.heap.size w w'
theorem wM {l:List (ByteArray×Int)}(h:l.length<2):cZ l=l:=by
 match l,h with
 | [],_=>rfl
 | [x],_=>rfl
theorem Hw (l:List (ByteArray×Int))(base:Nat)(v:Value)(w:World)(h:w.ownsRow base 102 2 v l.length (aL l)) :
  (∃A c,v=.slice A l.length c)∧(v=.slice none 0 0∧l=[]∨∃g cap,v=.slice (some ⟨g,0,none⟩) l.length cap):=by
 rcases h.2 with⟨h1,h2⟩|⟨g,cap,cur,h1,_⟩
 ·exact⟨⟨none,0,by rw[h1,h2]⟩,.inl ⟨h1,Tq.1 h2⟩⟩
 ·exact⟨⟨_,_,h1⟩,.inr ⟨g,cap,h1⟩⟩
theorem zK (k:Int)(n m:ByteArray)(i d:Int)(A:Option Addr)(c:Nat)(s:Fo)(w:World)(hs:s.Sl w w.heap.size A c)(hcnt:s.count≤100000) :
  Calls Tryz.prog 54 #[.agg #[.int .i64 k,.string n,.string m,.int .i64 i,.int .i64 d,.slice A s.len c]] w (O8 (refsOf (Fo.cons k n m i d A c s .nil).vis) w):=by
 obtain⟨W0,hW0⟩:∃W0,(w.alloc (.cells #[.int .i64 k,.string n,.string m,.int .i64 i,.int .i64 d,.slice A s.len c] 44)).alloc (.cells #[.slice none 0 0] 99)=W0:=⟨_,rfl⟩
 have hzw:w.heap.size+1<W0.heap.size:=by subst hW0;simp
 have hB0:Below w.heap.size w W0:=by subst hW0;exact((TA _ _).alloc (SA _) _).alloc (by simp) _
 have e0:W0.cell? ⟨w.heap.size,0,none⟩=some (.int .i64 k):=by subst hW0;go_simp
 have e1:W0.cell? ⟨w.heap.size,1,none⟩=some (.string n):=by subst hW0;go_simp
 have e2:W0.cell? ⟨w.heap.size,2,none⟩=some (.string m):=by subst hW0;go_simp
 have e3:W0.cell? ⟨w.heap.size,3,none⟩=some (.int .i64 i):=by subst hW0;go_simp
 have e4:W0.cell? ⟨w.heap.size,4,none⟩=some (.int .i64 d):=by subst hW0;go_simp
 have e5:W0.cell? ⟨w.heap.size,5,none⟩=some (.slice A s.len c):=by subst hW0;go_simp
 have hl0:W0.heap[w.heap.size+1]?=some (.cells #[.slice none 0 0] 99 (0,0)):=by
  have h:=World.alloc_heap_new (w.alloc (.cells #[.int .i64 k,.string n,.string m,.int .i64 i,.int .i64 d,.slice A s.len c] 44)) (.cells #[.slice none 0 0] 99)
  rw[hW0]at h
  simpa using h
 have HC:=Sk (EO k n m i d A c s W0 w.heap.size (w.heap.size+1) (hs.below hB0) (by omega) hcnt hl0)
 have HB0:=Sk hB0
 obtain⟨vs,Hvs⟩:∃Q,Hid ((Fo.cons k n m i d A c s .nil).vis=Q):=⟨_,Sk rfl⟩
 have hvl:vs.length≤100001:=by rw[←Hvs.out,Fo.fB];simp[Fo.count];omega
 rw[Hvs.out]at HC ⊢
 clear hs hB0 hl0
 go_enter Tryz.func54,Tryz.ntmps54
 go_wp2_with fail
 refine HC.out.mono ?_
 rintro e w1 ⟨⟨v1,rfl⟩,hb1,hz1,v,hv1,hown1⟩
 obtain⟨hrc,hrn⟩:=Hu vs
 rw[hrc,hrn]at hown1
 obtain⟨rl,Hrl⟩:∃Q,Hid (gK vs=Q):=⟨_,Sk rfl⟩
 have HRO:Hid (refsOf vs=cZ (cK rl)):=by show _=_;rw[←Hrl.out];rfl
 rw[Hrl.out]at hown1
 have hrl:rl.length≤1000000:=by rw[←Hrl.out,←hrn];have:=DK vs;omega
 have hc1:=cell_of_one hv1
 have HB1:=Sk (Sn (HB0.out.trans (hb1.mono (SA _))) (Sn hown1 hv1))
 clear hrc hrn hb1 e0 e1 e2 e3 e4 e5 hv1
 rcases (Hw rl _ v w1 hown1).2 with⟨rfl,rfl⟩|⟨g,cap,rfl⟩
 ·clear hown1
  go_wp2_with fail
  refine(EP none 0 _ _).mono ?_
  rintro e w2 ⟨⟨v2,rfl⟩,rfl⟩
  go_wp2_with fail
  refine(qB none 0 0 _ (by omega)).mono ?_
  rintro e w3 ⟨rfl,rfl⟩
  go_wp2
  go_ret
  refine⟨.slice none 0 0,rfl,?_,HB1.out.1⟩
  rw[HRO.out,show cZ (cK [])=[] by simp[cK,cZ]]
  exact TD _ _ _ _
 ·have hsl:(cK rl).length=rl.length:=by simp[cK]
  obtain⟨sl,Hsl⟩:∃Q,Hid (cK rl=Q):=⟨_,Sk rfl⟩
  have HSN:=Sk (Hg rl W0.heap.size g cap w1 hown1 hrl)
  unfold K6 at HSN
  rw[Hsl.out]at hsl HSN HRO
  obtain⟨N,HN⟩:∃Q,Hid (rl.length=Q):=⟨_,Sk rfl⟩
  rw[HN.out]at HSN hc1 hsl hrl
  have uz:=Sk hsl
  have hgl:=hown1.lt g rfl
  have hgn:g≠w.heap.size+1:=by omega
  clear hown1 hsl
  go_wp2_with fail
  refine HSN.out.mono ?_
  rintro e w2 ⟨⟨v2,rfl⟩,hown2,hg2⟩
  rw[uz.out]at hown2
  have hc2:w2.cell? ⟨w.heap.size+1,0,none⟩=some (.slice (some ⟨g,0,none⟩) N cap):=(SN (hg2.block _ (by simp;omega) (by simp;omega))).trans hc1
  have HB2:=Sk (Sn (HB1.out.1.grown hg2 (by have:=HB1.out.1.size;omega) (fun q hq=>by cases hq;have:=HB0.out.size;omega)) hown2)
  clear hown2 hg2
  by_cases hN:N<2
  ·go_wp2_with fail
   refine(qB _ N cap _ hN).mono ?_
   rintro e w3 ⟨rfl,rfl⟩
   go_wp2
   go_ret
   refine⟨.slice (some ⟨g,0,none⟩) N cap,rfl,?_,HB2.out.1⟩
   rw[HRO.out,wM (by rw[uz.out];exact hN),uz.out]
   exact World.ownsRow.mono HB2.out.2 (by have:=HB0.out.size;omega)
  ·have hcm:=CY sl W0.heap.size g cap w2 (by rw[uz.out];exact HB2.out.2) (by rw[uz.out];exact hrl) (by rw[uz.out];omega)
   rw[uz.out]at hcm
   have HCM:=Sk hcm
   clear hcm
   go_wp2_with fail
   refine HCM.out.mono ?_
   rintro e w3 ⟨v3,rfl,hown3,hg3⟩
   go_wp2
   go_ret
   refine⟨v3,rfl,by rw[HRO.out];exact World.ownsRow.mono hown3 (by have:=HB0.out.size;omega),HB2.out.1.grown hg3 HB2.out.1.size (fun q hq=>by cases hq;have:=HB0.out.size;omega)⟩
end Go.Proofs.Q
