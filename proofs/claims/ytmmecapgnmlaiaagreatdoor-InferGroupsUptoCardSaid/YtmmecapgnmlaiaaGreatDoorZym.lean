/- helper lemmas -/
import Derived.Test.YtmmecapgnmlaiaaGreatDoorTuy
set_option maxRecDepth 100000
set_option maxHeartbeats 16000000
namespace Go.Proofs.Q
open Go Go.RowKit Go.Proofs
theorem l9 (s:ByteArray)(w:World):Calls Tryz.prog 30 #[.string s] w fun e w'=>e=.returned (.agg #[.int .i64 3,.string s,.string ⟨#[]⟩,.int .i64 0,.int .i64 0,.slice none 0 0])∧RowKit.Below w.heap.size w w':=by
 go_enter Tryz.func30,Tryz.ntmps30
 go_wp2
 refine Ua (v:=.agg #[.int .i64 3,.string s,.string ⟨#[]⟩,.int .i64 0,.int .i64 0,.slice none 0 0]) (by simp[results,Tryz.results30,go_sem]) rfl ?_
 exact⟨rfl,(Tz _ _).alloc (SA _) _⟩
theorem uK (i:Int)(w:World):Calls Tryz.prog 42 #[.int .i64 i] w fun e w'=>e=.returned (.agg #[.int .i64 5,.string ⟨#[]⟩,.string ⟨#[]⟩,.int .i64 i,.int .i64 0,.slice none 0 0])∧RowKit.Below w.heap.size w w':=by
 go_enter Tryz.func42,Tryz.ntmps42
 go_wp2
 refine Ua (v:=.agg #[.int .i64 5,.string ⟨#[]⟩,.string ⟨#[]⟩,.int .i64 i,.int .i64 0,.slice none 0 0]) (by simp[results,Tryz.results42,go_sem]) rfl ?_
 exact⟨rfl,(Tz _ _).alloc (SA _) _⟩
theorem nN (f0 f3 f4 x0 x3 x4:Int)(f1 f2 x1 x2:ByteArray)(fA xA:Option Addr)(fn fc xn xc:Nat)(w:World) :
  Calls Tryz.prog 41 #[.agg #[.int .i64 f0,.string f1,.string f2,.int .i64 f3,.int .i64 f4,.slice fA fn fc],.agg #[.int .i64 x0,.string x1,.string x2,.int .i64 x3,.int .i64 x4,.slice xA xn xc]] w fun e w'=>∃g,e=.returned (.agg #[.int .i64 7,.string ⟨#[]⟩,.string ⟨#[]⟩,.int .i64 0,.int .i64 0,.slice (some ⟨g,0,none⟩) 2 2])∧RowKit.Below w.heap.size w w'∧w.heap.size≤g ∧
   w'.heap[g]?=some (.cells #[.int .i64 f0,.string f1,.string f2,.int .i64 f3,.int .i64 f4,.slice fA fn fc,.int .i64 x0,.string x1,.string x2,.int .i64 x3,.int .i64 x4,.slice xA xn xc] 44 (0,0)):=by
 go_enter Tryz.func41,Tryz.ntmps41
 go_wp2
 refine Ua (v:=.agg #[.int .i64 7,.string ⟨#[]⟩,.string ⟨#[]⟩,.int .i64 0,.int .i64 0,.slice (some ⟨w.heap.size+1+1+1,0,none⟩) 2 2]) (by simp[results,Tryz.results41,go_sem]) rfl ?_
 exact⟨_,rfl,((((Tz _ _).alloc (SA _) _).alloc (by simp) _).alloc (by simp;omega) _).alloc (by simp;omega) _,by omega,bW _ _ _ (by simp)⟩
theorem lQ (s:ByteArray)(x0 x3 x4:Int)(x1 x2:ByteArray)(xA:Option Addr)(xn xc:Nat)(w:World) :
  Calls Tryz.prog 29 #[.string s,.agg #[.int .i64 x0,.string x1,.string x2,.int .i64 x3,.int .i64 x4,.slice xA xn xc]] w fun e w'=>∃g,e=.returned (.agg #[.int .i64 6,.string s,.string ⟨#[]⟩,.int .i64 0,.int .i64 0,.slice (some ⟨g,0,none⟩) 1 1])∧RowKit.Below w.heap.size w w'∧w.heap.size≤g ∧
   w'.heap[g]?=some (.cells #[.int .i64 x0,.string x1,.string x2,.int .i64 x3,.int .i64 x4,.slice xA xn xc] 44 (0,0)):=by
 go_enter Tryz.func29,Tryz.ntmps29
 go_wp2
 refine Ua (v:=.agg #[.int .i64 6,.string s,.string ⟨#[]⟩,.int .i64 0,.int .i64 0,.slice (some ⟨w.heap.size+1+1,0,none⟩) 1 1]) (by simp[results,Tryz.results29,go_sem]) rfl ?_
 exact⟨_,rfl,(((Tz _ _).alloc (SA _) _).alloc (by simp) _).alloc (by simp;omega) _,by omega,bW _ _ _ (by simp)⟩
theorem lS (id:Int)(s:ByteArray)(x0 x3 x4:Int)(x1 x2:ByteArray)(xA:Option Addr)(xn xc:Nat)(w:World) :
  Calls Tryz.prog 28 #[.int .i64 id,.string s,.agg #[.int .i64 x0,.string x1,.string x2,.int .i64 x3,.int .i64 x4,.slice xA xn xc]] w fun e w'=>∃g,e=.returned (.agg #[.int .i64 id,.int .i64 1,.bool false,.slice (some ⟨g,0,none⟩) 1 1,.bool false,.int .i64 x0,.string x1,.string x2,.int .i64 x3,.int .i64 x4,.slice xA xn xc])∧RowKit.Below w.heap.size w w'∧w.heap.size≤g ∧
   w'.heap[g]?=some (.cells #[.string s] 9 (0,0)):=by
 go_enter Tryz.func28,Tryz.ntmps28
 go_wp2
 refine Ua (v:=.agg #[.int .i64 id,.int .i64 1,.bool false,.slice (some ⟨w.heap.size+1+1,0,none⟩) 1 1,.bool false,.int .i64 x0,.string x1,.string x2,.int .i64 x3,.int .i64 x4,.slice xA xn xc]) (by simp[results,Tryz.results28,go_sem]) rfl ?_
 exact⟨_,rfl,(((Tz _ _).alloc (SA _) _).alloc (by simp) _).alloc (by simp;omega) _,by omega,bW _ _ _ (by simp)⟩
theorem kZ {X:World}{B:Nat}:(Fo.nil).Sl X B none 0:=⟨SA _,by decide,fun h=>absurd rfl h⟩
theorem wo {X:World}{B b:Nat}{k i d:Int}{n m:ByteArray}{A:Option Addr}{c l:Nat}{s:Fo}(h:X.heap[b]?=some (.cells #[.int .i64 k,.string n,.string m,.int .i64 i,.int .i64 d,.slice A l c] 44 (0,0)))(hb:b<B)(hl:s.len=l)(hs:s.Sl X B A c):(Fo.cons k n m i d A c s .nil).Sl X B (some ⟨b,0,none⟩) 1:=by
 subst hl
 exact⟨SA _,by decide,fun _=>⟨b,0,rfl,hb,Sq X b 0 _ _ (0,0) h,Sq X b 1 _ _ (0,0) h,Sq X b 2 _ _ (0,0) h,Sq X b 3 _ _ (0,0) h,Sq X b 4 _ _ (0,0) h,⟨Sq X b 5 _ _ (0,0) h,hs.1,hs.2.1,hs.2.2⟩,trivial⟩⟩
theorem wu {X:World}{B b:Nat}{k i d k' i' d':Int}{n m n' m':ByteArray}{A A':Option Addr}{c l c' l':Nat}{s s':Fo}(h:X.heap[b]?=some (.cells #[.int .i64 k,.string n,.string m,.int .i64 i,.int .i64 d,.slice A l c,.int .i64 k',.string n',.string m',.int .i64 i',.int .i64 d',.slice A' l' c'] 44 (0,0)))(hb:b<B)(hl:s.len=l)(hs:s.Sl X B A c)(hl':s'.len=l')(hs':s'.Sl X B A' c'):(Fo.cons k n m i d A c s (.cons k' n' m' i' d' A' c' s' .nil)).Sl X B (some ⟨b,0,none⟩) 2:=by
 subst hl hl'
 exact⟨SA _,by decide,fun _=>⟨b,0,rfl,hb,Sq X b 0 _ _ (0,0) h,Sq X b 1 _ _ (0,0) h,Sq X b 2 _ _ (0,0) h,Sq X b 3 _ _ (0,0) h,Sq X b 4 _ _ (0,0) h,⟨Sq X b 5 _ _ (0,0) h,hs.1,hs.2.1,hs.2.2⟩,Sq X b 6 _ _ (0,0) h,Sq X b 7 _ _ (0,0) h,Sq X b 8 _ _ (0,0) h,Sq X b 9 _ _ (0,0) h,Sq X b 10 _ _ (0,0) h,⟨Sq X b 11 _ _ (0,0) h,hs'.1,hs'.2.1,hs'.2.2⟩,trivial⟩⟩
theorem qw {X:World}{B b:Nat}{s:ByteArray}(h:X.heap[b]?=some (.cells #[.string s] 9 (0,0)))(hb:b<B):SlS X B (some ⟨b,0,none⟩) 1 [s]:=
 ⟨SA _,by decide,fun _=>⟨b,0,rfl,hb,fun j x hj=>by
  match j,hj with
  | 0,hj=>cases hj;exact Sq X b 0 _ _ (0,0) h⟩⟩
theorem Gn {q:Nat}(h:q<11):q=0∨q=1∨q=2∨q=3∨q=4∨q=5∨q=6∨q=7∨q=8∨q=9∨q=10:=by omega
abbrev wB (A1 n1 A2 n2 A3 n3:Nat):Obj:=.cells #[.int .i64 1,.int .i64 1,.bool false,.slice (some ⟨n1,0,none⟩) 1 1,.bool false,.int .i64 6,.string ⟨#[120]⟩,.string ⟨#[]⟩,.int .i64 0,.int .i64 0,.slice (some ⟨A1,0,none⟩) 1 1,.int .i64 2,.int .i64 1,.bool false,.slice (some ⟨n2,0,none⟩) 1 1,.bool false,.int .i64 6,.string ⟨#[120]⟩,.string ⟨#[]⟩,.int .i64 0,.int .i64 0,.slice (some ⟨A2,0,none⟩) 1 1,.int .i64 3,.int .i64 1,.bool false,.slice (some ⟨n3,0,none⟩) 1 1,.bool false,.int .i64 6,.string ⟨#[120]⟩,.string ⟨#[]⟩,.int .i64 0,.int .i64 0,.slice (some ⟨A3,0,none⟩) 1 1] 46 (0,0)
structure AwP (Z:World)(h3 A1 n1 A2 n2 g2 A3 n3 g3:Nat):Prop where
 f0:Z.heap[h3]?=some (.cells #[.int .i64 3,.string ⟨#[120]⟩,.string ⟨#[]⟩,.int .i64 0,.int .i64 0,.slice none 0 0,.int .i64 1,.string ⟨#[]⟩,.string ⟨#[]⟩,.int .i64 1,.int .i64 0,.slice none 0 0] 44 (0,0))
 f1:Z.heap[A1]?=some (.cells #[.int .i64 3,.string ⟨#[120]⟩,.string ⟨#[]⟩,.int .i64 0,.int .i64 0,.slice none 0 0] 44 (0,0))
 f2:Z.heap[n1]?=some (.cells #[.string ⟨#[105,100]⟩] 9 (0,0))
 f3:Z.heap[g2]?=some (.cells #[.int .i64 5,.string ⟨#[]⟩,.string ⟨#[]⟩,.int .i64 3,.int .i64 0,.slice none 0 0,.int .i64 3,.string ⟨#[120]⟩,.string ⟨#[]⟩,.int .i64 0,.int .i64 0,.slice none 0 0] 44 (0,0))
 f4:Z.heap[A2]?=some (.cells #[.int .i64 7,.string ⟨#[]⟩,.string ⟨#[]⟩,.int .i64 0,.int .i64 0,.slice (some ⟨g2,0,none⟩) 2 2] 44 (0,0))
 f5:Z.heap[n2]?=some (.cells #[.string ⟨#[102]⟩] 9 (0,0))
 f6:Z.heap[g3]?=some (.cells #[.int .i64 5,.string ⟨#[]⟩,.string ⟨#[]⟩,.int .i64 2,.int .i64 0,.slice none 0 0,.int .i64 10,.string ⟨#[43]⟩,.string ⟨#[]⟩,.int .i64 0,.int .i64 0,.slice (some ⟨h3,0,none⟩) 2 2] 44 (0,0))
 f7:Z.heap[A3]?=some (.cells #[.int .i64 7,.string ⟨#[]⟩,.string ⟨#[]⟩,.int .i64 0,.int .i64 0,.slice (some ⟨g3,0,none⟩) 2 2] 44 (0,0))
 f8:Z.heap[n3]?=some (.cells #[.string ⟨#[103]⟩] 9 (0,0))
abbrev sAt (b:Nat):Option Addr:=some ⟨b,0,none⟩
theorem AwP.decls {X:World}{h3 A1 n1 A2 n2 g2 A3 n3 g3 dA:Nat}(H:AwP X h3 A1 n1 A2 n2 g2 A3 n3 g3)(hd:X.heap[dA]?=some (wB A1 n1 A2 n2 A3 n3)) :
  SlD X X.heap.size (sAt dA) 3 (aDs (sAt n1) (sAt A1) (sAt n2) (sAt A2) (sAt g2) (sAt n3) (sAt A3) (sAt g3) (sAt h3)):=by
 have s1:=wo (B:=X.heap.size) H.f1 (lt_of_block H.f1) rfl kZ
 have s2:(aS2 (sAt g2)).Sl X X.heap.size (sAt A2) 1:=wo (s:=aR 3 (aV .nil)) H.f4 (lt_of_block H.f4) rfl (wu H.f3 (lt_of_block H.f3) rfl kZ rfl kZ)
 have s3:(aS3 (sAt g3) (sAt h3)).Sl X X.heap.size (sAt A3) 1:=wo (s:=aR 2 (.cons 10 ⟨#[43]⟩ aE 0 0 (sAt h3) 2 (aV (aI .nil)) .nil)) H.f7 (lt_of_block H.f7) rfl (wu H.f6 (lt_of_block H.f6) rfl kZ rfl (wu H.f0 (lt_of_block H.f0) rfl kZ rfl kZ))
 refine⟨SA _,by decide,fun _=>⟨dA,0,rfl,lt_of_block hd,fun j x hj=>?_⟩⟩
 match j,hj with
 | 0,hj =>
  cases hj
  exact⟨fun q v hq=>(by
  have hq':q<11:=(Sz.1 hq).1
  rcases Gn hq' with rfl|rfl|rfl|rfl|rfl|rfl|rfl|rfl|rfl|rfl|rfl <;> exact(Sq X dA _ _ _ (0,0) hd).trans hq),qw H.f2 (lt_of_block H.f2),s1⟩
 | 1,hj =>
  cases hj
  exact⟨fun q v hq=>(by
  have hq':q<11:=(Sz.1 hq).1
  rcases Gn hq' with rfl|rfl|rfl|rfl|rfl|rfl|rfl|rfl|rfl|rfl|rfl <;> exact(Sq X dA _ _ _ (0,0) hd).trans hq),qw H.f5 (lt_of_block H.f5),s2⟩
 | 2,hj =>
  cases hj
  exact⟨fun q v hq=>(by
  have hq':q<11:=(Sz.1 hq).1
  rcases Gn hq' with rfl|rfl|rfl|rfl|rfl|rfl|rfl|rfl|rfl|rfl|rfl <;> exact(Sq X dA _ _ _ (0,0) hd).trans hq),qw H.f8 (lt_of_block H.f8),s3⟩
def AwM (w X:World)(mb:Nat):Prop:=RowKit.Below w.heap.size w X∧∃dA n1 A1 n2 A2 g2 n3 A3 g3 h3,X.heap[mb]?=some (.cells #[.string aM,.slice none 0 0,.slice (some ⟨dA,0,none⟩) 3 3] 25 (0,0))∧SlD X X.heap.size (some ⟨dA,0,none⟩) 3 (aDs n1 A1 n2 A2 g2 n3 A3 g3 h3)
abbrev awZ:Obj:=.cells #[.string ⟨#[]⟩,.slice none 0 0,.slice none 0 0] 25 (0,0)
abbrev awO (dA:Nat):Obj:=.cells #[.string ⟨#[109]⟩,.slice none 0 0,.slice (some ⟨dA,0,none⟩) 3 3] 25 (0,0)
section
variable {w Z X:World} {h3 A1 n1 A2 n2 g2 A3 n3 g3 dA mb:Nat}
theorem AwP.keep (H:AwP Z h3 A1 n1 A2 n2 g2 A3 n3 g3)(ho:∀k,k<Z.heap.size→k≠mb→X.heap[k]?=Z.heap[k]?)(hz:∀o,Z.heap[mb]?=some o→o=awZ):AwP X h3 A1 n1 A2 n2 g2 A3 n3 g3:=by
 have key:∀(k:Nat) (cs:Array Value) (t:TypeId),Z.heap[k]?=some (Obj.cells cs t (0,0))→t≠25→X.heap[k]?=some (Obj.cells cs t (0,0)):=fun k cs t hk ht =>
  (ho k (lt_of_block hk) fun e=>by
   have:=hz _ (e▸hk)
   exact ht (Obj.cells.inj this).2.1).trans hk
 exact⟨key _ _ _ H.f0 (by decide),key _ _ _ H.f1 (by decide),key _ _ _ H.f2 (by decide),key _ _ _ H.f3 (by decide),key _ _ _ H.f4 (by decide),key _ _ _ H.f5 (by decide),key _ _ _ H.f6 (by decide),key _ _ _ H.f7 (by decide),key _ _ _ H.f8 (by decide)⟩
theorem AwP.fin (H:AwP X h3 A1 n1 A2 n2 g2 A3 n3 g3)(hd:X.heap[dA]?=some (wB A1 n1 A2 n2 A3 n3))(hm:X.heap[mb]?=some (awO dA))(hb:RowKit.Below w.heap.size w X):AwM w X mb:=
 ⟨hb,dA,_,_,_,_,_,_,_,_,_,hm,H.decls hd⟩
theorem AwP.MP (H:AwP Z h3 A1 n1 A2 n2 g2 A3 n3 g3)(hb:RowKit.Below w.heap.size w Z):AwM w ((Z.alloc (wB A1 n1 A2 n2 A3 n3)).alloc (awO Z.heap.size)) (Z.heap.size+1):=by
 refine(H.keep (mb:=Z.heap.size) (fun k h1 _=>?_) fun o ho=>?_).fin (dA:=Z.heap.size) ?_ ?_ ((hb.alloc hb.size _).alloc (by have:=hb.size;simp;omega) _)
 ·rw[bZ _ _ _ (by simp;omega),bZ _ _ _ h1]
 ·rw[Array.getElem?_eq_none (SA _)]at ho;cases ho
 ·rw[bZ _ _ _ (by simp)];exact bW _ _ _ rfl
 ·exact bW _ _ _ (by simp)
theorem AwP.MQ (H:AwP Z h3 A1 n1 A2 n2 g2 A3 n3 g3)(hb:RowKit.Below w.heap.size w Z):AwM w ((Z.alloc (awO (Z.heap.size+1))).alloc (wB A1 n1 A2 n2 A3 n3)) Z.heap.size:=by
 refine(H.keep (mb:=Z.heap.size) (fun k h1 _=>?_) fun o ho=>?_).fin (dA:=Z.heap.size+1) ?_ ?_ ((hb.alloc hb.size _).alloc (by have:=hb.size;simp;omega) _)
 ·rw[bZ _ _ _ (by simp;omega),bZ _ _ _ h1]
 ·rw[Array.getElem?_eq_none (SA _)]at ho;cases ho
 ·exact bW _ _ _ (by simp)
 ·rw[bZ _ _ _ (by simp)];exact bW _ _ _ rfl
theorem AwP.PI (H:AwP Z h3 A1 n1 A2 n2 g2 A3 n3 g3)(hb:RowKit.Below w.heap.size w Z)(hm:Z.heap[mb]?=some awZ)(hl:w.heap.size≤mb) :
  AwM w ((((Z.setCell ⟨mb,0,none⟩ (.string ⟨#[109]⟩)).setCell ⟨mb,1,none⟩ (.slice none 0 0)).setCell ⟨mb,2,none⟩ (.slice (some ⟨Z.heap.size,0,none⟩) 3 3)).alloc (wB A1 n1 A2 n2 A3 n3)) mb:=by
 have hmb:=lt_of_block hm
 refine(H.keep (mb:=mb) (fun k h1 h2=>?_) fun o ho=>?_).fin (dA:=Z.heap.size) ?_ ?_ ((((hb.setCell hl _).setCell hl _).setCell hl _).alloc (by have:=hb.size;simp[World.setCell];omega) _)
 ·rw[bZ _ _ _ (by simp[World.setCell];omega)]
  simp[World.setCell,Uj,Ne.symm h2]
 ·rw[hm]at ho;exact(TL ho).symm
 ·exact bW _ _ _ (by simp[World.setCell])
 ·rw[bZ _ _ _ (by simp[World.setCell];omega)]
  have e:=heap_set (i:=2) (heap_set (i:=1) (heap_set (i:=0) hm (.string ⟨#[109]⟩)) (.slice none 0 0)) (.slice (some ⟨Z.heap.size,0,none⟩) 3 3)
  exact e
end
end Go.Proofs.Q
namespace Go.Proofs.Q
open Go Go.RowKit Go.Proofs Go.Proofs.Unify Go.Proofs.Scc
theorem Tf.Gp {n:Nat}(hn:n≤1000):∀{s:Tf},s.Vb n→s.Ok
 | .nil,_=>trivial
 | .cons k v s r,⟨h1,h2,h3⟩=>⟨by simp[Lit.wf,IntKind.min,IntKind.max,IntKind.bits,IntKind.signed];omega,Tf.Gp hn h2,Tf.Gp hn h3⟩
theorem KT {C:TyC}{s:Sm}{i:Int}(hs:SmP s i)(he:C.sc.sch=fun a=>(s a).2)(hi:aH.ok i):Lb C i:=by
 refine⟨hi,fun _=>?_⟩
 have e:C.sc.sch i=(s i).2:=by rw[he]
 rw[e]
 have:=hs.v
 have:=hs.cnt
 exact⟨hs.t,Go.Proofs.Q.Tf.Gp (by omega) hs.vb,by simp[Lit.wf,IntKind.min,IntKind.max,IntKind.bits,IntKind.signed];omega,by omega⟩
theorem Fo.Gq {D:Nat→Prop}{C:TyC}{W:World}:∀s:Fo,(∀y∈s.vis,y.k=5→kM D C W y.n y.i)→s.Ro D C W
 | .nil,_=>trivial
 | .cons k n m i d A c s r,h=>by
  simp only[Fo.vis,Td,TI]at h
  exact⟨fun e=>h ⟨0,k,n,m,i,d,A,s.len,c⟩ (.inr (.inl rfl)) e,Fo.Gq s fun y hy=>h y (.inr (.inr hy)),Fo.Gq r fun y hy=>h y (.inl hy)⟩
theorem RoH.own {label:ByteArray}{ds:List Dc}(hV:MdV label ds)(hown:∀x∈ds,∀y∈x.body.vis,y.k=5→y.n=⟨#[]⟩)(W:World)(c0 c1 c2 c3:Value)(frn:ByteArray×Int→Int×Int×Tf):RoH W c0 c1 c2 c3 ds frn:=by
 intro W' C _ _ _ _ _ _ ⟨s,hs,hsp⟩ d hd
 have key:∀y∈d.body.vis,y.k=5→kM (fun k=>k<W'.heap.size) C W' y.n y.i:=fun y hy hk=>by
  have h1:=(hV.v d hd).err y hy
  unfold Nd.err at h1
  rw[hk]at h1
  exact⟨hown d hd y hy hk,KT (hsp y.i) hs (lq (DN h1).2)⟩
 simp only[Dc.body,Fo.vis,Td,TI]at key
 exact⟨fun e=>key ⟨0,d.k,d.n,d.m,d.i,d.d,d.A,d.s.len,d.c⟩ (.inr (.inl rfl)) e,Fo.Gq _ fun y hy=>key y (.inr (.inr hy))⟩
def ownB (ds:List Dc):Bool:=ds.all fun x=>x.body.vis.all fun y=>y.k != 5||y.n.data.size==0
theorem ownB_of {ds:List Dc}(h:ownB ds=true):∀x∈ds,∀y∈x.body.vis,y.k=5→y.n=⟨#[]⟩:=by
 intro x hx y hy hk
 have h1:=List.all_eq_true.1 (List.all_eq_true.1 h x hx) y hy
 rw[hk]at h1
 have h2:y.n.data.size=0:=by simpa using h1
 have h3:y.n.data=#[]:=Array.eq_empty_of_size_eq_zero h2
 cases hn:y.n with
 | mk d=>rw[hn]at h3;simp at h3;rw[h3]
section
variable {X:World} {dA n1 A1 n2 A2 g2 n3 A3 g3 h3 n A g:Option Addr}
theorem Pq:ownB (aDs n1 A1 n2 A2 g2 n3 A3 g3 h3)=true:=by kernel_rfl
theorem OP:ownB (iG n A g)=true:=by kernel_rfl
theorem KU (W:World)(B:Nat):SlS W B none 0 []:=⟨SA _,by decide,fun h=>absurd rfl h⟩
theorem Eh (a:ByteArray×Int):TOk (rV a):=⟨fun _=>rfl,trivial⟩
def AwS (Y:World)(g o:Nat)(A:Option Addr)(c:Nat)(t:Int×Int×Int×Tf):Prop:=
 Y.cell? ⟨g,o+2,none⟩=some (.int .i64 t.1)∧Y.cell? ⟨g,o+3,none⟩=some (.int .i64 t.2.1)∧Y.cell? ⟨g,o+4,none⟩=some (.int .i64 t.2.2.1)∧Y.cell? ⟨g,o+5,none⟩=some (.slice A t.2.2.2.len c)∧t.2.2.2.Sl Y (fun k=>k<Y.heap.size) A c
def AwQ (X:World)(e:Ending)(Y:World):Prop:=∃g c A1 c1 A2 c2 A3 c3,e=.returned (.tuple #[.slice (some ⟨g,0,none⟩) 3 c,.int .i64 0,.int .i64 0])∧RowKit.Below X.heap.size X Y∧g<Y.heap.size∧3≤c∧AwS Y g 0 A1 c1 aT1∧AwS Y g 6 A2 c2 aT2∧AwS Y g 12 A3 c3 aT2
theorem MK:∀x∈aDs n1 A1 n2 A2 g2 n3 A3 g3 h3,∀r∈x.refs,r.1=⟨#[]⟩:=by
 intro x hx r hr
 simp only[aDs,TI,List.not_mem_nil,or_false]at hx
 rcases hx with rfl|rfl|rfl
 ·rw[Gi]at hr;cases hr
 ·rw[Gj]at hr;rw[Te.1 hr];rfl
 ·rw[Gl]at hr;rw[Te.1 hr];rfl
theorem KV:∀x∈iG n A g,∀r∈x.refs,r.1=⟨#[]⟩:=by
 intro x hx r hr
 simp only[iG,TI,List.not_mem_nil,or_false]at hx
 subst hx
 rw[Gm]at hr;cases hr
theorem QY:aSm 1=aT1:=by kernel_rfl
theorem QZ:aSm 2=aT2:=by kernel_rfl
theorem Q0:aSm 3=aT2:=by kernel_rfl
theorem MR (hd:SlD X X.heap.size dA 3 (aDs n1 A1 n2 A2 g2 n3 A3 g3 h3)) :
  Calls Tryz.prog 17 #[.agg #[.string aM,.slice none 0 0,.slice dA 3 3],.slice none 0 0] X (AwQ X):=by
 have hV:MdV aM (aDs n1 A1 n2 A2 g2 n3 A3 g3 h3):=MdV.of (xG ..)
 refine TJ (qF aM [] none 0 _ dA 3 none 0 0 X (KU _ _) hd (DR hV.v) (fun _=>false) rV Eh (fun _ W' _ x hx r hr hne=>absurd (MK x hx r hr) hne) fun hV=>RoH.own hV (ownB_of Pq) X _ _ _ _ _) ?_
 rintro e Y ⟨hb,h⟩
 rw[Pp]at h
 obtain⟨v,L,rfl,hL,hrow,hS⟩:=h
 match L,hL with
 | [p1,p2,p3],_ =>
  have s1:=hS 0 _ p1 rfl rfl
  have s2:=hS 1 _ p2 rfl rfl
  have s3:=hS 2 _ p3 rfl rfl
  rcases hrow.2 with⟨_,e2⟩|⟨g,cap,cur,rfl,q2,q3,q4,q5,q6,q7⟩
  ·cases e2
  ·have hc:=fun j u hu=>World.ownsRow.cells hrow (g:=g) rfl j u hu
   have c1:∀j u,(oZ aSm (aDs n1 A1 n2 A2 g2 n3 A3 g3 h3) [p1,p2,p3])[j]?=some u→Y.cell? ⟨g,j,none⟩=some u:=fun j u hu=>by
    have h:=hc j u hu
    have hadd:(⟨g,0,none⟩:Addr).add j=⟨g,j,none⟩:=by unfold Addr.add;split <;> simp_all
    rwa [hadd]at h
   have t1:aSm (aD 1 ⟨#[105,100]⟩ n1 A1 (aV .nil)).id=aT1:=QY
   have t2:aSm (aD 2 ⟨#[102]⟩ n2 A2 (aS2 g2)).id=aT2:=QZ
   have t3:aSm (aD 3 ⟨#[103]⟩ n3 A3 (aS3 g3 h3)).id=aT2:=Q0
   refine⟨g,cap,p1.1,p1.2,p2.1,p2.2,p3.1,p3.2,rfl,hb,lt_of_block q3,q4,?_,?_,?_⟩
   ·rw[t1]at s1
    exact⟨c1 2 _ (congrArg (fun t:Int×Int×Int×Tf=>some (Value.int .i64 t.1)) t1),c1 3 _ (congrArg (fun t:Int×Int×Int×Tf=>some (Value.int .i64 t.2.1)) t1),c1 4 _ (congrArg (fun t:Int×Int×Int×Tf=>some (Value.int .i64 t.2.2.1)) t1),c1 5 _ (congrArg (fun t:Int×Int×Int×Tf=>some (Value.slice p1.1 t.2.2.2.len p1.2)) t1),s1⟩
   ·rw[t2]at s2
    exact⟨c1 8 _ (congrArg (fun t:Int×Int×Int×Tf=>some (Value.int .i64 t.1)) t2),c1 9 _ (congrArg (fun t:Int×Int×Int×Tf=>some (Value.int .i64 t.2.1)) t2),c1 10 _ (congrArg (fun t:Int×Int×Int×Tf=>some (Value.int .i64 t.2.2.1)) t2),c1 11 _ (congrArg (fun t:Int×Int×Int×Tf=>some (Value.slice p2.1 t.2.2.2.len p2.2)) t2),s2⟩
   ·rw[t3]at s3
    exact⟨c1 14 _ (congrArg (fun t:Int×Int×Int×Tf=>some (Value.int .i64 t.1)) t3),c1 15 _ (congrArg (fun t:Int×Int×Int×Tf=>some (Value.int .i64 t.2.1)) t3),c1 16 _ (congrArg (fun t:Int×Int×Int×Tf=>some (Value.int .i64 t.2.2.1)) t3),c1 17 _ (congrArg (fun t:Int×Int×Int×Tf=>some (Value.slice p3.1 t.2.2.2.len p3.2)) t3),s3⟩
theorem Lr (hd:SlD X X.heap.size dA 1 (iG n A g)) :
  Calls Tryz.prog 17 #[.agg #[.string ⟨#[109]⟩,.slice none 0 0,.slice dA 1 1],.slice none 0 0] X fun e Y=>e=.returned (.tuple #[.slice none 0 0,.int .i64 7,.int .i64 22])∧RowKit.Below X.heap.size X Y:=by
 have hV:MdV aM (iG n A g):=MdV.of (Cj ..)
 refine TJ (qF aM [] none 0 _ dA 1 none 0 0 X (KU _ _) hd (DR hV.v) (fun _=>false) rV Eh (fun _ W' _ x hx r hr hne=>absurd (KV x hx r hr) hne) fun hV=>RoH.own hV (ownB_of OP) X _ _ _ _ _) ?_
 rintro e Y ⟨hb,h⟩
 rw[OO]at h
 exact⟨h,hb⟩
theorem MS (hd:SlD X X.heap.size dA 3 (aDs n1 A1 n2 A2 g2 n3 A3 g3 h3)) :
  Calls Tryz.prog 14 #[.agg #[.string aM,.slice none 0 0,.slice dA 3 3]] X fun e Y=>∃A c,e=.returned (.tuple #[.slice A 2 c,.int .i64 0])∧RowKit.Below X.heap.size X Y∧GsA Y A c [[1],[2,3]]:=by
 refine TJ (oV aM [] none 0 (aDs n1 A1 n2 A2 g2 n3 A3 g3 h3) dA 3 X (KU _ _) hd) ?_
 rintro e Y ⟨v,gl,rfl,hb,h⟩
 have hE:kr aM [] (aDs n1 A1 n2 A2 g2 n3 A3 g3 h3)=0:=by
  unfold kr
  rw[xG,IV]
  rfl
 rw[hE,IW]at h
 rcases h with⟨_,h⟩|⟨h,_⟩
 ·obtain⟨A,c,rfl,hg⟩:=h.gsA
  exact⟨A,c,by rw[hE];rfl,hb,hg⟩
 ·exact absurd rfl h
theorem MU {n A g d:Nat}(h1:X.heap[n]?=some (.cells #[.string ⟨#[102]⟩] 9 (0,0)))
  (h2:X.heap[A]?=some (.cells #[.int .i64 7,.string ⟨#[]⟩,.string ⟨#[]⟩,.int .i64 0,.int .i64 0,.slice (some ⟨g,0,none⟩) 2 2] 44 (0,0)))
  (h3:X.heap[g]?=some (.cells #[.int .i64 3,.string ⟨#[120]⟩,.string ⟨#[]⟩,.int .i64 0,.int .i64 0,.slice none 0 0,.int .i64 3,.string ⟨#[120]⟩,.string ⟨#[]⟩,.int .i64 0,.int .i64 0,.slice none 0 0] 44 (0,0)))
  (h4:X.heap[d]?=some (.cells #[.int .i64 7,.int .i64 1,.bool false,.slice (some ⟨n,0,none⟩) 1 1,.bool false,.int .i64 6,.string ⟨#[120]⟩,.string ⟨#[]⟩,.int .i64 0,.int .i64 0,.slice (some ⟨A,0,none⟩) 1 1] 46 (0,0))) :
  SlD X X.heap.size (sAt d) 1 (iG (sAt n) (sAt A) (sAt g)):=by
 have s:(aS4 (sAt g)).Sl X X.heap.size (sAt A) 1:=wo (s:=aV (aV .nil)) h2 (lt_of_block h2) rfl (wu h3 (lt_of_block h3) rfl kZ rfl kZ)
 refine⟨SA _,by decide,fun _=>⟨d,0,rfl,lt_of_block h4,fun j x hj=>?_⟩⟩
 match j,hj with
 | 0,hj =>
  cases hj
  exact⟨fun q v hq=>(by
   have hq':q<11:=(Sz.1 hq).1
   rcases Gn hq' with rfl|rfl|rfl|rfl|rfl|rfl|rfl|rfl|rfl|rfl|rfl <;> exact(Sq X d _ _ _ (0,0) h4).trans hq),qw h1 (lt_of_block h1),s⟩
theorem OQ (X:World)(Y:World)(hY:Y=((X.alloc (.cells #[.int .i64 1] 3)).alloc (.cells #[.int .i64 2,.int .i64 3] 3)).alloc (.cells #[.slice (some ⟨X.heap.size,0,none⟩) 1 1,.slice (some ⟨X.heap.size+1,0,none⟩) 2 2] 39)) :
  RowKit.Below X.heap.size X Y∧GsA Y (some ⟨X.heap.size+1+1,0,none⟩) 2 [[1],[2,3]]:=by
 have h0:Y.heap[X.heap.size]?=some (.cells #[.int .i64 1] 3 (0,0)):=by
  rw[hY,bZ _ _ _ (by simp;omega),bZ _ _ _ (by simp)];exact bW _ _ _ rfl
 have h1:Y.heap[X.heap.size+1]?=some (.cells #[.int .i64 2,.int .i64 3] 3 (0,0)):=by
  rw[hY,bZ _ _ _ (by simp)];exact bW _ _ _ (by simp)
 have h2:Y.heap[X.heap.size+1+1]?=some (.cells #[.slice (some ⟨X.heap.size,0,none⟩) 1 1,.slice (some ⟨X.heap.size+1,0,none⟩) 2 2] 39 (0,0)):=by
  rw[hY];exact bW _ _ _ (by simp)
 refine⟨by rw[hY];exact(((Tz _ _).alloc (SA _) _).alloc (by simp) _).alloc (by simp;omega) _,SA _,by decide,fun _=>⟨_,0,rfl,fun j l hj=>?_⟩⟩
 match j,hj with
 | 0,hj =>
  cases hj
  refine⟨_,_,Sq Y _ 0 _ _ (0,0) h2,SA _,by decide,fun _=>⟨_,0,rfl,lt_of_block h0,fun j i hj=>?_⟩⟩
  match j,hj with
  | 0,hj=>cases hj;exact Sq Y _ 0 _ _ (0,0) h0
 | 1,hj =>
  cases hj
  refine⟨_,_,Sq Y _ 1 _ _ (0,0) h2,SA _,by decide,fun _=>⟨_,0,rfl,lt_of_block h1,fun j i hj=>?_⟩⟩
  match j,hj with
  | 0,hj=>cases hj;exact Sq Y _ 0 _ _ (0,0) h1
  | 1,hj=>cases hj;exact Sq Y _ 1 _ _ (0,0) h1
theorem Ls {w:World}{A1 A2:Option Addr}{c1 c2:Nat}(h1:GsA w A1 c1 [[1],[2,3]])(h2:GsA w A2 c2 [[1],[2,3]]) :
  Calls Tryz.prog 16 #[.slice A1 2 c1,.slice A2 2 c2] w fun e w'=>e=.returned (.bool true)∧RowKit.Below w.heap.size w w':=by
 have h:=oM h1 h2
 refine TJ h ?_
 rintro e Y ⟨he,hb⟩
 exact⟨by rw[he,SI rfl],hb⟩
theorem Gs {Y:World}{b:Nat}{k k':Int}(h:Y.heap[b]?=some (.cells #[.int .i64 k,.int .i64 0,.slice none 0 0,.int .i64 k',.int .i64 0,.slice none 0 0] 53 (0,0))):(Tf.cons k 0 .nil (.cons k' 0 .nil .nil)).Sl Y (fun j=>j<Y.heap.size) (some ⟨b,0,none⟩) 2:=
 ⟨SA _,by decide,fun _=>⟨b,0,rfl,lt_of_block h,Sq Y b 0 _ _ (0,0) h,Sq Y b 1 _ _ (0,0) h,⟨none,0,Sq Y b 2 _ _ (0,0) h,SA _,by decide,fun h=>absurd rfl h⟩,Sq Y b 3 _ _ (0,0) h,Sq Y b 4 _ _ (0,0) h,⟨none,0,Sq Y b 5 _ _ (0,0) h,SA _,by decide,fun h=>absurd rfl h⟩,trivial⟩⟩
theorem IX {Y:World}{A A':Option Addr}{c c':Nat}{t:Int×Int×Int×Tf}{k:Int}(ht:t=(1,4,0,.cons k 0 .nil (.cons 5 0 .nil .nil)))(h:t.2.2.2.Sl Y (fun j=>j<Y.heap.size) A c)(h':t.2.2.2.Sl Y (fun j=>j<Y.heap.size) A' c') :
  Calls Tryz.prog 25 #[.agg #[.int .i64 1,.int .i64 4,.int .i64 0,.slice A 2 c],.agg #[.int .i64 1,.int .i64 4,.int .i64 0,.slice A' 2 c']] Y fun e w'=>e=.returned (.bool true)∧RowKit.Below Y.heap.size Y w':=by
 subst ht
 have hc:=wU (n:=1) (n':=1) (k:=4) (v:=0) (k':=4) (v':=0) h h'
 refine TJ hc ?_
 rintro e Z ⟨he,hb⟩
 refine⟨he.trans ?_,hb⟩
 simp[eqT,Tf.eqB]
end
end Go.Proofs.Q
