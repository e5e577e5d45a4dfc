/- law25.awake -/
import Derived.Test.YtmmecapgnmlaiaaGreatDoorZym
set_option maxRecDepth 100000
set_option maxHeartbeats 16000000
namespace Go.Proofs.Q
open Go Go.RowKit Go.Proofs Go.Proofs.Unify Go.Proofs.Scc
theorem sM (w:World):Calls Tryz.prog 13 #[] w fun e w'=>e=.returned (.bool true)∧RowKit.Below w.heap.size w w':=by
 have hmm:=@run_makeMap Tryz.prog
 go_enter Tryz.func13,Tryz.ntmps13
 go_wp2_with fail
 with_reducible refine TJ (l9 ⟨#[120]⟩ _) ?_
 rintro e w1 ⟨rfl,hb1⟩
 have HBw:=Sk hb1
 clear hb1
 go_upto_region 2 with fail
 obtain⟨W2,hW2⟩:∃W2,(w1.alloc (.cells #[.int .i64 3,.string ⟨#[120]⟩,.string ⟨#[]⟩,.int .i64 0,.int .i64 0,.slice none 0 0,.int .i64 1,.string ⟨#[]⟩,.string ⟨#[]⟩,.int .i64 1,.int .i64 0,.slice none 0 0] 44)).alloc (.cells #[.int .i64 10,.string ⟨#[43]⟩,.string ⟨#[]⟩,.int .i64 0,.int .i64 0,.slice (some ⟨w1.heap.size,0,none⟩) 2 2] 44)=W2:=⟨_,rfl⟩
 rw[hW2]
 have hb2:RowKit.Below w1.heap.size w1 W2:=by subst hW2;exact((Tz _ _).alloc (SA _) _).alloc (by simp) _
 have hr1:W2.heap[w1.heap.size]?=some (.cells #[.int .i64 3,.string ⟨#[120]⟩,.string ⟨#[]⟩,.int .i64 0,.int .i64 0,.slice none 0 0,.int .i64 1,.string ⟨#[]⟩,.string ⟨#[]⟩,.int .i64 1,.int .i64 0,.slice none 0 0] 44 (0,0)):=by
  subst hW2
  exact(bZ _ _ _ (by simp)).trans (bW _ _ _ rfl)
 have hr2:W2.heap[w1.heap.size+1]?=some (.cells #[.int .i64 10,.string ⟨#[43]⟩,.string ⟨#[]⟩,.int .i64 0,.int .i64 0,.slice (some ⟨w1.heap.size,0,none⟩) 2 2] 44 (0,0)):=by
  subst hW2
  exact bW _ _ _ (by simp)
 have HS:=Sk (show ∀Y,RowKit.Below W2.heap.size W2 Y→Y.cell? ⟨w1.heap.size+1,0,none⟩=some (.int .i64 10)∧Y.cell? ⟨w1.heap.size+1,1,none⟩=some (.string ⟨#[43]⟩)∧Y.cell? ⟨w1.heap.size+1,2,none⟩=some (.string ⟨#[]⟩)∧Y.cell? ⟨w1.heap.size+1,3,none⟩=some (.int .i64 0)∧Y.cell? ⟨w1.heap.size+1,4,none⟩=some (.int .i64 0)∧Y.cell? ⟨w1.heap.size+1,5,none⟩=some (.slice (some ⟨w1.heap.size,0,none⟩) 2 2)from fun Y hY=>by
  have h:=(hY.block _ (lt_of_block hr2)).trans hr2
  exact⟨Sq Y _ 0 _ _ (0,0) h,Sq Y _ 1 _ _ (0,0) h,Sq Y _ 2 _ _ (0,0) h,Sq Y _ 3 _ _ (0,0) h,Sq Y _ 4 _ _ (0,0) h,Sq Y _ 5 _ _ (0,0) h⟩)
 have HB0:=Sk (show RowKit.Below W2.heap.size W2 W2.drew from (Tz _ _).drew)
 have T0:True:=trivial
 have HH2:=Sk (Sn hr1 (Sn hr2 hb2))
 clear hr1 hr2 hb2 hW2
 go_cut [2] (fun s2 wx=>∃mb,s2=.pointer (some ⟨mb,0,none⟩)∧AwM w wx mb)
 case first =>
  go_region_held3 (fun Y=>Y.cell? ⟨w1.heap.size+1,0,none⟩=some (.int .i64 10)∧Y.cell? ⟨w1.heap.size+1,1,none⟩=some (.string ⟨#[43]⟩)∧Y.cell? ⟨w1.heap.size+1,2,none⟩=some (.string ⟨#[]⟩)∧Y.cell? ⟨w1.heap.size+1,3,none⟩=some (.int .i64 0)∧Y.cell? ⟨w1.heap.size+1,4,none⟩=some (.int .i64 0)∧Y.cell? ⟨w1.heap.size+1,5,none⟩=some (.slice (some ⟨w1.heap.size,0,none⟩) 2 2))
   (focus (refine HS.out _ ?_;first|exact jv.out|exact aO jv.out _|exact aO (aO jv.out _) _|exact aO (((jv.out.setCell (by first|exact jv.out.size|exact jP.out.size|exact jQ.out.size|exact HB9.out.size|exact HB8.out.size|exact HB7.out.size|exact HB6.out.size|exact HB5.out.size|exact HB4.out.size|exact HB3.out.size|exact HB2.out.size|exact HB1.out.size|exact HB0.out.size) _).setCell (by first|exact jv.out.size|exact jP.out.size|exact jQ.out.size|exact HB9.out.size|exact HB8.out.size|exact HB7.out.size|exact HB6.out.size|exact HB5.out.size|exact HB4.out.size|exact HB3.out.size|exact HB2.out.size|exact HB1.out.size|exact HB0.out.size) _).setCell (by first|exact jv.out.size|exact jP.out.size|exact jQ.out.size|exact HB9.out.size|exact HB8.out.size|exact HB7.out.size|exact HB6.out.size|exact HB5.out.size|exact HB4.out.size|exact HB3.out.size|exact HB2.out.size|exact HB1.out.size|exact HB0.out.size) _) _|exact(((aO jv.out _).setCell (by first|exact jv.out.size|exact jP.out.size|exact jQ.out.size|exact HB9.out.size|exact HB8.out.size|exact HB7.out.size|exact HB6.out.size|exact HB5.out.size|exact HB4.out.size|exact HB3.out.size|exact HB2.out.size|exact HB1.out.size|exact HB0.out.size) _).setCell (by first|exact jv.out.size|exact jP.out.size|exact jQ.out.size|exact HB9.out.size|exact HB8.out.size|exact HB7.out.size|exact HB6.out.size|exact HB5.out.size|exact HB4.out.size|exact HB3.out.size|exact HB2.out.size|exact HB1.out.size|exact HB0.out.size) _).setCell (by first|exact jv.out.size|exact jP.out.size|exact jQ.out.size|exact HB9.out.size|exact HB8.out.size|exact HB7.out.size|exact HB6.out.size|exact HB5.out.size|exact HB4.out.size|exact HB3.out.size|exact HB2.out.size|exact HB1.out.size|exact HB0.out.size) _|exact(((aO (aO jv.out _) _).setCell (by first|exact jv.out.size|exact jP.out.size|exact jQ.out.size|exact HB9.out.size|exact HB8.out.size|exact HB7.out.size|exact HB6.out.size|exact HB5.out.size|exact HB4.out.size|exact HB3.out.size|exact HB2.out.size|exact HB1.out.size|exact HB0.out.size) _).setCell (by first|exact jv.out.size|exact jP.out.size|exact jQ.out.size|exact HB9.out.size|exact HB8.out.size|exact HB7.out.size|exact HB6.out.size|exact HB5.out.size|exact HB4.out.size|exact HB3.out.size|exact HB2.out.size|exact HB1.out.size|exact HB0.out.size) _).setCell (by first|exact jv.out.size|exact jP.out.size|exact jQ.out.size|exact HB9.out.size|exact HB8.out.size|exact HB7.out.size|exact HB6.out.size|exact HB5.out.size|exact HB4.out.size|exact HB3.out.size|exact HB2.out.size|exact HB1.out.size|exact HB0.out.size) _|exact jP.out|exact aO jP.out _|exact jQ.out|exact aO jQ.out _|exact HB9.out|exact aO HB9.out _|exact HB8.out|exact aO HB8.out _|exact HB7.out|exact aO HB7.out _|exact HB6.out|exact aO HB6.out _|exact HB5.out|exact aO HB5.out _|exact HB4.out|exact aO HB4.out _|exact HB3.out|exact aO HB3.out _|exact HB2.out|exact aO HB2.out _|exact HB1.out|exact aO HB1.out _|exact HB0.out|exact aO HB0.out _|exact fP (aO (Tz _ _) _)))
   (first
   | (have _t:=T0;go_at_call 30;(with_reducible refine TJ (l9 ⟨#[120]⟩ _) ?_);rintro e v1 ⟨rfl,hb⟩;have HD1:=Sk (show RowKit.Below W2.heap.size W2 v1 from (by first|exact HB0.out.trans hb|exact(aO HB0.out _).trans (hb.mono (aO HB0.out _).size)|exact(fP (aO (Tz _ W2) _)).trans (hb.mono (fP (aO (Tz _ W2) _)).size)));have HB1:=HD1;(first|have HM:=Sk (show v1.heap[_]?=some (.cells #[.string ⟨#[]⟩,.slice none 0 0,.slice none 0 0] 25 (0,0))from (hb.block _ (lt_of_block HM.out)).trans HM.out)|have HM:=Sk (show v1.heap[W2.heap.size]?=some (.cells #[.string ⟨#[]⟩,.slice none 0 0,.slice none 0 0] 25 (0,0))from (hb.block W2.heap.size (by simp)).trans (Sv W2 _))|skip);clear hb;clear _t;have T1:True:=T0;clear T0)
   | (have _t:=T1;go_at_call 29;(with_reducible refine TJ (lQ ⟨#[120]⟩ 3 0 0 ⟨#[120]⟩ ⟨#[]⟩ none 0 0 _) ?_);rintro e v2 ⟨A1,rfl,hb,hg,hc⟩;have HD2:=Sk (show RowKit.Below v1.heap.size v1 v2 from (by first|exact hb|exact(aO (Tz _ v1) _).trans (hb.mono (by simp))));have HB2:=Sk (HB1.out.trans (HD2.out.mono HB1.out.size));(first|have HM:=Sk (show v2.heap[_]?=some (.cells #[.string ⟨#[]⟩,.slice none 0 0,.slice none 0 0] 25 (0,0))from (hb.block _ (lt_of_block HM.out)).trans HM.out)|have HM:=Sk (show v2.heap[v1.heap.size]?=some (.cells #[.string ⟨#[]⟩,.slice none 0 0,.slice none 0 0] 25 (0,0))from (hb.block v1.heap.size (by simp)).trans (Sv v1 _))|skip);have HC2:=Sk hc;clear hg hc;clear hb;clear _t;have T2:True:=T1;clear T1)
   | (have _t:=T2;go_at_call 28;(with_reducible refine TJ (lS 1 ⟨#[105,100]⟩ 6 0 0 ⟨#[120]⟩ ⟨#[]⟩ (some ⟨A1,0,none⟩) 1 1 _) ?_);rintro e v3 ⟨n1,rfl,hb,hg,hc⟩;have HD3:=Sk (show RowKit.Below v2.heap.size v2 v3 from (by first|exact hb|exact(aO (Tz _ v2) _).trans (hb.mono (by simp))));have HB3:=Sk (HB2.out.trans (HD3.out.mono HB2.out.size));(first|have HM:=Sk (show v3.heap[_]?=some (.cells #[.string ⟨#[]⟩,.slice none 0 0,.slice none 0 0] 25 (0,0))from (hb.block _ (lt_of_block HM.out)).trans HM.out)|have HM:=Sk (show v3.heap[v2.heap.size]?=some (.cells #[.string ⟨#[]⟩,.slice none 0 0,.slice none 0 0] 25 (0,0))from (hb.block v2.heap.size (by simp)).trans (Sv v2 _))|skip);have HC3:=Sk hc;clear hg hc;clear hb;clear _t;have T3:True:=T2;clear T2)
   | (have _t:=T3;go_at_call 42;(with_reducible refine TJ (uK 3 _) ?_);rintro e v4 ⟨rfl,hb⟩;have HD4:=Sk (show RowKit.Below v3.heap.size v3 v4 from (by first|exact hb|exact(aO (Tz _ v3) _).trans (hb.mono (by simp))));have HB4:=Sk (HB3.out.trans (HD4.out.mono HB3.out.size));(first|have HM:=Sk (show v4.heap[_]?=some (.cells #[.string ⟨#[]⟩,.slice none 0 0,.slice none 0 0] 25 (0,0))from (hb.block _ (lt_of_block HM.out)).trans HM.out)|have HM:=Sk (show v4.heap[v3.heap.size]?=some (.cells #[.string ⟨#[]⟩,.slice none 0 0,.slice none 0 0] 25 (0,0))from (hb.block v3.heap.size (by simp)).trans (Sv v3 _))|skip);clear hb;clear _t;have T4:True:=T3;clear T3)
   | (have _t:=T4;go_at_call 30;(with_reducible refine TJ (l9 ⟨#[120]⟩ _) ?_);rintro e v5 ⟨rfl,hb⟩;have HD5:=Sk (show RowKit.Below v4.heap.size v4 v5 from (by first|exact hb|exact(aO (Tz _ v4) _).trans (hb.mono (by simp))));have HB5:=Sk (HB4.out.trans (HD5.out.mono HB4.out.size));(first|have HM:=Sk (show v5.heap[_]?=some (.cells #[.string ⟨#[]⟩,.slice none 0 0,.slice none 0 0] 25 (0,0))from (hb.block _ (lt_of_block HM.out)).trans HM.out)|have HM:=Sk (show v5.heap[v4.heap.size]?=some (.cells #[.string ⟨#[]⟩,.slice none 0 0,.slice none 0 0] 25 (0,0))from (hb.block v4.heap.size (by simp)).trans (Sv v4 _))|skip);clear hb;clear _t;have T5:True:=T4;clear T4)
   | (have _t:=T5;go_at_call 41;(with_reducible refine TJ (nN 5 3 0 3 0 0 ⟨#[]⟩ ⟨#[]⟩ ⟨#[120]⟩ ⟨#[]⟩ none none 0 0 0 0 _) ?_);rintro e v6 ⟨g2,rfl,hb,hg,hc⟩;have HD6:=Sk (show RowKit.Below v5.heap.size v5 v6 from (by first|exact hb|exact(aO (Tz _ v5) _).trans (hb.mono (by simp))));have HB6:=Sk (HB5.out.trans (HD6.out.mono HB5.out.size));(first|have HM:=Sk (show v6.heap[_]?=some (.cells #[.string ⟨#[]⟩,.slice none 0 0,.slice none 0 0] 25 (0,0))from (hb.block _ (lt_of_block HM.out)).trans HM.out)|have HM:=Sk (show v6.heap[v5.heap.size]?=some (.cells #[.string ⟨#[]⟩,.slice none 0 0,.slice none 0 0] 25 (0,0))from (hb.block v5.heap.size (by simp)).trans (Sv v5 _))|skip);have HC6:=Sk hc;clear hg hc;clear hb;clear _t;have T6:True:=T5;clear T5)
   | (have _t:=T6;go_at_call 29;(with_reducible refine TJ (lQ ⟨#[120]⟩ 7 0 0 ⟨#[]⟩ ⟨#[]⟩ (some ⟨g2,0,none⟩) 2 2 _) ?_);rintro e v7 ⟨A2,rfl,hb,hg,hc⟩;have HD7:=Sk (show RowKit.Below v6.heap.size v6 v7 from (by first|exact hb|exact(aO (Tz _ v6) _).trans (hb.mono (by simp))));have HB7:=Sk (HB6.out.trans (HD7.out.mono HB6.out.size));(first|have HM:=Sk (show v7.heap[_]?=some (.cells #[.string ⟨#[]⟩,.slice none 0 0,.slice none 0 0] 25 (0,0))from (hb.block _ (lt_of_block HM.out)).trans HM.out)|have HM:=Sk (show v7.heap[v6.heap.size]?=some (.cells #[.string ⟨#[]⟩,.slice none 0 0,.slice none 0 0] 25 (0,0))from (hb.block v6.heap.size (by simp)).trans (Sv v6 _))|skip);have HC7:=Sk hc;clear hg hc;clear hb;clear _t;have T7:True:=T6;clear T6)
   | (have _t:=T7;go_at_call 28;(with_reducible refine TJ (lS 2 ⟨#[102]⟩ 6 0 0 ⟨#[120]⟩ ⟨#[]⟩ (some ⟨A2,0,none⟩) 1 1 _) ?_);rintro e v8 ⟨n2,rfl,hb,hg,hc⟩;have HD8:=Sk (show RowKit.Below v7.heap.size v7 v8 from (by first|exact hb|exact(aO (Tz _ v7) _).trans (hb.mono (by simp))));have HB8:=Sk (HB7.out.trans (HD8.out.mono HB7.out.size));(first|have HM:=Sk (show v8.heap[_]?=some (.cells #[.string ⟨#[]⟩,.slice none 0 0,.slice none 0 0] 25 (0,0))from (hb.block _ (lt_of_block HM.out)).trans HM.out)|have HM:=Sk (show v8.heap[v7.heap.size]?=some (.cells #[.string ⟨#[]⟩,.slice none 0 0,.slice none 0 0] 25 (0,0))from (hb.block v7.heap.size (by simp)).trans (Sv v7 _))|skip);have HC8:=Sk hc;clear hg hc;clear hb;clear _t;have T8:True:=T7;clear T7)
   | (have _t:=T8;go_at_call 42;(with_reducible refine TJ (uK 2 _) ?_);rintro e v9 ⟨rfl,hb⟩;have HD9:=Sk (show RowKit.Below v8.heap.size v8 v9 from (by first|exact hb|exact(aO (Tz _ v8) _).trans (hb.mono (by simp))));have HB9:=Sk (HB8.out.trans (HD9.out.mono HB8.out.size));(first|have HM:=Sk (show v9.heap[_]?=some (.cells #[.string ⟨#[]⟩,.slice none 0 0,.slice none 0 0] 25 (0,0))from (hb.block _ (lt_of_block HM.out)).trans HM.out)|have HM:=Sk (show v9.heap[v8.heap.size]?=some (.cells #[.string ⟨#[]⟩,.slice none 0 0,.slice none 0 0] 25 (0,0))from (hb.block v8.heap.size (by simp)).trans (Sv v8 _))|skip);clear hb;clear _t;have T9:True:=T8;clear T8)
   | (have _t:=T9;go_at_call 41;(with_reducible refine TJ (nN 5 2 0 10 0 0 ⟨#[]⟩ ⟨#[]⟩ ⟨#[43]⟩ ⟨#[]⟩ none (some ⟨w1.heap.size,0,none⟩) 0 0 2 2 _) ?_);rintro e v10 ⟨g3,rfl,hb,hg,hc⟩;have ML:=Sk (show RowKit.Below v9.heap.size v9 v10 from (by first|exact hb|exact(aO (Tz _ v9) _).trans (hb.mono (by simp))));have jQ:=Sk (HB9.out.trans (ML.out.mono HB9.out.size));(first|have HM:=Sk (show v10.heap[_]?=some (.cells #[.string ⟨#[]⟩,.slice none 0 0,.slice none 0 0] 25 (0,0))from (hb.block _ (lt_of_block HM.out)).trans HM.out)|have HM:=Sk (show v10.heap[v9.heap.size]?=some (.cells #[.string ⟨#[]⟩,.slice none 0 0,.slice none 0 0] 25 (0,0))from (hb.block v9.heap.size (by simp)).trans (Sv v9 _))|skip);have PD:=Sk hc;clear hg hc;clear hb;clear _t;have T10:True:=T9;clear T9)
   | (have _t:=T10;go_at_call 29;(with_reducible refine TJ (lQ ⟨#[120]⟩ 7 0 0 ⟨#[]⟩ ⟨#[]⟩ (some ⟨g3,0,none⟩) 2 2 _) ?_);rintro e v11 ⟨A3,rfl,hb,hg,hc⟩;have MN:=Sk (show RowKit.Below v10.heap.size v10 v11 from (by first|exact hb|exact(aO (Tz _ v10) _).trans (hb.mono (by simp))));have jP:=Sk (jQ.out.trans (MN.out.mono jQ.out.size));(first|have HM:=Sk (show v11.heap[_]?=some (.cells #[.string ⟨#[]⟩,.slice none 0 0,.slice none 0 0] 25 (0,0))from (hb.block _ (lt_of_block HM.out)).trans HM.out)|have HM:=Sk (show v11.heap[v10.heap.size]?=some (.cells #[.string ⟨#[]⟩,.slice none 0 0,.slice none 0 0] 25 (0,0))from (hb.block v10.heap.size (by simp)).trans (Sv v10 _))|skip);have PE:=Sk hc;clear hg hc;clear hb;clear _t;have T11:True:=T10;clear T10)
   | (have _t:=T11;go_at_call 28;(with_reducible refine TJ (lS 3 ⟨#[103]⟩ 6 0 0 ⟨#[120]⟩ ⟨#[]⟩ (some ⟨A3,0,none⟩) 1 1 _) ?_);rintro e v12 ⟨n3,rfl,hb,hg,hc⟩;have MO:=Sk (show RowKit.Below v11.heap.size v11 v12 from (by first|exact hb|exact(aO (Tz _ v11) _).trans (hb.mono (by simp))));have jv:=Sk (jP.out.trans (MO.out.mono jP.out.size));(first|have HM:=Sk (show v12.heap[_]?=some (.cells #[.string ⟨#[]⟩,.slice none 0 0,.slice none 0 0] 25 (0,0))from (hb.block _ (lt_of_block HM.out)).trans HM.out)|have HM:=Sk (show v12.heap[v11.heap.size]?=some (.cells #[.string ⟨#[]⟩,.slice none 0 0,.slice none 0 0] 25 (0,0))from (hb.block v11.heap.size (by simp)).trans (Sv v11 _))|skip);have PG:=Sk hc;clear hg hc;(first|(have mc0:=Sq v12 _ 0 _ _ (0,0) HM.out;have mc1:=Sq v12 _ 1 _ _ (0,0) HM.out;have mc2:=Sq v12 _ 2 _ _ (0,0) HM.out;have mf0:=Sr v12 _ 0 _ _ HM.out;have mf1:=Sr v12 _ 1 _ _ HM.out;have mf2:=Sr v12 _ 2 _ _ HM.out;have mlt:=lt_of_block HM.out;simp at mc0 mc1 mc2)|skip);clear hb;clear _t;have T12:True:=T11;clear T11)
    | fail)
  all_goals (
   go_wp2_with fail
   go_meet
   have E12:∀(b:Nat) (o:Obj),v12.heap[b]?=some o→v12.heap[b]?=some o:=fun b o h=>h
   have E11:∀(b:Nat) (o:Obj),v11.heap[b]?=some o→v12.heap[b]?=some o:=fun b o h=>E12 b o ((MO.out.block b (lt_of_block h)).trans h)
   have E10:∀(b:Nat) (o:Obj),v10.heap[b]?=some o→v12.heap[b]?=some o:=fun b o h=>E11 b o ((MN.out.block b (lt_of_block h)).trans h)
   have E9:∀(b:Nat) (o:Obj),v9.heap[b]?=some o→v12.heap[b]?=some o:=fun b o h=>E10 b o ((ML.out.block b (lt_of_block h)).trans h)
   have E8:∀(b:Nat) (o:Obj),v8.heap[b]?=some o→v12.heap[b]?=some o:=fun b o h=>E9 b o ((HD9.out.block b (lt_of_block h)).trans h)
   have E7:∀(b:Nat) (o:Obj),v7.heap[b]?=some o→v12.heap[b]?=some o:=fun b o h=>E8 b o ((HD8.out.block b (lt_of_block h)).trans h)
   have E6:∀(b:Nat) (o:Obj),v6.heap[b]?=some o→v12.heap[b]?=some o:=fun b o h=>E7 b o ((HD7.out.block b (lt_of_block h)).trans h)
   have E5:∀(b:Nat) (o:Obj),v5.heap[b]?=some o→v12.heap[b]?=some o:=fun b o h=>E6 b o ((HD6.out.block b (lt_of_block h)).trans h)
   have E4:∀(b:Nat) (o:Obj),v4.heap[b]?=some o→v12.heap[b]?=some o:=fun b o h=>E5 b o ((HD5.out.block b (lt_of_block h)).trans h)
   have E3:∀(b:Nat) (o:Obj),v3.heap[b]?=some o→v12.heap[b]?=some o:=fun b o h=>E4 b o ((HD4.out.block b (lt_of_block h)).trans h)
   have E2:∀(b:Nat) (o:Obj),v2.heap[b]?=some o→v12.heap[b]?=some o:=fun b o h=>E3 b o ((HD3.out.block b (lt_of_block h)).trans h)
   have E1:∀(b:Nat) (o:Obj),v1.heap[b]?=some o→v12.heap[b]?=some o:=fun b o h=>E2 b o ((HD2.out.block b (lt_of_block h)).trans h)
   have E0:∀(b:Nat) (o:Obj),W2.heap[b]?=some o→v12.heap[b]?=some o:=fun b o h=>E1 b o ((HD1.out.block b (lt_of_block h)).trans h)
   have HP:AwP v12 w1.heap.size A1 n1 A2 n2 g2 A3 n3 g3:=⟨E0 _ _ HH2.out.1,E2 _ _ HC2.out,E3 _ _ HC3.out,E6 _ _ HC6.out,E7 _ _ HC7.out,E8 _ _ HC8.out,E10 _ _ PD.out,E11 _ _ PE.out,E12 _ _ PG.out⟩
   have hw:=HBw.out.trans ((HH2.out.2.2.trans (jv.out.mono HH2.out.2.2.size)).mono HBw.out.size)
   refine⟨_,rfl,?_⟩
   first
    | exact(HP.PI hw HM.out (by
      have z0:=HBw.out.size
      have z1:=HH2.out.2.2.size
      have z2:=HB1.out.size
      have z3:=HB2.out.size
      have z4:=HB3.out.size
      have z5:=HB4.out.size
      have z6:=HB5.out.size
      have z7:=HB6.out.size
      have z8:=HB7.out.size
      have z9:=HB8.out.size
      have z10:=HB9.out.size
      have z11:=jQ.out.size
      have z12:=jP.out.size
      omega))
    | with_reducible exact HP.MP hw
    | with_reducible exact HP.MQ hw
    | exact HP.MP hw
    | exact HP.MQ hw)
 case rest =>
  obtain⟨mb,rfl,hB,dA,n1,A1,n2,A2,g2,n3,A3,g3,h3,hm,hd⟩:=hcut
  clear HS HB0 T0 HH2 HBw
  have HB:=Sk hB
  clear hB
  have e0:=Sq wc mb 0 _ _ (0,0) hm
  have e1:=Sq wc mb 1 _ _ (0,0) hm
  have e2:=Sq wc mb 2 _ _ (0,0) hm
  simp only[List.getElem?_toArray,List.getElem?_cons_zero,List.getElem?_cons_succ]at e0 e1 e2
  have HM:=Sk (Sn hm hd)
  clear hm hd
  go_wp2_with fail
  with_reducible refine TJ (MR HM.out.2) ?_
  rintro e X1 ⟨g,c,B1,c1,B2,c2,B3,c3,rfl,hb1,hg,hcc,S1,S2,S3⟩
  have HM1:=Sk (Sn ((hb1.block _ (lt_of_block HM.out.1)).trans HM.out.1) (HM.out.2.keep hb1.size fun p hp=>hb1.cell hp))
  have HB1:=Sk (HB.out.trans (hb1.mono HB.out.size))
  have HS:=Sk (Sn hg (Sn hcc (Sn S1 (Sn S2 S3))))
  clear e0 e1 e2 HM HB hb1 hg hcc S1 S2 S3
  have e0:=Sq X1 mb 0 _ _ (0,0) HM1.out.1
  have e1:=Sq X1 mb 1 _ _ (0,0) HM1.out.1
  have e2:=Sq X1 mb 2 _ _ (0,0) HM1.out.1
  simp only[List.getElem?_toArray,List.getElem?_cons_zero,List.getElem?_cons_succ]at e0 e1 e2
  go_wp2_with fail
  with_reducible refine TJ (MS HM1.out.2) ?_
  rintro e X2 ⟨gA,gc,rfl,hb2,hG⟩
  have HG:=Sk (Sn hb2 hG)
  clear hb2 hG e0 e1 e2 HM1
  go_wp2_with fail
  with_reducible refine TJ (l9 ⟨#[120]⟩ _) ?_
  rintro e X3 ⟨rfl,hb3⟩
  have H3:=Sk hb3
  clear hb3
  go_wp2_with fail
  with_reducible refine TJ (l9 ⟨#[120]⟩ _) ?_
  rintro e X4 ⟨rfl,hb4⟩
  have H4:=Sk hb4
  clear hb4
  go_wp2_with fail
  with_reducible refine TJ (nN 3 0 0 3 0 0 ⟨#[120]⟩ ⟨#[]⟩ ⟨#[120]⟩ ⟨#[]⟩ none none 0 0 0 0 _) ?_
  rintro e X5 ⟨g',rfl,hb5,-,hc5⟩
  have H5:=Sk (Sn hb5 hc5)
  clear hb5 hc5
  go_wp2_with fail
  with_reducible refine TJ (lQ ⟨#[120]⟩ 7 0 0 ⟨#[]⟩ ⟨#[]⟩ (some ⟨g',0,none⟩) 2 2 _) ?_
  rintro e X6 ⟨A',rfl,hb6,-,hc6⟩
  have H6:=Sk (Sn hb6 hc6)
  clear hb6 hc6
  go_wp2_with fail
  with_reducible refine TJ (lS 7 ⟨#[102]⟩ 6 0 0 ⟨#[120]⟩ ⟨#[]⟩ (some ⟨A',0,none⟩) 1 1 _) ?_
  rintro e X7 ⟨n',rfl,hb7,-,hc7⟩
  have H7:=Sk (Sn hb7 hc7)
  clear hb7 hc7
  go_wp2_with fail
  have hB7:RowKit.Below X7.heap.size X7 (X7.alloc (.cells #[.int .i64 7,.int .i64 1,.bool false,.slice (some ⟨n',0,none⟩) 1 1,.bool false,.int .i64 6,.string ⟨#[120]⟩,.string ⟨#[]⟩,.int .i64 0,.int .i64 0,.slice (some ⟨A',0,none⟩) 1 1] 46)):=(Tz _ _).alloc (SA _) _
  have k7:∀(b:Nat) (o:Obj),X7.heap[b]?=some o→(X7.alloc (.cells #[.int .i64 7,.int .i64 1,.bool false,.slice (some ⟨n',0,none⟩) 1 1,.bool false,.int .i64 6,.string ⟨#[120]⟩,.string ⟨#[]⟩,.int .i64 0,.int .i64 0,.slice (some ⟨A',0,none⟩) 1 1] 46)).heap[b]?=some o:=fun b o h=>(hB7.block b (lt_of_block h)).trans h
  have k6:∀(b:Nat) (o:Obj),X6.heap[b]?=some o→X7.heap[b]?=some o:=fun b o h=>(H7.out.1.block b (lt_of_block h)).trans h
  have k5:∀(b:Nat) (o:Obj),X5.heap[b]?=some o→X6.heap[b]?=some o:=fun b o h=>(H6.out.1.block b (lt_of_block h)).trans h
  have hd2:=MU (d:=X7.heap.size) (k7 _ _ H7.out.2) (k7 _ _ (k6 _ _ H6.out.2)) (k7 _ _ (k6 _ _ (k5 _ _ H5.out.2))) (Sv X7 _)
  have H8:=Sk hB7
  clear k5 k6 k7 hB7
  with_reducible refine TJ (Lr (dA:=some ⟨X7.heap.size,0,none⟩) hd2) ?_
  rintro e X9 ⟨rfl,hb9⟩
  have HX:Hid (RowKit.Below X2.heap.size X2 X9):=Sk (by
   have a4:=H3.out.trans (H4.out.mono H3.out.size)
   have a5:=a4.trans (H5.out.1.mono a4.size)
   have a6:=a5.trans (H6.out.1.mono a5.size)
   have a7:=a6.trans (H7.out.1.mono a6.size)
   have a8:=a7.trans (H8.out.mono a7.size)
   exact a8.trans (hb9.mono a8.size))
  clear hd2 hb9 H3 H4 H5 H6 H7 H8
  go_wp2_with fail
  have hgs:=OQ X9 _ rfl
  have hB9:=HG.out.1.trans (HX.out.mono HG.out.1.size)
  with_reducible refine TJ (Ls (HG.out.2.keep (HX.out.trans (hgs.1.mono HX.out.size))) hgs.2) ?_
  rintro e X10 ⟨rfl,MV⟩
  have HY:Hid (RowKit.Below X1.heap.size X1 X10):=Sk (by
   have a8:=hB9.trans (hgs.1.mono hB9.size)
   exact a8.trans (MV.mono a8.size))
  clear hgs hB9 MV HG HX
  go_upto_region 10 with fail
  obtain⟨W12,wC⟩:∃q,((X10.alloc (.cells #[.int .i64 5,.int .i64 0,.slice none 0 0] 53)).alloc (.cells #[.int .i64 1,.int .i64 0,.slice none 0 0,.int .i64 5,.int .i64 0,.slice none 0 0] 53)).alloc (.cells #[.int .i64 4,.int .i64 0,.slice (some ⟨X10.heap.size+1,0,none⟩) 2 2] 53)=q:=⟨_,rfl⟩
  rw[wC]
  have MW:RowKit.Below X10.heap.size X10 W12:=by rw[←wC];exact(((Tz _ _).alloc (SA _) _).alloc (by simp) _).alloc (by simp;omega) _
  have r0:W12.heap[X10.heap.size]?=some (.cells #[.int .i64 5,.int .i64 0,.slice none 0 0] 53 (0,0)):=by
   rw[←wC,bZ _ _ _ (by simp;omega),bZ _ _ _ (by simp)];exact bW _ _ _ rfl
  have r1:W12.heap[X10.heap.size+1]?=some (.cells #[.int .i64 1,.int .i64 0,.slice none 0 0,.int .i64 5,.int .i64 0,.slice none 0 0] 53 (0,0)):=by
   rw[←wC,bZ _ _ _ (by simp)];exact bW _ _ _ (by simp)
  have r2:W12.heap[X10.heap.size+1+1]?=some (.cells #[.int .i64 4,.int .i64 0,.slice (some ⟨X10.heap.size+1,0,none⟩) 2 2] 53 (0,0)):=by
   rw[←wC];exact bW _ _ _ (by simp)
  have hb1:RowKit.Below X1.heap.size X1 W12:=HY.out.trans (MW.mono HY.out.size)
  have HH:=Sk (show ∀Y,RowKit.Below W12.heap.size W12 Y→(Y.cell? ⟨g,2,none⟩=some (.int .i64 1)∧Y.cell? ⟨g,3,none⟩=some (.int .i64 4)∧Y.cell? ⟨g,4,none⟩=some (.int .i64 0)∧Y.cell? ⟨g,5,none⟩=some (.slice B1 2 c1))∧(Y.cell? ⟨g,8,none⟩=some (.int .i64 1)∧Y.cell? ⟨g,9,none⟩=some (.int .i64 4)∧Y.cell? ⟨g,10,none⟩=some (.int .i64 0)∧Y.cell? ⟨g,11,none⟩=some (.slice B2 2 c2))∧(Y.cell? ⟨g,14,none⟩=some (.int .i64 1)∧Y.cell? ⟨g,15,none⟩=some (.int .i64 4)∧Y.cell? ⟨g,16,none⟩=some (.int .i64 0)∧Y.cell? ⟨g,17,none⟩=some (.slice B3 2 c3))∧(Y.cell? ⟨X10.heap.size,0,none⟩=some (.int .i64 5)∧Y.cell? ⟨X10.heap.size,1,none⟩=some (.int .i64 0)∧Y.cell? ⟨X10.heap.size,2,none⟩=some (.slice none 0 0))∧Y.cell? ⟨X10.heap.size+1+1,0,none⟩=some (.int .i64 4)∧Y.cell? ⟨X10.heap.size+1+1,1,none⟩=some (.int .i64 0)∧Y.cell? ⟨X10.heap.size+1+1,2,none⟩=some (.slice (some ⟨X10.heap.size+1,0,none⟩) 2 2)from fun Y hY=>by
   have hbY:=hb1.trans (hY.mono hb1.size)
   obtain⟨hg,_,S1,S2,S3⟩:=HS.out
   have k:∀{o v},X1.cell? ⟨g,o,none⟩=some v→Y.cell? ⟨g,o,none⟩=some v:=fun h=>(hbY.cell (p:=⟨g,_,none⟩) hg).trans h
   have q0:=(hY.block _ (lt_of_block r0)).trans r0
   have q2:=(hY.block _ (lt_of_block r2)).trans r2
   exact⟨⟨k S1.1,k S1.2.1,k S1.2.2.1,k S1.2.2.2.1⟩,⟨k S2.1,k S2.2.1,k S2.2.2.1,k S2.2.2.2.1⟩,⟨k S3.1,k S3.2.1,k S3.2.2.1,k S3.2.2.2.1⟩,⟨Sq Y _ 0 _ _ (0,0) q0,Sq Y _ 1 _ _ (0,0) q0,Sq Y _ 2 _ _ (0,0) q0⟩,Sq Y _ 0 _ _ (0,0) q2,Sq Y _ 1 _ _ (0,0) q2,Sq Y _ 2 _ _ (0,0) q2⟩)
  have HT:=Sk (show ∀Y,RowKit.Below W12.heap.size W12 Y→aT1.2.2.2.Sl Y (fun j=>j<Y.heap.size) B1 c1∧aT2.2.2.2.Sl Y (fun j=>j<Y.heap.size) B2 c2∧aT2.2.2.2.Sl Y (fun j=>j<Y.heap.size) B3 c3∧aT2.2.2.2.Sl Y (fun j=>j<Y.heap.size) (some ⟨X10.heap.size+1,0,none⟩) 2 from fun Y hY=>by
   have hbY:=hb1.trans (hY.mono hb1.size)
   obtain⟨_,_,S1,S2,S3⟩:=HS.out
   exact⟨S1.2.2.2.2.bel hbY,S2.2.2.2.2.bel hbY,S3.2.2.2.2.bel hbY,Gs ((hY.block _ (lt_of_block r1)).trans r1)⟩)
  have HHc:=HS.out.2.1
  have HZ:=Sk (HB1.out.trans (hb1.mono HB1.out.size))
  have HB0:=Sk (show RowKit.Below W12.heap.size W12 W12.drew from (Tz _ _).drew)
  have T0:True:=trivial
  clear hb1 MW r0 r1 r2 wC HY HS HB1
  go_region_held3 (fun Y=>(Y.cell? ⟨g,2,none⟩=some (.int .i64 1)∧Y.cell? ⟨g,3,none⟩=some (.int .i64 4)∧Y.cell? ⟨g,4,none⟩=some (.int .i64 0)∧Y.cell? ⟨g,5,none⟩=some (.slice B1 2 c1))∧(Y.cell? ⟨g,8,none⟩=some (.int .i64 1)∧Y.cell? ⟨g,9,none⟩=some (.int .i64 4)∧Y.cell? ⟨g,10,none⟩=some (.int .i64 0)∧Y.cell? ⟨g,11,none⟩=some (.slice B2 2 c2))∧(Y.cell? ⟨g,14,none⟩=some (.int .i64 1)∧Y.cell? ⟨g,15,none⟩=some (.int .i64 4)∧Y.cell? ⟨g,16,none⟩=some (.int .i64 0)∧Y.cell? ⟨g,17,none⟩=some (.slice B3 2 c3))∧(Y.cell? ⟨X10.heap.size,0,none⟩=some (.int .i64 5)∧Y.cell? ⟨X10.heap.size,1,none⟩=some (.int .i64 0)∧Y.cell? ⟨X10.heap.size,2,none⟩=some (.slice none 0 0))∧Y.cell? ⟨X10.heap.size+1+1,0,none⟩=some (.int .i64 4)∧Y.cell? ⟨X10.heap.size+1+1,1,none⟩=some (.int .i64 0)∧Y.cell? ⟨X10.heap.size+1+1,2,none⟩=some (.slice (some ⟨X10.heap.size+1,0,none⟩) 2 2))
   (focus (refine HH.out _ ?_;first|exact HB3.out|exact HB2.out|exact HB1.out|exact aO HB0.out _|exact fP (aO (Tz _ _) _)|exact aO (Tz _ _) _|exact HB0.out|exact Tz _ _))
   (first
    | (have _t:=T0;go_at_call 25;(first|(have hy0:=aO HB0.out (.cells #[.int .i64 5,.int .i64 0,.slice none 0 0,.int .i64 5,.int .i64 0,.slice none 0 0] 53);have hc0:=IX (t:=aT1) rfl (HT.out _ hy0).1 (Gs (Sv _ _));refine TJ hc0 ?_;rintro e v1 ⟨rfl,hb⟩;have HB1:=Sk (hy0.trans (hb.mono hy0.size));clear hb hy0 hc0));clear _t;have T1:True:=T0;clear T0)
    | (have _t:=T1;go_at_call 25;have hc0:=IX (t:=aT2) rfl (HT.out _ HB1.out).2.1 (HT.out _ HB1.out).2.2.2;refine TJ hc0 ?_;rintro e v2 ⟨rfl,hb⟩;have HB2:=Sk (HB1.out.trans (hb.mono HB1.out.size));clear hb hc0;clear _t;have T2:True:=T1;clear T1)
    | (have _t:=T2;go_at_call 25;have hc0:=IX (t:=aT2) rfl (HT.out _ HB2.out).2.2.1 (HT.out _ HB2.out).2.1;refine TJ hc0 ?_;rintro e v3 ⟨rfl,hb⟩;have HB3:=Sk (HB2.out.trans (hb.mono HB2.out.size));clear hb hc0;clear _t;have T3:True:=T2;clear T2)
    | fail)
  go_wp2
  go_ret
  exact⟨rfl,HZ.out.trans (HB3.out.mono HZ.out.size)⟩
end Go.Proofs.Q
