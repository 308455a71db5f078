/- Part of the proof of WholeMatching. -/
import Derived.Test.YtbedbfdhfokifaaGreatJBH
namespace Go.Proofs.YtbedbfdhfokifaaGreat
set_option maxRecDepth 100000
set_option maxHeartbeats 16000000
set_option linter.unusedVariables false
set_option linter.unusedSimpArgs false
open Go renaming World->Z,Calls->aF
open Go.IntKind renaming i64->F
open Go.Obj renaming cells->U
open Go.Proofs.Tryz renaming prog->ak
open Go.Value renaming int->G,slice->T,pointer->aN,agg->az,tuple->bG
open _root_.Option renaming none->J,some->N
open Go.RowKit
section
variable (w:Z)
theorem aiK {D:bN} (hD:D.Is) {items:List bI} {w0:Z} {fb mb n:Nat} {first last:Int} (bf:xL D items w0 w fb mb n first last) (x:gV) (hx:Rd w w.heap.size 7 x.items.A x.items.l.length (cellsOf bI.cells x.items.l)) (hln:x.items.l.length<=1000) (kQ: ∀ i∈x.items.l,-1000000000000<=i.amount/\i.amount<=1000000000000):
 aF ak 42 #[aN (N ⟨fb,0,J⟩),az x.cells.toArray] w (λr w'=> ∃ ac:Int,r= .returned (bG #[G F (El.lQ x.items.l),G F ac])/\Below w.heap.size w w'):=by
 have HD:=I hD;have HF:=I bf;obtain⟨id,le,⟨L,A,c⟩⟩:=x;unfold gV.cells Sl.val;dsimp only at*;have HR:=I hx;have j4:=I kQ;have hfl:=bf.blk.lt;have hb1:Below w.heap.size w (w.alloc (U #[G F id,G F le,T A L.length c] 122)):=(aD _ _).alloc (aC _) _;have HX:=I (au.new w 122 #[G F id,G F le,T A L.length c]);clear hD bf hx kQ;go_enter Tryz.func42,Tryz.ntmps42;go_upto_region 1 with fail
 generalize w.alloc (U #[G F id,G F le,T A L.length c] 122)=W1 at*;have c11:W1.cell? ⟨fb,11,J⟩=N (G F D.ro.dJ):=(hb1.cell (p:=⟨fb,11,J⟩) hfl).trans ((HF.out.blk.cell 11).trans (HD.out.b O));have x2:W1.cell? ⟨w.heap.size,2,J⟩=N (T A L.length c):=HX.out.cell 2;have HB1:=I hb1;clear hb1;go_quiet (fail);have H7:(W1.drewN nq).cell? ⟨w.heap.size,2,J⟩=N (T A L.length c):=x2;have hb2:=iC HB1.out nq;clear x2 c11;generalize W1.drewN nq=W2 at*;go_wp2_with fail;go_loopw [6,7,20] (λs a t wr=> ∃ (k:Nat) (ac:Int),k<=L.length/\s= G F (El.lQ (L.take k))/\a= G F ac/\t= G F k/\Below w.heap.size w wr) (λ_ _ t _=>L.length - (intOf t).toNat)
 case atStart=>exact⟨0,_,O,rfl,rfl,rfl,hb2⟩
 case round=>
  obtain⟨k,ac,hk,rfl,rfl,rfl,hb⟩:=hrel;have hz:=hb.size
  by_cases hlt:k<L.length
  ·obtain⟨b,o,hA,aX,f0,f1,f2,f3,f4,f5,f6⟩:=bI.at_ (HR.out.below hb (aC _)) hlt;subst hA;have HST:=I (aoy L k hlt);have h1:=El.aox (L.take k) (λi hi=>j4.out i (FQ hi));have h2:=j4.out _ (bP hlt);have h3:(L.take k).length=k:=by rw[jR];omega
   rw[h3]at h1;clear h3;generalize El.lQ (L.take k)=sm at*;generalize L[k]=x at*;obtain⟨⟨i0,i1⟩,i2,i3,i4,i5,i6⟩:=x;dsimp only at*;have hws:F.wrap (sm+i6)=sm+i6:=iL _ O;have hst:=(aD wr.heap.size wr).alloc (aC _) (U #[G F i0,G F i1,G F i2,G F i3,G F i4,G F i5,G F i6] 83);have df:=I (au.new wr 83 #[G F i0,G F i1,G F i2,G F i3,G F i4,G F i5,G F i6]);have hb3:=ay hb hst;have hfr:fb<(wr.alloc (U #[G F i0,G F i1,G F i2,G F i3,G F i4,G F i5,G F i6] 83)).heap.size:=bL;go_upto_region 5 with fail
   clear f0 f1 f2 f3 f4 f5 f6 hst;generalize wr.alloc (U #[G F i0,G F i1,G F i2,G F i3,G F i4,G F i5,G F i6] 83)=W3 at*;have y5:W3.cell? ⟨wr.heap.size,5,J⟩=N (G F i5):=df.out.cell 5;have y6:W3.cell? ⟨wr.heap.size,6,J⟩=N (G F i6):=df.out.cell 6;have d28:W3.cell? ⟨fb,28,J⟩=N (G F first):=(hb3.cell (p:=⟨fb,28,J⟩) hfl).trans ((HF.out.blk.cell 28).trans (jr HD.out.size 1));go_upto_region 6 with fail
   cases hd:decide (first<=i5)
   ·go_quiet (fail);go_wp2_with fail;go_roundw
    case rel=>exact⟨k+1,ac,O,by rw[HST.out],rfl,by go_num,iC hb3 _⟩
    case measure=>simp[intOf];omega
   ·go_quiet (fail);have d18:(W3.drewN nq).cell? ⟨fb,18,J⟩=N (G F D.ro.difference):=(hb3.cell (p:=⟨fb,18,J⟩) hfl).trans ((HF.out.blk.cell 18).trans (HD.out.b O));have hb4:=iC hb3 nq;generalize W3.drewN nq=W4 at*;go_wp2_with fail;go_roundw
    case rel=>exact⟨k+1,_,O,by rw[HST.out],rfl,by go_num,hb4⟩
    case measure=>simp[intOf];omega
  ·have hke:L.take k=L:=kS O;rw[hke];go_wp2_with fail;go_ret2;exact⟨ac,rfl,hb⟩
end
end Go.Proofs.YtbedbfdhfokifaaGreat
