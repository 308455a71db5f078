/- Part of the proof of WholeMatching. -/
import Derived.Test.YtbedbfdhfokifaaGreatJAU
namespace Go.Proofs.YtbedbfdhfokifaaGreat
set_option maxRecDepth 100000
set_option maxHeartbeats 16000000
set_option linter.unusedVariables false
set_option linter.unusedSimpArgs false
open _root_.Bool renaming false->ag
open Go renaming World->Z,Calls->aF,Addr->aG,sizeOf->aaR,Value->aj,maxLen->bK,Program->dH
open Go.Instr renaming index->yx
open Go.IntKind renaming i64->F
open Go.Obj renaming cells->U
open Go.Proofs.Tryz renaming prog->ak
open Go.Value renaming int->G,slice->T,string->av,agg->az
open _root_.Option renaming some->N
open Go.RowKit
theorem anH {P:dH} {t e:TypeId} {n:Nat} {q:IntKind} (ht:P.underlying t=N (.array n e)) (ha: ∀ w,(isAgg e).run P w= .ok ag w) (hs: ∀ w,(aaR e).run P w= .ok 1 w)
 (cs:Array aj) (i:Int) (v:aj) (h0:0<=i) (hn:i<n) (hv:cs[i.toNat]? =N v) (w:Z):(yx t (az cs) (G q i)).run P w= .ok v w:=by
 simp[yx,part,ha,hs,kY ht,h0,hn,hv,asIntOf]
def afc:Array aj:= #[.func (.func 219) #[] #[],.func (.func 220) #[] #[],.func (.func 221) #[] #[],.func (.func 222) #[] #[]]
theorem NW (k:Nat) (v:aj) (hk:k<4) (hv:afc[k]? =N v) (w:Z):(yx 305 (az #[.func (.func 219) #[] #[],.func (.func 220) #[] #[],.func (.func 221) #[] #[],.func (.func 222) #[] #[]]) (G F k)).run ak w= .ok v w:=
 anH Tryz.underlying305 Tryz.isAgg228 Tryz.sizeOf228 _ _ _ O O (by rw[VF];exact hv) w
section
variable (aB:Array aj) (cur:ByteArray) (y m p:Int) (cl:List Acc) (cA:Option aG) (cc:Nat) (ro:dZ) (el:List aY) (eA:Option aG) (ec:Nat) (w:Z) (id en da kd fo:Int) (tx:ByteArray) (ll:List bq) (lA:Option aG) (lc:Nat)
theorem xS:(ak.info? 107).map (·.size)=N 7:=ai
def JL (k:Nat) (x1 x2 x3 x4:Int):Prop:=(1<=k->x1=0)/\(2<=k->x2=0)/\(3<=k->x3=0)/\(4<=k->x4=0)
theorem agk (HG:Hid (aB= #[av cur,G F y,G F m,G F p,T cA cl.length cc,G F ro.dU,G F ro.dR,G F ro.dO,G F ro.inventory,G F ro.reserve,G F ro.dV,G F ro.dJ,G F ro.acquired,G F ro.dX,G F ro.dP,G F ro.dN,G F ro.dQ,G F ro.dW,G F ro.difference,G F ro.dL,T eA el.length ec])) (h:eB w cl cA el eA) (hF:lY cur cl el) (htx:tx.size<=bK) (hr:Rd w w.heap.size 3 lA ll.length (cellsOf bq.cells ll)) (hn:ll.length<=1000):
 aF ak 147 #[az aB,az #[G F id,G F en,G F da,G F kd,G F fo,av tx,T lA ll.length lc]] w (xM (Jn.bJ (Gr.gv cur cl ro el (ax.ok y m p)) el.length (Jn.kB el) (Jn.dB y m p) ⟨id,en,da,kd,fo,tx,⟨ll,lA,lc⟩⟩) w):=by
 have H:=I h;have HR:=I hr;have hgi:(ak.info? 29).map (·.size)=N aB.size:=by rw[HG.out];exact gy
 have K1:=I (λW h hr=>agZ aB cur y m p cl cA cc ro el eA ec W id en da kd fo tx ll lA lc HG h hF htx hr hn);have K2:=I (λW i h hr hi=>afb aB cur y m p cl cA cc ro el eA ec W id da kd fo tx ll lA lc i HG h hF hr hn hi);have K3:=I (λW=>afL aB cur y m p cl cA cc ro el eA ec W id en da kd fo tx ll lA lc HG);have K4:=I (λW hr hm=>aeC aB W id en da kd fo tx ll lA lc hr hn hm);have HS:=I (Jn.Yk (Gr.gv cur cl ro el (ax.ok y m p)) el.length (Jn.kB el) (Jn.dB y m p) ⟨id,en,da,kd,fo,tx,⟨ll,lA,lc⟩⟩);have dx:=I (λh=>Jn.SE (V:=Gr.gv cur cl ro el (ax.ok y m p)) (n:=el.length) (x:=⟨id,en,da,kd,fo,tx,⟨ll,lA,lc⟩⟩) h);clear h hr;generalize Gr.gv cur cl ro el (ax.ok y m p)=V at*;generalize Jn.bJ V el.length (Jn.kB el) (Jn.dB y m p) ⟨id,en,da,kd,fo,tx,⟨ll,lA,lc⟩⟩=X at*;generalize Jn.nW V el.length ⟨id,en,da,kd,fo,tx,⟨ll,lA,lc⟩⟩=x1 at*;have mf:Hid (x1=0-> ∀ W,eB W cl cA el eA->Rd W W.heap.size 3 lA ll.length (cellsOf bq.cells ll)->aF ak 220 #[az aB,az #[G F id,G F en,G F da,G F kd,G F fo,av tx,T lA ll.length lc]] W (xM (Jn.wu (Jn.kB el) ⟨id,en,da,kd,fo,tx,⟨ll,lA,lc⟩⟩) W)):=I (λh0 W h hr=>by
  obtain⟨hh,-⟩:=dx.out h0;have e0:=hh.e0;have e1:=hh.e1;dsimp only at e0 e1;obtain⟨i,rfl⟩: ∃ i:Nat,en=i:=⟨en.toNat,O⟩;exact K2.out W i h hr O)
 generalize Jn.wu (Jn.kB el) ⟨id,en,da,kd,fo,tx,⟨ll,lA,lc⟩⟩=x2 at*;generalize Jn.Ck (Jn.dB y m p) ⟨id,en,da,kd,fo,tx,⟨ll,lA,lc⟩⟩=x3 at*;have zN:Hid (x1=0-> ∀ W,Rd W W.heap.size 3 lA ll.length (cellsOf bq.cells ll)->aF ak 222 #[az aB,az #[G F id,G F en,G F da,G F kd,G F fo,av tx,T lA ll.length lc]] W (xM (Jn.Eu ⟨id,en,da,kd,fo,tx,⟨ll,lA,lc⟩⟩) W)):=I (λh0 W hr=>by
  obtain⟨-,hh⟩:=dx.out h0;refine K4.out W hr (λl hl=> ?_);have:=hh l hl;unfold Jn.jc at this;simp only[bR]at this;exact R6 this.1.2)
 generalize Jn.Eu ⟨id,en,da,kd,fo,tx,⟨ll,lA,lc⟩⟩=x4 at*;clear K2 K4 dx;have hb:Below w.heap.size w ((w.alloc (U aB 29)).alloc (U #[G F id,G F en,G F da,G F kd,G F fo,av tx,T lA ll.length lc] 107)):=((aD _ _).alloc (aC _) _).alloc aL _;have HB:=I ((au.new w 29 aB).alloc (U #[G F id,G F en,G F da,G F kd,G F fo,av tx,T lA ll.length lc] 107));have HP:=I (eT w (U aB 29) 107 #[G F id,G F en,G F da,G F kd,G F fo,av tx,T lA ll.length lc]);go_enter Tryz.func147,Tryz.ntmps147;go_upto_region 1 with fail
 generalize (w.alloc (U aB 29)).alloc (U #[G F id,G F en,G F da,G F kd,G F fo,av tx,T lA ll.length lc] 107)=W at*;go_wp2_with fail;go_loopw [9] (λt wr=> ∃ k:Nat,k<=4/\JL k x1 x2 x3 x4/\t= G F k/\au wr w.heap.size 29 aB/\au wr (w.heap.size+1) 107 #[G F id,G F en,G F da,G F kd,G F fo,av tx,T lA ll.length lc]/\Below w.heap.size w wr) (λt _=>4 - (intOf t).toNat)
 case atStart=>exact⟨0,O,⟨λh=>O,λh=>O,λh=>O,λh=>O⟩,rfl,HB.out,HP.out,hb⟩
 case round=>
  clear hb HB HP;obtain⟨k,hk,hno,rfl,hB,hP,hb⟩:=hrel;have HN:=I hno;have dY:=I hB;have gD:=I hP;have hz:=hb.size;clear hno hB hP;have hcase:k=0\/k=1\/k=2\/k=3\/k=4:=O
  rcases hcase with h0|h0|h0|h0|h0
  ·have HK:=I h0;clear h0;have dx:Hid (x1=0->JL (k+1) x1 x2 x3 x4):=I (λh=>by rw[HK.out];exact⟨λ_=>h,λh=>O,λh=>O,λh=>O⟩);have eH:Hid (x1≠0->X=x1):=I (λh=>by rw[HS.out,bE h]);have xg:=I (K1.out wr (H.out.step hb) (Rd.now HR.out hb));have hix:=NW k (.func (.func 219) #[] #[]) (by have:=HK.out;omega) (by rw[HK.out];rfl)
   cases hx:(x1 !=0)
   ·have HE:=I (dx.out (by simpa using hx));have hk4:(k:Int)<4:=by have:=HK.out;omega
    go_wp2_with (first
     |(refine cZ 29 (.tmp 2) rfl (w.heap.size) rfl ai (dY).out bQ hgi ?_)
     |(refine cZ 107 (.tmp 3) rfl (w.heap.size+1) rfl ai gD.out mH xS ?_)
     |(go_at_call 219;refine xg.out.mono ?_;rintro e w5 ⟨rfl,ah⟩;have hb5:=ay hb ah;have gB:=I (dY.out.step ah);have mP:=I (gD.out.step ah);clear ah))
    go_roundw
    case rel=>exact⟨k+1,O,HE.out,by go_num,gB.out,mP.out,hb5⟩
    case measure=>simp[intOf];omega
   ·have HE:=I (eH.out (by simpa using hx));have hk4:(k:Int)<4:=by have:=HK.out;omega
    go_wp2_with (first
     |(refine cZ 29 (.tmp 2) rfl (w.heap.size) rfl ai (dY).out bQ hgi ?_)
     |(refine cZ 107 (.tmp 3) rfl (w.heap.size+1) rfl ai gD.out mH xS ?_)
     |(go_at_call 219;refine xg.out.mono ?_;rintro e w5 ⟨rfl,ah⟩;have hb5:=ay hb ah;clear ah))
    go_ret;exact⟨by rw[HE.out];rfl,hb5⟩
  ·have HK:=I h0;clear h0;have e1:=HN.out.1 (by have:=HK.out;omega);have dx:Hid (x2=0->JL (k+1) x1 x2 x3 x4):=I (λh=>by rw[HK.out];exact⟨λ_=>e1,λ_=>h,λh=>O,λh=>O⟩);have eH:Hid (x2≠0->X=x2):=I (λh=>by rw[HS.out,bB e1,bE h]);have xg:=I (mf.out e1 wr (H.out.step hb) (Rd.now HR.out hb));clear e1;have hix:=NW k (.func (.func 220) #[] #[]) (by have:=HK.out;omega) (by rw[HK.out];rfl)
   cases hx:(x2 !=0)
   ·have HE:=I (dx.out (by simpa using hx));have hk4:(k:Int)<4:=by have:=HK.out;omega
    go_wp2_with (first
     |(refine cZ 29 (.tmp 2) rfl (w.heap.size) rfl ai (dY).out bQ hgi ?_)
     |(refine cZ 107 (.tmp 3) rfl (w.heap.size+1) rfl ai gD.out mH xS ?_)
     |(go_at_call 220;refine xg.out.mono ?_;rintro e w5 ⟨rfl,ah⟩;have hb5:=ay hb ah;have gB:=I (dY.out.step ah);have mP:=I (gD.out.step ah);clear ah))
    go_roundw
    case rel=>exact⟨k+1,O,HE.out,by go_num,gB.out,mP.out,hb5⟩
    case measure=>simp[intOf];omega
   ·have HE:=I (eH.out (by simpa using hx));have hk4:(k:Int)<4:=by have:=HK.out;omega
    go_wp2_with (first
     |(refine cZ 29 (.tmp 2) rfl (w.heap.size) rfl ai (dY).out bQ hgi ?_)
     |(refine cZ 107 (.tmp 3) rfl (w.heap.size+1) rfl ai gD.out mH xS ?_)
     |(go_at_call 220;refine xg.out.mono ?_;rintro e w5 ⟨rfl,ah⟩;have hb5:=ay hb ah;clear ah))
    go_ret;exact⟨by rw[HE.out];rfl,hb5⟩
  ·have HK:=I h0;clear h0;have e1:=HN.out.1 (by have:=HK.out;omega);have e2:=HN.out.2.1 (by have:=HK.out;omega);have dx:Hid (x3=0->JL (k+1) x1 x2 x3 x4):=I (λh=>by rw[HK.out];exact⟨λ_=>e1,λ_=>e2,λ_=>h,λh=>O⟩);have eH:Hid (x3≠0->X=x3):=I (λh=>by rw[HS.out,bB e1,bB e2,bE h]);have xg:=I (K3.out wr);clear e1 e2;have hix:=NW k (.func (.func 221) #[] #[]) (by have:=HK.out;omega) (by rw[HK.out];rfl)
   cases hx:(x3 !=0)
   ·have HE:=I (dx.out (by simpa using hx));have hk4:(k:Int)<4:=by have:=HK.out;omega
    go_wp2_with (first
     |(refine cZ 29 (.tmp 2) rfl (w.heap.size) rfl ai (dY).out bQ hgi ?_)
     |(refine cZ 107 (.tmp 3) rfl (w.heap.size+1) rfl ai gD.out mH xS ?_)
     |(go_at_call 221;refine xg.out.mono ?_;rintro e w5 ⟨rfl,ah⟩;have hb5:=ay hb ah;have gB:=I (dY.out.step ah);have mP:=I (gD.out.step ah);clear ah))
    go_roundw
    case rel=>exact⟨k+1,O,HE.out,by go_num,gB.out,mP.out,hb5⟩
    case measure=>simp[intOf];omega
   ·have HE:=I (eH.out (by simpa using hx));have hk4:(k:Int)<4:=by have:=HK.out;omega
    go_wp2_with (first
     |(refine cZ 29 (.tmp 2) rfl (w.heap.size) rfl ai (dY).out bQ hgi ?_)
     |(refine cZ 107 (.tmp 3) rfl (w.heap.size+1) rfl ai gD.out mH xS ?_)
     |(go_at_call 221;refine xg.out.mono ?_;rintro e w5 ⟨rfl,ah⟩;have hb5:=ay hb ah;clear ah))
    go_ret;exact⟨by rw[HE.out];rfl,hb5⟩
  ·have HK:=I h0;clear h0;have e1:=HN.out.1 (by have:=HK.out;omega);have e2:=HN.out.2.1 (by have:=HK.out;omega);have e3:=HN.out.2.2.1 (by have:=HK.out;omega);have dx:Hid (x4=0->JL (k+1) x1 x2 x3 x4):=I (λh=>by rw[HK.out];exact⟨λ_=>e1,λ_=>e2,λ_=>e3,λ_=>h⟩);have eH:Hid (x4≠0->X=x4):=I (λh=>by rw[HS.out,bB e1,bB e2,bB e3]);have xg:=I (zN.out e1 wr (Rd.now HR.out hb));clear e1 e2 e3;have hix:=NW k (.func (.func 222) #[] #[]) (by have:=HK.out;omega) (by rw[HK.out];rfl)
   cases hx:(x4 !=0)
   ·have HE:=I (dx.out (by simpa using hx));have hk4:(k:Int)<4:=by have:=HK.out;omega
    go_wp2_with (first
     |(refine cZ 29 (.tmp 2) rfl (w.heap.size) rfl ai (dY).out bQ hgi ?_)
     |(refine cZ 107 (.tmp 3) rfl (w.heap.size+1) rfl ai gD.out mH xS ?_)
     |(go_at_call 222;refine xg.out.mono ?_;rintro e w5 ⟨rfl,ah⟩;have hb5:=ay hb ah;have gB:=I (dY.out.step ah);have mP:=I (gD.out.step ah);clear ah))
    go_roundw
    case rel=>exact⟨k+1,O,HE.out,by go_num,gB.out,mP.out,hb5⟩
    case measure=>simp[intOf];omega
   ·have HE:=I (eH.out (by simpa using hx));have hk4:(k:Int)<4:=by have:=HK.out;omega
    go_wp2_with (first
     |(refine cZ 29 (.tmp 2) rfl (w.heap.size) rfl ai (dY).out bQ hgi ?_)
     |(refine cZ 107 (.tmp 3) rfl (w.heap.size+1) rfl ai gD.out mH xS ?_)
     |(go_at_call 222;refine xg.out.mono ?_;rintro e w5 ⟨rfl,ah⟩;have hb5:=ay hb ah;clear ah))
    go_ret;exact⟨by rw[HE.out];rfl,hb5⟩
  ·have HK:=I h0;have e4: ¬ (k:Int)<4:=O;clear h0;have HE:Hid (X=0):=I (by
    obtain⟨e1,e2,e3,e4⟩:=HN.out;have hk:=HK.out;rw[HS.out,bB (e1 O),bB (e2 O),bB (e3 O),e4 O])
   go_wp2_with fail;go_ret;exact⟨by rw[HE.out];rfl,hb⟩
end
end Go.Proofs.YtbedbfdhfokifaaGreat
