/- Part of the proof of WholeMatching. -/
import Derived.Test.YtbedbfdhfokifaaGreatJBH
namespace Go.Proofs.YtbedbfdhfokifaaGreat
set_option maxRecDepth 100000
set_option maxHeartbeats 16000000
set_option linter.unusedVariables false
set_option linter.unusedSimpArgs false
open Go renaming World->Z,Calls->aF,Addr->aG,Value->aj,Ending->eG
open Go.Ending renaming returned->bM
open Go.IntKind renaming i64->F
open Go.Obj renaming cells->U
open Go.Proofs.Tryz renaming prog->ak
open Go.Value renaming int->G,slice->T,pointer->aN,agg->az
open _root_.Option renaming none->J,some->N
open Go.RowKit
section
open Go.RowKit Go.Shelf Go.Lib Go.Sort
def N7 (x y:gV):Int:=fO x.id y.id
theorem agq (a1 b1:Int) (v1:aj) (a2 b2:Int) (v2:aj) (h1: ∃ A n c,v1= T A n c) (h2: ∃ A n c,v2= T A n c) (w:Z):aF ak 81 #[az #[G F a1,G F b1,v1],az #[G F a2,G F b2,v2]] w λe w'=>e= bM (G F (fO a1 a2))/\w'=(w.alloc (U #[G F a1,G F b1,v1] 122)).alloc (U #[G F a2,G F b2,v2] 122):=by
 obtain⟨A1,n1,c1,rfl⟩:=h1;obtain⟨A2,n2,c2,rfl⟩:=h2;go_enter Tryz.func81,Tryz.ntmps81;go_wp2_with (first|(go_at_call 38;refine(Cj _ _ _).mono ?_;rintro e w3 ⟨rfl,rfl⟩));go_ret;exact⟨rfl,rfl⟩
theorem agm: ∀ args w,(callFunc 81 args).run ak w= .ok (.enter 81 args) w:=enters_of Tryz.func81 ai rfl
theorem agl (blk off size:Nat) (w:Z):CmpLays ak 81 #[] gV.cells 3 N7 blk off size w:=by
 intro m os dk hs x y;refine(agq x.id x.left x.items.val y.id y.left y.items.val ⟨_,_,_,rfl⟩ ⟨_,_,_,rfl⟩ (sortWorldK gV.cells 3 w blk off m dk os)).mono ?_;rintro e w' ⟨rfl,rfl⟩;refine⟨rfl,?_⟩;have:=(((iy.refl (sortWorldK gV.cells 3 w blk off m dk os)).alloc (U #[G F x.id,G F x.left,x.items.val] 122)).alloc (U #[G F y.id,G F y.left,y.items.val] 122));exact this
theorem agp {w:Z} {base:Nat} {v:aj} {l:List gV} (hl:l.length<1000000000) (h:w.ownsRow base 122 3 v l.length (cellsOf gV.cells l)):
 aF ak 80 #[v,.func (.func 81) #[] #[]] w (NK gV.cells 3 base 122 v l w):=
 UT Tryz.an0 gV.len gV.one Tryz.isAgg122 Tryz.sizeOf122 N7 (Py (λx=>x.id) (λ_=>0) N7 (λx y=>by unfold N7 fO;split<;>(try split)<;>omega)) 81 #[] agm (λb o z=>agl b o z w) hl h
theorem Fg {α:Type} {f:α->List aj} {base:Nat} {e:TypeId} {sz:Nat} {w w':Z} {s:Sl α} (h:gp f base e sz w s) (hb:Below w.heap.size w w'):gp f base e sz w' s:=by
 unfold gp at h |-;exact dF h hb
theorem UL {α:Type} {f:α->List aj} {base R8:Nat} {e E:TypeId} {sz sz2:Nat} {w w':Z} {s:Sl α} {v2:aj} {m:Nat} {ys:List aj} (h:gp f base e sz w s) (hr:w.ownsRow R8 E sz2 v2 m ys) (hE:e≠E) (hg:w.grownBy w' v2.ownBlock):gp f base e sz w' s:=by
 unfold gp at h |-;exact AV h hr hE hg
theorem alu {α:Type} {f:α->List aj} {base b2:Nat} {e:TypeId} {sz:Nat} {w:Z} {s:Sl α} (h:gp f base e sz w s) (hb:b2<=base):gp f b2 e sz w s:=by
 unfold gp at h |-;exact oO h hb
def Co (x:gV):Int×List bI:=(x.id,x.items.l)
def Nv (E:List (Int×List bI)) (w:Z) (r:eG) (w':Z):Prop:=
 ∃ (v:aj) (l:List gV),r= .returned v/\(l.map Co).Perm E/\w'.ownsRow w.heap.size 122 3 v l.length (cellsOf gV.cells l)/\(∀ x∈l,gp bI.cells w.heap.size 83 7 w' x.items)/\Below w.heap.size w w'
section
variable (w:Z)
theorem aad {D:bN} {hl:List aM} {hA:Option aG} {hc:Nat} {ms:List dz} {mA:Option aG} {mc:Nat} {bA:Int} {e q:Nat} (B:En D hl hA hc ms mA mc bA e q) {items:List bI} {iA:Option aG} {w0:Z} (dM:yU D hl hA ms mA items iA w0) {fb mb n:Nat} {first last:Int} (bf:xL D items w0 w fb mb n first last):
 aF ak 41 #[aN (N ⟨fb,0,J⟩)] w (Nv (El.all items (kP D hl e last&&kP D hl q last) last D.ro.acquired ms) w):=by
 have HD:=I B.is;have HF:=I bf;have ZX:ms.length<=1000:=dM.mi.few;have KM:=I (λ(W:Z) (hb:Below w.heap.size w W) (m:dz) (hm:m∈ms)=>aiJ W B dM (bf.step hb) m hm);unfold Rz at KM;have F8:=I ((dM.step bf.below).mi.rd);have lK:w.cell? ⟨fb,24,J⟩=N (T mA ms.length mc):=(bf.blk.cell 24).trans ((BX HD.out.size O).trans B.lK);generalize qd:(kP D hl e last&&kP D hl q last)=Cq at*;clear qd;obtain⟨i0,hi0,EU,Uh,Ui⟩:=jh gV.info;have adh:=I (λk hk=>El.aen items Cq last D.ro.acquired ms k hk);have HLEN:=I (λk=>El.R5 items Cq last D.ro.acquired (ms.take k));have HOO:Hid (∀ m,JR items Cq last D.ro.acquired m=if El.hit items Cq last D.ro.acquired m then N ((El.A8 m).map (El.pk items)) else J):=I (λm=>rfl);clear B dM bf;unfold Nv;have Rf:=I (λ(W:Z) (hb:Below w.heap.size w W)=>F8.out.below hb (aC _));go_enter Tryz.func41,Tryz.ntmps41;go_wp2_with fail;go_loopw [3,14] (λv t wr=> ∃ (k:Nat) (l:List gV),k<=ms.length/\t= G F k/\l.map Co=El.all items Cq last D.ro.acquired (ms.take k)/\wr.ownsRow w.heap.size 122 3 v l.length (cellsOf gV.cells l)/\(∀ x∈l,gp bI.cells w.heap.size 83 7 wr x.items)/\Below w.heap.size w wr) (λ_ t _=>ms.length - (intOf t).toNat)
 case atStart=>exact⟨0,[],O,rfl,rfl,jZ _ _ _ _,aL,aD _ _⟩
 case round=>
  obtain⟨k,l,hk,rfl,hlk,ho,hit,hb⟩:=hrel;have yL:=I hlk;have HIT:=I hit;have HO:=I ho;have hz:=hb.size;have hln:l.length<=k:=by
   have h1:=HLEN.out k;rw[<- hlk,pM,jR]at h1;omega
  clear hlk hit ho lK
  by_cases hlt:k<ms.length
  ·obtain⟨b,o,hA,aX,f0,f1,f2,f3⟩:=dz.at_ (Rf.out wr hb) hlt;subst hA;have zS:=I (adh.out k hlt);have hmm:=bP hlt;have WK:=I (HOO.out ms[k]);have Wx:=I (λ(W:Z) (hb:Below w.heap.size w W)=>KM.out W hb ms[k] hmm);clear hmm;generalize ms[k]=m at*;generalize JR items Cq last D.ro.acquired m=di at*;obtain⟨id,⟨ll,lA,lc⟩,⟨rl,rA,rc⟩,st⟩:=m;unfold Sl.val at f1 f2;unfold dz.cells Sl.val at Wx;dsimp only at*;have hst:=(aD wr.heap.size wr).alloc (aC _) (U #[G F id,T lA ll.length lc,T rA rl.length rc,G F st] 58);have nQ:=I (au.new wr 58 #[G F id,T lA ll.length lc,T rA rl.length rc,G F st]);have hb1:=ay hb hst;have gm:=I (dF HO.out hst);have HI1:=I (λx hx=>Fg (HIT.out x hx) hst);clear HO HIT;go_upto_region 5 with fail
   clear f0 f1 f2 f3 hst;generalize wr.alloc (U #[G F id,T lA ll.length lc,T rA rl.length rc,G F st] 58)=W1 at*;have hz1:=hb1.size;go_upto_region 6 with (first
    |(refine gP rfl 58 (.tmp 5) rfl wr.heap.size 0 rfl #[G F id,T lA ll.length lc,T rA rl.length rc,G F st] (jF nQ.out) Tryz.underlying58 4 ai rfl ?_)
    |(go_at_call 79;refine(Wx.out W1 hb1).mono ?_;rintro r w2 ⟨ah,⟨hO,rfl⟩|⟨L,A,c,hO,rfl,hL⟩⟩<;>(try unfold jY)))
   ·have xE:Hid (l.map Co=El.all items Cq last D.ro.acquired (ms.take (k+1))):=I (by
     rw[zS.out,<- yL.out];have h1:=WK.out;rw[hO]at h1
     split at h1
     ·cases h1
     ·rename_i hh;rw[bE hh,FU])
    have gU:=ah.alloc ah.size (U #[G F 0,G F 0,T J 0 0] 122);have hb3:=ay hb1 gU;have jq:=I (dF gm.out gU);have HI3:=I (λx hx=>Fg (HI1.out x hx) gU);clear hO ah gU gm HI1;go_wp2_with fail;go_roundw
    case rel=>exact⟨k+1,l,O,by go_num,xE.out,jq.out,HI3.out,hb3⟩
    case measure=>simp[intOf];omega
   ·have xE:Hid ((l++ [(⟨id,e,⟨L,A,c⟩⟩:gV)]).map Co=El.all items Cq last D.ro.acquired (ms.take (k+1))):=I (by
     rw[zS.out,mJ,yL.out];have h1:=WK.out;rw[hO]at h1
     split at h1
     ·rename_i hh;rw[bB hh];injection h1 with h1
      rw[h1]
      rfl
     ·cases h1)
    have gU:=ah.alloc ah.size (U #[G F id,G F e,T A L.length c] 122);have uF:=I (au.new w2 122 #[G F id,G F e,T A L.length c]);have hb3:=ay hb1 gU;have jq:=I (dF gm.out gU);have HI3:=I (λx hx=>Fg (HI1.out x hx) gU);have BG:=I (alu (Fg hL ((aD w2.heap.size w2).alloc (aC _) (U #[G F id,G F e,T A L.length c] 122))) hz1);clear hO gU gm HI1 hL;have hz3:=hb3.size;generalize hgw:w2.alloc (U #[G F id,G F e,T A L.length c] 122)=w3 at*;clear hgw;have qU:=(aD w3.heap.size w3).alloc (aC _) (U #[G F id,G F e,T A L.length c] 122);have ko:=I (dF jq.out qU);have HI4:=I (λx hx=>Fg (HI3.out x hx) qU);have zQ:=I (Fg BG.out qU);have hb4:=ay hb3 qU;clear jq HI3 BG qU;go_wp2_with (first
     |(refine gP rfl 122 (.tmp 6) rfl w2.heap.size 0 rfl #[G F id,G F e,T A L.length c] (jF uF.out) Bo 3 r9 rfl ?_)
     |(at_builtin;refine yw gV.cells 3 gV.len gV.one rfl (.tmp 25) (.tmp 27) 119 rfl w.heap.size 122 i0 (az #[G F 0,G F 0,T J 0 0]) 40 Tryz.underlying119 hi0 EU Uh Ui rfl aJ _ l rfl ko.out w3.heap.size 1 ⟨id,e,⟨L,A,c⟩⟩ #[G F id,G F e,T A L.length c] rfl (au.new w3 _ _) rfl fQ O bL ?_;intro v9 w9 uf mR;have rM:=I uf;have HI9:=I (λx hx=>UL (HI4.out x hx) ko.out aJ mR);have QT:=I (UL zQ.out ko.out aJ mR);have tV:=iI hb4 hb4.size ko.out mR;clear uf mR ko HI4 zQ))
    have HIM:Hid (∀ x∈l++ [⟨id,e,⟨L,A,c⟩⟩],gp bI.cells w.heap.size 83 7 w9 x.items):=I (λx hx=>by
     rcases il.1 hx with h|h
     ·exact HI9.out x h
     ·rw[iJ.1 h];exact QT.out)
    go_roundw
    case rel=>exact⟨k+1,_,O,by go_num,xE.out,rM.out,HIM.out,tV⟩
    case measure=>simp[intOf];omega
  ·have hke:ms.take k=ms:=kS O;rw[hke]at yL;have NB:=I (agp (w:=wr) O HO.out);clear hke;go_wp2_with (go_at_call 80;refine NB.out.mono ?_;rintro r w5 ⟨rfl,l2,hp,nI,hg5⟩;have mP:=I hp;have mO:=I nI;have M5:=I hg5;clear hp nI hg5);go_ret;exact⟨_,l2,rfl,by rw[<- yL.out];exact mP.out.map Co,mO.out,λx hx=>UL (HIT.out x (mP.out.mem_iff.1 hx)) HO.out aJ M5.out,iI hb hz HO.out M5.out⟩
end
end
end Go.Proofs.YtbedbfdhfokifaaGreat
