/- TopOnce: part 23 of the proof. -/
import Derived.Test.YtoaehdgokeicoaaGreatDoorZ20
set_option maxRecDepth 100000
set_option maxHeartbeats 30000000
set_option linter.all false
namespace Go.Proofs.YtoaehdgokeicoaaGreatDoor
open K9 Z9 Go.Proofs.Tryz
section
variable{v u:eI}{n m j b c d g:Nat}{l:fY}{r t:fe}{f:ik}{a:Act}
section
open Go.RowKit Go.Maps
section
section
variable {w:eI} {G:Nat->fe} {N B p:Nat} {s:LS} {ex:List (eS×fS)} {stk:fS}
def U0(w0 wr:eI)(G:Nat->fe)(N B p:Nat)(s s1:LS)(ex:List (eS×fS))(stk:fS)(ids:fe)(idr:eS×fS)(k:Nat)(v:eS):Prop:=
 ∃A c s',v=.slice A (j0 s (ids.take k)).length c/\sS w0 wr G N B p s1 ((v,j0 s (ids.take k))::idr::ex) stk [] s'/\∀b,v.ownBlock=some b->B<=b
structure Fz(w0 w:eI)(G:Nat->fe)(N B p:Nat)(s:LS)(ex:List (eS×fS))(stk:fS)(ids:fe)(k:Nat)(s3:LS):Prop where
 ok:gG w G N B p s3 ex stk
 gd:s3.gd=qG s.gd (ids.take k)
 inits:s3.inits=s.inits
 last:s3.last=s.last
 tl:s3.tl=s.tl
 maps:s3.maps=s.maps
 im:∀o∈s3.os,∃q∈s.os,o.fQ=q.fQ/\o.im=q.im
 ch:CH B jz [] w0 w
theorem Fz.at_{ids:fe}{k:Nat}{a:LS}(h:Fz v w G N B p s ex stk ids k a)(f:ids.Nodup)(g:k<ids.length){i:Nat}(l:i<s.os.length)(c:s.os[i].id=ids[k]):∃j,∃b:j<a.os.length,a.os[j].id=ids[k]:=by
 have m:ids[k]∉ids.take k:=λn=>by
  obtain⟨j,b,e⟩:=gN n;rw[N4] at e;have r:j<k:=by rw[ig] at b;omega
  have:=fZ f (i:=j) (j:=k) (by omega) g e;omega
 have d:ids[k]∈a.gd.map Ob.id:=by rw[h.gd,qH,jL,fy];refine⟨s.os[i].ob,jb.2 ⟨fy.2 ⟨_,eU l,rfl⟩,jU ?_⟩,c⟩;show s.os[i].id∉_;rw[c];exact m
 rw[LS.gd,jL,fy] at d;obtain⟨t,o,e⟩:=d;obtain⟨j,b,rfl⟩:=gN o;exact⟨j,b,e⟩
theorem Fz.step{k:Nat}{a:LS}(h:Fz v w G N B p s ex stk r k a)(b:k<r.length){i:Nat}(c:i<a.os.length)(d:a.os[i].id=r[k]){rs:List Rg}{rv:eS}(f:gG u G N B p (a.u3 i rs rv a.os[i].id) ex stk)(g:CH B jz [] w u):
 Fz v u G N B p s ex stk r (k+1) (a.u3 i rs rv a.os[i].id):=by
 refine⟨f, ?_,h.inits,h.last,h.tl,h.maps,λm j=> ?_,h.ch.fk g⟩
 ·rw[Lo a (by rw[<-jD];exact h.ok.ids) c,h.gd,d,iz b];simp only[qG,Dk,nK,Q0]
 ·obtain⟨q,l,rfl⟩:=fy.1 j;exact h.im q (Fp l)
def Ly(w:eI)(G:Nat->fe)(N B p lp m next:Nat)(s:LS)(ex:List (eS×fS))(stk:fS)(hs:List Hn)(h n:Nat)(e:Ending)(w':eI):Prop:=
 e=fH (ij #[eW,eW,eE 0])/\∃D',rb w' lp p m next true (mW Hn.nS hs h) D' (n+1)/\gG w' G N B p s ex stk/\CH B rm [m] w w'
theorem Lz(h:gG w G N B p s ex stk){X g next Q:Nat}{M:List Hn}{D:DataW eS}(hd:rb w X p g next true M D Q)(bU:B<=X/\B<=g)(bV:∀n∈s.maps,n≠g)(dc:Q<=100000)(bW:∀u∈s.os,lW u.im (ii G u.fQ) ex)(bX:∀u∈s.os,0<u.gE/\u.gE<=10000){f:Hn}(o:f∈M)(hc:0<f.count){a:Int}(dd:a∈stk)(tp bf:Int):
 Calls prog 66 #[fw X,kX 0 tp 0 (a+1016) bf,eE (f.h:Nat)] w λe x=>(1<f.count/\Ly w G N B p X g next s ex stk M f.h Q e x)\/(f.count=1/\BK w G N B p X g next s ex stk M f.h Q e x):=by
 obtain⟨S,hC⟩:∃S,S=nR 0 tp 0 (a+1016) bf:=⟨_,rfl⟩;have HC:=eD hC;unfold kX;rw[<-hC];clear hC;have HD:=eD hd;have bY:=eD h;have HX:=eD o;have bg:=eD bV;have bh:=eD bW;have bi:=eD bX;have de:=eD hd.le;have dT:=hd.le f o;have c1:=(hd.eH.alloc (eN S.toArray 108)).ce 1 (.map (some g));have bZ:(Instr.lookup 89 (.map (some g)) (eE (f.h:Nat)) true).run prog (w.alloc (eN S.toArray 108))=.ok (ij #[fV #[eE (f.gL:Nat),eE (f.count:Nat)],fz true]) (w.alloc (eN S.toArray 108)):=((hd.ext (eF.alloc _ _)).look o).1;clear h hd o bV bW bX;go_in;go_wp2_with (refine df bZ (by intro dg;rfl) ?_)
 obtain⟨w2,aJ⟩:∃w2,w2=(w.alloc (eN S.toArray 108)).alloc (eN #[eE (f.gL:Nat),eE ((f.count:Nat)- 1)] 148):=⟨_,rfl⟩;have aX:Hid (eF w w2):=eD (by rw[aJ];exact(eF.alloc _ _).trans (eF.alloc _ _));have b0:Hid (eQ w2 w 108 S.toArray):=eD (by rw[aJ];exact(eF.alloc _ _).eH (eQ.new _ _ _));have aY:eQ w2 (w.heap.size+1) 148 #[.int .i64 (f.gL:Nat),.int .i64 ((f.count:Nat)- 1)]:=by rw[aJ];have:=eQ.new (w.alloc (eN S.toArray 108)) 148 #[eE (f.gL:Nat),eE ((f.count:Nat)- 1)];rwa [fM] at this
 rw[<-aJ];clear aJ c1 bZ;have bj:=HD.ext aX;have e1:=bj.eH.ew 1 (.map (some g)) rfl;have e2:=aY.ew 0 (eE (f.gL:Nat)) rfl;have e3:=aY.ew 1 (eE ((f.count:Nat)- 1)) rfl;have b1:=eD aY;have af:=eD bj;clear bj aY;refine mY [0,1,2,3,4,5] [6] ?_;repeat(go_big_quiet_step (fail))
 refine eO ?_;clear e1 e2 e3;have ak:=eD (eF.drew w2);generalize World.drew w2=v0 at*;go_wp2_with (refine wpList_mapUpdate_own _ rfl (.tmp 48) (.tmp 49) (.tmp 50) 89 rfl 3 148 qI underlying89 rV g Q D rfl (ak.lD af.map) (by unfold maxLen;omega) (eE (f.h:Nat)) (fV #[eE (f.gL:Nat),eE ((f.count:Nat)- 1)]) (kI f.h) rfl rfl (kZ _ (by omega)) (.held (fV #[eE (f.gL:Nat),eE ((f.count:Nat)- 1)])) [] rfl ?_)
 intro w5 o5 g5;have aG:=((ak.eH af.eH)).grown g5 (λe=>af.ne (by injection e));have bk:=Pp af.hn HX;have b2:hV f.nS=fV #[eE (f.gL:Nat),eE ((f.count:Nat)- 1)]:=by show Value.agg #[.int .i64 (f.gL:Nat),.int .i64 ((f.count- 1:Nat):Int)]=_;rw[show((f.count- 1:Nat):Int)=(f.count:Nat)- 1 by omega]
 rw[<-b2,<-bk.1] at o5;have b3:rb w5 X p g next true (mW Hn.nS M f.h) (D.put (kI f.h) (.held (z3 (mW Hn.nS M f.h) f.h))) (Q+1):=af.store aG o5 (λj=>by
  rw[nG Hn.nS (λ_=>rfl)];exact⟨.inr,λh=>h.elim (λe=>by subst e;exact fy.2 ⟨f,HX,rfl⟩) id⟩) bk.2 (by rw[nG Hn.nS (λ_=>rfl)];exact af.out.hn) (by simp only[mW,gW];exact af.out.iO) (λt hy=>by
  obtain⟨dh,hz,rfl⟩:=jd.1 hy;have:=de dh hz;split<;>(try simp only[Hn.nS])<;>omega)
 have bl:=eD ((bY.ext (aX.trans ak)).CU bg (ak.lD af.map) (CH.mM g5 (eX _) (by simp)));have bm:Hid (CH B rm [g] w w5):=eD ((CH.fg (aX.trans ak)).trans (CH.mM g5 bU.2 (by simp)) (λi r=>.inl r));have bn:w.heap.size≠g:=λe=>by have:=HD.map.lt;omega
 have b4:=eD ((ak.eH b0).grown g5 (λe=>bn (by injection e)));have aK:=(ak.eH b1).grown g5 (λe=>by have:=HD.map.lt;injection e with e;omega);have c1:=aK.ce 1 (eE ((f.count:Nat)- 1));have aq:=eD b3;clear aG o5 g5 bk b2 b3 aK b0 b1 af aX ak bY;rcases(show f.count=1\/1<f.count by omega) with aZ|aZ
 ·have di:w5.cell? ⟨w.heap.size+1,1,none⟩=some (.int .i64 0):=by rw[c1,aZ];rfl
  have k1:=aq.eH.ce 1 (.map (some g));have bo:=eD aq.map;clear c1;go_wp2_with (at_delete;refine wpList_delete_own _ rfl _ _ 89 3 rfl 148 qI underlying89 rV g (Q+1) _ rfl bo (eE (f.h:Nat)) (kI f.h) rfl (kZ _ (by omega)) ?_)
  intro w6 o6 t6;have g6:=CX t6;have aK:=aq.eH.grown g6 (λe=>aq.ne (by injection e));have ag:=aq.TS aK o6;rw[Ln] at ag;have a0:=eD (bl.CU bg bo (CH.mM g6 (eX _) (by simp)));have b5:=eD (bm.trans (CH.mM g6 bU.2 (by simp)) (λi r=>.inl r));have b6:=eD (b4.grown g6 (λe=>bn (by injection e)));have b7:=eD ag.map;have bp:=(ag.ok.TK ag.hn ag.map).2;rw[gW] at bp;have dj:=ag.iO;have k6:=ag.eH.ce 1 (.map (some g));have ar:=eD ag;clear o6 t6 g6 aK ag bl bm b4 bo k1 di aq;generalize(D.put (kI f.h) (.held (z3 (mW Hn.nS M f.h) f.h))).del (kI f.h)=D6 at*;go_wp2_with (first|(at_range;refine wpList_range_own _ rfl _ 89 rfl 3 148 qI underlying89 rV g _ _ rfl b7 ?_;intro w7 b8 b9 dk))
  go_frame;have b':=eD (show eF w6 w7 from(fi.grown b9).ext (eF.refl _) (λd R=>by cases R));have bq:=eD b8;obtain⟨C,hr⟩:∃C,C=w6.heap.size:=⟨_,rfl⟩;have dU:C<=w6.heap.size/\w6.heap.size<=C:=by omega
  rw[<-hr] at bq ⊢;clear hr b8 b9 dk k6 b7;go_loopw [11] (λv wr=>∃left a1 al c A,v=.slice al A.length c/\wr.ranges prog 3 rV g C (Q+1) D6 left a1/\L6 (oE M f.h) D6 left A/\fo (C+1) wr [(.slice al A.length c,eM A)]/\eF w6 wr/\A.length+a1<=(oE M f.h).length) (λ_ wr=>wr.rangeLeft g C)
  case atStart=>exact⟨_,_,none,0,[],rfl,bq,L6.start ar.ok,.one ⟨rfl,.inl ⟨rfl,rfl⟩⟩,b',by rw[bp];simp⟩
  case round=>
   obtain⟨left,a1,al,c,A,rfl,ca,cb,cc,o,dV⟩:=hrel;have a2:=eD ca;have aL:=eD cb;have HR:=eD cc;have au:=eD o;clear ca cb cc o bq b';go_wp2_with (first|(at_next;refine wpList_next_ranges _ rfl _ rfl 3 qI rV (Value.int .i64) (λv=>v) (λkey kl h=>by obtain⟨f,e,_⟩:=Maps.keyOf_int_inv underlying3 h;exact⟨f,e⟩) (λv t _=>⟨v,rfl⟩) g C (Q+1) D6 left a1 rfl a2 ?_ ?_))
   ·intro _ cd;have ce:=eD (aL.done cd);have dW:s.os.length<=13:=by have:=a0.iO;have:=a0.n12;omega
    have aH:=a0.ext au;have aM:Hid ((s.os.map OV.id).Nodup):=eD (by rw[<-jD];exact aH.ids);have cf:=eD (NV aH.mem (by omega) (λu Y=>by have:=(aH.each u Y).iO;omega) (λu Y t hy=>by obtain⟨q,hq,e⟩:=aH.Gy u Y t hy;obtain⟨i,r,rfl⟩:=gN hq;exact⟨i,r,e⟩) A al A.length c rfl (Rd.gY (by have:=HR.out.own 0 _ rfl;rwa [fv] at this)) (by omega))
    have br:=ar.ext au;have k0:=br.eH.ce 0 (fw p);have av:=eD aH;have bs:=eD br;have cg:=eD (b5.ext au);have ch:=eD (au.eH b6);clear cd aH br a2 aL HR au a0 b5 b6 ar dc hc bn bp dj;generalize wr=wa at*;go_wp
    refine cf.mono ?_;rintro e E ⟨out,ci,v8,rfl,o8,cj⟩;obtain⟨O,J,rfl⟩:=eR o8;have ck:(gw s.os ((List.range s.os.length).filter λi=> !decide (i∈out))).length<=13:=by simp only[gw,gW];exact eY (n8 _ _) (by simp;omega)
    have cl:∀t∈gw s.os ((List.range s.os.length).filter λi=> !decide (i∈out)),∃i,∃r:i<s.os.length,s.os[i].id=t:=λt hy=>by simp only[gw,fy,jb,ll] at hy;obtain⟨i,⟨H,_⟩,rfl⟩:=hy;exact⟨i,H,by rw[jx,gg (by simpa using H)];simp⟩
    have cm:=eD (And.intro ci ce.out);have aN:=eD o8;have aw:=eD cj;have ax:=eD cl;obtain⟨k,bt⟩:∃k,k=gw s.os ((List.range s.os.length).filter λi=> !decide (i∈out)):=⟨_,rfl⟩;have cn:=eD bt;rw[<-bt] at aN ax ck ⊢;clear bt ci cj o8 cl cf ce k0;have cp:=(World.ownsMap_made E prog 3 rV);have dl:= @run_makeMap prog;go_wp2;obtain⟨U,aO⟩:∃U,U=(E.alloc (.map #[] 0)).alloc (eN #[.map (some E)] 190):=⟨_,rfl⟩;have a3:Hid (eQ U (E.heap.size+1) 190 #[.map (some E)]):=eD (by rw[aO];have:=eQ.new (E.alloc (.map #[] 0)) 190 #[.map (some E)];rwa [fM] at this);have a4:Hid (U.ownsMap prog 3 rV E 0 (.map [])):=eD (by rw[aO];exact(eF.alloc _ _).lD cp);have bu:Hid (eF E U):=eD (by rw[aO];exact(eF.alloc _ _).trans (eF.alloc _ _));rw[<-aO];clear aO cp dl;obtain⟨y,cq⟩:∃y,y=E.heap.size:=⟨_,rfl⟩;have dX:y<=E.heap.size/\E.heap.size<=y:=by omega
    rw[<-cq] at a3 a4 ⊢;clear cq;go_loopw [82] (λV wr=>∃d D1,d<=k.length/\V=eE d/\eQ wr (y+1) 190 #[.map (some y)]/\wr.ownsMap prog 3 rV y d D1/\rl D1 (k.take d) (λj=>eE ((oG s.gd j).gE:Nat))/\eF E wr) (λV _=>k.length- (intOf V).toNat)
    case atStart=>exact⟨0,_,eX _,rfl,a3,a4,rl.nil _,bu⟩
    case round=>
     obtain⟨d,D1,R,rfl,hp,hm,ay,o⟩:=hrel;by_cases P:d<k.length
     ·obtain⟨n,bv,a5,z,d0⟩:=ja (o.rd (Rd.gY (by have:=aN;exact this))) P;rw[a5];obtain⟨i,r,ah⟩:=ax _ (eU P);have bw:=av.ext (aw.trans o);have ai:=bw.each _ (eU r);have bx:=eD (λx (dm:eF wr x)=>pv (bw.mem.ext dm) (by omega) r (λj hj e=>by have:=fZ aM (i:=j) (j:=i) (by simp;omega) (by simpa using r) (by simpa using e);omega) ⟨by have:=ai.iO;omega,by have:=ai.ms;omega⟩)
      have a6:(oG s.gd k[d]).gE=s.os[i].gE:=by have H:=oH (l:=s.gd) (by rw[jD];exact aM) (fy.2 ⟨s.os[i],eU r,rfl⟩);rw[<-ah];show(oG s.gd s.os[i].ob.id).gE=_;rw[H];rfl
      rw[ah] at bx;have e0:=((aw.trans o).eH bs.eH).ce 0 (fw p);have HP:=eD hp;have HM:=eD hm;have cr:=eD ay;have cs:=eD o;have a7:=eD a6;clear ay hp hm o bw ai a6 a3 a4 bu ah;generalize dn:s.os[i]=u at*;clear dn;generalize ct:k[d]=am at*;have cu:=eD ct;clear ct;go_wp
      refine(bx _ (eF.refl _)).mono ?_;rintro e a8 ⟨nA,nc,dp,dq,dr,ds,rfl,_,an⟩;have cv:=eD an;have cw:=eQ.new a8 177 KM;clear an bx e0 d0;go_wp2_with (refine eG rfl 177 (.tmp 18) (.tmp 93) rfl a8 rfl (OV.eL (u.re nA nc dp dq dr ds)) rfl cw (j4 _) (by rw[gx];exact iR) (by rw[gx];rfl) ?_)
      intro az cx cy;have aP:=eD (cv.trans ((fi.grown cy).ext (eF.alloc _ _)));have dt:=cx.ce 25 (eE (u.gE:Nat));have k3:=(aP.eH HP).ce 0 (.map (some y));have cz:=ax am (by rw[<-cu];exact eU P);have dY:am<=1000000:=by obtain⟨j,hj,rfl⟩:=cz;have:=(av.each _ (eU hj)).id.2;have:=av.yE;omega
      have aQ:=aP.lD HM;have cA:=eD aQ;clear cw cx cy cv cz aQ;go_wp2_with (refine wpList_mapUpdate_own _ rfl (.tmp 95) (.tmp 96) (.tmp 98) 190 rfl 3 3 qI underlying190 rV y d D1 rfl cA (by unfold maxLen;omega) (eE (am:Nat)) (eE (u.gE:Nat)) (kI am) rfl rfl (kZ _ (by omega)) (.held (eE (u.gE:Nat))) [] rfl ?_)
      intro bz cB bA;have aR:Hid (∃k2 D1,k2<=k.length/\Value.int .i64 ((d:Int)+1)=.int .i64 k2/\eQ bz (y+1) 190 #[.map (some y)]/\bz.ownsMap prog 3 rV y k2 D1/\rl D1 (k.take k2) (λj=>.int .i64 ((oG s.gd j).gE:Nat))/\eF E bz):=eD (by refine⟨d+1,_,by omega,by go_num,(aP.eH HP).grown bA (λe=>by injection e with e;omega),cB, ?_,(fi.grown bA).ext (cs.trans aP)⟩;rw[<-a7];refine cr.put am (λj=> ?_) (λ_ _ _=>rfl);rw[iz P,gu,fF,cu];exact or_comm)
      clear cB bA cA aP HP HM cr cs dt k3;go_wp
      go_roundw
      case rel=>exact aR
      case measure=>simp[intOf];omega
     ·obtain rfl:d=k.length:=by omega
      rw[iT] at ay;have aA:P9 wr (y+1) y k.length D1 k (oi s k):=⟨hp,hm,⟨ay.map,λj hj=>by rw[oi,fW hj];exact ay.at_ j hj,ay.only⟩,λj hj=>fG hj⟩;have cC:∀d,oi s k d<=1000000:=λd=>by
       unfold oi;split
       ·rename_i bB;obtain⟨i,r,rfl⟩:=ax d bB;have H:=oH (l:=s.gd) (by rw[jD];exact aM) (fy.2 ⟨s.os[i],eU r,rfl⟩);have h2:oG s.gd s.os[i].id=s.os[i].ob:=H;rw[h2];have:=(bi _ (eU r)).2;show s.os[i].gE<=1000000;omega
       ·omega
      have cD:=o.own aN;have a9:∀n,(Value.slice O k.length J).ownBlock=some n->n<y/\wa.heap.size<=n:=λn z=>by have:=aN.lt n z;omega
      have cE:=eD (Ll aA cC cD (λt hy=>by obtain⟨j,hj,rfl⟩:=ax t hy;have:=(av.each _ (eU hj)).id.2;have:=av.yE;omega) (by omega) (λe=>by have:=a9 _ e.symm;omega) (λe=>by have:=a9 _ e.symm;omega))
      have bC:=eD a9;have cF:=eD aA;have cG:=eD (aw.trans o);clear ay hp hm o aA cC cD a9 a3 a4 bu aN aw;generalize wr=wb at*;go_wp21
      refine cE.mono ?_;rintro e a8 ⟨rfl,b,bD,cH,aS,aB⟩;have an:=(fi.grown aB).ext cG (λn z=>(bC n z.symm).2);have cI:=cF.grown aB (λe=>by have:=bC _ e.symm;omega) (λe=>by have:=bC _ e.symm;omega);rw[<-bD.length_eq] at aS ck ⊢;have bE:=((av.Vx (F:=ex) bh (λ_ h=>h)).add an (v:=.slice O b.length J) (l:=eM b) (by rw[fv];exact aS)).ok;have cJ:=eD (KI bE.mem b O b.length J rfl (Rd.gY aS) (qd aS) (by omega));have Z:=eD bE;have a':=eD cI;have aC:=eD (And.intro bD cH);have aD:=eD (And.intro (an.eH ch) (And.intro (bs.ext an) (cg.ext an)));have k0:=aD.2.1.eH.ce 0 (fw p);clear bE cI bD cH aS aB an cF cG cE av bs cg ch;go_wp21
      refine cJ.mono ?_;rintro e az ⟨lA,lc,rfl,aQ,cK⟩;have ao:CH B jz [] a8 az:=cK.mono (by decide) (λ_ h=>h);have bF:=Z.CJ aQ (λ_ h=>h) ao rfl (λu Y=>⟨(Z.each u Y).iO,(Z.each u Y).ms⟩) Z.Gy Z.LX Z.J6 Z.rg rfl rfl Z.uI (by show b.length<=20;omega) Z.iQ;have bb:Hid (P9 az (y+1) y k.length D1 k (oi s k)):=eD {a' with eH:=ao.eH a'.eH,map:=ao.map a'.map (by simp)};have bG:=eD (And.intro (ao.eH aD.1) (aD.2.2.trans (M':=[]) (ao.mono (L':=rm) (by decide) (λ_ h=>h)) (by simp)));have aT:Hid (rb az X p g next true (oE M f.h) D6 (Q+1)):=eD {aD.2.1 with eH:=ao.eH aD.2.1.eH,map:=ao.map aD.2.1.map (by simp)};obtain⟨T,aU⟩:∃T,T=s.IP lA lc b:=⟨_,rfl⟩;rw[<-aU] at bF;have ad:Hid (T.os=s.os/\T.gd=s.gd/\T.inits=s.inits/\T.last=s.last/\T.tl=s.tl/\T.maps=s.maps):=eD (by rw[aU];exact⟨rfl,rfl,rfl,rfl,rfl,rfl⟩);have bH:=eD (sS.refl bF);clear aU bF aQ cK ao cJ Z a' aD k0;go_wp2;go_loopw [111,20,21] (λV du dv wr=>∃d:Nat,d<=b.length/\V=eE d/\dv=eE 0/\U0 az wr G N B p s T ex stk b (.slice O b.length J,eM b) d du/\eQ wr w 108 S.toArray) (λV _ _ _=>b.length- (intOf V).toNat)
      case atStart=>exact⟨0,eX _,rfl,rfl,⟨none,0,T,rfl,bH,λn z=>by cases z⟩,bG.1⟩
      case round=>
       obtain⟨d,R,rfl,rfl,a6,bc⟩:=hrel;obtain⟨aE,aF,K,rfl,m,hB⟩:=a6;by_cases P:d<b.length
       ·have dw:K.os.length=s.os.length:=by have:=congrArg List.length m.st;simp only[gW] at this;rw[this,ad.1]
        have bI:K.gd=s.gd:=(congrArg Prod.fst m.gd).trans ad.2.1;obtain⟨W,aI,ah⟩:=ax _ (aC.1.mem_iff.1 (eU P));have r:W<K.os.length:=by omega
        have aj:K.os[W].id=b[d]:=by
         rw[<-ah];have H:(K.gd.map Ob.id)[W]? =(s.gd.map Ob.id)[W]?:=by rw[bI]
         simpa[LS.gd,r,aI,OV.ob] using H
        have cL:TP K.os[W]=z' s b[d]:=by
         have H:=oH (l:=K.gd) (by rw[jD,<-jD];exact m.ok.ids) (fy.2 ⟨K.os[W],eU r,rfl⟩);have h2:oG s.gd b[d]=K.os[W].ob:=by rw[<-bI,<-aj];exact H
         unfold TP z';rw[h2];rfl
        have dx:0<oi s k b[d]:=by have H:=oH (l:=s.gd) (by rw[jD];exact aM) (fy.2 ⟨s.os[W],eU aI,rfl⟩);rw[oi,fW (aC.1.mem_iff.1 (eU P)),<-ah];have h2:oG s.gd s.os[W].id=s.os[W].ob:=H;rw[h2];exact(bi _ (eU aI)).1
        have ae:wr.ownsRow 0 3 1 (.slice O b.length J) b.length (ints (eM b)):=by have:=m.ok.mem.ints.mem (p:=(.slice O b.length J,eM b)) (gT _ (gD _ (gM ..)));rwa [fv] at this
        obtain⟨n,bv,rfl,z,d0⟩:=ja (Rd.gY ae) P;have aA:P9 wr (y+1) y k.length D1 k (oi s k):={bb with eH:=m.ch.eH bb.eH,map:=m.ch.map bb.map (by simp)};have dy:b[d]<=1000000:=by rw[<-aj];have:=(m.ok.each _ (eU r)).id.2;have:=m.ok.yE;omega
        have cM:=aA.look b[d] dy;have dz:=aA.eH.ce 0 (.map (some y));have aV:=λx (o:eF wr x)=>Lg (m.ok.ext o) r dd tp bf;rw[cL,aj] at aV;unfold kX at aV;rw[<-HC] at aV;have a7:=eD aV;have e0:=(m.ch.eH aT.eH).ew 0 (fw p) rfl;have cN:Hid (∀x,(∃bJ:EW wr,x=bJ.w)->(loadVar 108 (eJ w 0)).run prog x=.ok (fV S.toArray) x):=eD (λx ⟨bJ,hu⟩=>by subst hu;exact(bJ.ext.eH bc).load 108 0 S (by rw[vw,iT]) _ underlying108 rfl (by rw[HC];kernel_rfl))
        have cO:decide ((0:Int)<(oi s k b[d]:Nat))=true:=by simp only[jh];omega
        have bd:=eD m;have cP:=eD bc;have bK:=eD hB;have dZ:(z' s b[d]).length<=1:=by unfold z';split<;>simp
        have d':(j0 s (b.take d)).length<=13:=by
         have:∀l:fe,(j0 s l).length<=l.length:=λl=>by
          induction l with
          |nil=>exact fJ _
          |cons t l ih=>
           rw[j0,oz,fT,iw];unfold j0 at ih;have:(z' s t).length<=1:=by unfold z';split<;>simp
           omega
         have:=this (b.take d);simp only[ig] at this;omega
        have cQ:j0 s (b.take (d+1))=j0 s (b.take d)++z' s b[d]:=by rw[iz P,j0,zX];simp[j0]
        have cR:=eD cQ;clear cQ m bc hB aA aV dx cL ah aj aI ae dw bI bH;generalize z' s b[d]=ns at*;generalize b[d]=am at*;generalize oi s k am=wk at*;have dA:0<wk:=by simp only[jh] at cO;omega
        go_wp2_with (refine df cM (by intro dg;rfl) ?_)
        clear d0 cM dz cO dA;refine iW [0,1,2,3,4,5] [] (.e [6] (.q [7,8,9,10,11] .done)) ?_;iterate 4 (go_big_quiet_step (fail))
        refine fR rfl 108 (.tmp 4) rfl _ _ rfl cN (by simp[Act.put];rfl) ?_;repeat(go_big_quiet_step (fail))
        refine eO ?_;clear e0 cN;refine eT ?_;go_wp
        refine(a7 _ (eF.drew wr)).mono ?_;rintro e w3 ⟨v2,dB,rfl,o3,cS,cT⟩;have bL:CH B jz [] wr w3:=(CH.fg (eF.drew wr)).fk cT;have pQ:sS az w3 G N B p T _ stk [] (K.rX dB K.rv):=⟨cS,bd.ch.fk bL,bd.gd,bd.pg,bd.st⟩;obtain⟨oA,oc,rfl⟩:=eR o3;have ap:=eD pQ;have cU:=eD o3;have bM:=eD (bL.eH cP);clear pQ o3 cS cT bL a7 cP;go_wp2;refine iH ?_;refine fj ?_;repeat(go_big_quiet_step (fail))
        refine eO ?_;refine fP ?_;generalize hT:j0 s (b.take d)=aW at*;clear hT;go_wp2_with (at_builtin;go_loud(refine iZ rfl (.tmp 129) (.tmp 130) rfl (B:=0) (L:=_) ap.ok.mem.ints _ (.slice aE aW.length aF) aW (by rw[qq (fJ _),qW];rfl) rfl oA oc ns.length ns rfl rfl (Rd.fC cU) (by omega) (eX _) ?_))
        intro v4 w4 r4 g4 h4;have o4:w4.ownsRow 0 3 1 v4 (aW++ns).length (ints (aW++ns)):=r4.mem (p:=(v4,aW++ns)) (by simp);rw[<-cR] at o4;obtain⟨A4,c4,rfl⟩:=eR o4;have ea:=ap.ok.mem.size;have cV:=ap.grow bK o4 g4 (λn z=>h4.elim (λe=>.inl (e▸z)) (λe=>.inr (by rw[e] at z;injection z with z;omega))) (λu Y=>(bh u (ad.1▸Y)).mono (λ_ hm=>gD _ hm));have cW:∀n,(Value.slice A4 (j0 s (b.take (d+1))).length c4).ownBlock=some n->B<=n:=λn z=>by
         rcases h4 with e|e
         ·exact bK n (e▸z)
         ·rw[e] at z;injection z with z;omega
        have cX:Hid (∀x,eF w4 x->U0 az x G N B p s T ex stk b (.slice (some (eJ n bv)) b.length J,eM b) (d+1) (.slice A4 (j0 s (b.take (d+1))).length c4)):=eD (λx o=>⟨A4,c4,_,rfl,cV.ext o,cW⟩);have cY:Hid (eQ w4 w 108 S.toArray):=eD (bM.grown g4 (λe=>by obtain⟨eb,dC⟩:=lX (ap.ok.mem.ints.mem (gT _ (gM ..))) e.symm;have:=bM.symm.trans dC;simp at this))
        clear r4 g4 h4 o4 cV cW ap cU bM bK cR;go_wp
        have bN:=eF.alloc w4 (eN #[eE 0,eE 0] 64);have aG:=eQ.new w4 64 #[eE 0,eE 0];refine(I4 w4 0 2 0 0 _ (aG.cell 0 rfl) (aG.cell 1 rfl)).mono ?_;rintro e w5 ⟨rfl,rfl⟩;have dD:=eD (cX _ bN);have dE:=eD (bN.eH cY);have dF:SH 0 0=0:=rfl;rw[dF];clear bN aG cX cY;generalize w4.alloc (eN #[eE 0,eE 0] 64)=w5 at*;go_wp2;go_roundw
        case rel=>exact⟨d+1,by omega,by go_num,rfl,dD,dE⟩
        case measure=>simp[intOf];omega
       ·obtain rfl:d=b.length:=by omega
        rw[iT] at m hB;rw[iT];have be:Hid (rb wr X p g next true (oE M f.h) D6 (Q+1)):=eD {aT with eH:=m.ch.eH aT.eH,map:=m.ch.map aT.map (by simp)};have dG:=eD (bG.2.trans (M':=[]) (m.ch.mono (L':=rm) (by decide) (λ_ h=>h)) (by simp));have cZ:Fz wr wr G N B p s ((.slice aE (j0 s b).length aF,j0 s b)::(.slice O b.length J,eM b)::ex) stk b 0 K:=by
         have ai:(K.gd,K.inits)=(s.gd,s.inits):=m.gd.trans (by rw[ad.2.1,ad.2.2.1];rfl);refine⟨m.ok,congrArg Prod.fst ai,congrArg Prod.snd ai,m.pg.1.trans ad.2.2.2.1,by rw[m.pg.2.2.2.1,ad.2.2.2.2.1], ?_,λu Y=> ?_,CH.refl _ _ _ _⟩
         ·rw[<-ad.2.2.2.2.2];simp only[LS.maps,m.pg.2.2.2.1,m.pg.2.2.2.2.2.2.2]
         ·obtain⟨q,hq,e1,e2,e3,_⟩:=uU m.st Y;exact⟨q,ad.1▸hq,e2.symm,e3.symm⟩
        have dH:=eD cZ;have dI:Hid b.Nodup:=eD (by rw[aC.1.nodup_iff,cn];exact(O4 aM (List.nodup_range.filter _) (λf o=>ll.1 (jb.1 o).1)).1)
        clear m hB bc cZ aT bG ad bH bb HC bi bh;generalize wr=wc at*;go_wp
        go_loopw [139] (λV wr=>∃d s3,d<=b.length/\V=eE d/\Fz wc wr G N B p s ((.slice aE (j0 s b).length aF,j0 s b)::(.slice O b.length J,eM b)::ex) stk b d s3) (λV _=>b.length- (intOf V).toNat)
        case atStart=>exact⟨0,K,eX _,rfl,dH⟩
        case round=>
         obtain⟨d,s3,R,rfl,I⟩:=hrel;by_cases P:d<b.length
         ·obtain⟨W,aI,ah⟩:=ax _ (aC.1.mem_iff.1 (eU P));obtain⟨i,r,aj⟩:=I.at_ dI P aI ah;have ae:wr.ownsRow 0 3 1 (.slice O b.length J) b.length (ints (eM b)):=by have:=I.ok.mem.ints.mem (p:=(.slice O b.length J,eM b)) (gT _ (gD _ (gM ..)));rwa [fv] at this
          obtain⟨n,bv,a5,z,d0⟩:=ja (Rd.gY ae) P;have bO:=Po I.ok r;rw[aj] at bO;have c0:=eD bO;have e0:=(I.ch.eH be.eH).ce 0 (fw p);have ap:Hid (∀x rs rv,gG x G N B p (s3.u3 i rs rv b[d]) ((.slice aE (j0 s b).length aF,j0 s b)::(.slice O b.length J,eM b)::ex) stk->CH B jz [] wr x->Fz wc x G N B p s ((.slice aE (j0 s b).length aF,j0 s b)::(.slice O b.length J,eM b)::ex) stk b (d+1) (s3.u3 i rs rv b[d])):=eD (λx rs rv H h2=>by have:=I.step P r aj (rs:=rs) (rv:=rv) (by rw[aj];exact H) h2;rwa [aj] at this)
          clear I ae bO;generalize b[d]=am at*;rw[a5];go_wp
          refine c0.mono ?_;rintro e w5 ⟨rfl,rs,rv,c2,c3⟩;have aR:=eD (ap w5 rs rv c2 c3);clear c2 c3 c0 ap d0 e0;go_wp2;go_roundw
          case rel=>exact⟨d+1,_,by omega,by go_num,by rw[<-a5];exact aR⟩
          case measure=>simp[intOf];omega
         ·obtain rfl:d=b.length:=by omega
          have dJ:Hid (BK w G N B p X g next s ex stk M f.h Q (fH (ij #[.slice aE (j0 s b).length aF,.slice O b.length J,eE 0])) wr):=eD (by
           have ai:=I.gd;rw[iT] at ai;have dK:oi s b=oi s k:=funext λd=>by simp only[oi,aC.1.mem_iff]
           refine⟨aE,aF,O,J,out,b,A,s3,D6,rfl,cm.2,cm.1,cn▸aC.1,by rw[dK];exact aC.2.imp (λh=>Int.not_lt.2 h),ai,I.inits,I.last,by rw[I.tl],I.im,I.ok, ?_,λn z=>bg n (I.maps▸z),dG.trans (M':=[]) (I.ch.mono (L':=rm) (by decide) (λ_ h=>h)) (by simp)⟩;exact {be with eH:=I.ch.eH be.eH,map:=I.ch.map be.map (by simp)})
          clear I;go_wp
          refine(BG X wr).mono ?_;rintro e w6 ⟨rfl,rfl⟩;go_wp2;go_ret3
          exact .inr ⟨aZ,dJ⟩
   ·intro x2 dL kl yd yp E dM dN c5 bP c6 bQ dO bR aU ec;obtain⟨t,dP,rfl,c7⟩:=aL.entry ar.ok ar.hn c5 (c:=dL) (λzd=>by simp only[rV,fd,rH] at bP;rw[c6 zd,bP.1])
    unfold hV at c7;subst c7;have ed:=bQ.lt;have c8:=eD (aL.step ar.hn dP);have aw:=eD ((fi.grown bR).ext au);have c9:CH 0 [] [C] wr E:=fi.mono (fi.grown bR) λd R=>by simp only[fd] at R;exact⟨eX _,.inr (fF.2 R)⟩
    have bS:=eD (HR.ch c9 (by decide) (λd R bB=>by obtain⟨q,hq,dQ⟩:=fu.1 R;have:=(HR.mem hq).lt d dQ;have:=fF.1 bB;omega))
    have dR:=eD a2.left_eq;have c':=eD bQ;have ef:=ar.map.lt;clear dN bP c6 bQ bR aU c9 a2 aL HR au c5;go_wp2_with (at_builtin;go_loud(refine iZ rfl (.tmp 68) (.tmp 71) rfl (B:=C+1) (L:=_) (bS.ext ((eF.alloc _ _).trans (eF.alloc _ _))) 0 _ (eM A) rfl rfl (some ⟨(E.alloc (eN #[eE (t.gL:Nat),eE (t.count:Nat)] 148)).heap.size,0,none⟩) 1 1 [(t.gL:Int)] (by rw[fM];rfl) rfl (vz _ _) (by rw[fv];omega) (by simp only[fM];omega) ?_))
    intro v9 U R9 g9 h9;have o9:U.ownsRow (C+1) 3 1 v9 (A++[t.gL]).length (ints (eM (A++[t.gL]))):=by
     have H:=R9.mem (p:=(v9,eM A++[(t.gL:Int)])) (by simp);have h2:eM A++[(t.gL:Int)]=eM (A++[t.gL]):=by simp[eM]
     rw[h2] at H;rwa [fv] at H
    obtain⟨A9,da,rfl⟩:=eR o9;have ae:∀d,(Value.slice al A.length c).ownBlock=some d->C+1<=d:=λd R=>by have:=((bS.own 0 _ rfl).lt d R).1;omega
    have aB:=hQ (hQ g9);have bT:=c'.kept aB (λe=>by have:=ae g e.symm;omega) (λe=>by have:=ae C e.symm;omega);have aR:Hid (∃left db al c rr,Value.slice A9 (A++[t.gL]).length da=Value.slice al rr.length c/\U.ranges prog 3 rV g C (Q+1) D6 left db/\L6 (oE M f.h) D6 left rr/\fo (C+1) U [(.slice al rr.length c,eM rr)]/\eF w6 U/\rr.length+db<=(oE M f.h).length):=eD
     ⟨_,dM,A9,da,A++[t.gL],rfl,bT,c8.out,.one (by rw[fv];exact o9),(fi.grown aB).ext aw.out (λd R=>by have:=ae d R.symm;omega),by rw[fT,ti];omega⟩
    have dS:Hid (U.rangeLeft g C<wr.rangeLeft g C):=eD (by rw[dR,bT.left_eq];exact dO);clear o9 ae aB bT R9 g9 h9 c' bS aw c8;go_wp
    go_roundw
    case rel=>exact aR
    case measure=>exact dS.out
 ·have eg:decide ((0:Int)<(f.count:Nat)- 1)=true:=by simp only[jh];omega
  generalize((f.count:Nat):Int)- 1=eh at*;go_wp
  go_ret3
  exact .inl ⟨aZ,rfl,_,aq,bl,bm⟩
end
end
