/- TopOnce: part 6 of the proof. -/
import Derived.Test.YtoaehdgokeicoaaGreatDoorZ03
set_option maxRecDepth 100000
set_option maxHeartbeats 30000000
set_option linter.all false
namespace Go.Proofs.YtoaehdgokeicoaaGreatDoor
open K9 Z9 Go.Proofs.Tryz
section
variable{w:eI}{n k m i b c d g:Nat}{A:fE}{f:ik}{a:Act}
section
open Go.RowKit Pl
def tK(l:List iV)(many:Nat)(is:fe):List fS:=(List.range many).map λb=>eM (Jt l many is b)
theorem M4(b:List iV)(a:Nat):tK b a []=List.replicate a []:=by unfold tK;apply Ci (by simp);intro c d f;simp[Jt,eM]
theorem yt(b:List iV)(a:Nat)(is:fe):(tK b a is).length=a:=by simp[tK]
theorem yu(c:List iV)(a:Nat)(is:fe){b:Nat}(h:b<a):(tK c a is)[b]? =some (eM (Jt c a is b)):=by unfold tK;rw[vy,Uu h];rfl
theorem JX(b:List iV)(a:Nat)(is:fe)(i:Nat)(j:0<a):tK b a (is++[i])=(tK b a is).set (gZ (b.getD i rz).name%a) (eM (Jt b a is (gZ (b.getD i rz).name%a))++[(i:Int)]):=by
 apply Dv;intro d;by_cases f:d<a
 ·rw[yu _ _ _ f,F'];by_cases c:gZ (b.getD i rz).name%a=d
  ·rw[c,xX (by rw[yt];exact f)];simp only[Jt,Dz,c,Is,nV,List.filter_nil,iJ];rfl
  ·rw[ur c,yu _ _ _ f];have g:Jt b a [i] d=[]:=by simp only[Jt,Dz,kD c];rfl
   rw[g,ox]
 ·rw[tB (by rw[yt];omega),tB (by rw[nZ,yt];omega)]
def pG(l:List iV)(is:fe):fe:=kf 6 (List.replicate (j7 is) 0) (mG l is)
structure Uv(w0 w:eI)(t:Tb):Prop where
 b:∃g,t.BA=some (eJ g 0)/\vD w0 w g t.bc t.bs
 f:w.ownsRow w0 270 1 (.slice t.WA t.ws t.wc) t.ws (kq t.ws)
 x:eF w0 w
def Mk(w:eI)(l:List iV)(r:Ending)(w':eI):Prop:=
 (512<l.length/\r=fH (ij #[fV #[eW,eW,eE 0],eE 2])/\eF w w')\/
 (l.length<=512/\∃t:Tb,r=fH (ij #[fV t.eL.toArray,eE 0])/\Uv w w' t/\t.bs.map Bk.is=tK l (rB (gK l).length) (gK l)/\t.ws=pG l (gK l)/\t.sh=6)
theorem M5(b:eI)(c:kx)(a:Nat)(d:fE)(f g:Nat)(l:c=madeCells #[eW] a)(m:a<=1000):
 (vD b ((b.alloc (eN c 23)).alloc (eN #[fN b a a,.slice d f g,eE 6] 170)).drew b a (List.replicate a Dq)/\
   eQ ((b.alloc (eN c 23)).alloc (eN #[fN b a a,.slice d f g,eE 6] 170)).drew (b.heap.size+1) 170 #[fN b a a,.slice d f g,eE 6])/\
 (vD b ((b.alloc (eN #[fN (b.heap.size+1) a a,.slice d f g,eE 6] 170)).alloc (eN c 23)).drew (b.heap.size+1) a (List.replicate a Dq)/\
   eQ ((b.alloc (eN #[fN (b.heap.size+1) a a,.slice d f g,eE 6] 170)).alloc (eN c 23)).drew b 170 #[fN (b.heap.size+1) a a,.slice d f g,eE 6]):=by
 have i:c.toList=List.replicate a (.slice none 0 0):=by rw[l,wI]
 have k:c.size=a*1:=by rw[<-Sd,i];simp
 refine⟨⟨?_, ?_⟩,⟨?_, ?_⟩⟩
 ·have j:(b.alloc (eN c 23)).ownsRow b 23 1 (fN b a a) a (List.replicate a (eW)):=by rw[<-i];exact AI b c a (fJ _) (by unfold maxLen;omega) k
  exact vD.Ut ((oP.trans (eF.drew _)).own j) ((oP.trans oP).trans (eF.drew _))
 ·have:=(eQ.new (b.alloc (eN c 23)) 170 #[fN b a a,.slice d f g,eE 6]).drew;simpa using this
 ·have j:((b.alloc (eN #[fN (b.heap.size+1) a a,.slice d f g,eE 6] 170)).alloc (eN c 23)).ownsRow b 23 1 (fN (b.heap.size+1) a a) a (List.replicate a (eW)):=by rw[<-i];have:=AI (base:=b.heap.size) (e:=23) (size:=1) (b.alloc (eN #[fN (b.heap.size+1) a a,.slice d f g,eE 6] 170)) c a (by simp) (by unfold maxLen;omega) k;simpa using this
  exact vD.Ut ((eF.drew _).own j) ((oP.trans oP).trans (eF.drew _))
 ·exact((eQ.new _ _ _).alloc _).drew
theorem JY:(prog.info? 23).map (λi=>(i.zero,i.size,i.bytes))=some (some (.slice none 0 0),1,24):=by kernel_rfl
theorem M6{is:fe}(h:w.ownsRow n 3 1 (.slice A m k) m (ints (eM is)))(i:m=is.length){a:Nat}(d:a<is.length):
 ∃b c,A=some (eJ b c)/\w.cell? (eJ b (c+a))=some (eE ((is.getD a 0:Nat):Int)):=by obtain⟨b,c,f,g⟩:=(Rd.fC h) a (by simp[ints,eM];exact d);refine⟨b,c,f, ?_⟩;rw[g,jx,gg d];simp[ints,eM]
theorem M7(A:fE)(c:Nat)(a:List iV)(n:eI)(hA:zD n A a)(hf:∀aT∈a,aT.Fit)(hl:a.length<=140737488351232):
 Calls prog 93 #[.slice A a c] n λaU m=>Mk n a aU m:=by
 obtain⟨i0,aV,aW,aX,aY⟩:=info_parts x7;obtain⟨i1,aZ,a0,a1,a2⟩:=info_parts JY;have HA:=eD hA;have HF:=eD hf;clear hA hf;go_in;by_cases U:a.length<=512
 ·go_wp
  have J:eQ (n.alloc (eN #[eW,eW,eE 0] 170)) n 170 #[eW,eW,eE 0]:=eQ.new _ _ _;have V:=eF.alloc n (eN #[eW,eW,eE 0] 170);generalize n.alloc (eN #[eW,eW,eE 0] 170)=w1 at*;generalize p:n.heap.size=K at*;refine(ya A c a w1 (V.VE HA) HF U).mono ?_;rintro e L ⟨IA,ic,a3,hc,rfl,M⟩;have bs:(gK a).length<=512:=eY (AC a a) U;have a4:=eD (Mw a a);have W:=eD M;have am:=eD (M.x.eH J);have an:=eD (V.trans M.x);clear M J V;go_wp21
  refine(MC _ _ (by omega)).mono ?_;rintro e w3 ⟨rfl,rfl⟩;have a5:=DA (gK a).length;have ao:=eD (Ju a (gK a));go_wp21
  have x:=M3 (j7 (gK a).length) 6 a3 hc (mG a (gK a)) L (Mx a (gK a)) (by rw[ao];unfold maxLen;omega) (Rd.fC W.h) a5.1;rw[ao] at x;refine x.mono ?_;rintro e s ⟨f,g,rfl,ap,aq⟩;go_wp2;have N:eQ (s.alloc (eN #[fN f (j7 (gK a).length) g,eE 6] 168)) s 168 #[fN f (j7 (gK a).length) g,eE 6]:=eQ.new _ _ _;have ar:=(show eF L s from aq).trans (eF.alloc s (eN #[fN f (j7 (gK a).length) g,eE 6] 168));have au:=(eF.alloc s (eN #[fN f (j7 (gK a).length) g,eE 6] 168)).own ap;generalize s.alloc (eN #[fN f (j7 (gK a).length) g,eE 6] 168)=y at*;generalize s.heap.size=fb at*;have d0:=N.ce 0 (fN f (j7 (gK a).length) g);have d1:=N.ce 1 (eE 6);have bt:=N.lt;have X:=eD ar;have a6:=eD au;have bu:=My (gK a).length;have bv:=Qv (gK a).length;have av:Hid (∀m,Calls prog 159 #[eE ((gK a).length:Nat)] m λe Y=>e=fH (eE (rB (gK a).length:Nat))/\m=Y):=eD (λm=>(Jw ((gK a).length:Nat) m (by omega) (by omega)).mono λe Y h=>⟨by rw[h.1,uv],h.2⟩);clear N ar au ap aq x;generalize aw:rB (gK a).length=b at*;generalize Z:j7 (gK a).length=l at*;obtain⟨O,ad⟩:∃O:kx,O=madeCells #[eW] b:=⟨_,rfl⟩;have x:∀z:eI,(Instr.makeSlice 22 (eE (b:Nat)) (eE (b:Nat))).run prog z=.ok (fN z b b) (z.alloc (eN O 23)):=λz=>by have hr:=yf (P:=prog) z 22 23 i1 (eW) underlying22 aZ a0 .i64 .i64 b b (by omega) (by omega) (by rw[a2];omega) (by omega);simp only[uv] at hr;rw[hr,a1,qP,ad];rfl
  have ax:=eD ad;clear ad;have ay:=M5 y O b (some (eJ f 0)) l g ax (by omega);have B:=eD ay;clear ay;have az:=an.trans X;have aA:=eD az;clear az;go_cut [8] (λt8 wx=>∃Q j:Nat,t8=fw Q/\vD y wx j b (List.replicate b Dq)/\eQ wx Q 170 #[fN j b b,fN f l g,eE 6])
  case first=>
   go_region_law (go_simp;go_at_call 159;refine(av _).mono ?_;rintro e Y ⟨rfl,rfl⟩)
   all_goals
    go_wp
    go_meet;first
     |exact⟨_,_,rfl,B.out.1.1,B.out.1.2⟩
     |exact⟨_,_,rfl,B.out.2.1,B.out.2.2⟩
  case rest=>
   obtain⟨Q,j,rfl,C,D⟩:=hcut;have aB:=eD C;have aC:=eD D;have a7:=eD (X.own W.i);have a8:=eD (X.eH am);clear C D d0 d1 x B av ax W am;go_wp
   go_loopw [37] (λi wr=>∃(k:Nat) (o:List Bk),k<=(gK a).length/\i=eE k/\o.length=b/\o.map Bk.is=tK a b ((gK a).take k)/\vD y wr j b o/\eQ wr Q 170 #[fN j b b,fN f l g,eE 6]) (λi _=>(gK a).length- (intOf i).toNat)
   case atStart=>exact⟨0,List.replicate b Dq,eX _,rfl,by simp,by rw[uu,M4];simp[Dq],aB,aC⟩
   case round=>
    clear aB aC;obtain⟨k,o,hk,rfl,aD,aE,C,D⟩:=hrel;have E:=eD aD;have F:=eD aE;have u:=eD C;have t:=eD D;clear aD aE C D;by_cases ae:k<(gK a).length
    ·obtain⟨ib,io,rfl,af⟩:=M6 a7 rfl ae;replace af:=u.x.cell af;have a9:=pR (d:=0) ae;have ag:=a4 _ a9;have a':=eD (xQ (gK a) k ae);have aF:=eD (JX a b ((gK a).take k) ((gK a).getD k 0) (by omega));generalize(gK a).getD k 0=i at*;obtain⟨yb,yo,rfl,bw,hy⟩:=HA.Dt ag;have aG:a.getD i rz=a[i]:=by rw[jx,gg ag];rfl
     have aH:=HF _ (eU ag);rw[aG] at aF;have bb:a[i].name.size<=maxLen:=by have:=aH.name;unfold maxLen;omega
     have bc:=(hy.ext (aA.trans u.x)).1;generalize a[i].name=name at*;clear aH aG hy;have t0:=t.ce 0 (fN j b b);have t1:=t.ce 1 (fN f l g);have t2:=t.ce 2 (eE 6);have aI:Hid (∀m,Calls prog 160 #[fV #[fN j b b,fN f l g,eE 6],eV name] m λe L=>e=fH (eE (gZ name%b:Nat))/\eF m L):=
      eD (λm=>tD _ b b _ _ name m (by omega) (by omega) bb)
     have aJ:gZ name%b<b:=pS _ (by omega);have bd:=eD (Qu a b ((gK a).take k) (gZ name%b));generalize gZ name%b=w at*;go_wp
     refine wp_region_still_tail 6 (by kernel_rfl) (by kernel_rfl) ?_;simp only[xI,uu,MB,vw];repeat still_step
     refine Ia ?_;go_wp
     refine(aI _).mono ?_;rintro e w6 ⟨rfl,ah⟩;have G:=u.ex ((eF.drew _).trans ah);have R:=((eF.drew _).trans ah).eH t;clear t0 t1 t2 af bc aI ah;obtain⟨H,S⟩:∃H,o[w]? =some H:=⟨_,gg (by rw[E];exact aJ)⟩;have ai:H.is=eM (Jt a b ((gK a).take k) w):=by have:=congrArg (λaK:List fS=>aK[w]?) F;simp only[vy,S,yu _ _ _ aJ,qO,fd] at this;exact this
     have be:H.is.length<=512:=by rw[ai,fv];refine eY bd ?_;rw[ig];omega
     have T:=G.row.cellAt w (by rw[E];omega);rw[vy,S] at T;simp only[qO,Bk.cell] at T;have bx:=(G.row.lt j rfl).2;have bz:=R.lt;have u0:=R.ce 0 (fN j b b);have aL:=eD S;have bf:=eD ai;have aM:=eD G;have bg:=eD R;have bA:=G.x.size;clear S ai G R;obtain⟨KA,kc,r⟩:=H;simp only at be T;have aN:w6.ownsRow y 3 1 (.slice KA r kc) r (ints r):=aM.each w _ aL;have I:=eD aN;clear aN;go_wp2;go_region_law (refine ou rfl _ _ 23 rfl y 3 i0 (eE 0) 8 underlying23 aV aW aX aY rfl (.slice KA r kc) r (ints r) rfl (by first|exact oP.own I|exact(oP.trans (eF.drew _)).own I|exact(eF.drew _).own I) _ _ [eE i] 1 rfl rfl (by first|exact eQ.rd (eQ.new _ _ _)|exact eQ.rd (eQ.new _ _ _).drew) (λaK hx=>by rw[fF.1 hx];rfl) (by simp only[maxLen];omega) (by omega) (by simp;omega) ?_;intro v7 w7 o1 o2 o3;obtain⟨A7,c7,rfl⟩:=eR o1;(have hp:=vD.VG (k':=⟨A7,c7,r++[(i:Int)]⟩) (by first|exact eF.alloc _ _|exact oP.trans (eF.drew _)|exact eF.drew _) aM bg aL rfl (by simp only[Bk.cell,fT,ti];exact o1) o2 (by simp only[Bk.cell,fT,ti];exact o3));(simp only[Bk.cell,fT,ti] at hp);(obtain⟨p1,p2,p3,p4⟩:=hp);(have q0:=p3 0 _ rfl);clear p3)
     all_goals
      have bh:=eD p4.out.1;have bi:=eD p4.out.2;have bj:Hid ((o.set w ⟨A7,c7,r++[(i:Int)]⟩).map Bk.is=tK a b ((gK a).take (k+1))):=eD (by rw[a',aF,<-bf,qQ,F])
      clear p1 p2 p4 q0 o1 o2 o3 T u0;generalize w7.setCell _ _=w8 at*;go_wp2;go_roundw
      case rel=>exact⟨k+1,_,by omega,by go_num,by rw[nZ];exact E,bj,bh,bi⟩
      case measure=>simp[intOf];omega
    ·have bk:k=(gK a).length:=by omega
     subst bk;rw[iT] at F;have t0:=t.ce 0 (fN j b b);have t1:=t.ce 1 (fN f l g);have t2:=t.ce 2 (eE 6);have p:=u.x.eH a8;have r0:=p.ce 0 (eW);have r1:=p.ce 1 (eW);have r2:=p.ce 2 (eE 0);have z0:=p.frozen 0;have z1:=p.frozen 1;have z2:=p.frozen 2;have aO:=eD p;have aP:(pG a (gK a)).length=l:=by unfold pG;rw[sV,D8,Z]
     have aQ:=eD aP;have I:Hid (Uv n (((wr.setCell (eJ K 0) (fN j b b)).setCell (eJ K 1) (fN f l g)).setCell (eJ K 2) (eE 6)) ⟨some (eJ j 0),b,o,some (eJ f 0),g,pG a (gK a),6⟩):=eD (by
      have J:=u.up aA;have aj:=aO.out;have ak:n.heap.size<=K:=by omega
      have bl:=J.Gt (i:=0) aj ak (fN j b b);have al:=aj.set 0 (fN j b b);have bm:=bl.Gt (i:=1) al ak (fN f l g);have aR:=al.set 1 (fN f l g);have aS:=bm.Gt (i:=2) aR ak (eE 6);have bn:=fq (u.x.own a6) an.size;have bo:=il (i:=2) (il (i:=1) (il (i:=0) bn aj (by decide) (fN j b b)) al (by decide) (fN f l g)) aR (by decide) (eE 6);refine⟨⟨j,rfl,aS⟩, ?_,aS.x⟩;simp only;rw[aQ];unfold pG;rw[Z];exact bo)
     have bp:Hid (o.map Bk.is=tK a (rB (gK a).length) (gK a)):=eD (by rw[aw];exact F);have bq:Hid ((Tb.eL ⟨some ⟨j,0,none⟩,b,o,some ⟨f,0,none⟩,g,pG a (gK a),6⟩).toArray=#[.slice (some ⟨j,0,none⟩) b b,.slice (some ⟨f,0,none⟩) l g,.int .i64 6]):=eD (by simp only[Tb.eL];rw[E,aQ]);clear aO aP Z aw F E;go_wp2;exact iA (v:=ij #[fV #[fN j b b,fN f l g,eE 6],eE 0]) (by simp[results,results93,go_sem,r0,r1,r2]) rfl (.inr ⟨U,_,by rw[bq],I,bp,rfl,rfl⟩)
 ·have br:512<a.length:=by omega
  go_wp2;exact iA (v:=ij #[fV #[eW,eW,eE 0],eE 2]) (by simp[results,results93,go_sem]) rfl (.inl ⟨br,rfl,eF.alloc _ _⟩)
