/- TopOnce: part 18 of the proof. -/
import Derived.RangeFuncCalls
import Derived.Test.YtoaehdgokeicoaaGreatDoorZ16
set_option maxRecDepth 100000
set_option maxHeartbeats 30000000
set_option linter.all false
namespace Go.Proofs.YtoaehdgokeicoaaGreatDoor
open K9 Z9 Go.Proofs.Tryz
section
open Go.RowKit Go.Maps
section
theorem Ld(b:Nat)(c:Int)(d:fE)(f:Nat)(a:eI):Calls prog 262 #[fw b,eE c,.slice d 0 f,eW] a λe g=>e=fH (eE 0)/\a=g:=by
 go_in;go_wp
 repeat(refine wp_loop_rounds 1 ?_;rw[rounds_succ];go_wp2_with fail)
 go_ret;exact⟨rfl,rfl⟩
section
variable {w:eI} {G:Nat->fe} {N B p:Nat} {s:LS} {ex:List (eS×fS)} {stk:fS}
theorem CT(h:gG w G N B p s ex stk){i:Nat}(j:i<s.os.length):Calls prog 181 #[fw p,eE (s.os[i].id:Nat)] w λe c=>e=fH (eE 0)/\eF w c:=by
 have o:=(h.each _ (eU j)).im;have r:(s.os.map OV.id).Nodup/\s.os.length<=1000:=⟨by rw[<-jD];exact h.ids,by have:=h.iO;have:=h.n12;omega⟩;obtain⟨y,z,af,_,t⟩:=h.mem.at j;have A:=eD (λc (d:eF w c)=>uT (h.mem.ext d) r.2 r.1 j rfl z);obtain⟨b0,ag,u,ah,_,S⟩:=jW h.mem.Kq j;rw[z] at u;simp only[fd,ny,gP] at u;obtain⟨rfl,rfl⟩:=u;have C:Hid (∀c,eF w c->(loadVar 174 (eJ y (i*27+3))).run prog c=.ok (fV s.os[i].im.eL.toArray) c):=eD (λc d=>jo c y _ 174 s.os[i].im.eL _ (λf D=>by
  have ai:f<15:=D;have E:=t (3+f) (s.os[i].im.eL[f]) (by show(OV.eL s.os[i])[3+f]? =_;have e:OV.eL s.os[i]=([eE (s.os[i].id:Nat),eV (fI (jk s.os[i].fQ)),eE (oB s.os[i].fQ)]:fY)++(s.os[i].im.eL++(OV.eL s.os[i]).drop 18):=rfl;rw[e,qq (by simp),qp (by simp;omega)];rw[show 3+f- ([eE (s.os[i].id:Nat),eV (fI (jk s.os[i].fQ)),eE (oB s.os[i].fQ)]:fY).length=f by simp];exact gg D)
  have F:=d.cell E;rw[<-qX] at F;exact F) underlying174 rfl (by rw[vM];exact qB))
 have H:=t 18 (eE s.os[i].base) rfl;have T:=eD (h.mem.eH.ce 0 (fw s.sp));have I:=o.z9;have J:=o.Sk;have U:Hid (∀v∈s.os[i].im.eL,v.oneCell'=true):=eD (λv V=>qu [s.os[i].im] v (by rw[x6];exact V));clear o r t S h;generalize s.os[i].im=b at*;generalize s.os[i].base=K at*;generalize s.os[i].id=id at*;have L:(b.eL.toArray)[9]? =some (.slice b.c9.A 0 b.c9.c):=by show some (Value.slice b.c9.A b.c9.n b.c9.c)=_;rw[I]
 have M:(b.eL.toArray)[10]? =some (.slice b.rh.A 0 b.rh.c):=by show some (Value.slice b.rh.A b.rh.n b.rh.c)=_;rw[J]
 have W:=eD H;clear H I J;go_in;go_wp
 go_cut [5,6] (λX Y O=>∃x,X=fw x/\Y=eE K/\eQ O x 174 b.eL.toArray/\eF w O)
 case first=>as_aux_lemma=>
  refine iW [] [] (.q [0,1,6,7] (.jG (.e [2] (.q [3,4] (.jG (.e [5] (.jG (.e [8] (.q [9,10] (.jG (.e [11] (.e [12] (.e [13] (.q [14] .done)))) (.e [12] (.jG (.e [11] (.e [13] (.q [14] .done))) (.e [13] (.e [11] (.q [14] .done)))))))) (.e [12] (.e [8] (.q [9,10] (.jG (.e [11] (.e [13] (.q [14] .done))) (.e [13] (.e [11] (.q [14] .done))))))))) (.jG (.e [8] (.q [9,10] (.jG (.e [5] (.jG (.e [11] (.e [12] (.e [13] (.q [14] .done)))) (.e [12] (.jG (.e [11] (.e [13] (.q [14] .done))) (.e [13] (.e [11] (.q [14] .done))))))) (.jG (.e [11] (.jG (.e [5] (.e [12] (.e [13] (.q [14] .done)))) (.e [12] (.e [5] (.e [13] (.q [14] .done)))))) (.e [12] (.jG (.e [5] (.jG (.e [11] (.e [13] (.q [14] .done))) (.e [13] (.e [11] (.q [14] .done))))) (.e [11] (.e [5] (.e [13] (.q [14] .done)))))))))) (.e [12] (.jG (.e [5] (.e [8] (.q [9,10] (.jG (.e [11] (.e [13] (.q [14] .done))) (.e [13] (.e [11] (.q [14] .done))))))) (.e [8] (.q [9,10] (.jG (.e [5] (.jG (.e [11] (.e [13] (.q [14] .done))) (.e [13] (.e [11] (.q [14] .done))))) (.e [11] (.e [5] (.e [13] (.q [14] .done))))))))))))) (.e [12] (.e [2] (.q [3,4] (.jG (.e [5] (.e [8] (.q [9,10] (.jG (.e [11] (.e [13] (.q [14] .done))) (.e [13] (.e [11] (.q [14] .done))))))) (.e [8] (.q [9,10] (.jG (.e [5] (.jG (.e [11] (.e [13] (.q [14] .done))) (.e [13] (.e [11] (.q [14] .done))))) (.e [11] (.e [5] (.e [13] (.q [14] .done))))))))))))) ?_;repeat(go_big_quiet_step (fail))
  refine eO ?_;have a:=eD (eF.drew w);generalize World.drew w=v0 at*;have g:=eD True.intro;repeat' first
   |refine fX ?_ ?_
   |(refine fj ?_
     repeat(go_big_quiet_step (fail))
     refine eO ?_)
   |(first|refine eZ (k:=2) ?_|refine eZ (k:=8) ?_
     go_wp
     refine(A _ a).mono ?_;rintro e c ⟨rfl,d⟩;have a:=eD (a.trans d);first|(have g:=eD (d.eH g);clear d)|clear d
     go_wp2;refine⟨⟨⟨_,a⟩,rfl⟩, ?_⟩)
   |(refine eZ (k:=5) ?_
     go_wp2_with (refine eK rfl 174 (.tmp 20) rfl _ rfl (fV b.eL.toArray) (C _ a) ?_)
     refine⟨⟨⟨_,a⟩,rfl⟩, ?_⟩)
   |(refine eZ (k:=11) ?_
     have Z:=a.cell W;go_wp
     clear Z;refine⟨⟨⟨_,a⟩,rfl⟩, ?_⟩)
   |(refine eZ (k:=12) ?_
     go_wp
     rename eI=>l
     have g:=eD (eQ.new l 174 rp);have ad:=eD a.out;have a:=eD (a.trans (eF.alloc l (eN rp 174)));generalize l.alloc (eN rp 174)=v9 at*;have ae:=eD ad.size;generalize l.heap.size=P at*;refine⟨⟨⟨_,a⟩,rfl⟩, ?_⟩)
   |(refine eZ (k:=13) ?_
     go_wp2_with (refine eG rfl 174 (.tmp 5) (.tmp 21) rfl P rfl b.eL rfl g U (by rw[vM];exact qB) (by rfl) ?_)
     intro wz Q gz;have a:=eD ((fi.grown gz).ext a.out (λaj hz=>by have E:=ae.out;simp only[fd] at hz;omega));have g:=eD Q;clear Q gz;refine⟨⟨⟨_,a⟩,rfl⟩, ?_⟩)
   |(refine fP ?_
     go_wp
     go_meet;exact⟨P,rfl,rfl,g,a⟩)
 case rest=>as_aux_lemma=>
  obtain⟨x,rfl,rfl,m,d⟩:=hcut;obtain⟨n,rfl⟩:∃n,n=wc:=⟨wc,rfl⟩;have a:=eD d;have d9:=m.cell 9 L;have d10:=m.cell 10 M;have R:=eD m;clear m d A C;go_wp
  refine wp_loop_rounds 1 ?_;rw[rounds_succ];go_wp
  clear d9 d10;have e9:=oO (R.cell 9 L);have e0:=oO (a.cell T);refine iW [0,1,2,3,4,5,6,7] [] (.e [8] (.q [9] .done)) ?_;repeat(go_big_quiet_step (fail))
  refine eO ?_;clear e9 e0;refine eT ?_;go_wp
  refine(Ld s.sp K b.c9.A b.c9.c _).mono ?_;rintro e c ⟨rfl,rfl⟩;have d10:=((eF.drew n).eH R).cell 10 M;go_wp2;refine iH ?_;refine fj ?_;repeat(go_big_quiet_step (fail))
  refine eO ?_;refine fP ?_;go_wp
  refine wp_loop_rounds 1 ?_;rw[rounds_succ];go_wp
  go_ret;exact⟨rfl,a.trans (eF.drew n)⟩
end
end
section
theorem O4{a:List OV}(m:(a.map OV.id).Nodup){out:fe}(n:out.Nodup)(l:∀x∈out,x<a.length):(gw a out).Nodup/\∀x∈gw a out,∃o∈a,o.id=x:=by
 have c:∀x∈out,∃b:x<a.length,(a.map OV.id).getD x 0=a[x].id:=λx b=>⟨l x b,by rw[jx,gg (by simpa using l x b)];simp⟩;refine⟨jJ.2 λi j d f p e=> ?_,λx b=> ?_⟩
 ·simp only[gw,gW] at d f;simp only[gw,jy] at e;obtain⟨g,k⟩:=c _ (eU d);obtain⟨r,s⟩:=c _ (eU f);rw[k,s] at e;have:=fZ m (i:=out[i]) (j:=out[j]) (by simpa using g) (by simpa using r) (by simpa using e);exact jJ.1 n i j d f p this
 ·obtain⟨t,u,rfl⟩:=fy.1 b;obtain⟨g,k⟩:=c t u;exact⟨_,eU g,k.symm⟩
def O5(w:eI)(G:Nat->fe)(N B p:Nat)(s:LS)(ex F:List (eS×fS))(stk:fS)(k:Nat)(gl:Bool)(e:Ending)(w':eI):Prop:=
 ∃v s' ex' gL news,e=fH (ij #[eE ((gL:Nat):Int),v,eE 0])/\gG w' G N B p s' (ex++ex') stk/\(∀o∈s'.os,lW o.im (ii G o.fQ) (F++ex'))/\CH B jz [] w w'/\pz G N (s.gd,s.last) k=((s'.gd,s'.last),gL,news)/\
  s'.inits=s.inits/\s'.gF=s.gF/\s'.D=s.D/\s'.fn=s.fn/\s'.fl=s.fl/\s'.tl.iQ.map (λx=>(x.1,x.2.1))=s.tl.iQ.map (λx=>(x.1,x.2.1))/\s'.last<=s.last+200/\GS (s'.gd,s'.last) news news.length/\(∃o∈s'.os,o.id=gL)/\(∀b∈s'.maps,w.heap.size<=b)/\LZ s'.tl s'.fb/\(gl=true->s.os=[]->gL∈s'.scope)/\(s.os=[]->∀o∈s'.os,o.base<=4294967296)
section
variable {w:eI} {G:Nat->fe} {N B p:Nat} {s:LS} {ex F:List (eS×fS)} {stk:fS}
theorem oL.ms{q:eS×fS}(h:oL w G N B p s q ex F stk){i:Nat}(d:i<s.os.length)(f:s.os[i].keep=false){g:Nat}(y:s.oA=some (eJ g 0)){k:eI}(z:eF w k){A:fE}{c:Nat}{l:fe}(M:l.length<=20)(C:k.ownsRow w 3 1 (.slice A l c) l (ints (eM l))):
 oL ((k.setCell (eJ g (i*27+24)) (.slice A l c)).setCell (eJ g (i*27+21)) (fz false)) G N B p (s.jg (s.os.set i (s.os[i].ms A c l))) q ex F stk/\CH B lB [] w ((k.setCell (eJ g (i*27+24)) (.slice A l c)).setCell (eJ g (i*27+21)) (fz false))/\
  (s.jg (s.os.set i (s.os[i].ms A c l))).gd=s.gd/\(s.os.set i (s.os[i].ms A c l)).map OV.st=s.os.map OV.st:=by
 have O:fo 0 k ((s.jg (s.os.set i (s.os[i].ms A c l))).rows++(q::ex)):=by
  have P:fo 0 w (((s.mz::s.nD::(s.os.take i).flatMap OV.rows)++[s.os[i].nf])++s.os[i].m6::((s.os.drop (i+1)).flatMap OV.rows++(q::ex))):=by have:=h.ok.mem.ints;rw[nu s d] at this;simpa using this
  have r:=fo.UG P z (p':=(.slice A l.length c,eM l)) (.one (by rw[fv];exact C)) (eX _);rw[pe s d];simpa[OV.ms,OV.nf,OV.m6] using r
 obtain⟨Q,r,_⟩:=IW h.ok.mem d y (CH.fg z) (o':=s.os[i].ms A c l) (j:=24) (by omega) (u:=.slice A l.length c) (by simp[OV.eL,OV.ms]) O (λt f=>by
  rw[pe s d] at f;obtain⟨D,R,E⟩:=fu.1 f;have m:D∈s.rows->B<=t:=λhm=>h.ok.mem.ku t (fu.2 ⟨D,hm,E⟩);rw[nu s d] at m;rcases gu.1 R with hm|hm
  ·exact m (iL _ hm)
  ·rcases fm.1 hm with rfl|hm
   ·exact m (gT _ (gM ..))
   ·rcases fm.1 hm with rfl|hm
    ·exact eY h.ok.mem.size (C.lt t E).1
    ·exact m (gT _ (gD _ (gD _ hm))))
 have S:i<(s.jg (s.os.set i (s.os[i].ms A c l))).os.length:=by simpa using d
 have v:(s.jg (s.os.set i (s.os[i].ms A c l))).os[i]=s.os[i].ms A c l:=by simp
 obtain⟨H,T,_,_⟩:=uN Q S y (j:=21) (by omega) (u:=fz false) (v0:=fz false) (o':=s.os[i].ms A c l) (by rw[v];simp[OV.eL,OV.ms,f]) (by rw[v];simp[OV.eL,OV.ms,f]) (by rw[v]);have U:(s.jg (s.os.set i (s.os[i].ms A c l))).jg ((s.jg (s.os.set i (s.os[i].ms A c l))).os.set i (s.os[i].ms A c l))=s.jg (s.os.set i (s.os[i].ms A c l)):=by simp only[LS.jg,LS.re,IX]
 rw[U] at H;have I:=r.fk (T.mono (by decide) (λ_ h=>h));have J:(s.os.set i (s.os[i].ms A c l)).map OV.st=s.os.map OV.st:=by
  rw[qQ];have:OV.st (s.os[i].ms A c l)=(s.os.map OV.st)[i]'(by simpa using d):=by simp[OV.st,OV.ms]
  rw[this,Bw]
 have x:∀b∈s.os.set i (s.os[i].ms A c l),b∈s.os\/b=s.os[i].ms A c l:=λb a=>qR a;have V:=h.ok.each _ (eU d);refine⟨⟨h.ok.CJ H (λ_ hm=>hm) (I.fC lB.sub) J (λb a=> ?_) (λb a n o=> ?_) h.ok.LX (λn o=> ?_) h.ok.rg rfl rfl h.ok.uI h.ok.Nf h.ok.iQ,h.low,λb a=> ?_,h.sub⟩,I, ?_,J⟩
 ·rcases x b a with a|rfl
  ·exact⟨(h.ok.each b a).iO,(h.ok.each b a).ms⟩
  ·exact⟨V.iO,M⟩
 ·rcases x b a with a|rfl
  ·exact h.ok.Gy b a n o
  ·exact h.ok.Gy _ (eU d) n o
 ·obtain⟨b,a,K,L⟩:=h.ok.J6 n o;obtain⟨j,W,rfl⟩:=gN a;refine⟨(s.os.set i (s.os[i].ms A c l))[j]'(by simpa using W),eU _, ?_⟩;rw[tk];split
  ·rename_i e;subst e;exact⟨K,L⟩
  ·exact⟨K,L⟩
 ·rcases x b a with a|rfl
  ·exact h.im b a
  ·exact(h.im s.os[i] (eU d):)
 ·simp only[LS.gd,LS.jg,LS.re,qQ];have:OV.ob (s.os[i].ms A c l)=(s.os.map OV.ob)[i]'(by simpa using d):=by simp[OV.ob,OV.ms]
  rw[this,Bw]
structure Wa(w0 w:eI)(G:Nat->fe)(N B p:Nat)(s2:LS)(q:eS×fS)(ex F:List (eS×fS))(stk:fS)(s:LS):Prop where
 x:oL w G N B p s q ex F stk
 ch:CH B jz [] w0 w
 gd:s.gd=s2.gd
 st:s.os.map OV.st=s2.os.map OV.st
 rest:pf s2 s
 last:s.last=s2.last
structure Wb(w0 w:eI)(G:Nat->fe)(N B p:Nat)(s2:LS)(q:eS×fS)(ex F:List (eS×fS))(stk:fS)(gl:Bool)(gL:Nat)(s:LS):Prop where
 x:oL w G N B p s q ex F stk
 ch:CH B jz [] w0 w
 gd:s.gd=s2.gd
 pg:s.inits=s2.inits/\s.gF=s2.gF/\s.tl=s2.tl/\s.D=s2.D/\s.fn=s2.fn/\s.fl=s2.fl/\s.last=s2.last/\s.fb=s2.fb
 Wm:gl=true->(∀o∈s2.os,o.lh=false)->gL∈s.scope
 OQ:(∀o∈s2.os,o.base<=4294967296)->∀o∈s.os,o.base<=4294967296
theorem it.TN(h:it w B p s ex){i:Nat}(b:i<s.os.length){g:Nat}(c:s.oA=some (eJ g 0)){j:Nat}(d:j<27){v:eS}(f:(OV.eL s.os[i])[j]? =some v):w.cell? (eJ g (i*27+j))=some v/\w.frozen? (eJ g (i*27+j))=false:=by have a:=h.row;rw[c] at a;exact⟨by rw[a.cellAt (i*27+j) (by omega),iI gx s.os i j b d];exact f,a.frozenAt _⟩
attribute [local go_sem] Oper.semAt_some
theorem Fe(h:gG w G N B p s ex stk)(a5:∀b∈s.os,lW b.im (ii G b.fQ) F)(hF:∀ai∈F,ai∈ex)(bP:G 0=[]){k0:Nat}(bQ:k0<=N)(bR:s.last<9700){nm:jw}(ha:vW k0 nm)(or:jw)(gl:Bool):
 Calls prog 106 #[fw p,eV nm,eV or,fz gl] w (O5 w G N B p s ex F stk k0 gl):=by
 have cf:=h.n12;have bS:=h.iO;have aE:=h.u1;have a6:=eD h;have HI:=eD a5;have HA:=eD ha;have aF:=eD h.mem.eH;have aG:=eD (And.intro h.mem.low h.mem.size);clear h a5 ha;refine callsIn_wide.1 (callsIn_of_wp_marks (n:=9) func106 rfl trivial ?_ rfl);refine wpIn_wide.2 ?_;simp only[ntmps106,DG,iw,jH,Nat.reduceAdd,Nat.reduceSub,US,UT,List.push_toArray,UU,j6,nO];go_wp
 have aH:eF w (((w.alloc (eN #[eE 0] 3)).alloc (eN #[eW] 23)).alloc (eN #[eE 0] 64)):=((eF.alloc _ _).trans (eF.alloc _ _)).trans (eF.alloc _ _);have r8:=((eQ.new w 3 #[eE 0]).alloc (eN #[eW] 23)).alloc (eN #[eE 0] 64);have r9:=(eQ.new (w.alloc (eN #[eE 0] 3)) 23 #[eW]).alloc (eN #[eE 0] 64);have aI:=eQ.new ((w.alloc (eN #[eE 0] 3)).alloc (eN #[eW] 23)) 64 #[eE 0];rw[fM] at r9;rw[fM,fM] at aI;generalize((w.alloc (eN #[eE 0] 3)).alloc (eN #[eW] 23)).alloc (eN #[eE 0] 64)=w0 at*;have HR:=eD (And.intro r8 (And.intro r9 aI));have Y:=eD aH;obtain⟨aj,au⟩:∃e,e=ex++[(Value.slice (some ⟨w.heap.size,0,none⟩) 1 1,[(0:Int)])]:=⟨_,rfl⟩;have ad:gG w0 G N B p s aj stk:=by rw[au];exact a6.cell aH r8
 have a7:=eD (KT ad.mem (ad.rg.UK (by omega)).2 (λai hr=>(ad.rg.wf.ok ai hr).2.2.1) ad.iQ (by omega) ⟨by omega,by have:=ad.Nf;omega⟩ (λb a=>⟨by have:=(ad.each b a).iO;omega,by have:=(ad.each b a).ms;omega⟩));have a8:=eD (λw1 (B1:Nat) p1 s1 hm hc J=>ad.copy (w1:=w1) (B1:=B1) (p1:=p1) (s1:=s1) hm hc J);have bT:Hid (∀ai∈F,ai∈aj):=eD (λai hr=>by rw[au];exact iL _ (hF ai hr));have a9:=eD (λw1 (B1:Nat) p1 s1 (ok:gG w1 G N B1 p1 s1 aj stk) (hc:y' s s1)=>Lb ok (λb a=>by obtain⟨q,E,e⟩:=Fa hc.os a;obtain⟨_,e2,e3,_⟩:=pL e;rw[<-e2,<-e3];exact HI q E) bT.out bP bQ (by rw[hc.last];exact bR) HA.out or)
 clear ad bS aE;have a':=eD au;clear aH r8 r9 aI au a6 HA HI;refine a7.mono ?_;rintro e w1 ⟨Q,s1,rfl,bb,aJ,aK⟩;have bc:=eD aK;have bd:=eD (a8 w1 _ Q s1 bb aJ aK);have R:=eD aJ;clear bb aJ aK a7 a8;go_wp21
 have aL:=eF.alloc w1 (eN #[fw Q] 88);have be:=eD (eQ.new w1 88 #[fw Q]);have bf:=eD aL;generalize w1.alloc (eN #[fw Q] 88)=w2 at*;generalize w1.heap.size=ct at*;refine(a9 w2 _ Q s1 (bd.ext aL) R).mono ?_;rintro e w3 ⟨vn,O,d,ex2,P,rfl,ah,aM,bg,bh,bi,bj,bU⟩;obtain⟨_,K,H,rfl⟩:=ah.row;have aN:=eD (aM.eH be);have bk:=eD (aM.lP (bc.trans bf) (fJ _));have ao:=eD ah;obtain⟨q,E,av⟩:=bU;obtain⟨ri,aO,rfl⟩:=gN E;have bl:=ah.ids;have aP:=eD (EK ah.ok.mem (by omega) (λb a=>by have:=(ah.ok.each b a).iO;omega) (λb a x J=>by
  obtain⟨q,E,e⟩:=ah.ok.Gy b a x J;obtain⟨j,hj,rfl⟩:=gN E;exact⟨j,hj,e⟩) aO (λj hj e=>by
  have:=fZ bl.1 (i:=j) (j:=ri) (by simp;omega) (by simpa using aO) (by simpa using e);omega))
 rw[av] at aP;have bm:Hid (pz G N (s.gd,s.last) k0=((O.gd,O.last),P,d)):=eD (by rw[<-R.gd,<-R.last];exact bg);have V:=eD bh;have bV:O.last<=s.last+200:=by rw[<-R.last];exact bi
 have ak:=eD bj;have bn:Hid (∃b∈O.os,b.id=P):=eD ⟨_,E,av⟩;have c3:=aN.ce 0 (fw Q);have bo:=eD av;clear aM bg bh bi bj ah E av bl a9 bd be aL bf bc;go_wp21
 refine aP.mono ?_;rintro e w4 ⟨out,bp,aQ,aR,vg,rfl,og,aw⟩;have bW:(gw O.os out).length<=20:=by have:=iM (m:=O.os.length) out aQ aR;have:=ao.ids.2;simp[gw];omega
 have bq:=O4 ao.ids.1 aQ aR;obtain⟨W,Z,rfl⟩:=eR og;have br:=eD (ao.add aw (v:=.slice W (gw O.os out).length Z) (l:=eM (gw O.os out)) (by rw[fv];exact og));have cg:d.length<=13:=by
  have S:=CS (l:=O.gd) d ak.SJ (λy hy=>by obtain⟨_,b,a,e,_⟩:=ak.le y hy;exact⟨b,a,e⟩);have h2:=ao.ids.2;have h3:O.gd.length=O.os.length:=by simp[LS.gd]
  omega
 have aS:=eD (aw.eH aN);have ax:=eD (bk.trans aw);have al:=eD bq;have bX:Hid (P∈gw O.os out):=eD (fy.2 ⟨ri,bp.src ri (by simp),by rw[jx,gg (by simpa using aO),pP,jy];exact bo⟩);have bs:=eD (IU og).2;clear bo;clear og aw bp aQ aR aP aN bk c3 bq ao;generalize bY:gw O.os out=t at*;clear bY;go_wp2;go_loopw [40] (λi wr=>∃(k:Nat) (r:LS),k<=d.length/\i=eE k/\Wa w4 wr G N w0 Q O (.slice K d.length H,eM d) ((.slice W t.length Z,eM t)::(aj++ex2)) (F++ex2) stk r) (λi _=>d.length- (intOf i).toNat)
 case atStart=>exact⟨0,O,eX _,rfl,br,CH.refl _ _ _ _,rfl,rfl,pf.refl _,rfl⟩
 case round=>as_aux_lemma=>
  obtain⟨k,r,hk,rfl,f⟩:=hrel;clear br;by_cases bt:k<d.length
  ·obtain⟨aT,bZ,rfl,hb,d0⟩:=ja (Rd.gY f.x.row.1) bt;obtain⟨_,b,a,e1,e2⟩:=ak.le _ (eU bt);rw[<-f.gd] at a;obtain⟨i,D,rfl⟩:=uZ a;have ap:=f.x.ids;obtain⟨g,hg,_,_,_⟩:=f.x.ok.mem.at D;have bu:r.os[i].id=d[k]:=e1;have bv:r.os[i].keep=false:=e2;have bw:=eD (λw' (J:eF wr w')=>uT (f.x.ok.mem.ext J) (by omega) ap.1 D bu hg);have b0:r.os[i].im.c1=0\/r.os[i].im.c1=1:=by have S:=(f.x.ok.each _ (eU D)).im;rw[S.gB];exact S.ok.gB
   have bx:=eD (λw' (J:eF wr w')=>And.intro ((f.x.ok.mem.ext J).TN D hg (j:=4) (v:=eE r.os[i].im.c1) (by omega) rfl) (And.intro ((f.x.ok.mem.ext J).TN D hg (j:=24) (v:=.slice r.os[i].gA r.os[i].group.length r.os[i].gc) (by omega) rfl) ((f.x.ok.mem.ext J).TN D hg (j:=21) (v:=fz r.os[i].keep) (by omega) rfl)));have b1:Hid (∀v5 A c,eF wr v5->v5.ownsRow wr 3 1 (.slice A t.length c) t.length (ints (eM t))->Wa w4 ((v5.setCell (eJ g (i*27+24)) (.slice A t.length c)).setCell (eJ g (i*27+21)) (fz false)) G N w0 Q O (.slice (some (eJ aT bZ)) d.length H,eM d) ((.slice W t.length Z,eM t)::(aj++ex2)) (F++ex2) stk (r.jg (r.os.set i (r.os[i].ms A c t)))):=eD (λv5 A c J a=>by obtain⟨b2,b3,b4,b5⟩:=f.x.ms D bv hg J bW a;exact⟨b2,f.ch.fk (b3.fC lB.sub),b4.trans f.gd,b5.trans f.st,⟨f.rest.scope,f.rest.inits,f.rest.gF,f.rest.tl,f.rest.fn,f.rest.fl,f.rest.D,f.rest.fb,λT b a=>(qR a).elim (f.rest.lh T b) λh=>by rw[h];exact(show r.os[i].lh=false from f.rest.lh T _ (eU D)),λT b a=>(qR a).elim (f.rest.OQ T b) λh=>by rw[h];exact(show r.os[i].base<=4294967296 from f.rest.OQ T _ (eU D))⟩,f.last⟩)
   have ae:=f.ch.eH aS;have am:=eD ae;have b6:Hid (Rd wr W (ints (eM t))):=eD (Rd.gY (by have:=f.x.ok.mem.ints.mem (p:=(.slice W t.length Z,eM t)) (gT _ (gD _ (gM ..)));rwa [fv] at this))
   have ay:=ae.ce 0 (fw Q);clear f a e1 e2 bu bv ap ae;generalize r.os[i].im.c1=fl at*;generalize r.os[i].group.length=ch at*;generalize r.os[i].gA=ci at*;generalize r.os[i].gc=cj at*;generalize r.os[i].keep=ck at*;generalize d[k]=id at*;go_wp21
   refine(bw _ (eF.refl _)).mono ?_;rintro e w5 ⟨rfl,bz⟩;clear bw ay d0;go_wp2;refine jA [] [] (.q [0,1,2,4,5,6,7] (.jG (.e [3] (.e [8] (.q [9,10,11,12] (.e [13] (.q [14,15] (.e [16] .done)))))) (.e [8] (.q [9,10] (.e [3] (.q [11,12] (.e [13] (.q [14,15] (.e [16] .done))))))))) (λ_=>True) (by kernel_rfl) (by kernel_rfl) rfl trivial ?_;refine eO ?_;have HX:=eD (bz.trans (eF.drew w5));generalize World.drew w5=v0 at*;clear bz;have HO:=eD True.intro;have cm:(bits BinOp.and IntKind.i64 0 6 != 0)=false:=by kernel_rfl
   have cn:(bits BinOp.and IntKind.i64 1 6 != 0)=false:=by kernel_rfl
   rcases b0 with rfl|rfl;all_goals
    repeat' first
     |refine fX ?_ ?_
     |(refine fj ?_
       repeat(go_big_quiet_step (fail))
       refine eO ?_)
     |(refine eZ (k:=8) ?_
       have k4:=(bx _ HX).1.1;go_wp
       clear k4;refine⟨trivial, ?_⟩)
     |(refine eZ (k:=3) ?_
       go_wp
       refine(lE W t.length Z (ints (eM t)) _ bs (by simp[ints,eM]) (HX.rd b6) (jP _) (by omega)).mono ?_;rintro e v4 ⟨v',rfl,o4,x4⟩;have HO:=eD (fq o4 HX.size);obtain⟨A',c',rfl⟩:=eR HO;have HX:=eD (HX.trans x4);clear o4 x4;go_wp2;refine⟨trivial, ?_⟩)
    all_goals
     have HS:=eD (b1 _ A' c' HX HO);obtain⟨_,⟨cp,f24⟩,cq,f21⟩:=bx _ HX;refine eZ (k:=13) ?_;go_wp
     refine⟨trivial, ?_⟩;refine fj ?_;repeat(go_big_quiet_step (fail))
     refine eO ?_;refine eZ (k:=16) ?_;go_wp
     refine⟨trivial, ?_⟩;refine fP ?_;go_wp
     go_roundw
     case rel=>exact⟨k+1,_,by omega,by go_num,HS⟩
     case measure=>simp[intOf];omega
  ·obtain rfl:k=d.length:=by omega
   have aE:=f.x.ok.u1;have ap:=f.x.ids;have aU:=eD (EN f.x.ok.mem (by omega) ap.1 (by omega) t W Z (gD _ (gM ..)) al.1 (λx J=>by
    obtain⟨b,a,e⟩:=al.2 x J;rw[<-e];have:OV.st b∈r.os.map OV.st:=by rw[f.st];exact fy.2 ⟨b,a,rfl⟩
    obtain⟨o',aV,e'⟩:=fy.1 this;obtain⟨i,D,rfl⟩:=gN aV;exact⟨i,D,congrArg (λaW=>aW.1) e'⟩) (by omega))
   have o:=eD f;have ae:=f.ch.eH aS;have ay:=ae.ce 0 (fw Q);clear f aE ap ae hk;cases gl;all_goals
    first
     |(go_wp2_with fail
       refine aU.out.mono ?_;rintro e w5 ⟨sA,sc,rfl,bA,aX⟩;have I:Hid (∃U,Wb w4 w5 G N w0 Q O (.slice K d.length H,eM d) ((.slice W t.length Z,eM t)::(aj++ex2)) (F++ex2) stk true P U):=eD ⟨_,o.x.yY bA aX al.1 (λx J=>by
        obtain⟨b,a,e⟩:=al.2 x J;have:OV.st b∈r.os.map OV.st:=by rw[o.st];exact fy.2 ⟨b,a,rfl⟩
        obtain⟨o',aV,e'⟩:=fy.1 this;exact⟨o',aV,(congrArg (λaW=>aW.1) e').trans e⟩),o.out.ch.fk (aX.fC lB.sub),(RA r.os t).trans o.out.gd,⟨o.out.rest.inits,o.out.rest.gF,o.out.rest.tl,o.out.rest.D,o.out.rest.fn,o.out.rest.fl,o.out.last,o.out.rest.fb⟩,λ_ T=>gT _ (jb.2 ⟨bX.out,by
        have:=o.rest.lh T;simp only[Mj,List.any_eq_false,pC,not_and,Bool.not_eq_true];exact λb a _=>this b a⟩),λT b a=>by
        obtain⟨q,E,rfl⟩:=fy.1 (show b∈r.os.map _ from a);have:=o.rest.OQ T q E;split<;>exact this⟩
       clear o aU al bA aX ay;go_wp21)
     |(have I:Hid (∃U,Wb w4 wr G N w0.heap.size Q O (.slice K d.length H,eM d) ((.slice W t.length Z,eM t)::(aj++ex2)) (F++ex2) stk false P U):=eD ⟨r,o.out.x,o.out.ch,o.out.gd,⟨o.out.rest.inits,o.out.rest.gF,o.out.rest.tl,o.out.rest.D,o.out.rest.fn,o.out.rest.fl,o.out.last,o.out.rest.fb⟩,λh=>(by cases h),o.out.rest.OQ⟩
       clear o aU al ay;go_wp
       generalize wr=w5 at*)
   all_goals
    obtain⟨U,an⟩:=I.out;have I:=eD an;have ae:=an.ch.eH aS;have am:=eD ae;refine(OW K d.length H w5).mono ?_;rintro e w6 ⟨rfl,aY⟩;have aZ:eF w5 w6:=by rw[aY];exact eF.alloc _ _
    have a0:w6.cell? ⟨w5.heap.size,0,none⟩=some (.slice K d.length H):=by rw[aY];exact(eQ.new w5 23 #[.slice K d.length H]).cell 0 rfl
    have az:=eD aZ;have a1:=eD (aZ.rd (Rd.gY an.x.row.1));have a2:Hid (∀k (hk:k<d.length) af,eF w6 af->Calls prog 181 #[fw Q,eE (d[k]:Nat)] af λe w'=>e=fH (eE 0)/\eF af w'):=eD (λk hk af J=>by obtain⟨_,b,a,e1,_⟩:=ak.le _ (eU hk);rw[<-an.gd] at a;obtain⟨i,D,rfl⟩:=uZ a;have:=CT (an.x.ok.ext (aZ.trans J)) D;rwa [show U.os[i].id=d[k] from e1] at this)
    clear an ae aY;go_wp2;refine(wpIn_wide (n:=9)).1 ?_;refine RB (λl af=>by simp[resolve,go_sem,rangeCall]) (by omega) a0 a1 (λk hk l m af=> ?_) (λW' bB hK=> ?_)
    ·have b7:=eD (a2 k hk);have b9:=eD (λaf (J:eF w6 af)=>((am.below (az.trans J).below am.lt).ce 0 (fw Q):af.cell? (eJ ct 0)=_));clear a0 a1 I a2 am;generalize d[k]=x at*;clear aF HR bm V ak bn Y R ax bs;simp only[Sq,List.set_cons_succ,AJ];gi_wp2_with fail
     intro W2 bC;have c2:=b9 W2 bC;gi_wp2_with fail
     refine⟨trivial,λh=>(by cases h),(CallsIn.inRound l (callsIn_wide.2 (b7 W2 bC))).mono ?_⟩;rintro e W3 ⟨rfl,ah⟩;gi_wp2_with fail
    ·have aA:=eD (az.trans bB);clear a0 a1 a2;have HP:=eD ((I.ch.lP ax (fJ _)).trans aA);have bD:=eD ((Y.trans HP).eH aF);have c7:=(am.below aA.below am.lt).ce 0 (fw Q);have bE:=eD (I.x.ok.mem.eH.below aA.below I.x.ok.mem.eH.lt);have HO:Hid (∀u∈U.cells.toList,u.oneCell'=true):=eD (by simp[LS.cells,Value.oneCell']);have aB:Hid (U.cells.toList.length=11):=eD rfl;obtain⟨cl,a3⟩:∃cl,cl=U.cells.toList:=⟨_,rfl⟩;have bF:U.cells=cl.toArray:=by rw[a3]
     rw[<-a3] at HO aB;rw[bF] at bE;clear a3;go_wp2_with (first|(refine eK rfl 97 (.tmp 79) rfl _ rfl (.agg cl.toArray) ?_ ?_)|(refine eG rfl 97 (.tmp 81) (.tmp 80) rfl p rfl cl rfl bD.out HO.out (by rw[aB.out];rfl) aB.out ?_))
     ·exact bE.load 97 0 cl (by rw[vw,iT]) _ underlying97 (by kernel_rfl) (by rw[aB];kernel_rfl)
     ·intro X bG g8;have b':=aF.lt;have R8:=(HP.eH HR.1).grown g8 (by simp;omega);have R9:=(HP.eH HR.2.1).grown g8 (by simp;omega);have ag:=(HP.eH HR.2.2).grown g8 (by simp;omega);obtain⟨bH,bI⟩:=(I.x.ok.ext aA).move bD aG.1 (by have:=aG.2;have:=Y.size;omega) (by rw[bF];exact bG) g8;have bJ:=eD bH;have bK:=eD bI;have aq:=eD (And.intro R8 (And.intro R9 ag));have k8:=R8.cell 0 rfl;have f8:=R8.frozen 0;have k9:=R9.cell 0 rfl;have f9:=R9.frozen 0;have ca:=ag.cell 0 rfl;have f10:=ag.frozen 0;have cr:X.heap.size>=W'.heap.size:=g8.size;have cs:=(Y.trans HP).size;have bL:=(g8.block w6 (LV.1 hK).1 (by have:=bB.size;have:=Y.size;have:=ax.size;have:=I.ch.size;have:=az.size;simp;omega)).trans hK;have cu:=eY ax.size (eY I.ch.size az.size);have bM:=eD bL;clear R8 R9 ag bH bI bG g8 c7 b' hK bL;go_wp
      clear k8 f8 k9 f9 ca f10;have R8:=aq.1;have c8:CH 0 [3] [] X (X.setCell (eJ w 0) (eE P)):=CH.set R8 (eX _) (by simp) 0 _;have R9:=c8.eH aq.2.1;have c9:CH 0 [23] [] _ ((X.setCell (eJ w 0) (eE P)).setCell (eJ (w.heap.size+1) 0) (.slice K d.length H)):=CH.set R9 (eX _) (by simp) 0 _;have ag:=c9.eH (c8.eH aq.2.2);have cb:∀b∈U.os,lW b.im (ii G b.fQ) ([(Value.slice K d.length H,eM d),(.slice W t.length Z,eM t)]++ex++ex2):=λb a=>(I.x.im b a).mono (λq E=>by
       rcases gu.1 E with E|E
       ·exact iL _ (gT _ (hF q E))
       ·exact gT _ E)
      have l8:=gG.OY (ex1:=[(Value.slice K d.length H,eM d),(.slice W t.length Z,eM t)]++ex) (ex2:=ex2) (c:=w.heap.size) (l:=[0]) (by have:=bJ.out;rw[a'] at this;simpa using this) cb R8 (.int .i64 P)
      have l9:=l8.O3 R9 (.slice K d.length H);have bN:=(l9.RC ag (eE 0)).OZ (ex':=ex++ex2) (by
       rw[iK];exact Oi _ _) (λb a=>(I.out.x.im b a).mono (λq E=>by
       rcases gu.1 E with E|E
       ·exact iL _ (hF q E)
       ·exact gT _ E))
      have b8:=c9.eH (eQ.set R8 0 (eE P));have a4:CH 0 [64] [] _ ((((X.setCell (eJ w 0) (eE P)).setCell (eJ (w.heap.size+1) 0) (.slice K d.length H))).setCell (eJ (w.heap.size+1+1) 0) (eE 0)):=CH.set ag (eX _) (by simp) 0 _;have bO:((((X.setCell (eJ w 0) (eE P)).setCell (eJ (w.heap.size+1) 0) (.slice K d.length H))).setCell (eJ (w.heap.size+1+1) 0) (eE 0)).heap[w6.heap.size]? =some (.deferred (some [])):=by have hs:=Y.size;have:=aq.2.2.lt;have h3:=HR.2.2.lt;rw[Dg _ _ _ _ (by simp;omega),Dg _ _ _ _ (by simp;omega),Dg _ _ _ _ (by simp;omega)];exact bM
      obtain⟨cc,ar⟩:=bN.Wl (y:=none) bO;have aC:∀i,i<=2->w.heap.size+i∉[w6.heap.size]:=λi D hm=>by have h3:=HR.2.2.lt;simp at hm;omega
      have q8:=ar.eH (a4.eH b8) (by simp) (aC 0 (by omega));have q9:=ar.eH (a4.eH (eQ.set R9 0 (.slice K d.length H))) (by simp) (aC 1 (by omega));have aD:=ar.eH (eQ.set ag 0 (eE 0)) (by simp) (aC 2 (by omega));have hB:=aG.2;have cd:CH B jz [] w (((((X.setCell (eJ w 0) (eE P)).setCell (eJ (w.heap.size+1) 0) (.slice K d.length H))).setCell (eJ (w.heap.size+1+1) 0) (eE 0)).putObj w6 (.deferred none)):=by have S:CH B jz [] w X:=(CH.fg (Y.trans HP)).fk (bK.mono (by decide) (λ_ h=>h));have h2:=S.trans (CH.uq (w:=X) (g:=w.heap.size) (i:=0) (u:=eE P) (L:=jz) (M:=[w.heap.size]) hB (by simp)) (λi D=>.inr (by simp at D;omega));have h3:=h2.trans (CH.uq (g:=w.heap.size+1) (i:=0) (u:=.slice K d.length H) (L:=jz) (M:=[w.heap.size+1]) (by omega) (by simp)) (λi D=>.inr (by simp at D;omega));have h4:=h3.trans (CH.uq (g:=w.heap.size+1+1) (i:=0) (u:=eE 0) (L:=jz) (M:=[w.heap.size+1+1]) (by omega) (by simp)) (λi D=>.inr (by simp at D;omega));have h5:CH B jz [w6.heap.size] ((((X.setCell (eJ w 0) (eE P)).setCell (eJ (w.heap.size+1) 0) (.slice K d.length H))).setCell (eJ (w.heap.size+1+1) 0) (eE 0)) _:=fi.mono ar λk hk=>hk.2.elim (λ⟨_,_,_,_,h⟩=>by simp at h) (λhm=>⟨by have:=Y.size;simp at hm;omega,.inr hm⟩);exact h4.trans h5 (λi D=>.inr (by have:=Y.size;simp at D;omega))
      have ce:=eD (And.intro (q8.cell 0 (v:=eE P) (by simp)) (And.intro (q9.cell 0 (v:=.slice K d.length H) (by simp)) (aD.cell 0 (v:=eE 0) (by simp))));clear a' aq bM R8 R9 ag b8 c8 c9 a4 ar l8 l9 bN bJ bK q8 q9 aD aC;refine⟨by simp,.inl ⟨_,_,rfl,run_takeDeferred bO, ?_⟩⟩;generalize(((((X.setCell (eJ w 0) (eE P)).setCell (eJ (w.heap.size+1) 0) (.slice K d.length H))).setCell (eJ (w.heap.size+1+1) 0) (eE 0)).putObj w6 (.deferred none))=w9 at*;obtain⟨q8,q9,aD⟩:=ce.out;refine⟨_,Fb (A:=(eJ w 0)) (B:=(eJ (w.heap.size+1) 0)) (C:=(eJ (w.heap.size+1+1) 0)) (x:=eE P) (y:=.slice K d.length H) (z:=eE 0) rfl rfl rfl rfl ?_ ?_ ?_, ?_⟩
      ·simp[go_sem,q8]
      ·simp[go_sem,q9]
      ·simp[go_sem,aD]
      ·obtain⟨g1,g2,g3,g4,g5,g6,g7,g8⟩:=I.pg;refine⟨_,U,ex2,P,d,rfl,cc,I.x.im,cd,by rw[bm,I.gd,g7], ?_, ?_, ?_, ?_, ?_, ?_,by rw[g7];exact bV,by rw[I.gd,g7];exact ak, ?_,λaT hb=>eY Y.size (I.x.ok.mem.UV aT hb),by rw[g3,g8,V.tl,V.fb];exact R.md,λhg T=>I.Wm hg (V.lh λb a=>by
        have S:=congrArg List.length R.os;rw[T] at S;rw[jt,jH,gW] at S;rw[Ds.1 S] at a;cases a),λT=>I.out.OQ (V.out.OQ λb a=>by
        have S:=congrArg List.length R.os;rw[T] at S;rw[jt,jH,gW] at S;rw[Ds.1 S] at a;cases a)⟩
       ·rw[g1,V.inits,R.inits]
       ·rw[g2,V.gF,R.gF]
       ·rw[g4,V.D,R.D]
       ·rw[g5,V.fn,R.fn]
       ·rw[g6,V.fl,R.fl]
       ·rw[g3,V.tl,R.iQ]
       ·obtain⟨b,a,e⟩:=bn.out;have h2:b.ob∈U.gd:=by rw[I.gd];exact fy.2 ⟨b,a,rfl⟩
        obtain⟨i,D,e2⟩:=uZ h2;exact⟨_,eU D,(congrArg Ob.id e2).trans e⟩
end
end
