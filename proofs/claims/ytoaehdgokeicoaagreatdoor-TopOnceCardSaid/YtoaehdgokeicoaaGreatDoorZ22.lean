/- TopOnce: part 22 of the proof. -/
import Derived.Test.YtoaehdgokeicoaaGreatDoorZ20
set_option maxRecDepth 100000
set_option maxHeartbeats 30000000
set_option linter.all false
namespace Go.Proofs.YtoaehdgokeicoaaGreatDoor
open K9 Z9 Go.Proofs.Tryz
section
variable{w v u W V U:eI}{n k m i j p b c d g N B K G M:Nat}{x y z X Y Z:eS}{D E F:Int}{A C H I:fE}{l L J T:fY}{r s t R S:fe}{f:ik}{a:Act}{O Q:List Oper}{kB:List (eS×fS)}{kE:Oper}{kG:Array Oper}{kJ:kx}{kK:DataW eS}
section
open Go.RowKit Go.Maps
def FF(w:eI)(e:Ending)(w':eI):Prop:=∃l:fY,e=fH (fV l.toArray)/\l.length=10/\(∀u∈l,u.oneCell'=true)/\eF w w'
def BS(id:Int)(o:OV)(a b:eS):fY:=[eE id,eE o.base,eE 0,eV (fI (jk o.fQ)),fz o.lh,fz o.keep,a,b,eE (o.gE:Nat),eW]
theorem FG{B p:Nat}{c:LS}(h:it w B p c kB)(hl:c.os.length<=1000){i:Nat}(hi:i<c.os.length)(Q:∀j (hj:j<i),c.os[j].id≠c.os[i].id)(R:c.os[i].eP.length<=1000/\c.os[i].group.length<=1000)(d:c.os[i].im.rh.n=0){S T U:Nat}(V:w.cell? (eJ S 0)=some (fw T))(W:w.cell? (eJ T 0)=some (fw U))(X:w.cell? (eJ U 0)=some (fw p)):
 Calls prog 25 #[fw S,eE (c.os[i].id:Nat)] w (FF w):=by
 have n:=eF.alloc w (eN Ma 102);have aG:=eD (eQ.new w 102 Ma);have Y:=eD (λw' (hx:eF w w')=>pv (h.ext hx) hl hi Q R);have k0:=n.cell V;have k1:=n.cell W;have k2:=n.cell X;have Z:=eD n;clear h Q n V W X;generalize c.os[i]=a at*;obtain⟨aN,_⟩:=R;go_in;go_wp
 generalize ad:w.alloc (eN Ma 102)=w1 at*;have aO:w1.heap.size=w.heap.size+1:=by rw[<-ad,fM]
 clear ad;refine(Y _ Z).mono ?_;rintro e E ⟨o,r,gA,gc,bA,bc,rfl,hr,y⟩;have ae:E.ownsRow w1 3 1 (.slice o a.eP.length r) a.eP.length (ints (eM a.eP)):=by have:=hr.mem (p:=OV.nf (a.re o r gA gc bA bc)) (gM ..);simpa[OV.nf,OV.re,eM] using this
 have HR:=eD (Rd.gY ae);have af:=eD (Z.trans y);have ag:=eD (y.eH aG);have aP:=y.size;have z:=eQ.new E 177 KM;clear hr ae y Y k0 k1 k2;go_wp2_with (refine eG rfl 177 (.tmp 5) (.tmp 25) rfl E rfl (OV.eL (a.re o r gA gc bA bc)) rfl z (j4 _) (by rw[gx];exact iR) (by rw[gx];rfl) ?_)
 intro b f g3;have A:=(fi.grown g3).ext (eF.alloc _ _);have ah:=eD (af.trans A);have ai:=eD f;have aj:=eD (A.eH ag);have ak:=eD (A.rd HR);have d1:=f.ce 1 (eV (fI (jk a.fQ)));have d18:=f.ce 18 (eE a.base);have d19:=f.ce 19 (eE 0);have d20:=f.ce 20 (fz a.lh);have d21:=f.ce 21 (fz a.keep);have d25:=f.ce 25 (eE (a.gE:Nat));have z:=eQ.new b 102 Ma;have aQ:=f.lt;clear g3 f A ag af HR;go_wp2_with (refine eG rfl 102 (.tmp 7) (.tmp 40) rfl b rfl (BS (a.id:Nat) a (eW) (eW)) rfl z (by simp[BS,Value.oneCell']) (by kernel_rfl) (by rfl) ?_)
 intro w4 F g4;have s:=(fi.grown g4).ext (eF.alloc _ _);have al:=eD (ah.trans s);have am:=eD F;have G:=eD (s.eH ai);have an:=eD (s.eH aj);have ao:=eD (s.rd ak);have d22:=G.ce 22 (.slice o a.eP.length r);have k6:=F.ce 6 (eW);clear d1 d18 d19 d20 d21 d25 z g4 F s ah ai aj ak;have aR:(eM a.eP).length=a.eP.length:=fv _;go_wp2_with (at_builtin;go_loud(refine iZ rfl _ _ rfl (fo.nil w4 w4 1) 0 (eW) [] rfl rfl o r a.eP.length (eM a.eP) rfl (fv _) ao (by simp;omega) (fJ _) ?_))
 intro v5 C r5 g5 _;obtain⟨g,k,H⟩:=eR (r5.own 0 _ rfl);dsimp only at H;rw[fv] at H;subst H;have t:=(fi.grown g5).ext (eF.refl _) (λI d=>by cases d);have ap:=eD (al.trans t);have u:=eD (t.eH am);have aq:=eD (t.eH G);have aH:=eD (t.eH an);have J:=u.set 6 (.slice g a.eP.length k);have ar:Hid (eF w (C.setCell (eJ b 6) (.slice g a.eP.length k))):=eD ((fi.set C b 6 _).ext ap (λI d=>by subst d;omega));have K:=eD ((CH.set u (eX _) (by simp) 6 (.slice g a.eP.length k):CH 0 [102] [] _ _).eH aq);have f6:=u.frozen 6;have aI:=u.ce 6 (eW);have k7:=J.ce 7 (eW);have d23:=K.ce 23 (eW);have au:=eD J;have av:=eD ((CH.uq (B:=0) (L:=[]) (M:=[b.heap.size]) (eX _) (by simp):CH 0 [] [b.heap.size] C (C.setCell (eJ b 6) (.slice g a.eP.length k))).eH aH (by simp) (by simp;omega));clear d22 k6 r5 g5 t am G an al ao J ap aq u;go_wp2_with (at_builtin;go_loud(refine iZ rfl _ _ rfl (fo.nil 0 _ 1) 0 (eW) [] rfl rfl none 0 0 [] rfl rfl (λi h=>absurd h (by simp[ints])) (by simp) (eX _) ?_))
 intro v7 v r7 x _;obtain⟨l,m,N⟩:=eR (r7.own 0 _ rfl);dsimp only at N;rw[jH] at N;subst N;have aw:=(fi.grown x).ext ar (λI d=>by cases d);have D:=eD (au.grown x (by simp[Value.ownBlock]));have ax:=eD (K.grown x (by simp[Value.ownBlock]));have ay:=eD (av.grown x (by simp[Value.ownBlock]));have az:=D.set 7 (.slice l 0 m);have aA:Hid (eF w (v.setCell (eJ b 7) (.slice l 0 m))):=eD ((fi.set v b 7 _).ext aw (λI d=>by subst d;omega));have O:CH 0 [] [b.heap.size] v (v.setCell (eJ b 7) (.slice l 0 m)):=CH.uq (eX _) (by simp);have aB:=eD (O.eH ax (by simp) (by simp;omega));have aC:=eD (O.eH ay (by simp) (by simp;omega));have f7:=D.frozen 7;have aJ:=D.ce 7 (eW);have d13:=aB.ce 13 (.slice a.im.rh.A a.im.rh.n a.im.rh.c);rw[d] at d13;have aD:=eD az;clear f6 aI k7 d23 r7 x aw az O au K av ar D ax ay;go_wp
 clear f7 aJ d13;generalize v.setCell (eJ b 7) (.slice l 0 m)=w8 at*;refine wp_loop_rounds 1 ?_;rw[rounds_succ];have aE:=eD (aD.fK (P:=prog) 102 _ underlying102 rfl (by kernel_rfl));have aF:∀aK∈BS (a.id:Nat) a (.slice g a.eP.length k) (.slice l 0 m),aK.oneCell'=true:=by simp[BS,Value.oneCell']
 go_wp2_with (first|(refine eK rfl 102 (.tmp 7) rfl _ rfl (fV (BS (a.id:Nat) a (.slice g a.eP.length k) (.slice l 0 m)).toArray) aE ?_)|(refine eG rfl 102 (.tmp 4) (.tmp 90) rfl w rfl (BS (a.id:Nat) a (.slice g a.eP.length k) (.slice l 0 m)) rfl aC aF (by kernel_rfl) (by rfl) ?_))
 intro w9 b9 g9;have aL:=eD ((fi.grown g9).ext aA);have aM:=eD (b9.fK (P:=prog) 102 _ underlying102 rfl (by kernel_rfl));clear b9 g9 aA aE aD aC aB;go_wp
 try simp only[Exit.inBlock,Exit.then]
 exact iA (iN rfl rfl aM) rfl ⟨_,rfl,rfl,aF,aL⟩
theorem zA:(prog.info? 102).map (λa=>(a.zero,a.size,a.bytes))=some (some (.agg #[.int .i64 0,.int .i64 0,.int .i64 0,.string ⟨#[]⟩,.bool false,.bool false,.slice none 0 0,.slice none 0 0,.int .i64 0,.slice none 0 0]),10,128):=by kernel_rfl
theorem LH{rest:List Oper}{o:Exit->Act->eI->Prop}(r:kE.guard=none)(i j:Operand)(s:kE.op=.call {callee:=.builtin .append,args:=#[i,j],argTypes:=#[34,34]}){b:eS}{f:Nat}{k:fY}(h:w.ownsRow n 102 10 b f k)(t:n<=w.heap.size)(u:a.eval i=b)(l:fE)(p:Nat)(c:fY)(d:Nat)(v:a.eval j=.slice l d p)(x:c.length=d*10)(y:Rd w l c)(z:∀A∈c,A.oneCell'=true)(H:f+d<=1000000)(B:∀g m,m.ownsRow n 102 10 g (f+d) (k++c)->w.grownBy m b.ownBlock->(g.ownBlock=b.ownBlock\/g.ownBlock=some w.heap.size)->wpList prog kG o rest (a.put kE.dst g) m):wpList prog kG o (kE::rest) a w:=by obtain⟨C,D,E,F,G⟩:=info_parts zA;exact fB r i j 34 s n 102 C _ 10 128 underlying34 D E F G rfl (by omega) b f k u h l p c d v x y z (by unfold maxLen;omega) (by omega) t B
theorem Hm{rest:List Oper}{o:Exit->Act->eI->Prop}(r:kE.guard=none)(j k:Operand)(s:kE.op=.call {callee:=.builtin .append,args:=#[j,k],argTypes:=#[34,34]}){g:eS}{l:Nat}{p:fY}(h:w.ownsRow n 102 10 g l p)(C:n<=w.heap.size)(t:a.eval j=g)(b:fY)(u:a.eval k=fN w 1 1)(v:b.length=10)(x:∀y∈b,y.oneCell'=true)(D:l<1000000)(z:∀c d,d.ownsRow n 102 10 c (l+1) (p++b)->(w.alloc (eN b.toArray 102)).grownBy d g.ownBlock->(∀i,c.ownBlock=some i->g.ownBlock=some i\/w.heap.size<=i)->wpList prog kG o rest (a.put kE.dst c) d):wpList prog kG o (kE::rest) a (w.alloc (eN b.toArray 102)):=
 LH r j k s ((eF.alloc _ _).own h) (by rw[fM];omega) t _ 1 b 1 u (by simpa using v) (by simpa using ip w b.toArray _) x (by omega) λc d A B f=>z c d A B λi m=>by
  rcases f with f|f
  ·exact .inl (f▸m)
  ·rw[f] at m;simp only[fM,fd] at m;exact .inr (by omega)
theorem Af:(prog.info? 106).map (λa=>(a.zero,a.size,a.bytes))=some (some (.agg #[.int .i64 0,.int .i64 0,.int .i64 0,.int .i64 0,.int .i64 0,.int .i64 0,.int .i64 0,.int .i64 0,.int .i64 0,.int .i64 0,.int .i64 0,.int .i64 0,.int .i64 0,.int .i64 0,.int .i64 0,.int .i64 0,.int .i64 0,.int .i64 0]),18,144):=by kernel_rfl
theorem PS{rest:List Oper}{o:Exit->Act->eI->Prop}(r:kE.guard=none)(i j:Operand)(s:kE.op=.call {callee:=.builtin .append,args:=#[i,j],argTypes:=#[38,38]}){b:eS}{f:Nat}{k:fY}(h:w.ownsRow n 106 18 b f k)(t:n<=w.heap.size)(u:a.eval i=b)(l:fE)(p:Nat)(c:fY)(d:Nat)(v:a.eval j=.slice l d p)(x:c.length=d*18)(y:Rd w l c)(z:∀A∈c,A.oneCell'=true)(H:f+d<=1000000)(B:∀g m,m.ownsRow n 106 18 g (f+d) (k++c)->w.grownBy m b.ownBlock->(g.ownBlock=b.ownBlock\/g.ownBlock=some w.heap.size)->wpList prog kG o rest (a.put kE.dst g) m):wpList prog kG o (kE::rest) a w:=by obtain⟨C,D,E,F,G⟩:=info_parts Af;exact fB r i j 38 s n 106 C _ 18 144 underlying38 D E F G rfl (by omega) b f k u h l p c d v x y z (by unfold maxLen;omega) (by omega) t B
theorem LI{rest:List Oper}{o:Exit->Act->eI->Prop}(r:kE.guard=none)(j k:Operand)(s:kE.op=.call {callee:=.builtin .append,args:=#[j,k],argTypes:=#[38,38]}){g:eS}{l:Nat}{p:fY}(h:w.ownsRow n 106 18 g l p)(C:n<=w.heap.size)(t:a.eval j=g)(b:fY)(u:a.eval k=fN w 1 1)(v:b.length=18)(x:∀y∈b,y.oneCell'=true)(D:l<1000000)(z:∀c d,d.ownsRow n 106 18 c (l+1) (p++b)->(w.alloc (eN b.toArray 106)).grownBy d g.ownBlock->(∀i,c.ownBlock=some i->g.ownBlock=some i\/w.heap.size<=i)->wpList prog kG o rest (a.put kE.dst c) d):wpList prog kG o (kE::rest) a (w.alloc (eN b.toArray 106)):=
 PS r j k s ((eF.alloc _ _).own h) (by rw[fM];omega) t _ 1 b 1 u (by simpa using v) (by simpa using ip w b.toArray _) x (by omega) λc d A B f=>z c d A B λi m=>by
  rcases f with f|f
  ·exact .inl (f▸m)
  ·rw[f] at m;simp only[fM,fd] at m;exact .inr (by omega)
theorem Ag:(prog.info? 111).map (λa=>(a.zero,a.size,a.bytes))=some (some (.slice none 0 0),1,24):=by kernel_rfl
theorem PT{rest:List Oper}{o:Exit->Act->eI->Prop}(r:kE.guard=none)(i j:Operand)(s:kE.op=.call {callee:=.builtin .append,args:=#[i,j],argTypes:=#[39,39]}){b:eS}{f:Nat}{k:fY}(h:w.ownsRow n 111 1 b f k)(t:n<=w.heap.size)(u:a.eval i=b)(l:fE)(p:Nat)(c:fY)(d:Nat)(v:a.eval j=.slice l d p)(x:c.length=d*1)(y:Rd w l c)(z:∀A∈c,A.oneCell'=true)(H:f+d<=1000000)(B:∀g m,m.ownsRow n 111 1 g (f+d) (k++c)->w.grownBy m b.ownBlock->(g.ownBlock=b.ownBlock\/g.ownBlock=some w.heap.size)->wpList prog kG o rest (a.put kE.dst g) m):wpList prog kG o (kE::rest) a w:=by obtain⟨C,D,E,F,G⟩:=info_parts Ag;exact fB r i j 39 s n 111 C _ 1 24 underlying39 D E F G rfl (by omega) b f k u h l p c d v x y z (by unfold maxLen;omega) (by omega) t B
theorem LJ{rest:List Oper}{o:Exit->Act->eI->Prop}(r:kE.guard=none)(j k:Operand)(s:kE.op=.call {callee:=.builtin .append,args:=#[j,k],argTypes:=#[39,39]}){g:eS}{l:Nat}{p:fY}(h:w.ownsRow n 111 1 g l p)(C:n<=w.heap.size)(t:a.eval j=g)(b:fY)(u:a.eval k=fN w 1 1)(v:b.length=1)(x:∀y∈b,y.oneCell'=true)(D:l<1000000)(z:∀c d,d.ownsRow n 111 1 c (l+1) (p++b)->(w.alloc (eN b.toArray 111)).grownBy d g.ownBlock->(∀i,c.ownBlock=some i->g.ownBlock=some i\/w.heap.size<=i)->wpList prog kG o rest (a.put kE.dst c) d):wpList prog kG o (kE::rest) a (w.alloc (eN b.toArray 111)):=
 PT r j k s ((eF.alloc _ _).own h) (by rw[fM];omega) t _ 1 b 1 u (by simpa using v) (by simpa using ip w b.toArray _) x (by omega) λc d A B f=>z c d A B λi m=>by
  rcases f with f|f
  ·exact .inl (f▸m)
  ·rw[f] at m;simp only[fM,fd] at m;exact .inr (by omega)
def U3(w:eI)(D:DataW eS)(e:Ending)(w':eI):Prop:=∃LA lc,∃ls:fS,e=fH (.slice LA ls lc)/\ls.Perm (Go.intKeys D)/\w'.ownsRow w 3 1 (.slice LA ls lc) ls (ints ls)/\eF w w'
def FJ(w:eI)(no nl:Nat)(e:Ending)(w':eI):Prop:=∃l:fY,e=fH (fV l.toArray)/\l.length=8/\(∀u∈l,u.oneCell'=true)/\(∃A c,l[0]? =some (.slice A no c))/\(∃A c,l[5]? =some (.slice A nl c))/\eF w w'
theorem CH.u'(h:CH 0 [] [n] v u)(a:eF w v)(b:w.heap.size<=n):eF w u:=fi.ext h a (λd c=>by
 rcases c.2 with h|h
 ·obtain⟨_,_,_,_,h⟩:=h;cases h
 ·rw[fF.1 h];exact b)
theorem mS{size:Nat}{e:ik}(h:w.ownsRow n e size x k l)(b:eQ w m f kJ)(c:e≠f):∀a,x.ownBlock=some a->a∉[m]:=λa d g=>jX h b c (by rw[d,fF.1 g])
structure Jd(D:DataW eS)(t:TL):Prop where
 size:Maps.size D<=10000
 iO:(Go.intKeys D).length<=1000
 each:∀id∈Go.intKeys D,0<=id/\id<16/\(∃pc tp x sp i stack over,At D (.int .i64 id) (.agg (pK pc tp x sp i stack over).toArray))/\∃tp b,At (Cj t.iQ) (.int .i64 id) (.agg #[.int .i64 tp,.map (some b)])
theorem FK{mt next:Nat}{l:LS}{D:DataW eS}{bP:Bool}{V:List Hn}(h:it w n k l kB)(hp:z6 w m p mt b D)(hd:rb w p k d next bP V kK g)(k0:w.cell? (eJ N 0)=some (fw m))(hw:sB l.rs)(v:∀bm∈l.rs,bm.bs.length<=1048576/\oR bm.iU 0)(bn:l.scope.length<=1000)(bQ:l.os.length<=100)(gO:(l.os.map OV.id).Nodup)(ao:∀az∈l.os,az.eP.length<=1000/\az.group.length<=1000/\az.im.rh.n=0)(ht:Jd D l.tl):
 Calls prog 8 #[fw N] w (FJ w l.os (Go.intKeys D).length):=by
 have aF:=eF.alloc w (eN BY 41);have O:=eD aF;have aM:=eD (eQ.new w 41 BY);have ar:=eD (λr (a:eF w r)=>FH (hd.ext a));have ag:=eD (λr (a:eF w r)=>Fs (h.vH.ext a));have Z:Hid (∀r,eF w r->Calls prog 21 #[fw m] r (U3 r D)):=eD (λr a=>(PR (hp.ext a) ht.size).mono λe w2 ⟨ca,ss,h1,h2,h3,h4⟩=>by have hl:(ss.mergeSort λbo ad=>decide (bo<=ad)).length=ss.length:=(ON _ _).length_eq;rw[<-hl] at h3;obtain⟨A,c,rfl⟩:=eR h3;exact⟨A,c,_,h1,(ON _ _).trans h2,h3,h4⟩)
 have bp:=eD (λr (a:eF w r)=>yX (h.ext a) bn);have bq:=eD (λr (a:eF w r)=>NU (h.ext a) bQ);have br:=eD (λr (a:eF w r) A c hr=>LG (A:=A) (c:=c) (h.vH.ext a) hw v hr);have bs:Hid (∀r,eF w r->∀i (z:i<l.os.length),Calls prog 25 #[fw N,eE (l.os[i].id:Nat)] r (FF r)):=eD (λr a i z=>FG (h.ext a) (by omega) z (λj hj e=>by have:=fZ gO (i:=j) (j:=i) (by simp;omega) (by simpa using z) (by simpa using e);omega) ⟨(ao _ (eU z)).1,(ao _ (eU z)).2.1⟩ (ao _ (eU z)).2.2 (a.cell k0) ((a.eH hp.eH).cell 0 rfl) ((a.eH hd.eH).cell 0 rfl))
 have bR:Hid (∀r,eF w r->∀id∈Go.intKeys D,Calls prog 26 #[fw m,eE id] r λe w2=>∃ah:fY,e=fH (ij #[fV ah.toArray,eE 0])/\ah.length=19/\(∀f∈ah,f.oneCell'=true)/\eF r w2):=eD (λr a id z=>by obtain⟨h1,h2,⟨pc,tp,bo,sp,i,cb,cd,h3⟩,_⟩:=ht.each id z;exact(qJ (hp.ext a) ⟨h1,h2⟩ h3).mono λe w2 h4=>⟨_,h4.1,rfl,se _ _ _ _ _,h4.2⟩)
 have bS:Hid (∀r,eF w r->∀id∈Go.intKeys D,Calls prog 27 #[fw l.tp,eE id] r λe w2=>e=fH (eW)/\eF r w2):=eD (λr a id z=>by obtain⟨h1,h2,_,tp,a3,h3⟩:=ht.each id z;exact Hl (h.rT.ext a) ⟨h1,h2⟩ h3)
 have Q:Hid (∀r,eF w r->r.cell? (eJ N 0)=some (fw m)/\r.cell? (eJ m 0)=some (fw p)/\r.cell? (eJ p 0)=some (fw k)/\r.cell? (eJ k 0)=some (fw l.sp)/\r.cell? (eJ k 1)=some (fw l.tp)):=eD (λr a=>⟨a.cell k0,(a.eH hp.eH).cell 0 rfl,(a.eH hd.eH).cell 0 rfl,(a.eH h.eH).cell 0 rfl,(a.eH h.eH).cell 1 rfl⟩);have bT:=ht.iO;clear h hp hd k0 hw v bn gO ao ht aF;go_in;go_wp
 obtain⟨R,bt⟩:∃R,R=w.alloc (eN BY 41):=⟨_,rfl⟩;rw[<-bt] at O aM ⊢;clear bt;have ap:=O.size;have ce:=aM.lt;have ar:=eD (λr (a:eF R r)=>ar r (O.trans a));have ag:=eD (λr (a:eF R r)=>ag r (O.trans a));have Z:=eD (λr (a:eF R r)=>Z r (O.trans a));have e0:∀f:EW R,f.w.cell? (eJ N 0)=some (fw m):=λf=>(Q f.w (O.trans f.ext)).1;have e1:∀f:EW R,f.w.cell? (eJ m 0)=some (fw p):=λf=>(Q f.w (O.trans f.ext)).2.1;have e2:∀f:EW R,f.w.cell? (eJ p 0)=some (fw k):=λf=>(Q f.w (O.trans f.ext)).2.2.1;have e3:∀f:EW R,f.w.cell? (eJ k 0)=some (fw l.sp):=λf=>(Q f.w (O.trans f.ext)).2.2.2.1;go_cut [3] (λs3 wx=>∃s L C F G H E,∃t:fS,s3=fw s/\t.Perm (Go.intKeys D)/\eQ wx s 41 #[eW,eW,.slice L V.length C,.slice F l.rs.length G,eW,.slice H t.length E,eW,eW]/\wx.ownsRow w 155 3 (.slice F l.rs.length G) l.rs.length (zt l.rs)/\wx.ownsRow w 3 1 (.slice H t.length E) t.length (ints t)/\eF R wx/\R.heap.size<=s)
 case first=>
  refine iW [0,1,2,3,4,5,6,8,9,10,11,12,13,14,15,16,17,18,19,20,22,23,24,25] [7,21,28] (.jG (.e [7] (.jG (.e [21] (.jG (.e [26] (.q [27] (.e [28] (.e [29] .done)))) (.e [28] (.e [26] (.q [27] (.e [29] .done)))))) (.e [28] (.e [21] (.e [26] (.q [27] (.e [29] .done))))))) (.e [28] (.e [7] (.e [21] (.e [26] (.q [27] (.e [29] .done))))))) ?_;repeat(go_big_quiet_step (fail))
  refine eO ?_;clear e0 e1 e2 e3;have M:=eD (eF.drew R);generalize World.drew R=v0 at*;refine fX ?_ ?_
  ·skip
   refine eZ ?_;go_wp
   refine(ar _ M).mono ?_;rintro e y1 ⟨L,C,rfl,a⟩;have aA:=eD (M.trans a);clear a ar;go_wp2;refine⟨⟨⟨_,aA⟩,rfl⟩, ?_⟩;refine fX ?_ ?_
   ·skip
    refine eZ ?_;go_wp
    refine(ag _ aA).mono ?_;rintro e y2 ⟨F,G,rfl,B,a⟩;have aB:=eD (aA.trans a);have x:=eD (fq B (eY ap aA.size));clear a ag B;go_wp2;refine⟨⟨⟨_,aB⟩,rfl⟩, ?_⟩;refine fX ?_ ?_
    ·skip
     refine eT ?_;go_wp
     refine(Z _ aB).mono ?_;rintro e y3 ⟨H,E,t,rfl,ae,B,a⟩;have bu:=eD (aB.trans a);have y:=eD (fq B (eY ap aB.size));have x:=eD (a.own x);clear a Z B;go_wp2;refine iH ?_;refine fj ?_;repeat(go_big_quiet_step (fail))
     refine eO ?_;refine eZ ?_;go_wp
     obtain⟨y4,J⟩:∃ad,ad=y3.alloc (eN BY 41):=⟨_,rfl⟩;rw[<-J];have a:=J▸eF.alloc _ _;have v:=J▸eQ.new _ _ _;have ai:=bu.size;have x:=eD (a.own x);have y:=eD (a.own y);have bv:=eD (bu.trans a);clear J a;generalize y3.heap.size=s at*;have u:=eD v;clear v;refine⟨⟨⟨_,bv⟩,rfl⟩, ?_⟩;refine eT ?_;go_wp2_with (refine eG rfl 41 (.tmp 3) (.tmp 37) rfl s rfl [eW,eW,.slice L V.length C,.slice F l.rs.length G,eW,.slice H t.length E,eW,eW] rfl u (by simp[Value.oneCell']) (by kernel_rfl) (by rfl) ?_)
     intro y5 v K;have x:=eD ((CH.mg u K).own x);have y:=eD ((CH.mg u K).own y);have bU:=eD ((fi.grown K).ext bv);have u:=eD v;clear v K;go_wp
     refine iH ?_;refine fP ?_;go_wp
     go_meet;exact⟨s,L,C,F,G,H,E,t,rfl,ae,u,x,y,bU,ai⟩
    ·skip
     refine eZ ?_;go_wp
     obtain⟨y6,J⟩:∃ad,ad=y2.alloc (eN BY 41):=⟨_,rfl⟩;rw[<-J];have a:=J▸eF.alloc _ _;have v:=J▸eQ.new _ _ _;have ai:=aB.size;have x:=eD (a.own x);have aN:=eD (aB.trans a);clear J a;generalize y2.heap.size=s at*;have u:=eD v;clear v;refine⟨⟨⟨_,aN⟩,rfl⟩, ?_⟩;refine eT ?_;go_wp
     refine(Z _ aN).mono ?_;rintro e y7 ⟨H,E,t,rfl,ae,B,a⟩;have bV:=eD (aN.trans a);have y:=eD (fq B (eY ap aN.size));have x:=eD (a.own x);have u:=eD (a.eH u);clear a Z B;go_wp2;refine iH ?_;refine fj ?_;repeat(go_big_quiet_step (fail))
     refine eO ?_;refine eT ?_;go_wp2_with (refine eG rfl 41 (.tmp 3) (.tmp 37) rfl s rfl [eW,eW,.slice L V.length C,.slice F l.rs.length G,eW,.slice H t.length E,eW,eW] rfl u (by simp[Value.oneCell']) (by kernel_rfl) (by rfl) ?_)
     intro y8 v K;have x:=eD ((CH.mg u K).own x);have y:=eD ((CH.mg u K).own y);have bW:=eD ((fi.grown K).ext bV);have u:=eD v;clear v K;go_wp
     refine iH ?_;refine fP ?_;go_wp
     go_meet;exact⟨s,L,C,F,G,H,E,t,rfl,ae,u,x,y,bW,ai⟩
   ·skip
    refine eZ ?_;go_wp
    obtain⟨y9,J⟩:∃ad,ad=y1.alloc (eN BY 41):=⟨_,rfl⟩;rw[<-J];have a:=J▸eF.alloc _ _;have v:=J▸eQ.new _ _ _;have ai:=aA.size;have aO:=eD (aA.trans a);clear J a;generalize y1.heap.size=s at*;have u:=eD v;clear v;refine⟨⟨⟨_,aO⟩,rfl⟩, ?_⟩;refine eZ ?_;go_wp
    refine(ag _ aO).mono ?_;rintro e cf ⟨F,G,rfl,B,a⟩;have aP:=eD (aO.trans a);have x:=eD (fq B (eY ap aO.size));have u:=eD (a.eH u);clear a ag B;go_wp2;refine⟨⟨⟨_,aP⟩,rfl⟩, ?_⟩;refine eT ?_;go_wp
    refine(Z _ aP).mono ?_;rintro e cg ⟨H,E,t,rfl,ae,B,a⟩;have bX:=eD (aP.trans a);have y:=eD (fq B (eY ap aP.size));have x:=eD (a.own x);have u:=eD (a.eH u);clear a Z B;go_wp2;refine iH ?_;refine fj ?_;repeat(go_big_quiet_step (fail))
    refine eO ?_;refine eT ?_;go_wp2_with (refine eG rfl 41 (.tmp 3) (.tmp 37) rfl s rfl [eW,eW,.slice L V.length C,.slice F l.rs.length G,eW,.slice H t.length E,eW,eW] rfl u (by simp[Value.oneCell']) (by kernel_rfl) (by rfl) ?_)
    intro ch v K;have x:=eD ((CH.mg u K).own x);have y:=eD ((CH.mg u K).own y);have bY:=eD ((fi.grown K).ext bX);have u:=eD v;clear v K;go_wp
    refine iH ?_;refine fP ?_;go_wp
    go_meet;exact⟨s,L,C,F,G,H,E,t,rfl,ae,u,x,y,bY,ai⟩
  ·skip
   refine eZ ?_;go_wp
   obtain⟨ci,J⟩:∃ad,ad=v0.alloc (eN BY 41):=⟨_,rfl⟩;rw[<-J];have a:=J▸eF.alloc _ _;have v:=J▸eQ.new _ _ _;have ai:=M.size;have a4:=eD (M.trans a);clear J a;generalize v0.heap.size=s at*;have u:=eD v;clear v;refine⟨⟨⟨_,a4⟩,rfl⟩, ?_⟩;refine eZ ?_;go_wp
   refine(ar _ a4).mono ?_;rintro e cj ⟨L,C,rfl,a⟩;have aQ:=eD (a4.trans a);have u:=eD (a.eH u);clear a ar;go_wp2;refine⟨⟨⟨_,aQ⟩,rfl⟩, ?_⟩;refine eZ ?_;go_wp
   refine(ag _ aQ).mono ?_;rintro e ck ⟨F,G,rfl,B,a⟩;have aR:=eD (aQ.trans a);have x:=eD (fq B (eY ap aQ.size));have u:=eD (a.eH u);clear a ag B;go_wp2;refine⟨⟨⟨_,aR⟩,rfl⟩, ?_⟩;refine eT ?_;go_wp
   refine(Z _ aR).mono ?_;rintro e cl ⟨H,E,t,rfl,ae,B,a⟩;have bZ:=eD (aR.trans a);have y:=eD (fq B (eY ap aR.size));have x:=eD (a.own x);have u:=eD (a.eH u);clear a Z B;go_wp2;refine iH ?_;refine fj ?_;repeat(go_big_quiet_step (fail))
   refine eO ?_;refine eT ?_;go_wp2_with (refine eG rfl 41 (.tmp 3) (.tmp 37) rfl s rfl [eW,eW,.slice L V.length C,.slice F l.rs.length G,eW,.slice H t.length E,eW,eW] rfl u (by simp[Value.oneCell']) (by kernel_rfl) (by rfl) ?_)
   intro cm v K;have x:=eD ((CH.mg u K).own x);have y:=eD ((CH.mg u K).own y);have b0:=eD ((fi.grown K).ext bZ);have u:=eD v;clear v K;go_wp
   refine iH ?_;refine fP ?_;go_wp
   go_meet;exact⟨s,L,C,F,G,H,E,t,rfl,ae,u,x,y,b0,ai⟩
 case rest=>
 obtain⟨s,L,C,F,G,H,E,t,rfl,ae,aj,bw,bx,a,ai⟩:=hcut;have HX:=eD (O.trans a);have ak:=eD (a.eH aM);have x:=eD bw;have y:=eD bx;have u:=eD aj;have bz:=eD ae;have cn:t.length<=1000:=by rw[ae.length_eq];exact bT
 have aG:=eY ap ai;have cp:w.heap.size<s:=by omega
 clear ae aj bw bx a ar ag Z O aM e0 e1 e2 e3;obtain⟨k0,k1,I,k3,_⟩:=Q wc HX;go_wp
 refine(bp _ HX).mono ?_;rintro e w4 ⟨v',rfl,o4,aC⟩;obtain⟨SA,sc,rfl⟩:=eR o4;have al:=eD (HX.trans aC);have W:=aC.eH u;have f1:=W.frozen 1;have c1:=W.ce 1 (eW);have bB:=W.set 1 (.slice SA l.scope.length sc);have am:CH 0 [] [s] w4 (w4.setCell (eJ s 1) (.slice SA l.scope.length sc)):=CH.uq (eX _) (by simp);have a5:=aC.own x;have au:=aC.own y;have x:=eD (am.own a5 (by simp) (mS a5 W (by decide)));have y:=eD (am.own au (by simp) (mS au W (by decide)));have ak:=eD (am.eH (aC.eH ak) (by simp) (by simp;omega));have av:=eD (am.u' al aG);have a6:=eD bB;clear o4 aC W bB am a5 au bp u HX al k0 k1 I k3;go_wp2;clear f1 c1;generalize w4.setCell (eJ s 1) (.slice SA l.scope.length sc)=w5 at*;have e0:∀f:EW w5,f.w.cell? (eJ N 0)=some (fw m):=λf=>(Q f.w (av.trans f.ext)).1;have e1:∀f:EW w5,f.w.cell? (eJ m 0)=some (fw p):=λf=>(Q f.w (av.trans f.ext)).2.1;have e2:∀f:EW w5,f.w.cell? (eJ p 0)=some (fw k):=λf=>(Q f.w (av.trans f.ext)).2.2.1;have e3:∀f:EW w5,f.w.cell? (eJ k 0)=some (fw l.sp):=λf=>(Q f.w (av.trans f.ext)).2.2.2.1;have e4:=a6.ew 3 (.slice F l.rs.length G) rfl;refine iW [0,1,2,3,4,5,6,7,8,9,10,11,12,13,14] [] (.e [15] (.q [16] (.e [17] .done))) ?_;repeat(go_big_quiet_step (fail))
 refine eO ?_;clear e0 e1 e2 e3 e4;have M:=eD (eF.drew w5);generalize World.drew w5=v0 at*;have bC:=eD (br v0 (av.trans M) F G (fq (M.own x) (eX _)));refine eT ?_;go_wp
 refine bC.mono ?_;rintro e w6 ⟨bA,bc,rfl,bD⟩;have aH:=M.trans bD;have bE:=eD (av.trans aH);have X:=aH.eH a6;have f4:=X.frozen 4;have c4:=X.ce 4 (eW);have bF:=X.set 4 (.slice bA l.rs.length bc);have an:CH 0 [] [s] w6 (w6.setCell (eJ s 4) (.slice bA l.rs.length bc)):=CH.uq (eX _) (by simp);have au:=aH.own y;have y:=eD (an.own au (by simp) (mS au X (by decide)));have ak:=eD (an.eH (aH.eH ak) (by simp) (by simp;omega));have aS:=eD (an.u' bE aG);have bG:=eD bF;clear bD aH X bF an au bC br x a6 av bE M;go_wp2;refine iH ?_;refine fj ?_;repeat(go_big_quiet_step (fail))
 refine eO ?_;refine eT ?_;go_wp
 refine iH ?_;refine fP ?_;clear f4 c4;generalize w6.setCell (eJ s 4) (.slice bA l.rs.length bc)=w7 at*;obtain⟨k0,k1,I,k3,_⟩:=Q w7 aS;go_wp
 refine(bq _ aS).mono ?_;rintro e w8 ⟨v',rfl,o8,aI⟩;obtain⟨IA,ic,rfl⟩:=eR o8;have bH:(l.os.map OV.id).length=l.os.length:=by simp
 rw[bH] at o8 ⊢;have bI:=eD (aS.trans aI);have aT:=eD (aI.eH bG);have y:=eD (aI.own y);have ak:=eD (aI.eH ak);have a7:=eD o8;clear o8 aI bq bG aS k0 k1 I k3;go_wp2;go_loopw [79] (λi wr=>∃o S T xs,o<=l.os.length/\i=eE (o:Nat)/\eQ wr s 41 #[.slice S o T,.slice SA l.scope.length sc,.slice L V.length C,.slice F l.rs.length G,.slice bA l.rs.length bc,.slice H t.length E,eW,eW]/\wr.ownsRow w8 102 10 (.slice S o T) o xs/\CH 0 [] [s] w8 wr) (λi _=>l.os.length- (intOf i).toNat)
 case atStart=>exact⟨0,none,0,[],eX _,rfl,aT,⟨rfl,.inl ⟨rfl,rfl⟩⟩,CH.refl _ _ _ _⟩
 case round=>
  obtain⟨o,S,T,xs,hk,rfl,v,B,C⟩:=hrel;have Y:=C.u' bI aG;have a8:=C.own a7 (by simp) (mS a7 aT (by decide));by_cases aD:o<l.os.length
  ·obtain⟨a3,az,rfl,b1,d0⟩:=ja (Rd.fC a8) (by rw[bH];exact aD);simp only[jy] at d0;have HL:=eD (λr a=>bs r (Y.trans a) o aD);have a9:=eD Y;have aJ:=eD C;have aw:=eD v;have aU:=eD B;have a':=C.size;clear Y a8 C B v;go_wp
   clear d0;have e0:=aw.ew 0 (.slice S o T) rfl;refine iW [0,1,2,3] [4,5] (.e [4] (.e [5] (.e [6] (.q [7] (.e [8] .done))))) ?_;repeat(go_big_quiet_step (fail))
   refine eO ?_;clear e0;have M:=eD (eF.drew wr);generalize World.drew wr=v0 at*;refine eZ ?_;go_wp
   refine(HL v0 M).mono ?_;rintro e ad ⟨ah,rfl,hl,aV,a⟩;have U:=eD (M.trans a);clear a HL M;go_wp2;refine⟨⟨⟨_,U⟩,rfl⟩, ?_⟩;refine eZ ?_;go_wp2_with (refine jF rfl 34 102 (.tmp 87) rfl ah 10 rfl underlying34 (by kernel_rfl) hl (by decide) ?_)
   go_wp
   refine⟨⟨⟨_,U.trans (eF.alloc _ _)⟩,rfl⟩, ?_⟩;have bb:=U.size;refine eT ?_;go_wp2_with (at_builtin;go_loud(refine Hm rfl _ _ rfl (U.own aU) (eY a' bb) rfl ah rfl hl aV (by omega) ?_))
   intro v4 aE o4 g4 _;obtain⟨A4,c4,rfl⟩:=eR o4;have aq:CH 0 [] ((Value.slice S o T).ownBlock.toList) wr aE:=(CH.fg U).trans (CH.F5 (j1 g4) (λ_ _=>eX _) (λo hk=>by rw[hk];simp)) (λi z=>.inl z);have W:=aq.eH aw (by simp) (λhm=>jX aU aw (by decide) (FL.1 hm).symm);have ax:=eD (aJ.trans aq (λi z=>.inr (aU.lt i (by simpa using z)).1));have f0:=W.frozen 0;have c0:=W.ce 0 (.slice S o T);have am:CH 0 [] [s] aE (aE.setCell (eJ s 0) (.slice A4 (o+1) c4)):=CH.uq (eX _) (by simp);have bd:Hid (∃I S T xs,I<=l.os.length/\Value.int .i64 ((o:Int)+1)=.int .i64 (I:Nat)/\eQ (aE.setCell ⟨s,0,none⟩ (.slice A4 (o+1) c4)) s 41 #[.slice S I T,.slice SA l.scope.length sc,.slice L V.length C,.slice F l.rs.length G,.slice bA l.rs.length bc,.slice H t.length E,.slice none 0 0,.slice none 0 0]/\(aE.setCell ⟨s,0,none⟩ (.slice A4 (o+1) c4)).ownsRow w8.heap.size 102 10 (.slice S I T) I xs/\CH 0 [] [s] w8 (aE.setCell ⟨s,0,none⟩ (.slice A4 (o+1) c4))):=eD ⟨o+1,A4,c4,_,by omega,by go_num,W.set 0 _,am.own o4 (by simp) (mS o4 W (by decide)),ax.trans am (λi z=>.inl z)⟩;clear o4 g4 aq W am ax U aU aJ aw;go_wp
   refine iH ?_;refine fj ?_;repeat(go_big_quiet_step (fail))
   refine eO ?_;refine eT ?_;go_wp
   refine iH ?_;refine fP ?_;clear f0 c0;go_wp
   go_roundw
   case rel=>exact bd
   case measure=>simp[intOf];omega
  ·obtain rfl:o=l.os.length:=by omega
   have a9:=eD Y;have aw:=eD v;have y:=eD (C.own y (by simp) (mS y aT (by decide)));have ak:=eD (C.eH ak (by simp) (by simp;omega));have c5:=v.ce 5 (.slice H t.length E);clear Y a8 C B v aT a7 bI bs;generalize wr=w9 at*;go_wp
   clear c5;go_loopw [95] (λi wr=>∃o CA cc BA af xs ys,o<=t.length/\i=eE (o:Nat)/\eQ wr s 41 #[.slice S l.os.length T,.slice SA l.scope.length sc,.slice L V.length C,.slice F l.rs.length G,.slice bA l.rs.length bc,.slice H t.length E,.slice CA o cc,.slice BA o af]/\wr.ownsRow w9 106 18 (.slice CA o cc) o xs/\wr.ownsRow w9 111 1 (.slice BA o af) o ys/\CH 0 [] [s] w9 wr) (λi _=>t.length- (intOf i).toNat)
   case atStart=>exact⟨0,none,0,none,0,[],[],eX _,rfl,aw,⟨rfl,.inl ⟨rfl,rfl⟩⟩,⟨rfl,.inl ⟨rfl,rfl⟩⟩,CH.refl _ _ _ _⟩
   case round=>
    obtain⟨o,CA,cc,BA,af,xs,ys,hk,rfl,v,B,ao,ay⟩:=hrel;have Y:=ay.u' a9 aG;have be:=ay.own y (by simp) (mS y aw (by decide));by_cases aD:o<t.length
    ·obtain⟨a3,az,rfl,d0⟩:=Rd.fC be o (by simpa[ints] using aD);have bJ:(ints t)[o]'(by simpa[ints] using aD)=eE t[o]:=by simp[ints]
     rw[bJ] at d0;have b1:=js d0;have bf:=bz.mem_iff.1 (eU aD);have HT:=eD (λr a=>bR r (Y.trans a) t[o] bf);have b3:=eD (λr a=>bS r a t[o] bf);have aJ:=eD ay;have aW:=eD v;have aK:=eD B;have bg:=eD ao;have a':=ay.size;obtain⟨k0,k1,I,k3,_⟩:=Q wr Y;generalize t[o]=id at*;have bh:=eD Y;clear Y be ay B ao v bJ bf;go_wp
     refine(HT _ (eF.refl _)).mono ?_;rintro e y1 ⟨ah,rfl,hl,aV,aF⟩;have O:=eD aF;have bK:=eQ.new y1 108 nJ;clear aF HT d0 k0 k1 I k3;go_wp2_with (refine eG rfl 108 (.tmp 8) (.tmp 106) rfl y1 rfl ah rfl bK aV (by rw[hl];kernel_rfl) (by rw[hl];rfl) ?_)
     intro y2 b2 g2;have aX:=(fi.grown g2).ext (O.trans (eF.alloc _ _)) (λcq hz=>by simp only[fd] at hz;have:=O.size;omega);obtain⟨l8,aY⟩:∃l8,l8=ah.take 18:=⟨_,rfl⟩;have aZ:l8.length=18:=by rw[aY,ig,hl];rfl
     have b4:∀f∈l8,f.oneCell'=true:=λf hu=>aV f (qT (by rw[<-aY];exact hu));have bL:=eD (b2.load (P:=prog) 106 0 l8 (by rw[aZ,aY];simp) _ underlying106 rfl (by rw[aZ];kernel_rfl));have bi:=eD aX;have c6:=(aX.eH aW).ce 6 (.slice CA o cc);have b5:=aX.size;clear bK b2 g2 aX O aY;go_wp2_with (first|(refine eK rfl 106 (.tmp 110) rfl _ rfl (.agg l8.toArray) bL.out ?_)|(refine jF rfl 38 106 (.tmp 111) rfl l8 18 rfl underlying38 (by kernel_rfl) aZ (by decide) ?_)|(at_builtin;go_loud(refine LI rfl _ _ rfl (bi.out.own aK.out) (eY a' b5) rfl l8 rfl aZ b4 (by omega) ?_)))
     intro v5 y3 o5 g5 _;obtain⟨A5,c5,rfl⟩:=eR o5;have a0:CH 0 [] ((Value.slice CA o cc).ownBlock.toList) wr y3:=(CH.fg bi).trans (CH.F5 (j1 g5) (λ_ _=>eX _) (λo hk=>by rw[hk];simp)) (λi z=>.inl z);have aj:=a0.eH aW (by simp) (λhm=>jX aK aW (by decide) (FL.1 hm).symm);have bj:=a0.own bg (by simp) (λj hj hm=>(kQ bg aK (by decide)).elim (λh=>by rw[h] at hj;cases hj) (λh=>h (hj.trans (FL.1 hm).symm)));have f6:=aj.frozen 6;have b6:=aj.ce 6 (.slice CA o cc);have aq:CH 0 [] [s] y3 (y3.setCell (eJ s 6) (.slice A5 (o+1) c5)):=CH.uq (eX _) (by simp);have ax:=eD ((aJ.trans a0 (λi z=>.inr (aK.lt i (by simpa using z)).1)).trans aq (λi z=>.inl z));have a1:=eD (aj.set 6 (.slice A5 (o+1) c5));have bk:=eD (aq.own o5 (by simp) (mS o5 aj (by decide)));have aL:=eD (aq.own bj (by simp) (mS bj aj (by decide)));have al:=eD (ax.u' a9 aG);clear o5 g5 a0 aj bj aq bi aJ aW aK bg bL c6;go_wp
     clear f6 b6;generalize y3.setCell (eJ s 6) (.slice A5 (o+1) c5)=y4 at*;have e0:∀f:EW y4,f.w.cell? (eJ N 0)=some (fw m):=λf=>(Q f.w (al.trans f.ext)).1;have e1:∀f:EW y4,f.w.cell? (eJ m 0)=some (fw p):=λf=>(Q f.w (al.trans f.ext)).2.1;have e2:∀f:EW y4,f.w.cell? (eJ p 0)=some (fw k):=λf=>(Q f.w (al.trans f.ext)).2.2.1;have e3:∀f:EW y4,f.w.cell? (eJ k 1)=some (fw l.tp):=λf=>(Q f.w (al.trans f.ext)).2.2.2.2;have e4:=a1.ew 7 (.slice BA o af) rfl;have HB:=eD (λr a=>b3 r (al.trans a));have b7:=ax.size;refine iW [0,1,2,3,4,5,6,7,8,9,10,11,12,13,14,15] [16,17] (.e [16] (.e [17] (.e [18] (.q [19] (.e [20] .done))))) ?_;repeat(go_big_quiet_step (fail))
     refine eO ?_;clear e0 e1 e2 e3 e4;have M:=eD (eF.drew y4);generalize World.drew y4=v0 at*;refine eZ ?_;go_wp
     refine(HB v0 M).mono ?_;rintro e ad ⟨rfl,a⟩;have U:=eD (M.trans a);clear a HB M;go_wp2;refine⟨⟨⟨_,U⟩,rfl⟩, ?_⟩;refine eZ ?_;go_wp
     refine⟨⟨⟨_,U.trans (eF.alloc _ _)⟩,rfl⟩, ?_⟩;have bb:=U.size;refine eT ?_;go_wp2_with (at_builtin;go_loud(refine LJ rfl _ _ rfl (U.own aL) (eY b7 bb) rfl [eW] rfl rfl (by simp[Value.oneCell']) (by omega) ?_))
     intro v6 y6 o6 g6 _;obtain⟨A6,c6,rfl⟩:=eR o6;have a2:CH 0 [] ((Value.slice BA o af).ownBlock.toList) y4 y6:=(CH.fg U).trans (CH.F5 (j1 g6) (λ_ _=>eX _) (λo hk=>by rw[hk];simp)) (λi z=>.inl z);have X:=a2.eH a1 (by simp) (λhm=>jX aL a1 (by decide) (FL.1 hm).symm);have bl:=a2.own bk (by simp) (λj hj hm=>(kQ bk aL (by decide)).elim (λh=>by rw[h] at hj;cases hj) (λh=>h (hj.trans (FL.1 hm).symm)));have bM:=eD (ax.trans a2 (λi z=>.inr (aL.lt i (by simpa using z)).1));have f7:=X.frozen 7;have c7:=X.ce 7 (.slice BA o af);have an:CH 0 [] [s] y6 (y6.setCell (eJ s 7) (.slice A6 (o+1) c6)):=CH.uq (eX _) (by simp);have bd:Hid (∃I CA cc BA af xs ys,I<=t.length/\Value.int .i64 ((o:Int)+1)=.int .i64 (I:Nat)/\eQ (y6.setCell ⟨s,7,none⟩ (.slice A6 (o+1) c6)) s 41 #[.slice S l.os.length T,.slice SA l.scope.length sc,.slice L V.length C,.slice F l.rs.length G,.slice bA l.rs.length bc,.slice (some ⟨a3,az,none⟩) t.length E,.slice CA I cc,.slice BA I af]/\(y6.setCell ⟨s,7,none⟩ (.slice A6 (o+1) c6)).ownsRow w9.heap.size 106 18 (.slice CA I cc) I xs/\(y6.setCell ⟨s,7,none⟩ (.slice A6 (o+1) c6)).ownsRow w9.heap.size 111 1 (.slice BA I af) I ys/\CH 0 [] [s] w9 (y6.setCell ⟨s,7,none⟩ (.slice A6 (o+1) c6))):=
      eD ⟨o+1,A5,c5,A6,c6,_,_,by omega,by go_num,X.set 7 _,an.own bl (by simp) (mS bl X (by decide)),an.own o6 (by simp) (mS o6 X (by decide)),bM.out.trans an (λi z=>.inl z)⟩
     clear o6 g6 a2 X bl an bM U aL bk a1 ax al;go_wp
     refine iH ?_;refine fj ?_;repeat(go_big_quiet_step (fail))
     refine eO ?_;refine eT ?_;go_wp
     refine iH ?_;refine fP ?_;clear f7 c7;go_wp
     go_roundw
     case rel=>exact bd
     case measure=>simp[intOf];omega
    ·obtain rfl:o=t.length:=by omega
     have bh:=eD Y;have hl:∀f∈([.slice S l.os.length T,.slice SA l.scope.length sc,.slice L V.length C,.slice F l.rs.length G,.slice bA l.rs.length bc,.slice H t.length E,.slice CA t.length cc,.slice BA t.length af]:fY),f.oneCell'=true:=by simp[Value.oneCell']
     have bN:=eD (v.fK (P:=prog) 41 _ underlying41 rfl (by kernel_rfl));have bO:=eD (ay.eH ak (by simp) (by simp;omega));clear Y be ay B ao v;go_wp2_with (first|(refine eK rfl 41 (.tmp 3) rfl _ rfl _ bN ?_)|(refine eG rfl 41 (.tmp 2) (.tmp 136) rfl w rfl [.slice S l.os.length T,.slice SA l.scope.length sc,.slice L V.length C,.slice F l.rs.length G,.slice bA l.rs.length bc,.slice H t.length E,.slice CA t.length cc,.slice BA t.length af] rfl bO hl (by kernel_rfl) (by rfl) ?_))
     intro z9 b9 g9;have b8:=eD ((fi.grown g9).ext bh);have b':=eD (b9.fK (P:=prog) 41 _ underlying41 rfl (by kernel_rfl));clear b9 g9 bN bO bh;go_wp
     try simp only[Exit.inBlock,Exit.then]
     exact iA (iN rfl rfl b') rfl ⟨_,rfl,rfl,hl,⟨_,_,rfl⟩,⟨H,E,by rw[<-bz.length_eq];rfl⟩,b8⟩
