/- TopOnce: part 21 of the proof. -/
import Derived.Test.YtoaehdgokeicoaaGreatDoorZ17
import Derived.Test.YtoaehdgokeicoaaGreatDoorZ20
set_option maxRecDepth 100000
set_option maxHeartbeats 30000000
set_option linter.all false
namespace Go.Proofs.YtoaehdgokeicoaaGreatDoor
open K9 Z9 Go.Proofs.Tryz
section
variable{w v u W V U:eI}{n k m i j p b c d g N B K G M:Nat}{x y z X Y Z:eS}{D E F:Int}{A C H I:fE}{l L J T:fY}{r s t R S:fe}{f:ik}{a:Act}{O Q:List Oper}{kB:List (eS×fS)}{kJ:kx}{kK:DataW eS}
section
open Go.RowKit Go.Maps
theorem G9{B:Nat}{D:DataW eS}(hf:kg w B n k m D E){f:List gh}(hw:Way D f)(ae:No D (.string (ff f)))(hn:m<400)(aB:0<=E)(aC:E<=1000)(hB:B<=w.heap.size){wp N lp af O:Nat}{SA:fE}{g:List lM}{aD:eS}(ag:eQ w wp 83 #[.pointer (some ⟨N,0,none⟩),.slice SA g.length O,aD])(k1:w.cell? ⟨N,0,none⟩=some (.pointer (some ⟨lp,0,none⟩)))(k2:w.cell? ⟨lp,0,none⟩=some (.pointer (some ⟨af,0,none⟩)))(k3:w.cell? ⟨af,2,none⟩=some (.pointer (some ⟨n,0,none⟩)))(ah:Rd w SA (fO lM.eL g)){c:Nat}(hk:c<g.length)(ai:oC w g[c]){i:lu}(aj:Cm g[c] i)(z:Bh i)(A:jw)(C arg:Int):
 Calls prog 32 #[.pointer (some ⟨wp,0,none⟩),.agg #[.int .i64 2,.string (fI (ff f)),.string A,.slice none 0 0,.int .i64 C,.int .i64 (c:Nat),.int .i64 arg]] w (xi w B n k m D E (ff f) i.enc):=by
 obtain⟨F,Q,hA,aJ,ak⟩:=uK Iz ah hk (by decide);have R:=eD (eF.alloc w (eN #[eE 2,eV (fI (ff f)),eV A,eW,eE C,eE (c:Nat),eE arg] 63));have S:=eD (eQ.new w 63 #[eE 2,eV (fI (ff f)),eV A,eW,eE C,eE (c:Nat),eE arg]);have u:=eD (λd (a:eF w d)=>K5 g[c] i aj z (ai.ext a));have al:=eD (λd (a:eF w d) T U hr=>QO B n k m D E f d (hf.ext a) hw ae hn (eY hB a.size) T U i.enc hr (by have:=z.enc.len;omega) aB aC);have G:=eD z;have V:=eD ag;have W:=eD (And.intro k1 (And.intro k2 k3));have aE:=eD ak;clear hf hw ae ag k1 k2 k3 ah ai aj z ak;subst hA;generalize g[c]=am at*;go_in;go_wp
 generalize w.alloc (eN #[eE 2,eV (fI (ff f)),eV A,eW,eE C,eE (c:Nat),eE arg] 63)=X at*;have o:=S.ew 5 (eE (c:Nat)) rfl;have p:=(R.eH V).ew 1 (.slice (some (eJ F Q)) g.length O) rfl;refine iW [0,1,2,3,4,5,6,7,8,9,10,11,12] [] .done ?_;have aK:decide ((c:Int)<0)=false:=by simp
 have aL:decide (g.length<=c)=false:=by simp;omega
 repeat(go_big_quiet_step (fail))
 refine eO ?_;clear o p;have v:=eD (R.trans (eF.drew X));have Y:=eD ((eF.drew X).eH S);generalize World.drew X=H at*;refine fP ?_;clear R S;go_wp
 have o:=Y.ew 5 (eE (c:Nat)) rfl;have p:=(v.eH V).ew 1 (.slice (some (eJ F Q)) g.length O) rfl;have Z:Hid (∀d,(∃x:EW H,d=x.w)->(loadVar 51 (eJ F (Q+c*9))).run prog d=.ok (fV am.eL.toArray) d):=eD (λd ⟨x,hu⟩=>by subst hu;exact jo _ F _ 51 am.eL _ (λaF hj=>x.cell (v.cell (aE aF _ (gg hj)))) underlying51 rfl (by rw[Iz];kernel_rfl))
 have an:∀b:Im,∀x∈b.eL,x.oneCell'=true:=λb=>by simp[Im.eL,Value.oneCell']
 go_cut [5,6] (λs5 s6 wx=>∃y b,s5=fw y/\s6=eE 0/\eQ wx y 174 b.eL.toArray/\(Gx wx b i/\i.gy.length<=b.sc)/\j5 b.t i.gy=true/\eF H wx)
 case first=>
  refine iW [0,1,2,3,4,5,6,7] [12] (.jG (.e [8] (.q [9,10,11] (.e [12] (.e [13] (.q [14] .done))))) (.e [12] (.e [8] (.q [9,10,11] (.e [13] (.q [14] .done)))))) ?_;iterate 7 (go_big_quiet_step (fail))
  refine fR rfl 51 (.tmp 28) rfl _ _ rfl Z (by simp[Act.put];rfl) ?_;repeat(go_big_quiet_step (fail))
  refine eO ?_;clear o p Z;have j:=eD (eF.drew H);generalize World.drew H=I at*;have u:=eD (λd a=>u d (v.trans a));refine fX ?_ ?_
  ·skip
   refine eT ?_;go_wp
   refine(u _ j).mono ?_;rintro e y1 ⟨b,rfl,r,s,a⟩;go_wp2;refine iH ?_;refine fj ?_;repeat(go_big_quiet_step (fail))
   refine eO ?_;refine eZ ?_;go_wp
   have l:=eQ.new y1 174 rp;refine⟨⟨⟨_,(j.trans a).trans (eF.alloc _ _)⟩,rfl⟩, ?_⟩;refine eT ?_;go_wp2_with (refine eG rfl 174 (.tmp 5) (.tmp 31) rfl y1 rfl b.eL rfl l (an b) (by kernel_rfl) (by rfl) ?_)
   intro y2 b2 J;have K:=(fi.grown J).ext (eF.alloc _ _);go_wp
   refine iH ?_;refine fj ?_;repeat(go_big_quiet_step (fail))
   refine eO ?_;refine fP ?_;go_wp
   go_meet;exact⟨_,b,rfl,rfl,b2,(r.ch (CH.fg (B:=0) (L:=[]) (M:=[]) K) (by simp) (by simp) (by simp) (by simp) (by simp) (by simp) (by simp)).TB G.enc,s,(j.trans a).trans K⟩
  ·skip
   refine eZ ?_;go_wp
   have aG:=eQ.new I 174 rp;have ao:=eF.alloc I (eN rp 174);have aM:=j.size;have j:=eD (j.trans ao);generalize I.heap.size=y at*;generalize I.alloc (eN rp 174)=v4 at*;clear ao;refine⟨⟨⟨_,j⟩,rfl⟩, ?_⟩;refine eT ?_;go_wp
   refine(u _ j).mono ?_;rintro e y1 ⟨b,rfl,r,s,a⟩;go_wp2;refine iH ?_;refine fj ?_;repeat(go_big_quiet_step (fail))
   refine eO ?_;have l:=a.eH aG;refine eT ?_;go_wp2_with (refine eG rfl 174 (.tmp 5) (.tmp 31) rfl y rfl b.eL rfl l (an b) (by kernel_rfl) (by rfl) ?_)
   intro y2 b2 J;have K:=(fi.grown J).ext (j.trans a);have aH:=(r.ch (CH.mg l J) (by decide) (by decide) (by decide) (by decide) (by decide) (by decide) (by decide)).TB G.enc;go_wp
   refine iH ?_;refine fj ?_;repeat(go_big_quiet_step (fail))
   refine eO ?_;refine fP ?_;go_wp
   go_meet;exact⟨_,b,rfl,rfl,b2,aH,s,K⟩
 case rest=>
 obtain⟨y,b,rfl,rfl,l,⟨r,ap⟩,s,a⟩:=hcut;have aq:=eD (GV b i wc r ap s G.vq G.enc);have ar:=eD (l.fK (P:=prog) 174 _ underlying174 rfl (by kernel_rfl));have au:=eD (v.trans a);have av:=eD (a.eH Y);clear l r ap s a u Z v Y o p;go_wp2_with (refine eK rfl 174 (.tmp 5) rfl _ rfl (fV b.eL.toArray) ar ?_)
 refine aq.mono ?_;rintro e w4 ⟨T,U,rfl,ho,a⟩;have t:=eD (au.trans a);have aw:=eD (a.eH av);have ax:=eD (Rd.gY ho);clear ho a aq ar au av;go_wp2;have o:=(t.eH V).ew 0 (fw N) rfl;have p:=oO (t.cell W.1);have e2:=oO (t.cell W.2.1);have e3:=oO (t.cell W.2.2);have e4:=aw.ew 1 (eV (fI (ff f))) rfl;refine iW [0,1,2,3,4,5,6,7,8,9,10,11,12,13,14,15] [] (.e [16] (.q [17] .done)) ?_;repeat(go_big_quiet_step (fail))
 refine eO ?_;clear o p e2 e3 e4;have ad:=eD (t.trans (eF.drew w4));have ay:=eD ((eF.drew w4).rd ax);generalize World.drew w4=v5 at*;refine eT ?_;go_wp
 refine(al v5 ad T U ay).mono ?_;rintro e w6 ⟨rfl,az,aA⟩;have aI:Hid (xi w B n k m D E (ff f) i.enc (fH (eE 0)) w6):=eD ⟨rfl,az,(CH.fg ad).trans aA (λaN hi=>.inl hi)⟩;clear az aA al ad ay t ax aw;go_wp2;refine iH ?_;refine fj ?_;repeat(go_big_quiet_step (fail))
 refine eO ?_;refine fP ?_;go_wp
 go_ret;exact aI
section
def Fv:mB:=[97,177,3,152,157,5,193,206,255,130,118,23,270]
section
variable {w w':eI} {G:Nat->fe} {N B p:Nat} {s:LS} {ex:List (eS×fS)} {stk:fS}
theorem it.pN{L:mB}{B0:Nat}(h:it w B p s ex)(a:CH B0 L [] w w')(b:∀c∈Fv,c∉L:=by decide):it w' B p s ex:=
 ⟨a.eH h.eH (b _ (by decide)) (by simp),h.low,h.vH.ch a (λc d=>b c ((by decide:∀c∈jr,c∈Fv) c d)) (by simp),h.rT.ch a (b _ (by decide)),h.qb.ch a (b _ (by decide)),a.own h.row (b _ (by decide)) (by simp),h.ints.ch a (b _ (by decide)) (by simp),h.ku⟩
theorem gG.pN{L:mB}{B0:Nat}(h:gG w G N B p s ex stk)(b:CH B0 L [] w w')(a:∀c∈Fv,c∉L:=by decide):gG w' G N B p s ex stk:=
 {h with
  mem:=h.mem.pN b a
  each:=λd f=>by have:=h.each d f;exact⟨this.fQ,this.im.ch b (a _ (by decide)) (a _ (by decide)) (by simp),λg=>(this.tZ g).ch b (a _ (by decide)) (a _ (by decide)) (a _ (by decide)),this.rows,this.id,this.iO,this.ms⟩}
theorem gG.rj(h:gG w G N B p s ex stk){rs:List Rg}{rv:eS}{tl:TL}{M:fe}{g:fS}(a:it w' B p {s with rs:=rs,rv:=rv,tl:=tl} ex)(c:CH B (193::jr) M w w')(d:∀i∈M,∀j,¬jT w j i)(k:kW G rs s.os g)(l:tl.iQ.length<=1):gG w' G N B p {s with rs:=rs,rv:=rv,tl:=tl} ex g:=
 {h with
  mem:=a
  each:=λm n=>by
   have:=h.each m n;exact⟨this.fQ,this.im.ch c (by decide) (by decide) d,λf=>{this.tZ f with sy:=(this.tZ f).sy.ch c (by decide) (λb a=>d b a _),bk:=(this.tZ f).bk.ch c (by decide) (λb a=>d b a _),wd:=(this.tZ f).wd.ch c (by decide) (λb a=>d b a _)},this.rows,this.id,this.iO,this.ms⟩
  rg:=k
  iQ:=l}
theorem pB{n:Nat}{R:eS->Option (DataW eS×List MemPlace)}(h:w.ownsMap prog f R k n kK):∀a,¬jT w a k:=λa c=>by obtain⟨g,i,d,_⟩:=h;obtain⟨j,l,m,b,_⟩:=c;rw[d] at b;cases b
theorem rb.pN{m next:Nat}{b:Bool}{a:List Hn}{D:DataW eS}{n:Nat}{L:mB}{M:fe}{B0:Nat}(h:rb w k p m next b a D n)(c:CH B0 L M w w')(d:91∉L:=by decide)(f:k∉M:=by simp)(g:m∉M:=by simp):rb w' k p m next b a D n:={h with eH:=c.eH h.eH d f,map:=c.map h.map g}
theorem z6.pN{mt n:Nat}{D:DataW eS}{L:mB}{M:fe}{B0:Nat}(h:z6 w k m mt n D)(a:CH B0 L M w w')(b:87∉L:=by decide)(c:k∉M:=by simp)(d:mt∉M:=by simp):z6 w' k m mt n D:=⟨a.eH h.eH b c,a.map h.map d⟩
end
theorem iD{m:Nat}{b:ik}{R:eS->Option (DataW eS×List MemPlace)}(a:eQ w n f kJ)(h:w.ownsMap prog b R m k kK):n≠m:=λe=>by obtain⟨d,g,c,_⟩:=h;unfold eQ at a;rw[e,c] at a;cases a
theorem Hg{G:Nat->fe}(a:G 0=[])(N:Nat):pz G N ([],0) 0=(([⟨1,0,[],0,false⟩],1),1,[1]):=by
 have b:mf ([],0) 0=(([⟨1,0,[],0,false⟩],1),1,true):=rfl;unfold pz;rw[b];have c:nQ G (N+1) ([⟨1,0,[],0,false⟩],1) [1] 0=(([⟨1,0,[],0,false⟩],1),[1]):=by
  rw[E' N ([⟨1,0,[],0,false⟩],1) (news:=[1]) (k:=0) (by decide) (t:=([⟨1,0,[],0,false⟩],1)) (more:=[]) (by have:yy [⟨1,0,[],0,false⟩] ([1]:fe)[0]=0:=rfl;simp only[this,a];rfl)]
  exact E9 N _ (by decide)
 simp only[nV];rw[c]
end
def Fw:mB:=193::91::jz
def gS(n:Int)(out TS:eS):fY:=[eE 0,eE n,out,TS,eE 0,eE 0,eE 0,eE 0,eE 0,eV ⟨#[]⟩,eE 0,eV ⟨#[]⟩,eE 0]
def Lr(tp a:Int):DataW eS:=(DataW.map []).put (.int .i64 0) (.held (.agg (pK 0 tp 0 (a+1016) 0 a false).toArray))
def BL(w:eI)(G:Nat->fe)(N B pp lp mt m p:Nat)(ex0:List (eS×fS))(e:Ending)(w':eI):Prop:=
 ∃A c s ex1 a tp b D,e=fH (fV (gS 0 (.slice A 0 c) (eW)).toArray)/\gG w' G N B p s (ex0++ex1) [a]/\(∀o∈s.os,lW o.im (ii G o.fQ) ex1)/\s.gd=[⟨1,0,[],1,true⟩]/\s.last=1/\s.inits=1/\
  rb w' lp p m 1 true [⟨1,1,1⟩] D 1/\z6 w' pp lp mt 1 (Lr tp a)/\s.tl.iQ=[(0,tp,b)]/\LZ s.tl s.fb/\s.tl.m3≠b/\(∀x∈s.maps,x≠m/\x≠mt)/\1∈s.scope/\(∀o∈s.os,o.base<=4294967296)/\CH B Fw [m,mt] w w'
theorem CH.wo{B:Nat}{L:mB}{M M':fe}{a:eI}(h:CH B L M a w)(b:∀c∈L,c∈Fw)(d:∀i∈M,i∈M'):CH B Fw M' a w:=h.mono b d
theorem Ls{G:Nat->fe}{N B p mt:Nat}{s:LS}(h:gG w G N B p s kB [])(hs:s.os=[]/\s.last=0/\s.inits=0/\s.tl.iQ=[])(aj:G 0=[])(hb:eQ w n 91 (L5 p k 0 false))(hm:w.ownsMap prog 3 rV k 0 (.map []))(hp:z6 w m n mt 0 (.map []))(hB:B<=n/\B<=k/\B<=mt)(a1:k≠mt){cs:kx}(ay:eQ w j 83 cs)(ak:cs[0]? =some (.pointer (some ⟨m,0,none⟩))){nm:jw}(ha:vW 0 nm):
 Calls prog 38 #[.pointer (some ⟨j,0,none⟩),.string nm] w (BL w G N B m n mt k p kB):=by
 obtain⟨a2,bN,bO,bP⟩:=hs;have bQ:=hb.lt;have t:=eF.alloc w (eN jf 71);have bR:=eD t;have az:=eD (eQ.new w 71 jf);have a3:=eD (O7 (h.ext t) ⟨hB.1,hB.2.1⟩ a2 aj (by omega) (t.eH hb) (t.lD hm) nm ha);have al:=eD (hp.ext t);have aA:=eD (t.eH ay);have c0:=t.cell (ay.cell 0 ak);have W:=eD (t.lD hm);have X:=(hp.ext t).eH.ce 0 (fw n);clear h hb hm hp ay t;go_in;go_wp
 generalize w.alloc (eN jf 71)=w1 at*;refine a3.mono ?_;rintro e w2 ⟨y,J,b4,b6,rfl,Y,a4,aB,aC,a5,a6,aD,E,aE,a7,a8,Z⟩;have e0:s.gd=[]:=by simp[LS.gd,a2]
 rw[e0,bN,Hg aj] at aB;simp only[rH] at aB;obtain⟨⟨aF,a9⟩,rfl,_⟩:=aB;have E:y.tl.iQ=[]:=by rw[bP] at E;exact O0.1 E
 have a':y.os.length=1:=by have:=congrArg List.length aF;simpa[LS.gd] using this.symm
 have bb:j≠k/\m≠k:=⟨iD aA W,iD al.eH W⟩;have aG:=Z.eH aA (by decide) (by simp[bb.1]);have aH:=al.pN Z (by decide) (by simp[bb.2]) (by simp;exact λe=>a1 e.symm);have bc:=Z.eH az (by decide) (by simp[iD az W]);obtain⟨b,z⟩:∃aI,aI=y.jg (y.os.map OV.held):=⟨_,rfl⟩;have aJ:b.maps=y.maps:=by rw[z];rfl
 have ad:b.os=y.os.map OV.held:=by rw[z]
 have I:b.tl=y.tl:=by rw[z]
 have aK:b.fb=y.fb:=by rw[z]
 have bd:b.last=1:=by rw[z];exact a9.symm
 have be:b.inits=0:=by rw[z];exact a6.trans bO
 have bf:b.gd=[⟨1,0,[],0,true⟩]:=by
  have e:b.gd=y.gd.map λd=>{d with keep:=true}:=by simp only[LS.gd,ad,jL];rfl
  rw[e,<-aF];rfl
 rw[<-z] at Y;have bg:∀d∈b.os,lW d.im (ii G d.fQ) J:=λd f=>by rw[ad] at f;obtain⟨q,A,rfl⟩:=fy.1 f;exact a4 q A
 have aL:∀x∈b.maps,x≠k/\x≠mt:=λx r=>by rw[aJ] at r;have u:=aE x r;have h2:=W.lt;have h3:=al.map.lt;omega
 have bh:b.os.length=1:=by rw[ad,gW];exact a'
 have bi:=eD (wW (id:=0) (pc:=0) Y.mem Y.rg (by omega) (by decide) aH aC (by omega) rfl (by rw[I,E];simp) (by rw[I,E];simp) (by omega) (by rw[I,aK];exact aD) (by rw[I,E];simp) (λr=>(aL mt r).2 rfl) hB.2.2);have bj:rb w2 n p k 1 true [⟨1,1,1⟩] ((DataW.map []).put (kI 1) (.held (z3 [⟨1,1,1⟩] 1))) 1:=⟨aC,a5,(rl.nil (λ_=>undef)).put 1 (by simp) (by simp),by simp,by simp,by simp⟩;have ae:=eD bj;have F:=eD Y;have K:=eD aH;have am:=eD aG;have an:=eD bc;have bk:=eD Z;have L:=eD aL;have aM:=eD bg;have af:=eD (And.intro bf (And.intro bd (And.intro be bh)));have ag:Hid (b.tl.iQ=[]/\LZ b.tl b.fb):=eD ⟨by rw[I];exact E,by rw[I,aK];exact aD⟩;have d0:=aG.cell 0 ak;have bl:Hid (1∈b.scope):=eD (by rw[z];exact a7);have bm:Hid (∀d∈b.os,d.base<=4294967296):=eD (λd f=>by rw[ad] at f;obtain⟨q,A,rfl⟩:=fy.1 f;exact a8 q A)
 have bn:Hid (w1.heap.size<=b.tl.m3):=eD (aE _ (by rw[<-aJ];simp[LS.maps]));clear a7 a8 Y a4 aC a5 a6 aD E aE Z aF a9 aG aH bc z aJ ad I aK bd be bf bg aL bj a' bh a3 aA az al W c0 X e0;go_wp21
 refine bi.mono ?_;rintro e w3 ⟨g1,X,g2,c2,g3,c3,v3,M,rfl,b7,bo,bp,O⟩;have aN:=F.rj bo O (λbS hk=>by
  simp only[fm,gp,gq] at hk;rcases hk with rfl|rfl
  ·exact pB F.mem.rT.rj
  ·exact pB K.map) (F.out.rg.Pe (by have:=af.out.2.2.2;omega) (by decide) g1 X g2 c2 g3 c3) (by simp[TL.start,ag.out.1])
 generalize iq 64 (mX b.rs g1 X g2 c2) 4096=tp at*;generalize b8:mh b.rs+256=a at*;have aO:z6 w3 m n mt 1 (Lr tp a):=bp;obtain⟨c,ao⟩:∃aI,aI=({b with rs:=nz (mX b.rs g1 X g2 c2) tp 3 64 g3 c3,rv:=v3,tl:=b.tl.start 0 tp M}:LS):=⟨_,rfl⟩;rw[<-ao] at aN;have o:c.os=b.os/\c.last=b.last/\c.inits=b.inits/\c.fb=b.fb/\c.tl=b.tl.start 0 tp M:=by rw[ao];exact⟨rfl,rfl,rfl,rfl,rfl⟩
 have ap:j∉[b.tl.m3,mt]/\n∉[b.tl.m3,mt]/\k∉[b.tl.m3,mt]:=by
  have h3:b.tl.m3∈b.maps:=by simp[LS.maps]
  refine⟨?_, ?_, ?_⟩<;>simp only[fm,gp,gq,wJ]
  ·exact⟨iD am F.mem.rT.rj,iD am K.map⟩
  ·exact⟨iD ae.eH F.mem.rT.rj,iD ae.eH K.map⟩
  ·exact⟨λe=>(L _ h3).1 e.symm,a1⟩
 have aP:=O.eH am (by decide) ap.1;have bq:=ae.pN O (by decide) ap.2.1 ap.2.2;have br:=O.eH an (by decide) (by simp[iD an F.mem.rT.rj,iD an K.map]);have bs:∀x∈c.maps,x≠k/\x≠mt:=λx r=>by
  simp only[LS.maps,o.2.2.2.1,o.2.2.2.2,TL.start,ag.1,j6,hU,jt,fm,gp,gq] at r;have aq:∀Q,(Q=b.tl.m1\/Q=b.tl.m2\/Q=b.tl.m3\/Q=b.fb)->Q∈b.maps:=λQ hy=>by
   simp only[LS.maps,fm];rcases hy with h|h|h|h
   ·exact .inl h
   ·exact .inr (.inl h)
   ·exact .inr (.inr (.inl h))
   ·exact .inr (.inr (.inr (.inl h)))
  rcases r with h|h|h|h|h
  ·exact L x (aq x (.inl h))
  ·exact L x (aq x (.inr (.inl h)))
  ·exact L x (aq x (.inr (.inr (.inl h))))
  ·exact L x (aq x (.inr (.inr (.inr h))))
  ·have u:=ae.map.lt;have h2:=K.map.lt;omega
 have bt:CH B Fw [k,mt] w1 w3:=(bk.wo (M':=[k,mt]) (by decide) (by simp)).trans (O.wo (M':=[b.tl.m3,mt]) (by decide) (λ_ h=>h)) (λi l=>by
  simp only[fm,gp,gq] at l;rcases l with rfl|rfl
  ·exact .inr bn
  ·exact .inl (by simp))
 have bu:c.gd=[⟨1,0,[],0,true⟩]:=by rw[show c.gd=c.os.map OV.ob from rfl,o.1];exact af.1
 have bv:∀d∈c.os,lW d.im (ii G d.fQ) (kB++J):=λd f=>(aM d (by rw[<-o.1];exact f)).mono (λ_ h=>gT _ h);have bT:Hid (∀d∈c.os,lW d.im (ii G d.fQ) J):=eD (λd f=>aM d (by rw[<-o.1];exact f));have ar:=eD (qJ aO (id:=0) (pc:=0) (tp:=tp) (x:=0) (sp:=a+1016) (i:=0) (stack:=a) (over:=false) ⟨by omega,by omega⟩ (At.put (D:=DataW.map []) ⟨_,rfl⟩ (show WideAt.IsKeyLit (.int .i64 0) from trivial) _));obtain⟨R,hC⟩:∃R,R=nR 0 tp 0 (a+1016) 0:=⟨_,rfl⟩;have HC:=eD hC;have aQ:R.length=19:=by rw[hC];rfl
 have bU:∀ah∈R,ah.oneCell'=true:=by rw[hC];exact se _ _ _ _ _
 unfold kX at ar;rw[<-hC] at ar;have v:=eD aN;have aR:=eD bq;have aS:=eD aO;have bw:=eD br;have bV:=eD aP;have bW:=eD bs;have bX:=eD bt;have bx:=eD bv;have g:Hid (c.gd=[⟨1,0,[],0,true⟩]/\c.last=1/\c.inits=0/\c.tl.iQ=[(0,tp,M)]/\LZ c.tl c.fb/\c.tl.m3≠M):=eD ⟨bu,o.2.1.trans af.2.1,o.2.2.1.trans af.2.2.1,by rw[o.2.2.2.2];simp[TL.start,ag.1],by rw[o.2.2.2.2,o.2.2.2.1];exact ag.2,by rw[o.2.2.2.2];have u:=F.mem.rT.rj.lt;show b.tl.m3≠M;omega⟩;have d0:=aP.cell 0 ak;have bY:Hid (1∈c.scope):=eD (by rw[ao];exact bl);have bZ:Hid (∀d∈c.os,d.base<=4294967296):=eD (by rw[o.1];exact bm);clear bl bm;clear hC bo bp aO O aN ao o ap aP bq br bs bt bu bv bi ae F K am an bk L aM af ag bn;go_wp21
 refine ar.mono ?_;rintro e w4 ⟨rfl,bz⟩;have aT:=eD bz;have bA:=eQ.new w4 108 nJ;clear bz ar d0;go_wp2_with (refine eG rfl 108 (.tmp 7) (.tmp 39) rfl w4 rfl R rfl bA bU (by rw[aQ];kernel_rfl) (by rw[aQ];rfl) ?_)
 intro w5 b5 g5;have au:=(fi.grown g5).ext (aT.trans (eF.alloc _ _)) (λb' hz=>by simp only[fd] at hz;have:=aT.size;omega);have b0:=eD au;have e0:=oO ((au.eH bV).cell 0 ak);have S:=(au.eH aS.eH).ew 0 (fw n) rfl;have bB:Hid (∀T,(∃ah:EW w5,T=ah.w)->(loadVar 108 (eJ w4 0)).run prog T=.ok (fV R.toArray) T):=eD (λT ⟨ah,hu⟩=>by subst hu;exact(ah.ext.eH b5).fK (P:=prog) 108 _ underlying108 rfl (by rw[aQ];kernel_rfl))
 clear bA b5 g5 au aT;go_wp
 refine iW [0,1,2,3,4,5,6,7] [] (.e [8] (.q [9,10,11,12,13] .done)) ?_;iterate 7 (go_big_quiet_step (fail))
 refine fR rfl 108 (.tmp 7) rfl _ _ rfl bB (by simp[Act.put];rfl) ?_;refine eO ?_;clear e0 S bB;have H:=eD (b0.trans (eF.drew w5));generalize World.drew w5=v6 at*;obtain⟨pl,U,aU⟩:=I6 (G:=G) (N:=N) (s:=c) (B:=B) (p:=p) v.out.up (by rw[<-jD];exact v.out.ids) v.out.qy (λd f=>by obtain⟨q,A,rfl⟩:=fy.1 f;exact(v.out.each q A).fQ) (λd f=>by rw[g.1,fF] at f;subst f;unfold jM;simp only[aj];exact .nil) (by have:=v.out.iO;have:=v.out.n12;omega) (λd f=>by have:=(v.out.each d f).iO;omega) (i:=0) (by have:=congrArg List.length g.out.1;simp[LS.gd] at this;omega)
 have aV:0<c.os.length:=by have:=congrArg List.length g.1;simp[LS.gd] at this;omega
 have aW:c.os[0].id=1:=by have u:c.os[0].ob∈c.gd:=fy.2 ⟨_,eU aV,rfl⟩;rw[g.1,fF] at u;exact congrArg Ob.id u
 rw[aW] at U;have b1:pl=[0]:=by
  have S:kr c.gd 0=0:=by rw[g.1];rfl
  have e2:qa c.gd=[]:=by rw[g.out.1];rfl
  rw[S,e2,mc,fG (by simp),aj] at aU;have bC:=congrArg List.length aU;simp only[gW,Q0,j6,iw,jH] at bC;have u:c.os.length=1:=by have:=congrArg List.length g.1;simpa[LS.gd] using this
  match pl,bC,U.2.1 with
  |[bD],_,hj=>
   have:=hj bD (by simp);have:bD=0:=by omega
   rw[this]
 subst b1;have bE:hY c.os [0]=[]:=by
  have S:kr (c.os.map OV.ob) 0=0:=by rw[show c.os.map OV.ob=c.gd from rfl,g.out.1];rfl
  simp[hY,S]
 have bF:gw c.os [0]=[1]:=by simp[gw,jx,aV,aW]
 have av:=eD (Lj (v.ext H) bx (aR.ext H) (x:=⟨1,1,1⟩) (by simp) rfl (by rw[g.2.2.1];omega) (a:=a) (by simp) tp 0 (pl:=[0]) (λT r=>U.2.2 T _ ((v.ext H).mem.ext r)) U.1 U.2.1);unfold kX oN at av;rw[bE,bF,<-HC] at av;clear U aU bE bF aW aV;refine eT ?_;go_wp
 refine av.mono ?_;rintro e w7 ⟨aw,ax,s',rfl,l⟩;have ai:=l.ch;have aX:=eD (ai.eH (H.eH bw));have aY:s'.gd=[⟨1,0,[],1,true⟩]/\s'.inits=1:=by have u:=l.gd;rw[g.1,g.2.2.1] at u;exact⟨congrArg Prod.fst u,congrArg Prod.snd u⟩
 have C:=l.pg;have aZ:∀d∈s'.os,lW d.im (ii G d.fQ) J:=λd f=>by obtain⟨q,A,S,e2,e3,_⟩:=uU l.st f;rw[<-e2,<-e3];exact bT q A
 have bG:=(CH.fg bR).trans (bX.trans (M':=[]) (CH.fg H) (by simp)) (λi l=>.inl l);have bH:=bG.trans (M':=[]) (ai.wo (by decide) (by simp)) (by simp);have bI:=(l.ok.OZ (ex':=kB++J) (tm ..) (λd f=>(aZ d f).mono (λ_ h=>gT _ h)));have bJ:=(aR.ext H).pN ai;have bK:=(aS.ext H).pN ai;have bL:Hid (∀V,eQ V w 71 (gS 0 (.slice aw 0 ax) (eW)).toArray->w7.grownBy V (some w)->BL w G N B m n mt k p kB (fH (fV (gS 0 (.slice aw 0 ax) (eW)).toArray)) V):=eD (λV ca bM=>by
  have a0:=CH.mg aX bM;refine⟨aw,ax,s',J,a,tp,M,_,rfl,bI.pN a0,aZ,aY.1,C.1.trans g.2.1,aY.2,bJ.pN a0,bK.pN a0,by rw[C.2.2.2.1];exact g.2.2.2.1,by rw[C.2.2.2.1,C.2.2.2.2.2.2.2];exact g.2.2.2.2.1,by rw[C.2.2.2.1];exact g.2.2.2.2.2,λx r=>bW x (by simpa only[LS.maps,C.2.2.2.1,C.2.2.2.2.2.2.2] using r),by rw[C.2.1];exact bY,λd f=>by obtain⟨q,A,_,_,_,e⟩:=uU l.st f;rw[<-e];exact bZ.out q A, ?_⟩
  refine bH.trans (M':=[w.heap.size]) (fi.mono (fi.grown bM) λbS hk=> ?_) (λi l=>.inr (by rw[fF.1 l];exact fJ _));simp only[fd] at hk;subst hk;exact⟨eY hB.1 (lN bQ),.inr (by simp)⟩)
 clear l ai aY C aZ bG bH bI bJ bK av H bw aR aS v bx;go_wp2;refine iH ?_;refine fj ?_;repeat(go_big_quiet_step (fail))
 refine eO ?_;refine fP ?_;go_wp2_with (refine eG rfl 71 (.tmp 4) (.tmp 55) rfl w rfl (gS 0 (.slice aw 0 ax) (eW)) rfl aX (by simp[gS,Value.oneCell']) (by kernel_rfl) (by rfl) ?_)
 intro V b9 g9;have b2:=eD (b9.fK (P:=prog) 71 _ underlying71 rfl (by kernel_rfl));have b3:=eD (bL V b9 g9);clear b9 g9 bL aX;go_wp
 try simp only[Exit.inBlock,Exit.then]
 exact iA (iN rfl rfl b2) rfl b3
def tu(pp:Nat)(SA:fE)(sn sc:Nat)(d:Int):kx:=#[fw pp,.slice SA sn sc,eE d]
def iE(k:Int)(nm tob:jw)(bA:fE)(bn bc:Nat)(th n arg:Int):fY:=[eE k,eV nm,eV tob,.slice bA bn bc,eE th,eE n,eE arg]
def Lw(B:Nat)(w w':eI):Prop:=fi (λk=>B<=k) w w'
theorem Lw.trans{B:Nat}{a b c:eI}(h:Lw B a b)(k:Lw B b c):Lw B a c:=fi.trans h k λ_ d=>.inl d
theorem Lw.fg{B:Nat}{a b:eI}(h:eF a b):Lw B a b:=fi.fg h
theorem CH.lw{B B0:Nat}{L:mB}{M:fe}{a b:eI}(h:CH B0 L M a b)(c:B<=B0):Lw B a b:=fi.mono h λf d=>eY c d.1
theorem Lw.ext{B:Nat}{a b:eI}(h:Lw B a b)(c:eF w a)(d:w.heap.size<=B):eF w b:=fi.ext h c λg f=>eY d f
theorem CH.b0{B:Nat}{L:mB}{M:fe}{a b:eI}(h:CH B L M a b):CH 0 L M a b:=fi.mono h λd c=>⟨eX _,c.2⟩
def wj(w:eI)(R:fY->eI->Prop)(e:Ending)(w':eI):Prop:=∃l wm,e=fH (fV l.toArray)/\l.length=13/\(∀u∈l,u.oneCell'=true)/\R l wm/\CH w [71] [] wm w'
theorem Ps(a:eQ w n 83 (tu k A i m D))(S:0<=D/\D<400)(b c:jw)(d:fE)(f g:Nat)(j l arg:Int){R:eI->Prop}(v:∀r,CH n [83] [] w r->eQ r n 83 (tu k A i m (D+1))->Calls prog 32 #[fw n,fV (iE 2 b c d f g j l arg).toArray] r λe x=>e=fH (eE 0)/\R x/\∀y,eQ r (w.heap.size+1) 71 y->eQ x (w.heap.size+1) 71 y):
 Calls prog 15 #[fw n,fV (iE 2 b c d f g j l arg).toArray] w (wj w λT U=>T=gS 0 (eW) (eW)/\R U):=by
 have z:=eD v;obtain⟨ae,af⟩:=S;have ag:=a.lt;unfold tu at a;have V:=a.ce 2 (eE D);have f2:=a.frozen 2;have C:=CH.set (B:=n) (L:=[83]) (M:=[]) a (fJ _) (by simp) 2 (eE (D+1));have E:=a.set 2 (eE (D+1));have s:(w.setCell (eJ n 2) (eE (D+1))).heap.size=w.heap.size:=by simp
 unfold iE;clear v a;go_in;go_wp
 clear V f2;generalize w.setCell (eJ n 2) (eE (D+1))=o at*;have t:=(eF.alloc o (eN #[eE 2,eV b,eV c,.slice d f g,eE j,eE l,eE arg] 63)).trans (eF.alloc _ (eN jf 71));have F:=(eF.alloc (o.alloc (eN #[eE 2,eV b,eV c,.slice d f g,eE j,eE l,eE arg] 63)) (eN jf 71)).eH (eQ.new o 63 #[eE 2,eV b,eV c,.slice d f g,eE j,eE l,eE arg]);have u:=eQ.new (o.alloc (eN #[eE 2,eV b,eV c,.slice d f g,eE j,eE l,eE arg] 63)) 71 jf;rw[fM,s] at u;rw[s] at F;have G:=eD (t.eH E);have H:=eD (C.ext t);generalize(o.alloc (eN #[eE 2,eV b,eV c,.slice d f g,eE j,eE l,eE arg] 63)).alloc (eN jf 71)=W at*;have I:=eD u;clear t F u E C s;refine(z W H G).mono ?_;rintro e J ⟨rfl,K,p⟩;have X:=eD K;have N:=eD (p _ I);clear K p z I G H;go_wp2_with (refine eG rfl 71 (.tmp 4) (.tmp 52) rfl (w.heap.size+1) rfl (gS 0 (eW) (eW)) rfl N (by simp[gS,Value.oneCell']) (by kernel_rfl) (by rfl) ?_)
 intro Y O Q;have Z:=eD (O.fK (P:=prog) 71 _ underlying71 rfl (by kernel_rfl));have ad:Hid (CH w [71] [] J Y):=eD (fi.mono (fi.grown Q) λah p=>by simp only[fd] at p;subst p;exact⟨tj _,.inl ⟨_,_,_,N,by simp⟩⟩)
 clear O Q;go_wp
 try simp only[Exit.inBlock,Exit.then]
 exact iA (iN rfl rfl Z) rfl ⟨_,J,rfl,rfl,by simp[gS,Value.oneCell'],⟨rfl,X⟩,ad⟩
theorem Pu(d:eQ w n 83 (tu k A i m D))(hd:0<=D/\D<400)(c g:jw)(j:fE)(l o:Nat)(p r arg:Int){R:eI->Prop}{v x z:Nat}(I:∀b,CH n [83] [] w b->b.cell? (eJ k 0)=some (fw v)/\b.cell? (eJ v 0)=some (fw x)/\b.cell? (eJ x 2)=some (fw z))(J:∀b,CH n [83] [] w b->eQ b n 83 (tu k A i m (D+1))->Calls prog 31 #[fw z,eV c] b λe K=>e=fH (eE 0)/\R K/\∀N,eQ b (w.heap.size+1) 71 N->eQ K (w.heap.size+1) 71 N):
 Calls prog 15 #[fw n,fV (iE 1 c g j l o p r arg).toArray] w (wj w λad wm=>ad=gS 0 (eW) (eW)/\R wm):=by
 have O:=eD J;have y:=eD I;clear I;obtain⟨ah,ai⟩:=hd;have aj:=d.lt;unfold tu at d;have c2:=d.ce 2 (eE D);have f2:=d.frozen 2;have Q:=CH.set (B:=n) (L:=[83]) (M:=[]) d (fJ _) (by simp) 2 (eE (D+1));have S:=d.set 2 (eE (D+1));have C:(w.setCell (eJ n 2) (eE (D+1))).heap.size=w.heap.size:=by simp
 unfold iE;clear J d;go_in;go_wp
 clear c2 f2;generalize w.setCell (eJ n 2) (eE (D+1))=s at*;have E:=(eF.alloc s (eN #[eE 1,eV c,eV g,.slice j l o,eE p,eE r,eE arg] 63)).trans (eF.alloc _ (eN jf 71));have F:=(eF.alloc (s.alloc (eN #[eE 1,eV c,eV g,.slice j l o,eE p,eE r,eE arg] 63)) (eN jf 71)).eH (eQ.new s 63 #[eE 1,eV c,eV g,.slice j l o,eE p,eE r,eE arg]);have G:=eQ.new (s.alloc (eN #[eE 1,eV c,eV g,.slice j l o,eE p,eE r,eE arg] 63)) 71 jf;rw[fM,C] at G;rw[C] at F;have H:=eD (E.eH S);have t:=eD (Q.ext E);generalize(s.alloc (eN #[eE 1,eV c,eV g,.slice j l o,eE p,eE r,eE arg] 63)).alloc (eN jf 71)=f at*;have T:=eD F;have U:=eD G;clear E F G S Q C;have e0:=H.ew 0 (fw k) rfl;have e1:∀a:EW f,a.w.cell? (eJ k 0)=some (fw v):=λa=>(y _ (t.ext a.ext)).1;have e2:∀a:EW f,a.w.cell? (eJ v 0)=some (fw x):=λa=>(y _ (t.ext a.ext)).2.1;have e3:∀a:EW f,a.w.cell? (eJ x 2)=some (fw z):=λa=>(y _ (t.ext a.ext)).2.2;have e4:=T.ew 1 (eV c) rfl;refine iW [0,1,2,3,4,5,6,7,8,9,10,11,12,13,14] [] (.e [15] (.q [16] (.e [17] .done))) ?_;repeat(go_big_quiet_step (fail))
 refine eO ?_;clear e0 e1 e2 e3 e4;have V:=eD (t.ext (eF.drew f));have W:=eD ((eF.drew f).eH U);have ae:=eD ((eF.drew f).eH H);generalize World.drew f=v0 at*;refine eT ?_;go_wp
 refine(O v0 V ae).mono ?_;rintro e X ⟨rfl,Y,u⟩;have HR:=eD Y;have Z:=eD (u _ W);clear Y u O T U H t V W y;go_wp2;refine iH ?_;refine fj ?_;repeat(go_big_quiet_step (fail))
 refine eO ?_;refine eT ?_;go_wp2_with (refine eG rfl 71 (.tmp 4) (.tmp 46) rfl (w.heap.size+1) rfl (gS 0 (eW) (eW)) rfl Z (by simp[gS,Value.oneCell']) (by kernel_rfl) (by rfl) ?_)
 intro w4 b4 g4;have af:=eD (b4.fK (P:=prog) 71 _ underlying71 rfl (by kernel_rfl));have ag:Hid (CH w [71] [] X w4):=eD (fi.mono (fi.grown g4) λak u=>by simp only[fd] at u;subst u;exact⟨tj _,.inl ⟨_,_,_,Z,by simp⟩⟩)
 clear b4 g4;go_wp
 refine iH ?_;refine fP ?_;go_wp
 try simp only[Exit.inBlock,Exit.then]
 exact iA (iN rfl rfl af) rfl ⟨_,X,rfl,rfl,by simp[gS,Value.oneCell'],⟨rfl,HR⟩,ag⟩
theorem RP(a:eQ w n 83 (tu k A i m D))(V:0<=D/\D<400)(b c:jw)(d:fE)(f g:Nat)(j l arg:Int){R:fY->eI->Prop}(y:∀s,CH n [83] [] w s->eQ s n 83 (tu k A i m (D+1))->Calls prog 38 #[fw n,eV b] s λe z=>∃o:fY,e=fH (fV o.toArray)/\o.length=13/\(∀W∈o,W.oneCell'=true)/\R o z/\∀C,eQ s (w.heap.size+1) 71 C->eQ z (w.heap.size+1) 71 C):
 Calls prog 15 #[fw n,fV (iE 8 b c d f g j l arg).toArray] w (wj w R):=by
 have E:=eD y;obtain⟨af,ag⟩:=V;have ah:=a.lt;unfold tu at a;have X:=a.ce 2 (eE D);have f2:=a.frozen 2;have F:=CH.set (B:=n) (L:=[83]) (M:=[]) a (fJ _) (by simp) 2 (eE (D+1));have G:=a.set 2 (eE (D+1));have u:(w.setCell (eJ n 2) (eE (D+1))).heap.size=w.heap.size:=by simp
 unfold iE;clear y a;go_in;go_wp
 clear X f2;generalize w.setCell (eJ n 2) (eE (D+1))=p at*;have v:=(eF.alloc p (eN #[eE 8,eV b,eV c,.slice d f g,eE j,eE l,eE arg] 63)).trans (eF.alloc _ (eN jf 71));have H:=(eF.alloc (p.alloc (eN #[eE 8,eV b,eV c,.slice d f g,eE j,eE l,eE arg] 63)) (eN jf 71)).eH (eQ.new p 63 #[eE 8,eV b,eV c,.slice d f g,eE j,eE l,eE arg]);have x:=eQ.new (p.alloc (eN #[eE 8,eV b,eV c,.slice d f g,eE j,eE l,eE arg] 63)) 71 jf;rw[fM,u] at x;rw[u] at H;have I:=eD (v.eH G);have J:=eD (F.ext v);generalize(p.alloc (eN #[eE 8,eV b,eV c,.slice d f g,eE j,eE l,eE arg] 63)).alloc (eN jf 71)=Y at*;have K:=eD x;clear v H x G F u;refine(E Y J I).mono ?_;rintro e N ⟨o,rfl,t,O,Q,r⟩;have Z:=eD Q;have S:=eD (r _ K);clear Q r E K I J;go_wp2_with (refine eG rfl 71 (.tmp 4) (.tmp 161) rfl (w.heap.size+1) rfl o rfl S O (by rw[t];kernel_rfl) (by rw[t];rfl) ?_)
 intro w4 T U;have ad:=eD (T.fK (P:=prog) 71 _ underlying71 rfl (by rw[t];kernel_rfl));have ae:Hid (CH w [71] [] N w4):=eD (fi.mono (fi.grown U) λai r=>by simp only[fd] at r;subst r;exact⟨tj _,.inl ⟨_,_,_,S,by simp⟩⟩)
 clear T U;go_wp
 try simp only[Exit.inBlock,Exit.then]
 exact iA (iN rfl rfl ad) rfl ⟨_,N,rfl,t,O,Z,ae⟩
theorem Pv(a:eQ w k 83 (tu m A j i D))(S:0<=D/\D<400)(b c:jw)(d:fE)(f g:Nat)(l n arg:Int){R:eI->Prop}(v:∀r,CH k [83] [] w r->eQ r k 83 (tu m A j i (D+1))->Calls prog 41 #[fw k,fV (iE 13 b c d f g l n arg).toArray] r λe x=>e=fH (eE 0)/\R x/\∀y,eQ r (w.heap.size+1) 71 y->eQ x (w.heap.size+1) 71 y):
 Calls prog 15 #[fw k,fV (iE 13 b c d f g l n arg).toArray] w (wj w λT U=>T=gS 0 (eW) (eW)/\R U):=by
 have z:=eD v;obtain⟨ae,af⟩:=S;have ag:=a.lt;unfold tu at a;have V:=a.ce 2 (eE D);have f2:=a.frozen 2;have C:=CH.set (B:=k) (L:=[83]) (M:=[]) a (fJ _) (by simp) 2 (eE (D+1));have E:=a.set 2 (eE (D+1));have s:(w.setCell (eJ k 2) (eE (D+1))).heap.size=w.heap.size:=by simp
 unfold iE;clear v a;go_in;go_wp
 clear V f2;generalize w.setCell (eJ k 2) (eE (D+1))=o at*;have t:=(eF.alloc o (eN #[eE 13,eV b,eV c,.slice d f g,eE l,eE n,eE arg] 63)).trans (eF.alloc _ (eN jf 71));have F:=(eF.alloc (o.alloc (eN #[eE 13,eV b,eV c,.slice d f g,eE l,eE n,eE arg] 63)) (eN jf 71)).eH (eQ.new o 63 #[eE 13,eV b,eV c,.slice d f g,eE l,eE n,eE arg]);have u:=eQ.new (o.alloc (eN #[eE 13,eV b,eV c,.slice d f g,eE l,eE n,eE arg] 63)) 71 jf;rw[fM,s] at u;rw[s] at F;have G:=eD (t.eH E);have H:=eD (C.ext t);generalize(o.alloc (eN #[eE 13,eV b,eV c,.slice d f g,eE l,eE n,eE arg] 63)).alloc (eN jf 71)=W at*;have I:=eD u;clear t F u E C s;refine(z W H G).mono ?_;rintro e J ⟨rfl,K,p⟩;have X:=eD K;have N:=eD (p _ I);clear K p z I G H;go_wp2_with (refine eG rfl 71 (.tmp 4) (.tmp 207) rfl (w.heap.size+1) rfl (gS 0 (eW) (eW)) rfl N (by simp[gS,Value.oneCell']) (by kernel_rfl) (by rfl) ?_)
 intro Y O Q;have Z:=eD (O.fK (P:=prog) 71 _ underlying71 rfl (by kernel_rfl));have ad:Hid (CH w [71] [] J Y):=eD (fi.mono (fi.grown Q) λah p=>by simp only[fd] at p;subst p;exact⟨tj _,.inl ⟨_,_,_,N,by simp⟩⟩)
 clear O Q;go_wp
 try simp only[Exit.inBlock,Exit.then]
 exact iA (iN rfl rfl Z) rfl ⟨_,J,rfl,rfl,by simp[gS,Value.oneCell'],⟨rfl,X⟩,ad⟩
def L7(w w':eI):Prop:=∀k cs,eQ w k 71 cs->eQ w' k 71 cs
def CY(w:eI)(R:fY->eI->Prop)(e:Ending)(w':eI):Prop:=∃l wm,e=fH (fV l.toArray)/\l.length=13/\(∀u∈l,u.oneCell'=true)/\R l wm/\L7 w wm/\CH w [71] [] wm w'
theorem Pw{R:Int->fE->Nat->Nat->eI->Prop}(D:w.cell? (eJ n 0)=some (fw k))(E:w.cell? (eJ k 0)=some (fw i)){C:fY}(V:C.length=19)(a j:jw)(l:fE)(o p:Nat)(r b arg:Int){F:Bool}(ag:(b==1)=F)(G:∀c,eF w c->Calls prog 64 #[fw i,fV C.toArray,eV a,fz F] c λe H=>∃d f m g,e=fH (ij #[eE d,.slice f m g,eE 0])/\R d f m g H/\L7 c H):
 Calls prog 39 #[fw n,fV C.toArray,fV (iE 9 a j l o p r b arg).toArray] w (CY w λW X=>∃d f m g,W=gS d (.slice f m g) (eW)/\R d f m g X):=by
 have I:=eD G;have x:=eD (And.intro D E);unfold iE;clear G D E;go_in;go_wp
 have t:=((eF.alloc w (eN C.toArray 108)).trans (eF.alloc _ (eN #[eE 9,eV a,eV j,.slice l o p,eE r,eE b,eE arg] 63))).trans (eF.alloc _ (eN jf 71));have J:=((eF.alloc _ (eN #[eE 9,eV a,eV j,.slice l o p,eE r,eE b,eE arg] 63)).trans (eF.alloc _ (eN jf 71))).eH (eQ.new w 108 C.toArray);have u:=(eF.alloc _ (eN jf 71)).eH (eQ.new (w.alloc (eN C.toArray 108)) 63 #[eE 9,eV a,eV j,.slice l o p,eE r,eE b,eE arg]);have y:=eQ.new ((w.alloc (eN C.toArray 108)).alloc (eN #[eE 9,eV a,eV j,.slice l o p,eE r,eE b,eE arg] 63)) 71 jf;rw[fM,fM] at y;rw[fM] at u;generalize((w.alloc (eN C.toArray 108)).alloc (eN #[eE 9,eV a,eV j,.slice l o p,eE r,eE b,eE arg] 63)).alloc (eN jf 71)=v at*;have K:=eD t;have L:=eD y;have Y:=oO (t.cell x.1);have Z:=oO (t.cell x.2);have e2:=u.ew 1 (eV a) rfl;have e3:=u.ew 5 (eE b) rfl;have M:Hid (∀c,(∃z:EW v,c=z.w)->(loadVar 108 (eJ w 0)).run prog c=.ok (fV C.toArray) c):=eD (λc ⟨z,hu⟩=>by subst hu;exact(z.ext.eH J).fK (P:=prog) 108 _ underlying108 rfl (by rw[V];kernel_rfl))
 clear t J u y;refine iW [0,1,2,3,4,5,6,7,8,9,10,11,12] [] (.e [13] (.q [14,15,16,17,18,19,20] .done)) ?_;iterate 7 (go_big_quiet_step (fail))
 refine fR rfl 108 (.tmp 4) rfl _ _ rfl M (by simp[Act.put];rfl) ?_;repeat(go_big_quiet_step (fail))
 refine eO ?_;clear Y Z e2 e3 M;have A:=eD (K.trans (eF.drew v));have N:=eD ((eF.drew v).eH L);generalize World.drew v=v0 at*;refine eT ?_;go_wp
 refine(I v0 A).mono ?_;rintro e B ⟨d,f,m,g,rfl,O,s⟩;have HR:=eD O;have Q:=eD (s _ _ N);have ad:Hid (L7 w B):=eD (λS cs hb=>s S cs (A.eH hb));clear O s I L K A N x;go_wp2;refine iH ?_;refine fj ?_;repeat(go_big_quiet_step (fail))
 refine eO ?_;refine fP ?_;go_wp2_with (refine eG rfl 71 (.tmp 6) (.tmp 40) rfl (w.heap.size+1+1) rfl (gS d (.slice f m g) (eW)) rfl Q (by simp[gS,Value.oneCell']) (by kernel_rfl) (by rfl) ?_)
 intro w4 T U;have ae:=eD (T.fK (P:=prog) 71 _ underlying71 rfl (by kernel_rfl));have af:Hid (CH w [71] [] B w4):=eD (fi.mono (fi.grown U) λS s=>by simp only[fd] at s;subst s;exact⟨by omega,.inl ⟨_,_,_,Q,by simp⟩⟩)
 clear T U;go_wp
 try simp only[Exit.inBlock,Exit.then]
 exact iA (iN rfl rfl ae) rfl ⟨_,B,rfl,rfl,by simp[gS,Value.oneCell'],⟨_,_,_,_,rfl,HR⟩,ad,af⟩
theorem Lt{R:fE->Nat->Nat->fE->Nat->Nat->eI->Prop}(F:w.cell? (eJ n 0)=some (fw k))(G:w.cell? (eJ k 0)=some (fw m)){C:fY}(W:C.length=19)(l o:jw)(p:fE)(r s:Nat)(t a arg:Int)(H:∀b,eF w b->Calls prog 66 #[fw m,fV C.toArray,eE a] b λe I=>∃c d f g i j,e=fH (ij #[.slice c d f,.slice g i j,eE 0])/\R c d f g i j I/\L7 b I):
 Calls prog 39 #[fw n,fV C.toArray,fV (iE 12 l o p r s t a arg).toArray] w (CY w λX Y=>∃c d f g i j,X=gS 0 (.slice c d f) (.slice g i j)/\R c d f g i j Y):=by
 have J:=eD H;have y:=eD (And.intro F G);unfold iE;clear H F G;go_in;go_wp
 have v:=((eF.alloc w (eN C.toArray 108)).trans (eF.alloc _ (eN #[eE 12,eV l,eV o,.slice p r s,eE t,eE a,eE arg] 63))).trans (eF.alloc _ (eN jf 71));have K:=((eF.alloc _ (eN #[eE 12,eV l,eV o,.slice p r s,eE t,eE a,eE arg] 63)).trans (eF.alloc _ (eN jf 71))).eH (eQ.new w 108 C.toArray);have z:=(eF.alloc _ (eN jf 71)).eH (eQ.new (w.alloc (eN C.toArray 108)) 63 #[eE 12,eV l,eV o,.slice p r s,eE t,eE a,eE arg]);have A:=eQ.new ((w.alloc (eN C.toArray 108)).alloc (eN #[eE 12,eV l,eV o,.slice p r s,eE t,eE a,eE arg] 63)) 71 jf;rw[fM,fM] at A;rw[fM] at z;generalize((w.alloc (eN C.toArray 108)).alloc (eN #[eE 12,eV l,eV o,.slice p r s,eE t,eE a,eE arg] 63)).alloc (eN jf 71)=x at*;have L:=eD v;have M:=eD A;have Z:=oO (v.cell y.1);have e1:=oO (v.cell y.2);have e3:=z.ew 5 (eE a) rfl;have N:Hid (∀b,(∃B:EW x,b=B.w)->(loadVar 108 (eJ w 0)).run prog b=.ok (fV C.toArray) b):=eD (λb ⟨B,hu⟩=>by subst hu;exact(B.ext.eH K).fK (P:=prog) 108 _ underlying108 rfl (by rw[W];kernel_rfl))
 clear v K z A;refine iW [0,1,2,3,4,5,6,7,8,9] [] (.e [10] (.q [11,12,13,14,15,16,17] .done)) ?_;iterate 7 (go_big_quiet_step (fail))
 refine fR rfl 108 (.tmp 4) rfl _ _ rfl N (by simp[Act.put];rfl) ?_;repeat(go_big_quiet_step (fail))
 refine eO ?_;clear Z e1 e3 N;have D:=eD (L.trans (eF.drew x));have O:=eD ((eF.drew x).eH M);generalize World.drew x=v0 at*;refine eT ?_;go_wp
 refine(J v0 D).mono ?_;rintro e E ⟨c,d,f,g,i,j,rfl,Q,u⟩;have HR:=eD Q;have S:=eD (u _ _ O);have ad:Hid (L7 w E):=eD (λT cs hb=>u T cs (D.eH hb));clear Q u J M L D O y;go_wp2;refine iH ?_;refine fj ?_;repeat(go_big_quiet_step (fail))
 refine eO ?_;refine fP ?_;go_wp2_with (refine eG rfl 71 (.tmp 6) (.tmp 80) rfl (w.heap.size+1+1) rfl (gS 0 (.slice c d f) (.slice g i j)) rfl S (by simp[gS,Value.oneCell']) (by kernel_rfl) (by rfl) ?_)
 intro w4 U V;have ae:=eD (U.fK (P:=prog) 71 _ underlying71 rfl (by kernel_rfl));have af:Hid (CH w [71] [] E w4):=eD (fi.mono (fi.grown V) λT u=>by simp only[fd] at u;subst u;exact⟨by omega,.inl ⟨_,_,_,S,by simp⟩⟩)
 clear U V;go_wp
 try simp only[Exit.inBlock,Exit.then]
 exact iA (iN rfl rfl ae) rfl ⟨_,E,rfl,rfl,by simp[gS,Value.oneCell'],⟨_,_,_,_,_,_,rfl,HR⟩,ad,af⟩
theorem TT(f:eQ w n 83 (tu k A i m D))(hd:0<=D/\D<400)(g j:jw)(l:fE)(o p:Nat)(b r arg:Int){R:fY->eI->Prop}{C:fY}(u:C.length=19)(Z:∀am∈C,am.oneCell'=true)(ad:∀c,CH n [83] [] w c->Calls prog 26 #[fw k,eE b] c λe w2=>e=fH (ij #[fV C.toArray,eE 0])/\eF c w2)(ae:∀c,CH n [83] [] w c->eQ c n 83 (tu k A i m (D+1))->Calls prog 39 #[fw n,fV C.toArray,fV (iE 9 g j l o p b r arg).toArray] c (CY c R)):
 Calls prog 15 #[fw n,fV (iE 9 g j l o p b r arg).toArray] w (wj w R):=by
 have af:=eD ae;have F:=eD ad;clear ad;obtain⟨av,aw⟩:=hd;have ax:=f.lt;unfold tu at f;have c2:=f.ce 2 (eE D);have f2:=f.frozen 2;have ag:=CH.set (B:=n) (L:=[83]) (M:=[]) f (fJ _) (by simp) 2 (eE (D+1));have ah:=f.set 2 (eE (D+1));have G:(w.setCell (eJ n 2) (eE (D+1))).heap.size=w.heap.size:=by simp
 unfold iE;clear ae f;go_in;go_wp
 clear c2 f2;generalize w.setCell (eJ n 2) (eE (D+1))=v at*;have s:=(eF.alloc v (eN #[eE 9,eV g,eV j,.slice l o p,eE b,eE r,eE arg] 63)).trans (eF.alloc _ (eN jf 71));have H:=(eF.alloc (v.alloc (eN #[eE 9,eV g,eV j,.slice l o p,eE b,eE r,eE arg] 63)) (eN jf 71)).eH (eQ.new v 63 #[eE 9,eV g,eV j,.slice l o p,eE b,eE r,eE arg]);have I:=eQ.new (v.alloc (eN #[eE 9,eV g,eV j,.slice l o p,eE b,eE r,eE arg] 63)) 71 jf;rw[fM,G] at I;rw[G] at H;have J:=eD (s.eH ah);have z:=eD (ag.ext s);generalize(v.alloc (eN #[eE 9,eV g,eV j,.slice l o p,eE b,eE r,eE arg] 63)).alloc (eN jf 71)=K at*;have N:=eD H;have O:=eD I;clear s H I ah ag G;have e0:=J.ew 0 (fw k) rfl;have e1:=N.ew 4 (eE b) rfl;have ay:=O.lt;go_cut [5,6] (λs5 s6 wx=>∃x,s5=fw x/\s6=eE 0/\eQ wx x 108 C.toArray/\eF K wx)
 case first=>
  refine iW [0,1,2,3,4,5] [10] (.jG (.e [6] (.q [7,8,9] (.e [10] (.e [11] (.q [12] .done))))) (.e [10] (.e [6] (.q [7,8,9] (.e [11] (.q [12] .done)))))) ?_;repeat(go_big_quiet_step (fail))
  refine eO ?_;clear e0 e1;have t:=eD (eF.drew K);generalize World.drew K=y at*;refine fX ?_ ?_
  ·skip
   refine eT ?_;go_wp
   refine(F y (z.ext t)).mono ?_;rintro e Q ⟨rfl,a⟩;have S:=eQ.new Q 108 nJ;go_wp2;refine iH ?_;refine fj ?_;repeat(go_big_quiet_step (fail))
   refine eO ?_;refine eZ ?_;go_wp
   refine⟨⟨⟨_,(t.trans a).trans (eF.alloc _ _)⟩,rfl⟩, ?_⟩;refine eT ?_;go_wp2_with (refine eG rfl 108 (.tmp 5) (.tmp 174) rfl Q rfl C rfl S Z (by rw[u];kernel_rfl) (by rw[u];rfl) ?_)
   intro y2 T U;have V:=(fi.grown U).ext ((t.trans a).trans (eF.alloc _ _)) (λaz hz=>by simp only[fd] at hz;have:=(t.trans a).size;omega);go_wp
   refine iH ?_;refine fj ?_;repeat(go_big_quiet_step (fail))
   refine eO ?_;refine fP ?_;go_wp
   go_meet;exact⟨_,rfl,rfl,T,V⟩
  ·skip
   refine eZ ?_;go_wp
   have S:=eQ.new y 108 nJ;have s:=eF.alloc y (eN nJ 108);have aA:=t.size;generalize y.heap.size=x at*;generalize y.alloc (eN nJ 108)=v1 at*;have W:=eD (t.trans s);clear s;refine⟨⟨⟨_,W⟩,rfl⟩, ?_⟩;refine eT ?_;go_wp
   refine(F v1 (z.ext W)).mono ?_;rintro e Q ⟨rfl,a⟩;have an:=a.eH S;go_wp2;refine iH ?_;refine fj ?_;repeat(go_big_quiet_step (fail))
   refine eO ?_;refine eT ?_;go_wp2_with (refine eG rfl 108 (.tmp 5) (.tmp 174) rfl x rfl C rfl an Z (by rw[u];kernel_rfl) (by rw[u];rfl) ?_)
   intro y2 T U;have V:=(fi.grown U).ext (W.trans a);go_wp
   refine iH ?_;refine fj ?_;repeat(go_big_quiet_step (fail))
   refine eO ?_;refine fP ?_;go_wp
   go_meet;exact⟨_,rfl,rfl,T,V⟩
 case rest=>
 obtain⟨x,rfl,rfl,hb,a⟩:=hcut;have ai:=eD (hb.fK (P:=prog) 108 _ underlying108 rfl (by rw[u];kernel_rfl));have aj:=eD ((a.eH N).fK (P:=prog) 63 _ underlying63 rfl (by kernel_rfl));have ak:=eD (a.eH O);have aB:=a.size;have X:=eD (af wc (z.ext a) (a.eH J));unfold iE at X;clear hb a af F N O J z e0 e1;go_wp2_with (first|(refine eK rfl 108 (.tmp 5) rfl _ rfl (.agg C.toArray) ai.out ?_)|(refine eK rfl 63 (.tmp 3) rfl _ rfl _ aj.out ?_))
 refine X.mono ?_;rintro e w3 ⟨ao,wm,rfl,E,ho,hr,d,Y⟩;have HR:=eD hr;have al:=eD (fi.eH Y (d _ _ ak) (λh=>by have:=h.1;omega));have ap:Hid (CH w [71] [] wm w3):=eD (fi.mono Y λaq d=>⟨by have:=d.1;omega,d.2⟩);clear hr d Y X ak ai aj;go_wp2_with (refine eG rfl 71 (.tmp 4) (.tmp 183) rfl (w.heap.size+1) rfl ao rfl al ho (by rw[E];kernel_rfl) (by rw[E];rfl) ?_)
 intro w4 b4 g4;have ar:=eD (b4.fK (P:=prog) 71 _ underlying71 rfl (by rw[E];kernel_rfl));have au:Hid (CH w [71] [] w3 w4):=eD (fi.mono (fi.grown g4) λaq d=>by simp only[fd] at d;subst d;exact⟨tj _,.inl ⟨_,_,_,al,by simp⟩⟩)
 clear b4 g4;go_wp
 try simp only[Exit.inBlock,Exit.then]
 exact iA (iN rfl rfl ar) rfl ⟨_,wm,rfl,E,ho,HR,ap.fk au⟩
theorem RQ(f:eQ w n 83 (tu k A i m D))(hd:0<=D/\D<400)(g j:jw)(l:fE)(o p:Nat)(b r arg:Int){R:fY->eI->Prop}{C:fY}(u:C.length=19)(Z:∀am∈C,am.oneCell'=true)(ad:∀c,CH n [83] [] w c->Calls prog 26 #[fw k,eE b] c λe w2=>e=fH (ij #[fV C.toArray,eE 0])/\eF c w2)(ae:∀c,CH n [83] [] w c->eQ c n 83 (tu k A i m (D+1))->Calls prog 39 #[fw n,fV C.toArray,fV (iE 12 g j l o p b r arg).toArray] c (CY c R)):
 Calls prog 15 #[fw n,fV (iE 12 g j l o p b r arg).toArray] w (wj w R):=by
 have af:=eD ae;have F:=eD ad;clear ad;obtain⟨av,aw⟩:=hd;have ax:=f.lt;unfold tu at f;have c2:=f.ce 2 (eE D);have f2:=f.frozen 2;have ag:=CH.set (B:=n) (L:=[83]) (M:=[]) f (fJ _) (by simp) 2 (eE (D+1));have ah:=f.set 2 (eE (D+1));have G:(w.setCell (eJ n 2) (eE (D+1))).heap.size=w.heap.size:=by simp
 unfold iE;clear ae f;go_in;go_wp
 clear c2 f2;generalize w.setCell (eJ n 2) (eE (D+1))=v at*;have s:=(eF.alloc v (eN #[eE 12,eV g,eV j,.slice l o p,eE b,eE r,eE arg] 63)).trans (eF.alloc _ (eN jf 71));have H:=(eF.alloc (v.alloc (eN #[eE 12,eV g,eV j,.slice l o p,eE b,eE r,eE arg] 63)) (eN jf 71)).eH (eQ.new v 63 #[eE 12,eV g,eV j,.slice l o p,eE b,eE r,eE arg]);have I:=eQ.new (v.alloc (eN #[eE 12,eV g,eV j,.slice l o p,eE b,eE r,eE arg] 63)) 71 jf;rw[fM,G] at I;rw[G] at H;have J:=eD (s.eH ah);have z:=eD (ag.ext s);generalize(v.alloc (eN #[eE 12,eV g,eV j,.slice l o p,eE b,eE r,eE arg] 63)).alloc (eN jf 71)=K at*;have N:=eD H;have O:=eD I;clear s H I ah ag G;have e0:=J.ew 0 (fw k) rfl;have e1:=N.ew 4 (eE b) rfl;have ay:=O.lt;go_cut [5,6] (λs5 s6 wx=>∃x,s5=fw x/\s6=eE 0/\eQ wx x 108 C.toArray/\eF K wx)
 case first=>
  refine iW [0,1,2,3,4,5] [10] (.jG (.e [6] (.q [7,8,9] (.e [10] (.e [11] (.q [12] .done))))) (.e [10] (.e [6] (.q [7,8,9] (.e [11] (.q [12] .done)))))) ?_;repeat(go_big_quiet_step (fail))
  refine eO ?_;clear e0 e1;have t:=eD (eF.drew K);generalize World.drew K=y at*;refine fX ?_ ?_
  ·skip
   refine eT ?_;go_wp
   refine(F y (z.ext t)).mono ?_;rintro e Q ⟨rfl,a⟩;have S:=eQ.new Q 108 nJ;go_wp2;refine iH ?_;refine fj ?_;repeat(go_big_quiet_step (fail))
   refine eO ?_;refine eZ ?_;go_wp
   refine⟨⟨⟨_,(t.trans a).trans (eF.alloc _ _)⟩,rfl⟩, ?_⟩;refine eT ?_;go_wp2_with (refine eG rfl 108 (.tmp 5) (.tmp 174) rfl Q rfl C rfl S Z (by rw[u];kernel_rfl) (by rw[u];rfl) ?_)
   intro y2 T U;have V:=(fi.grown U).ext ((t.trans a).trans (eF.alloc _ _)) (λaz hz=>by simp only[fd] at hz;have:=(t.trans a).size;omega);go_wp
   refine iH ?_;refine fj ?_;repeat(go_big_quiet_step (fail))
   refine eO ?_;refine fP ?_;go_wp
   go_meet;exact⟨_,rfl,rfl,T,V⟩
  ·skip
   refine eZ ?_;go_wp
   have S:=eQ.new y 108 nJ;have s:=eF.alloc y (eN nJ 108);have aA:=t.size;generalize y.heap.size=x at*;generalize y.alloc (eN nJ 108)=v1 at*;have W:=eD (t.trans s);clear s;refine⟨⟨⟨_,W⟩,rfl⟩, ?_⟩;refine eT ?_;go_wp
   refine(F v1 (z.ext W)).mono ?_;rintro e Q ⟨rfl,a⟩;have an:=a.eH S;go_wp2;refine iH ?_;refine fj ?_;repeat(go_big_quiet_step (fail))
   refine eO ?_;refine eT ?_;go_wp2_with (refine eG rfl 108 (.tmp 5) (.tmp 174) rfl x rfl C rfl an Z (by rw[u];kernel_rfl) (by rw[u];rfl) ?_)
   intro y2 T U;have V:=(fi.grown U).ext (W.trans a);go_wp
   refine iH ?_;refine fj ?_;repeat(go_big_quiet_step (fail))
   refine eO ?_;refine fP ?_;go_wp
   go_meet;exact⟨_,rfl,rfl,T,V⟩
 case rest=>
 obtain⟨x,rfl,rfl,hb,a⟩:=hcut;have ai:=eD (hb.fK (P:=prog) 108 _ underlying108 rfl (by rw[u];kernel_rfl));have aj:=eD ((a.eH N).fK (P:=prog) 63 _ underlying63 rfl (by kernel_rfl));have ak:=eD (a.eH O);have aB:=a.size;have X:=eD (af wc (z.ext a) (a.eH J));unfold iE at X;clear hb a af F N O J z e0 e1;go_wp2_with (first|(refine eK rfl 108 (.tmp 5) rfl _ rfl (.agg C.toArray) ai.out ?_)|(refine eK rfl 63 (.tmp 3) rfl _ rfl _ aj.out ?_))
 refine X.mono ?_;rintro e w3 ⟨ao,wm,rfl,E,ho,hr,d,Y⟩;have HR:=eD hr;have al:=eD (fi.eH Y (d _ _ ak) (λh=>by have:=h.1;omega));have ap:Hid (CH w [71] [] wm w3):=eD (fi.mono Y λaq d=>⟨by have:=d.1;omega,d.2⟩);clear hr d Y X ak ai aj;go_wp2_with (refine eG rfl 71 (.tmp 4) (.tmp 183) rfl (w.heap.size+1) rfl ao rfl al ho (by rw[E];kernel_rfl) (by rw[E];rfl) ?_)
 intro w4 b4 g4;have ar:=eD (b4.fK (P:=prog) 71 _ underlying71 rfl (by rw[E];kernel_rfl));have au:Hid (CH w [71] [] w3 w4):=eD (fi.mono (fi.grown g4) λaq d=>by simp only[fd] at d;subst d;exact⟨tj _,.inl ⟨_,_,_,al,by simp⟩⟩)
 clear b4 g4;go_wp
 try simp only[Exit.inBlock,Exit.then]
 exact iA (iN rfl rfl ar) rfl ⟨_,wm,rfl,E,ho,HR,ap.fk au⟩
theorem TU(s:eQ w n 83 (tu k A i m D))(hd:0<=D/\D<400)(t u:jw)(v:fE)(x y:Nat)(f g arg:Int){R:Nat->Nat->eI->Prop}(ai:∀j,CH n [83] [] w j->eQ j n 83 (tu k A i m (D+1))->Calls prog 42 #[fw k,eE f,eE g] j λe X=>∃a b,e=fH (ij #[fN a 1 b,CB 1 0,eE 3,eE 0])/\R a b X/\(∀H aj cs,eQ j H aj cs->eQ X H aj cs)/\j.heap.size<=X.heap.size):
 Calls prog 15 #[fw n,fV (iE 14 t u v x y f g arg).toArray] w (λe j=>∃a b z,e=fH (fV ([eE 0,eE 3,fN a 1 b,eW,eE 1,eE 0,eE 0,eE 0,eE 0,eV ⟨#[]⟩,eE 0,eV ⟨#[]⟩,eE 0]:fY).toArray)/\R a b z/\CH w [67,71] [] z j):=by
 have S:=eD ai;obtain⟨az,aA⟩:=hd;have aB:=s.lt;unfold tu at s;have c2:=s.ce 2 (eE D);have f2:=s.frozen 2;have ak:=CH.set (B:=n) (L:=[83]) (M:=[]) s (fJ _) (by simp) 2 (eE (D+1));have al:=s.set 2 (eE (D+1));have Y:(w.setCell (eJ n 2) (eE (D+1))).heap.size=w.heap.size:=by simp
 unfold iE;clear ai s;go_in;go_wp
 clear c2 f2;generalize w.setCell (eJ n 2) (eE (D+1))=I at*;have E:=(eF.alloc I (eN #[eE 14,eV t,eV u,.slice v x y,eE f,eE g,eE arg] 63)).trans (eF.alloc _ (eN jf 71));have Z:=(eF.alloc (I.alloc (eN #[eE 14,eV t,eV u,.slice v x y,eE f,eE g,eE arg] 63)) (eN jf 71)).eH (eQ.new I 63 #[eE 14,eV t,eV u,.slice v x y,eE f,eE g,eE arg]);have ad:=eQ.new (I.alloc (eN #[eE 14,eV t,eV u,.slice v x y,eE f,eE g,eE arg] 63)) 71 jf;rw[fM,Y] at ad;rw[Y] at Z;have o:=eD (E.eH al);have ae:=eD (ak.ext E);generalize(I.alloc (eN #[eE 14,eV t,eV u,.slice v x y,eE f,eE g,eE arg] 63)).alloc (eN jf 71)=l at*;have p:=eD Z;have T:=eD ad;clear E Z ad al ak Y;have e0:∀c:KW [n,w.heap.size] l,c.w.cell? (eJ n 0)=some (fw k):=λc=>c.cell (o.cell 0 rfl) (by simp);have e1:∀c:KW [n,w.heap.size] l,c.w.cell? (eJ w 4)=some (eE f):=λc=>c.cell (p.cell 4 rfl) (by simp);have e2:∀c:KW [n,w.heap.size] l,c.w.cell? (eJ w 5)=some (eE g):=λc=>c.cell (p.cell 5 rfl) (by simp);have aC:=p.lt;have af:∀J,eQ J n 83 #[fw k,.slice A i m,eE (D+1)]->eQ J w 63 #[eE 14,eV t,eV u,.slice v x y,eE f,eE g,eE arg]->∃c:KW [n,w.heap.size] l,J=c.w:=λJ h1 h2=>⟨⟨J,λaD K=>by
  simp only[fm,gp,gq] at K;rcases K with rfl|rfl
  ·exact h1.trans o.symm
  ·exact h2.trans p.symm⟩,rfl⟩
 go_cut [9,10,11,12] (λs9 ao ap aq wx=>∃F a b z,s9=fN a 1 b/\ao=fw F/\ap=eE 3/\aq=eE 0/\eQ wx F 67 ([eE 1,eE 0,eE 0,eE 0,eE 0]:fY).toArray/\eQ wx (w.heap.size+1) 71 jf/\R a b z/\CH w [67,71] [] z wx)
 case first=>
  refine jA [0,1,2,3,4,5,6,7] [14] (.jG (.e [8] (.q [9,10,11,12,13] (.e [14] (.q [15] (.e [16] (.q [17,18] .done)))))) (.e [14] (.e [8] (.q [9,10,11,12,13,15] (.e [16] (.q [17,18] .done)))))) (λj=>∃c:KW [n,w.heap.size] l,j=c.w) (by kernel_rfl) (by kernel_rfl) (by simp[gj];first|rfl|exact⟨rfl,rfl⟩) (af _ ((eF.drew l).eH o) ((eF.drew l).eH p)) ?_;repeat(go_big_quiet_step (fail))
  refine eO ?_;clear e0 e1 e2;have C:=eD (eF.drew l);generalize World.drew l=N at*;unfold CB at S;refine fX ?_ ?_
  ·skip
   refine eT ?_;go_wp
   refine(S N (ae.ext C) (C.eH o)).mono ?_;rintro e r ⟨a,b,rfl,G,d,ar⟩;have U:=eQ.new r 67 j3;have V:=d _ _ _ (C.eH T);go_wp2;refine iH ?_;refine fj ?_;repeat(go_big_quiet_step (fail))
   refine eO ?_;refine eZ ?_;go_wp
   have W:=eF.alloc r (eN j3 67);refine⟨af _ (W.eH (d _ _ _ (C.eH o))) (W.eH (d _ _ _ (C.eH p))), ?_⟩;refine fj ?_;repeat(go_big_quiet_step (fail))
   refine eO ?_;refine eT ?_;go_wp2_with (refine eG rfl 67 (.tmp 10) (.tmp 221) rfl r rfl [eE 1,eE 0,eE 0,eE 0,eE 0] rfl U (by simp[Value.oneCell']) (by kernel_rfl) (by rfl) ?_)
   intro y2 b2 O;have aE:=V.lt;have ag:=(W.eH V).grown O (λe=>by injection e with e;omega);have ah:CH w [67,71] [] r y2:=(CH.fg W).fk (fi.mono (fi.grown O) λH d=>by simp only[fd] at d;subst d;exact⟨by omega,.inl ⟨_,_,_,U,by simp⟩⟩)
   go_wp
   refine iH ?_;refine fj ?_;repeat(go_big_quiet_step (fail))
   refine eO ?_;refine fP ?_;go_wp
   go_meet;exact⟨_,a,b,r,rfl,rfl,rfl,rfl,b2,ag,G,ah⟩
  ·skip
   refine eZ ?_;go_wp
   have U:=eQ.new N 67 j3;have E:=eF.alloc N (eN j3 67);have aF:=C.size;generalize N.heap.size=F at*;generalize N.alloc (eN j3 67)=v1 at*;have Q:=eD (C.trans E);clear E;refine⟨af _ (Q.eH o) (Q.eH p), ?_⟩;refine eT ?_;go_wp
   refine(S v1 (ae.ext Q) (Q.eH o)).mono ?_;rintro e r ⟨a,b,rfl,G,d,ar⟩;have am:=d _ _ _ U;have V:=d _ _ _ (Q.eH T);go_wp2;refine iH ?_;refine fj ?_;repeat(go_big_quiet_step (fail))
   refine eO ?_;refine eT ?_;go_wp2_with (refine eG rfl 67 (.tmp 10) (.tmp 221) rfl F rfl [eE 1,eE 0,eE 0,eE 0,eE 0] rfl am (by simp[Value.oneCell']) (by kernel_rfl) (by rfl) ?_)
   intro y2 b2 O;have au:F≠w.heap.size+1:=by have:=T.lt;omega
   have ag:=V.grown O (λe=>by injection e with e;exact au e.symm);have ah:CH w [67,71] [] r y2:=fi.mono (fi.grown O) λH d=>by simp only[fd] at d;subst d;exact⟨by omega,.inl ⟨_,_,_,am,by simp⟩⟩
   go_wp
   refine iH ?_;refine fj ?_;repeat(go_big_quiet_step (fail))
   refine eO ?_;refine fP ?_;go_wp
   go_meet;exact⟨_,a,b,r,rfl,rfl,rfl,rfl,b2,ag,G,ah⟩
 case rest=>
 obtain⟨F,a,b,z,rfl,rfl,rfl,rfl,K,ht,G,hc⟩:=hcut;have av:=eD (K.fK (P:=prog) 67 _ underlying67 rfl (by kernel_rfl));have an:=eD ht;have HR:=eD G;have aw:=eD hc;clear K ht G hc S p T o ae e0 e1 e2;go_wp2_with (first|(refine eK rfl 67 (.tmp 10) rfl _ rfl _ av.out ?_)|(refine eG rfl 71 (.tmp 4) (.tmp 228) rfl (w.heap.size+1) rfl [.int .i64 0,.int .i64 3,.slice (some ⟨a,0,none⟩) 1 b,.slice none 0 0,.int .i64 1,.int .i64 0,.int .i64 0,.int .i64 0,.int .i64 0,.string ⟨#[]⟩,.int .i64 0,.string ⟨#[]⟩,.int .i64 0] rfl an.out (by simp[Value.oneCell']) (by kernel_rfl) (by rfl) ?_))
 intro w4 b4 g4;have ax:=eD (b4.fK (P:=prog) 71 _ underlying71 rfl (by kernel_rfl));have ay:Hid (CH w [67,71] [] wc w4):=eD (fi.mono (fi.grown g4) λH d=>by simp only[fd] at d;subst d;exact⟨tj _,.inl ⟨_,_,_,an,by simp⟩⟩)
 clear b4 g4;go_wp
 try simp only[Exit.inBlock,Exit.then]
 exact iA (iN rfl rfl ax) rfl ⟨a,b,z,rfl,HR,aw.fk ay⟩
