/- Part 4. -/
import Derived.Test.YtbikgdhbiebhcaaGreatDoorV03
set_option linter.unusedVariables false
set_option linter.unusedSimpArgs false
set_option maxRecDepth 100000
set_option maxHeartbeats 2000000
open Go.Value renaming int -> V, string -> U, slice -> Y, pointer -> Z, func -> φ, agg -> γ, bool -> β
open Go.IntKind renaming i64 -> I
open Option renaming some -> W, none -> O
open Go.Obj renaming cells -> J
open Go.Ending renaming returned -> ρ
open Go.Proofs.Tryz renaming prog -> π
open Nat renaming le_refl -> η
open Go.RowKit.Below renaming refl -> ζ
namespace Go.Proofs.YtbikgdhbiebhcaaGreatDoor
open Go.RowKit Tryz
section
attribute [local go_sem] ak
attribute [local go_sem] Oper.semAt_some
def SA(s:ByteArray)(w:World)(p:Nat)(t:Nat)(a:Act)(c:World):Prop:=
 SI s w p t c/\∃b,c.heap[b]? =W (J #[U (zr s t)] 134 (0,0))/\p+4<=b/\a={ tmps:=#[Value.string s,undef,Value.pointer (W { block:=w.heap.size,off:=0 }),Value.pointer (W { block:=w.heap.size+1,off:=0 }),Value.pointer (W { block:=w.heap.size+1+1,off:=0 }),
  Value.pointer (W { block:=p,off:=0 }),V I ((t:Int)+1),Z (W ⟨b,0,O⟩),undef,undef,undef,Value.bool false,Value.string s,Value.int IntKind.i64 ↑s.size,Value.bool false,Value.bool false,Value.string s,Value.bool true,Value.bool false,Value.string s,φ (.func 99) #[] #[Z (W ⟨p+1,0,O⟩)],V I ((t:Int)+1),γ #[U (zr s t)],undef,undef,undef,undef,undef,undef,undef,undef,undef,undef,undef,undef,undef,undef,undef,undef,undef,undef,undef,undef],defers:=[] }
theorem SA.far{s:ByteArray}{w:World}{p t q:Nat}{a:Act}{c d:World}(g:SA s w p t a c)(b:Far (·=q) c d)(e:w.heap.size+3<=p)(f:p < q)(n:q < p+4):SA s w p t a d:=by
 obtain⟨l,j,i,m,k⟩:=g;exact⟨l.far b e f n,j,b.heap i (by omega),m,k⟩
theorem xb(a:World):(Go.method 653 211 (γ #[]) "sigillary/lines.why").run π a=.ok (368,γ #[]) a:=by kernel_rfl
theorem xa(a:World):(Go.method 653 212 (γ #[]) "sigillary/lines.why").run π a=.ok (369,γ #[]) a:=by kernel_rfl
theorem uc(args:Array Value)(w:World):(callFunc 368 args).run π w=.ok (.enter 368 args) w:=by kernel_rfl
theorem ub(args:Array Value)(w:World):(callFunc 369 args).run π w=.ok (.enter 369 args) w:=by kernel_rfl
theorem ta(w:World):Calls π 368 #[γ #[]] w λe w'=>e=ρ (V I 80)/\Below w.heap.size w w':=by
 go_enter func368,ntmps368
 go_wp2
 go_ret
 exact⟨rfl,(ζ _ _).alloc (η _) _⟩
theorem tO(w:World):Calls π 369 #[γ #[]] w λe w'=>e=ρ (V I 81)/\Below w.heap.size w w':=by
 go_enter func369,ntmps369
 go_wp2
 go_ret
 exact⟨rfl,(ζ _ _).alloc (η _) _⟩
theorem uM(a:List Ln.B)(t:Nat)(b:Ln.B)(c:a[t]? =W b)(j:∀b∈a.take t,Ln.trouble b=0)(f:Int)(g:Ln.trouble b=f)(l:f≠0):Ln.bad 1 a=((t:Int)+1,f):=by
 have d:t < a.length:=by
  by_cases k:t < a.length
  ·exact k
  ·rw[List.getElem?_eq_none (by omega)]at c;simp at c
 have e:a=a.take t++b::a.drop (t+1):=by
  have i:a.drop t=b::a.drop (t+1):=by
   rw[zW d];congr 1
   rw[zE d]at c;exact Option.some.inj c
  rw[<-i,List.take_append_drop]
 rw[e,Ln.iG 1 _ _ j,Ln.bad,if_neg (by rw[g];exact l),List.length_take_of_le (Nat.le_of_lt d),g];simp only[Prod.mk.injEq,and_true];omega
theorem tR(a:List Ln.B)(t:Nat)(b:Ln.B)(c:a.take (t+1)=a.take t++[b])(d:(a.take t).length=t):Ln.lns 1 (a.take (t+1))=Ln.lns 1 (a.take t)++Ln.lineL ((t:Int)+1) b:=by
 rw[c,Ln.ic,d,Ln.lns,Ln.lns,List.append_nil];congr 2
 omega
theorem rh:∀(n:Int) (a:List Ln.B),(Ln.lns n a).length<=a.length
 |_,[]=>η _
 |n,r::a=>by
  have:=rh (n+1) a;unfold Ln.lns Ln.lineL;split<;>simp<;>omega
theorem jJ(a:ByteArray):(yT a=.nilIface/\Ln.trouble a.data.toList=0)\/(yT a=.iface 211 (γ #[])/\Ln.trouble a.data.toList=80)\/(yT a=.iface 212 (γ #[])/\Ln.trouble a.data.toList=81):=by
 unfold yT Ln.trouble;cases Ln.plainB a.data.toList with
 |false=>exact .inr (.inl ⟨rfl,rfl⟩)
 |true=>
  cases Ln.markB a.data.toList with
  |false=>exact .inl ⟨rfl,rfl⟩
  |true=>exact .inr (.inr ⟨rfl,rfl⟩)
theorem aW{w:World}{base base':Nat}{e:TypeId}{size:Nat}{v:Value}{n:Nat}{xs:List Value}(a:w.ownsRow base e size v n xs)(d:base'<=base):w.ownsRow base' e size v n xs:=by
 refine⟨a.1,?_⟩;rcases a.2 with a|⟨g,cap,b,rfl,c,rest⟩
 ·exact .inl a
 ·exact .inr ⟨g,cap,b,rfl,by omega,rest⟩
theorem p7(s:ByteArray)(d1:s.size<=1000000)(w:World)(dn:Glob w):Calls π 52 #[U s] w (Ao s w):=by
 obtain⟨e9,a9,e7,fE,fr⟩:=info_parts wQ;have c5:=zD dn;clear dn;refine callsIn_wide.1 (callsIn_of_wp_marks (n:=5) func52 rfl trivial (wpIn_wide.2 ?_));simp only[ntmps52,List.size_toArray,zO,List.length_nil,Nat.reduceAdd,Nat.reduceSub,Array.replicate_succ,Array.replicate_zero,List.push_toArray,List.append_toArray,List.nil_append,List.cons_append];have er:Below w.heap.size w (((w.alloc (J #[Y O 0 0] 101)).alloc (J #[V I 0] 3)).alloc (J #[V I 0] 24)):=(((ζ _ _).alloc (η _) _).alloc (by simp) _).alloc (by simp;omega) _;by_cases ga:(8000:Int) < (s.size:Int)
 ·have u:Ln.split s.data.toList=([],0,20):=by unfold Ln.split;rw[if_pos (by rw[ap];omega)]
  go_wp2_with fail
  refine fj (w:=w) _ (Y O 0 0) 0 20 _ (aa _ (aa _ (ah _ _ _ rfl))) (aa _ (ah _ _ _ (by simp))) ⟨_,_,_,rfl⟩ (ah _ _ _ (by simp)) rfl rfl rfl rfl ?_;refine⟨⟨_,by rw[u],?_⟩,(((ζ _ _).alloc (η _) _).alloc (by simp) _).alloc (by simp;omega) _⟩;rw[u];exact World.ownsRow_nil _ _ _ _
 ·go_wp2_with fail
  refine(bt s d1 _ (c5.out.step er)).mono ?_;rintro e a4 ⟨rfl,R⟩;have cc:a4.heap[w.heap.size]? =W (J #[Y O 0 0] 101 (0,0)):=(R.block _ (by simp;omega)).trans (aa _ (aa _ (ah _ _ _ rfl)));have ck:a4.heap[w.heap.size+1]? =W (J #[V I 0] 3 (0,0)):=(R.block _ (by simp)).trans (aa _ (ah _ _ _ (by simp)));have bD:a4.heap[w.heap.size+1+1]? =W (J #[V I 0] 24 (0,0)):=(R.block _ (by simp)).trans (ah _ _ _ (by simp));have eg:Below w.heap.size w a4:=er.trans (R.mono (by simp;omega));have ft:w.heap.size+3<=a4.heap.size:=by have:=lt_of_heap bD;omega
  have bb:=zF cc 0 rfl;have cf:=zF ck 0 rfl;have bs:=zF bD 0 rfl;have b8:=ag cc 0;have ch:=ag ck 0;have cl:=ag bD 0;obtain⟨dg,bn,al,co⟩:=zx4 cc ck bD eg;clear R cc ck bD eg;generalize hrt:Ln.right s.data.toList=rt;cases rt with
  |false=>
   have u:Ln.split s.data.toList=([],0,40):=by unfold Ln.split;rw[if_neg (by rw[ap];omega),if_pos hrt]
   go_wp2_with fail
   obtain⟨ao,a1,an⟩:=cu (Y O 0 0) (V I 0) (V I 40) _ _ _ dg.out bn.out al.out;refine fj (w:=w) _ (Y O 0 0) 0 40 _ ao a1 ⟨_,_,_,rfl⟩ an rfl rfl rfl rfl ?_;refine⟨⟨_,by rw[u],?_⟩,((co.out.setCell (η _) _).setCell (Nat.le_succ _) _).setCell (by show w.heap.size<=w.heap.size+1+1;omega) _⟩;rw[u];exact World.ownsRow_nil _ _ _ _
  |true=>
   obtain⟨p,bk⟩:∃p,a4.heap.size=p:=⟨_,rfl⟩;clear bb cf bs b8 ch cl
   go_wp2_with fail
   refine(tn s _).mono ?_;rintro e be ⟨rfl,ad⟩;have dm:(a4.alloc (Obj.cells #[Value.slice O 0 0] 101)).heap.size=p+1:=by simp[bk]
   rw[dm];have es:be.heap.size=p+2:=by rw[ad];simp[bk]
   have b5:be.heap[p+1]? =W (J #[U s] 9 (0,0)):=by rw[ad];exact ah _ _ _ (by simp[bk])
   have ex:be.heap[p]? =W (J #[Y O 0 0] 101 (0,0)):=by rw[ad];exact aa _ (ah _ _ _ bk.symm)
   have R:Below w.heap.size w be:=by rw[ad];exact(co.out.alloc co.out.size _).alloc (by simp;omega) _
   have dW:SI s w p 0 be:=by
    refine⟨⟨_,ex,World.ownsRow_nil _ _ _ _⟩,?_,?_,?_,λr bm=>absurd bm (by simp),R⟩
    ·rw[ad];exact aa _ (aa _ dg.out)
    ·rw[ad];exact aa _ (aa _ bn.out)
    ·rw[ad];exact aa _ (aa _ al.out)
   have ek:=c5.out.step R;have S:w.heap.size+3<=p:=by omega
   obtain⟨fR,x,fS,eM,f8⟩:=zx5 dW es b5 ek bk;have f3:=c5.out.1;clear ad dm bk ft es b5 ex R dW ek dg bn al co
   go_wp2_with fail
   obtain⟨m,fc⟩:=eM.out.2.2.1;refine wpIn_wide.1 (oA (n:=5) (X:=true) (gf:=99) (lb:=#[Z (W ⟨p+1,0,O⟩)]) rfl (λargs wx=>ui args wx)
    (qs s d1 (p+1) be fS.out (by omega) m fc (by have:=eM.out.1;omega)) (λ_ _ _ _=>trivial) (λd a2 b=>b.mono (λk _ e=>by have:=x.out;omega)) (λe6 B e8 D fn b f=>b.fars fn f (by have:=x.out;omega) (by have:=x.out;omega)) (λ_=>rfl)
    (SI s w p) (λb9 d=>b9=.ret/\SX s w d) (λt d a2 b c=>b.far c S (by omega) (by omega)) (λb9 d a2 b c=>⟨b.1,b.2.far c S (by omega)⟩) (λt d a2 b c=>b.far (q:=p+3) (c.mono (λk _ e=>by have:=x.out;omega)) S (by omega) (by omega)) (λb9 d a2 b c=>⟨b.1,b.2.far (p:=p) (q:=p+3) (c.mono (λk _ e=>by have:=x.out;omega)) S (by omega)⟩) (λb=>by cases b) fR.out
    (SA s w p) (λt a d a2 b c=>b.far (q:=p+3) (c.mono (λk _ e=>by have:=x.out;omega)) S (by omega) (by omega)) (λe6 B e8 b k=>b.trans k) ?assign ?body ?done ?stop)
   case assign=>
    intro t d K ct dr hI N
    gi_wp2
    exact N _ _ ⟨hI.far (q:=p+3) ((ξ (·=p+3) d).alloc _) S (by omega) (by omega),d.heap.size,af _ _,by have:=x.out;omega,rfl⟩ ((ξ _ d).alloc _) (.of_far ((ξ xO d).alloc _) (λe=>e) (λe=>e))
   case body=>
    rintro t a d ct dr ⟨⟨⟨v,b2,a3⟩,y,C,z,a5,T⟩,fu,cm,f9,rfl⟩;rw[x.out]at dr ⊢;obtain⟨r,bm⟩:∃r,zr s t=r:=⟨_,rfl⟩;have av:(Ln.rows s.data.toList)[t]? =W r.data.toList:=by
     rw[<-bm];unfold zr;rw[zY,zE ct];rfl
    have eq:r.size<=1000000:=by
     have b3:=Ln.bz s.data.toList _ (zL av);rw[ap,ap]at b3;omega
    rw[bm]at cm ⊢;have en:(Ln.rows s.data.toList).take (t+1)=(Ln.rows s.data.toList).take t++[r.data.toList]:=by
     rw[zG,av];rfl
    have ep:((Ln.rows s.data.toList).take t).length=t:=List.length_take_of_le (Nat.le_of_lt ct);have bb:=zF cm 0 rfl;obtain⟨di,el,dC,gg,bn,al⟩:=zx6 en ep av bm b2 a3;obtain⟨E,F,G,db,l,dj⟩:=zx6 y C z a5 T cm;clear b2 a3 y C z a5 T cm en ep av bm
    gi_wp2_with fail
    refine⟨trivial,(CallsIn.inRound _ (callsIn_wide.2 (lK r eq d))).mono ?_⟩;rintro e b4 ⟨rfl,ab⟩;have c4:b4.heap[fu]? =W (J #[U r] 134 (0,0)):=(ab.block _ (lt_of_heap dj.out)).trans dj.out;have bs:=zF c4 0 rfl;have dp:Far xO d b4:=.of_below ab xO;obtain⟨c2,gd⟩:=zx2 dp c4;clear bb ab dp c4;rcases jJ r with ⟨A,b1⟩|⟨A,b1⟩|⟨A,b1⟩
    ·rw[A]
     gi_wp2_with fail
     refine⟨trivial,(CallsIn.inRound _ (callsIn_wide.2 (tS r eq _ b4))).mono ?_⟩;rintro e o ⟨⟨n,i,H,rfl,dl⟩,ac⟩;have f:Far xO d o:=c2.out.below ac;obtain⟨d6,ba⟩:=zx2 dl f;have dA:∀cS∈(Ln.rows s.data.toList).take (t+1),Ln.trouble cS=0:=by
      rw[di.out];intro cS e1;rcases List.mem_append.1 e1 with b|b
      ·exact db.out cS b
      ·rw[List.mem_singleton.1 b];exact b1
     have d2:=tR _ t r.data.toList di.out el.out;obtain⟨d5,c9⟩:=zx2 dA d2;have ei:=f.heap bn.out (λe=>e);have a0:=aw al.out f (λ_ _ _ e=>e);have e0:=f.heap E.out (λe=>e);have dJ:=f.heap F.out (λe=>e);have ds:=f.heap G.out (λe=>e);have ef:=l.out.trans (f.to_below l.out.size (λ_ _ e=>e));have f2:=f.size;obtain⟨cb,e2,gb,f4,fY,f7⟩:=zx6 ei a0 e0 dJ ds ef;clear dl f ac dA d2 ei a0 e0 dJ ds ef A;generalize hsy:Ln.says r.data.toList=sy;cases sy with
     |false=>
      gi_wp2_with fail
      have c:Far xO d (o.alloc (Obj.cells #[Value.int IntKind.i64 n,Value.int IntKind.i64 i,Value.string H] 140)):=ba.out.alloc _;have bR:Ln.lns 1 ((Ln.rows s.data.toList).take (t+1))=Ln.lns 1 ((Ln.rows s.data.toList).take t):=by
       rw[c9.out,Ln.lineL,hsy,if_neg (by decide),List.append_nil]
      exact⟨⟨⟨v,c.heap bn.out (λe=>e),by rw[bR];exact aw al.out c (λ_ _ _ e=>e)⟩,c.heap E.out (λe=>e),c.heap F.out (λe=>e),c.heap G.out (λe=>e),d5.out,l.out.trans (c.to_below l.out.size (λ_ _ e=>e))⟩,c.mono (λ_ _ e=>e.elim),.of_far c (λe=>e) (λe=>e)⟩
     |true=>
      obtain⟨k,ca⟩:∃k,(Ln.lns 1 ((Ln.rows s.data.toList).take t)).length=k:=⟨_,rfl⟩;have f6:k<=t:=by rw[<-ca];have:=rh 1 ((Ln.rows s.data.toList).take t);rw[el.out]at this;exact this
      have fX:t<=1000000:=by have:=Ln.dD s.data.toList;rw[ap]at this;omega
      have a0:=e2.out;unfold AC at a0;rw[ca]at a0;have bR:Ln.lns 1 ((Ln.rows s.data.toList).take (t+1))=Ln.lns 1 ((Ln.rows s.data.toList).take t)++[⟨n,i,H.data.toList⟩]:=by
       rw[c9.out,Ln.lineL,hsy,if_pos rfl,d6.out]
      have ej:ye (Ln.lns 1 ((Ln.rows s.data.toList).take (t+1)))=ye (Ln.lns 1 ((Ln.rows s.data.toList).take t))++[V I n,V I i,U H]:=by
       rw[bR,eO];rfl
      have d0:(Ln.lns 1 ((Ln.rows s.data.toList).take (t+1))).length=k+1:=by rw[bR,zP,ca];rfl
      have gj:=zF cb.out 0 rfl;have f0:=ag cb.out 0;have fT:=lt_of_heap cb.out;obtain⟨fw,fl⟩:=zx2 ej d0;have e3:k+1<=maxLen:=by unfold maxLen;omega
      have fL:(k+1) * 32<=140737488355328:=by omega
      have e4:∀(j:Nat) (c6:Value),[Value.int I n,V I i,U H][j]? =W c6->((o.alloc (Obj.cells #[Value.int IntKind.i64 n,Value.int IntKind.i64 i,Value.string H] 140)).alloc (Obj.cells #[Value.int IntKind.i64 n,Value.int IntKind.i64 i,Value.string H] 140)).cell? ((⟨o.heap.size+1,0,O⟩:Addr).add j)=W c6:=by
       intro j c6 e5;have fs:(⟨o.heap.size+1,0,O⟩:Addr).add j=⟨o.heap.size+1,j,O⟩:=by unfold Addr.add;split<;>simp_all
       rw[fs,ae (ah _ _ (o.heap.size+1) (by simp)) j]
       simpa using e5
      have b5:p+4<=((o.alloc (Obj.cells #[Value.int IntKind.i64 n,Value.int IntKind.i64 i,Value.string H] 140)).alloc (Obj.cells #[Value.int IntKind.i64 n,Value.int IntKind.i64 i,Value.string H] 140)).heap.size:=by simp;omega
      clear bR ej d0 ca c9 d6 hsy
      gi_wp2_with (gi_at_builtin;refine wpListIn_append_own _ rfl (.tmp 38) (.tmp 40) 101 rfl (p+4) 140 e9 _ 3 32 underlying101 a9 e7 fE fr rfl (by decide) v k _ rfl ((a0.alloc _).alloc _) ⟨o.heap.size+1,0,O⟩ 1 1 [V I n,V I i,U H] rfl rfl e4 (by simp[Value.oneCell']) e3 fL b5 ?_;intro gc w5 dc d4 _;obtain⟨g,cap,rfl,f5,ge⟩:=aA dc;have av:=a0.lt;have d3:Far (λk=>p+4<=k) o w5:=(((ξ _ o).alloc _).alloc _).grown d4 (λk e _=>(av k e).1);have ab:=d3.heap cb.out (by omega);have gl:w5.cell? ⟨p,0,O⟩=W v:=ae ab 0;have gk:w5.frozen? ⟨p,0,O⟩=false:=ag ab 0;have fv:=zD ab;have fG:=zD dc;clear ab dc d4 av)
      have dv:Far (λk=>k=p) w5 (w5.setCell ⟨p,0,O⟩ (Y (W ⟨g,0,O⟩) (k+1) cap)):=(ξ (λk=>k=p) w5).setCell (p:=⟨p,0,O⟩) (λ_=>rfl) _;have a6:Far (λk=>k=p\/p+4<=k) d (w5.setCell ⟨p,0,O⟩ (Y (W ⟨g,0,O⟩) (k+1) cap)):=((ba.out.mono (λ_ _ e=>e.elim)).trans (d3.mono (λ_ _ e=>.inr e))).trans (dv.mono (λ_ _ e=>.inl e));refine⟨⟨⟨Y (W ⟨g,0,O⟩) (k+1) cap,ai fv.out 0 _,?_⟩,a6.heap E.out (by omega),a6.heap F.out (by omega),a6.heap G.out (by omega),d5.out,l.out.trans (a6.to_below l.out.size (by intro i b3 c0;omega))⟩,a6.mono (by intro k _ b;omega),.of_far a6 (by omega) (by omega)⟩;unfold AC;rw[fw.out,fl.out];exact aw fG.out dv (by intro k b3 _ c0;omega)
    ·rw[A]
     have b0:Ln.bad 1 (Ln.rows s.data.toList)=((t:Int)+1,80):=uM _ t r.data.toList dC.out db.out 80 b1 (by decide);have c1:=zD b0;clear b0
     gi_wp2_with fail
     refine⟨λ_ _=>trivial,?_⟩;rw[xb];simp only[Result.andThen];rw[uc]
     gi_wp2_with fail
     refine(CallsIn.inRound _ (callsIn_wide.2 (ta b4))).mono ?_;rintro e o ⟨rfl,ac⟩;have f:Far xO d o:=c2.out.below ac;have L:=f.heap E.out (λe=>e);have M:=f.heap F.out (λe=>e);have P:=f.heap G.out (λe=>e);have bb:=zF L 0 rfl;have cf:=zF M 0 rfl;have bs:=zF P 0 rfl;have b8:=ag L 0;have ch:=ag M 0;have cl:=ag P 0;obtain⟨cv,df,da,ba⟩:=zx4 L M P f;clear L M P f ac
     gi_wp2_with fail
     obtain⟨ao,a1,an⟩:=cu (Y O 0 0) (V I ((t:Int)+1)) (V I 80) _ _ _ cv.out df.out da.out;have c:=((ba.out.mono (D':=λk=>k=w.heap.size\/k=w.heap.size+1\/k=w.heap.size+1+1) (λ_ _ e=>e.elim)).setCell (p:=⟨w.heap.size,0,O⟩) (λ_=>.inl rfl) (Y O 0 0)).setCell (p:=⟨w.heap.size+1,0,O⟩) (λ_=>.inr (.inl rfl)) (V I ((t:Int)+1)) |>.setCell (p:=⟨w.heap.size+1+1,0,O⟩) (λ_=>.inr (.inr rfl)) (V I 80);refine⟨⟨rfl,?_⟩,c.mono (by intro k _ b;omega),.of_far c (by omega) (by omega)⟩;unfold SX;rw[c1.out];exact⟨(λe=>by cases e),ao,a1,an,l.out.trans (c.to_below l.out.size (by intro i a9 b;omega))⟩
    ·rw[A]
     have b0:Ln.bad 1 (Ln.rows s.data.toList)=((t:Int)+1,81):=uM _ t r.data.toList dC.out db.out 81 b1 (by decide);have c1:=zD b0;clear b0
     gi_wp2_with fail
     refine⟨λ_ _=>trivial,?_⟩;rw[xa];simp only[Result.andThen];rw[ub]
     gi_wp2_with fail
     refine(CallsIn.inRound _ (callsIn_wide.2 (tO b4))).mono ?_;rintro e o ⟨rfl,ac⟩;have f:Far xO d o:=c2.out.below ac;have L:=f.heap E.out (λe=>e);have M:=f.heap F.out (λe=>e);have P:=f.heap G.out (λe=>e);have bb:=zF L 0 rfl;have cf:=zF M 0 rfl;have bs:=zF P 0 rfl;have b8:=ag L 0;have ch:=ag M 0;have cl:=ag P 0;obtain⟨cv,df,da,ba⟩:=zx4 L M P f;clear L M P f ac
     gi_wp2_with fail
     obtain⟨ao,a1,an⟩:=cu (Y O 0 0) (V I ((t:Int)+1)) (V I 81) _ _ _ cv.out df.out da.out;have c:=((ba.out.mono (D':=λk=>k=w.heap.size\/k=w.heap.size+1\/k=w.heap.size+1+1) (λ_ _ e=>e.elim)).setCell (p:=⟨w.heap.size,0,O⟩) (λ_=>.inl rfl) (Y O 0 0)).setCell (p:=⟨w.heap.size+1,0,O⟩) (λ_=>.inr (.inl rfl)) (V I ((t:Int)+1)) |>.setCell (p:=⟨w.heap.size+1+1,0,O⟩) (λ_=>.inr (.inr rfl)) (V I 81);refine⟨⟨rfl,?_⟩,c.mono (by intro k _ b;omega),.of_far c (by omega) (by omega)⟩;unfold SX;rw[c1.out];exact⟨(λe=>by cases e),ao,a1,an,l.out.trans (c.to_below l.out.size (by intro i a9 b;omega))⟩
   case done=>
    rintro d ⟨⟨v,b2,a3⟩,y,C,z,a5,T⟩ _ N;rw[x.out]at N ⊢;rw[List.take_length]at a3 a5;have u:=Ln.nt s.data.toList ((Ln.d9 s.data.toList).2 ⟨by rw[ap];omega,hrt,a5⟩);obtain⟨bq,bx,cap,rfl⟩:∃bq bx cap,v=Y bq bx cap:=by
     rcases a3.2 with ⟨A,_⟩|⟨g,cap,f1,A,_⟩
     ·exact⟨_,_,_,A⟩
     ·exact⟨_,_,_,A⟩
    have bb:=zF y 0 rfl;have cf:=zF C 0 rfl;have bs:=zF z 0 rfl;have c3:=zF b2 0 rfl;have b8:=ag y 0;have ch:=ag C 0;have cl:=ag z 0;obtain⟨al,E,F,G,l,cT⟩:=zx6 a3 y C z T N;have bw:=zD u;clear b2 a3 y C z a5 T N u
    go_wp2_with fail
    obtain⟨ao,a1,an⟩:=cu (Y bq bx cap) (V I 0) (V I 0) _ _ _ E.out F.out G.out;have c:Far (λk=>k=w.heap.size\/k=w.heap.size+1\/k=w.heap.size+1+1) d (((d.setCell ⟨w.heap.size,0,O⟩ (Y bq bx cap)).setCell ⟨w.heap.size+1,0,O⟩ (V I 0)).setCell ⟨w.heap.size+1+1,0,O⟩ (V I 0)):=
     (((ξ _ d).setCell (λ_=>.inl rfl) _).setCell (λ_=>.inr (.inl rfl)) _).setCell (λ_=>.inr (.inr rfl)) _
    refine gP p _ (Y bq bx cap) 0 0 _ ao a1 ⟨_,_,_,rfl⟩ an S (c.heap cT.out (by omega)) rfl rfl rfl rfl ?_;intro a2 b6;refine⟨⟨_,by rw[bw.out],?_⟩,((l.out.trans (c.to_below l.out.size (by intro i a9 b;omega)))).trans (b6.to_below (Nat.le_trans l.out.size c.size) (by intro i a9 b;omega))⟩;rw[bw.out];have b:=aw (aw al.out c (by intro k b3 c0 b;omega)) b6 (by intro k b3 c0 b;omega);exact aW b (by omega)
   case stop=>
    rintro b9 d ⟨rfl,fz,y,C,z,T⟩ N;rw[x.out]at N ⊢;have u:Ln.split s.data.toList=([],Ln.bad 1 (Ln.rows s.data.toList)):=by
     unfold Ln.split;rw[if_neg (by rw[ap];omega),if_neg (by rw[hrt];simp),if_neg fz]
    obtain⟨cT,E,F,G,l,bw⟩:=zx6 N y C z T u;clear y C z T N u;refine wpIn_wide.2 ?_
    go_wp2_with fail
    refine gP p d (Y O 0 0) _ _ _ E.out F.out ⟨_,_,_,rfl⟩ G.out S cT.out rfl rfl rfl rfl ?_;intro a2 b6;refine⟨⟨_,by rw[bw.out],?_⟩,l.out.trans (b6.to_below l.out.size (by intro i a9 b;omega))⟩;rw[bw.out];exact World.ownsRow_nil _ _ _ _
end
section
attribute [local go_sem] ak
attribute [local go_sem] Oper.semAt_some
theorem v6(n:Int)(a:World):(Instr.typeAssert (.iface 473 (γ #[V I n])) 469 473 true).run π a=.ok (.tuple #[γ #[V I n],β true]) a:=by kernel_rfl
theorem pq(args:Array Value)(w:World):(callFunc 318 args).run π w=.ok (.enter 318 args) w:=by kernel_rfl
def sgs(a:List (Int × Nat))(t:Nat):List Value:=(a.take t).flatMap λx=>Lib.runeCells x.1
theorem uW(a:List (Int × Nat))(t:Nat):(sgs a t).length<=4 * t:=by
 have:∀l:List (Int × Nat),(l.flatMap λx=>Lib.runeCells x.1).length<=4 * l.length:=by
  intro l;induction l with
  |nil=>simp
  |cons x l ih=>
   have:(Lib.runeCells x.1).length<=4:=by unfold Lib.runeCells;rw[List.length_map];exact Lib.encodeRuneZ_length_le x.1
   simp only[List.flatMap_cons,zP,zO];omega
 have b:=this (a.take t);have:=List.length_take_le t a;unfold sgs;omega
theorem te(a:List (Int × Nat))(t:Nat)(x:Int × Nat)(b:a[t]? =W x):sgs a (t+1)=sgs a t++Lib.runeCells x.1:=by
 unfold sgs;rw[zG,b,List.flatMap_append];simp
def RF(a p:Nat):NS:=λk=>k=p\/k=a\/k=a+1\/k=a+1+1\/p+5<=k
def RI(w:World)(p:Nat)(b:List (Int × Nat))(t:Nat)(c:NS)(a:World):Prop:=
 c=RF w.heap.size p/\t<=b.length/\a.heap[w.heap.size]? =W (J #[U ⟨#[]⟩] 9 (0,0))/\a.heap[w.heap.size+1]? =W (J #[V I 0] 3 (0,0))/\a.heap[w.heap.size+1+1]? =W (J #[V I 0] 24 (0,0))/\Bd (p+5) p (sgs b t) a/\Below w.heap.size w a
def RX(w:World)(p:Nat)(o:Value)(e:Int)(b:Code)(c:NS)(a:World):Prop:=
 c=RF w.heap.size p/\b=.ret/\a.heap[w.heap.size]? =W (J #[o] 9 (0,0))/\a.heap[w.heap.size+1]? =W (J #[V I e] 3 (0,0))/\a.heap[w.heap.size+1+1]? =W (J #[V I 0] 24 (0,0))/\Below w.heap.size w a
theorem RI.far{w:World}{p:Nat}{f:List (Int × Nat)}{t:Nat}{g D:NS}{c j:World}(u:RI w p f t g c)(b:Far D c j)(a:∀k,D k->w.heap.size<=k/\¬RF w.heap.size p k):RI w p f t g j:=by
 obtain⟨o,l,r,n,q,s,d⟩:=u;exact⟨o,l,b.heap r (λe=>(a _ e).2 (.inr (.inl rfl))),b.heap n (λe=>(a _ e).2 (.inr (.inr (.inl rfl)))),b.heap q (λe=>(a _ e).2 (.inr (.inr (.inr (.inl rfl))))),s.far b (λe=>(a _ e).2 (.inl rfl)) (λk m _ e=>(a _ e).2 (.inr (.inr (.inr (.inr m))))),d.trans (b.to_below d.size (λi v e=>by have:=(a _ e).1;omega))⟩
theorem RX.far{w:World}{p:Nat}{o:Value}{e:Int}{g:Code}{f D:NS}{c j:World}(s:RX w p o e g f c)(b:Far D c j)(a:∀k,D k->w.heap.size<=k/\¬RF w.heap.size p k):RX w p o e g f j:=by
 obtain⟨n,l,r,m,q,d⟩:=s;exact⟨n,l,b.heap r (λe=>(a _ e).2 (.inr (.inl rfl))),b.heap m (λe=>(a _ e).2 (.inr (.inr (.inl rfl)))),b.heap q (λe=>(a _ e).2 (.inr (.inr (.inr (.inl rfl))))),d.trans (b.to_below d.size (λi t e=>by have:=(a _ e).1;omega))⟩
theorem isq(q:UInt8)(b:q=34\/q=39):(∀a,(convert 5 21 (V .u8 (q.toNat:Int))).run π a=.ok (V .i32 (q.toNat:Int)) a)/\decide ((q.toNat:Int)∈([34,39]:List Int))=true:=by
 rcases b with rfl|rfl
 ·exact⟨λ_=>by kernel_rfl,by decide⟩
 ·exact⟨λ_=>by kernel_rfl,by decide⟩
theorem qz(q:UInt8)(a5:q=34\/q=39)(s:ByteArray)(gc:s.size<=100000)(dC:Ln.right s.data.toList=true)(p:Nat)(b9:s.data.toList[p]? =W q)(M:Ln.right (s.data.toList.drop (p+1))=true)(n:Nat)(o r:Tp.B)(dc:Tp.unq q n (s.data.toList.drop (p+1))=W (o,r))(w:World)(ab:Glob w):
 Calls π 284 #[U s,V I (p:Int)] w λe w'=>e=ρ (.tuple #[xR o,V I ((s.size - r.length:Nat):Int),V I 0])/\Below w.heap.size w w':=by
 obtain⟨j,z,P,fG,fv,dJ,a0,dr,cf⟩:=cd q a5 s n (p+1) o r M dc;have ds:s.size - r.length=z:=by
  have:=congrArg List.length dJ;rw[zZ,ap]at this;omega
 rw[ds];have c1:p < s.size:=by rw[<-ap];exact(zM.1 b9).1
 have fE:∀f,(Instr.index 9 (U s) (V I (p:Int))).run π f=.ok (V .u8 (q.toNat:Int)) f:=by
  intro f;rw[vQ s (p:Int) p rfl c1 f];unfold Ln.nat
  rw[zY,b9];rfl
 obtain⟨e4,b2⟩:=isq q a5;have d5:IntKind.i64.wrap ((p:Int)+1)=((p+1:Nat):Int):=by rw[show (p:Int)+1=((p+1:Nat):Int)by omega];exact zU _ (by omega)
 have e9:¬(s.size:Int)<=(p:Int):=by omega
 have gx:j.length<=100000:=by omega
 obtain⟨ac,ca⟩:∃ac:ByteArray,(⟨o.toArray⟩:ByteArray)=ac:=⟨_,rfl⟩;have fn:∀f,Lib.IsBuilderF 38 5 0 0 [] f->True:=λ_ _=>trivial;obtain⟨av,b4⟩:∃av:Int,((p+1:Nat):Int)=av:=⟨_,rfl⟩;obtain⟨Q,dm⟩:∃Q:Int,(q.toNat:Int)=Q:=⟨_,rfl⟩;have bx:=λel fX e8 fL e5=>mn q a5 s (by omega) j z (p+1) el fX e8 fL e5 P;have da:=oI s Q av;rw[b4]at d5;simp only[b4,dm]at bx fE e4 b2;have bk:=λf g cap b=>cn Q [34,39] (W ⟨g,0,O⟩) g 0 2 cap rfl (by omega) f b;rw[b2]at bk;have be:=bt s (by omega);rw[dC]at be;obtain⟨a1,eM,c6,fz,ex,f1⟩:=zx6 ab bx da dr a0 be;have fs:=zD bk;rw[show xR o=U ac by rw[<-ca];rfl];have fT:=zD ca;unfold rdV at c6;clear ab bx da dr a0 be bk dc b9 M dC P dJ ca fn b4 dm ds b2 cf fG fv c1 a5;refine callsIn_wide.1 (callsIn_of_wp_marks (n:=5) func284 rfl trivial (wpIn_wide.2 ?_));simp only[ntmps284,List.size_toArray,zO,List.length_nil,Nat.reduceAdd,Nat.reduceSub,Array.replicate_succ,Array.replicate_zero,List.push_toArray,List.append_toArray,List.nil_append,List.cons_append];have b5:Below w.heap.size w (((w.alloc (J #[U ⟨#[]⟩] 9)).alloc (J #[V I 0] 3)).alloc (J #[V I 0] 24)):=(((ζ _ _).alloc (η _) _).alloc (by simp) _).alloc (by simp;omega) _
 go_wp2_with fail
 refine(f1.out _ (a1.out.step b5)).mono ?_;rintro e G ⟨rfl,an⟩;have cv:G.heap[w.heap.size]? =W (J #[U ⟨#[]⟩] 9 (0,0)):=(an.block _ (by simp;omega)).trans (aa _ (aa _ (ah _ _ _ rfl)));have dj:G.heap[w.heap.size+1]? =W (J #[V I 0] 3 (0,0)):=(an.block _ (by simp)).trans (aa _ (ah _ _ _ (by simp)));have b3:G.heap[w.heap.size+1+1]? =W (J #[V I 0] 24 (0,0)):=(an.block _ (by simp)).trans (ah _ _ _ (by simp));have c5:Below w.heap.size w G:=b5.trans (an.mono (by simp;omega));have fr:w.heap.size+3<=G.heap.size:=by have:=lt_of_heap b3;omega
 obtain⟨cb,dW,d0,a6⟩:=zx4 cv dj b3 c5;clear an cv dj b3 c5 b5
 go_wp2_with fail
 refine(fs.out _ _ _ (fC _ _ _)).mono ?_;rintro e gJ ⟨rfl,rfl⟩;obtain⟨a,dl⟩:∃a,G.heap.size+1=a:=⟨_,rfl⟩;have d2:=zD dl
 go_wp2_with fail
 refine(c6.out _).mono ?_;rintro e L ⟨rfl,y⟩;have cc:((G.alloc (Obj.cells #[Value.int IntKind.i32 34,Value.int IntKind.i32 39] 21)).alloc (Obj.cells #[Value.pointer O,Value.slice O 0 0] 38)).heap.size=a+1:=by simp;omega
 rw[cc];have dv:L.heap.size=a+3:=by rw[y];simp;omega
 have dp:L.heap[a]? =W (J #[Z O,Y O 0 0] 38 (0,0)):=by rw[y];exact aa _ (aa _ (ah _ _ _ (by simp;omega)))
 have db:L.heap[a+1]? =W (J #[U s,V .i32 Q] 466 (0,0)):=by rw[y];exact aa _ (ah _ _ _ (by simp;omega))
 have c3:L.heap[a+1+1]? =W (J #[V I av] 3 (0,0)):=by rw[y];exact ah _ _ _ (by simp;omega)
 have b6:Below w.heap.size w L:=by rw[y];have:=a6.out.size;exact(((a6.out.alloc a6.out.size _).alloc (by simp;omega) _).alloc (by simp;omega) _).alloc (by simp;omega) _
 have dg:=a1.out.step b6;have cS:RI w a j 0 (RF w.heap.size a) L:=by
  refine⟨rfl,z_ _,?_,?_,?_,⟨_,_,.inl rfl,dp,World.ownsRowF_nil _ _ _ _,by simp[Value.ownBlock]⟩,b6⟩
  ·rw[y];exact aa _ (aa _ (aa _ (aa _ cb.out)))
  ·rw[y];exact aa _ (aa _ (aa _ (aa _ dW.out)))
  ·rw[y];exact aa _ (aa _ (aa _ (aa _ d0.out)))
 have f5:w.heap.size+3<=a:=by omega
 obtain⟨fY,C,ft,e2,d1⟩:=zx5 cS dv db c3 dg;have ga:=a1.out.1;clear y cc fr dv dp db c3 b6 cS dg cb dW d0 a6 dl d2
 go_wp2_with fail
 refine wpIn_wide.1 (aC (n:=5) (gf:=318) (lb:=#[Z (W ⟨a+1,0,O⟩),Z (W ⟨a+1+1,0,O⟩)]) rfl (λargs wx=>pq args wx)
  (eM.out (a+1) (a+1+1) (by omega) (by omega) (by omega) L ft.out e2.out d1.out) (λk e=>by have:=C.out;omega) (λk e=>by have:=C.out;have:=d1.out.1;omega) (λt v eq f b=>by obtain⟨⟨rfl,_⟩,_⟩:=b;rfl)
  (RI w a j) (RX w a (U ac) (z:Int)) (RF w.heap.size a) (λk b=>by have:=C.out;have:=a1.out.1;unfold RF at b;refine⟨?_,?_,?_,?_,λb=>b.elim⟩<;>omega) fY.out ?hI ?hIx (λ_ _ _ _=>trivial) (λ_ _ _ _=>trivial) ?round ?done ?stop)
 case hI=>
  intro t E f di b bR;obtain rfl:E=_:=b.1;exact b.far bR (λk e=>⟨by have:=C.out;rcases e.2 with b|b<;>omega,e.1⟩)
 case hIx=>
  intro t E f di b bR;obtain rfl:E=_:=b.1;exact b.far bR (λk e=>⟨by have:=C.out;rcases e.2 with b|b<;>omega,e.1⟩)
 case round=>
  rintro t E eq v f K f4 ek hI ⟨⟨rfl,rfl⟩,⟨gr,gj,b8⟩,ge,ba⟩ ab bD H;obtain rfl:E=_:=hI.1;have b0:=C.out;rw[b0]at ek;by_cases dn:t < j.length
  ·obtain⟨r,n,bn⟩:∃r n,j[t]? =W (r,n):=⟨_,_,zE dn⟩
   have fR:=fz.out _ (zL bn);rw[show Aq j z t=yD r (n:Int)by unfold Aq;rw[bn]];have e3:=we r (n:Int);have c0:=te j t _ bn;have cf:=uW j t;unfold yD;simp only at fR c0;generalize (n:Int)=l at *
   gi_wp2
   refine H _ _ (ξ _ f) ?_;intro d u _ _;rw[b0]at u;have a2:=hI.far u (λk e=>⟨by omega,λb=>by unfold RF at b;omega⟩);have e1:=a2.far ((ξ xO d).alloc (J #[V .i32 r,V I l] 471)) (λk e=>e.elim);obtain⟨_,c2,S,ad,D,A,F⟩:=e1;have M:=xq (a+5) a _ r (by omega) (by omega) _ A (by omega) (by simp;have:=u.size;omega);rw[<-c0]at M;obtain⟨er,e7,e6,d4,al⟩:=zx5 M S ad D F;clear hI a2 u S ad D A F M H b8 ba ab bD
   gi_wp2_with fail
   refine⟨trivial,(CallsIn.inRound _ (callsIn_wide.2 er.out)).mono ?_⟩;rintro e c ⟨⟨m,rfl⟩,ej,N⟩;have e0:Far (RF w.heap.size a) d c:=(((ξ xO d).alloc (J #[V .i32 r,V I l] 471)).mono (λ_ _ e=>e.elim)).trans (N.mono (λk _ e=>by unfold RF;omega));have eg:RI w a j (t+1) (RF w.heap.size a) c:=⟨rfl,dn,N.heap e7.out (by omega),N.heap e6.out (by omega),N.heap d4.out (by omega),ej,al.out.trans (N.to_below al.out.size (λi df e=>by omega))⟩;clear N
   gi_wp2_with fail
   exact⟨_,eg,e0,λk b=>⟨.inl b,λb=>b.elim⟩⟩
  ·have c9:t=j.length:=by have:=hI.2.1;omega
   subst c9;rw[show Aq j z j.length=Aj (z:Int)by unfold Aq;rw[List.getElem?_eq_none (η _)]];have e3:=v8 (z:Int);have c9:=v6 (z:Int);unfold Aj;generalize (z:Int)=l at *
   gi_wp2
   refine H _ _ (ξ _ f) ?_;intro d u T R;rw[b0]at u T R;have a2:=hI.far u (λk e=>⟨by omega,λb=>by unfold RF at b;omega⟩);have bb:=u.heap b8 (by omega);have bs:=u.heap ba (by omega);obtain⟨_,c2,S,ad,D,A,F⟩:=a2;have a0:sgs j j.length=Lib.byteCells o:=by unfold sgs;rw[List.take_length];exact ex.out
   rw[a0]at A;have bm:=af d (J #[V I l] 473);have co:∀k x,d.heap[k]? =W x->(d.alloc (J #[V I l] 473)).drew.heap[k]? =W x:=λk x b=>aa _ b;have cl:Lib.IsBuilderF 38 5 a a (Lib.byteCells o) (d.alloc (J #[V I l] 473)).drew:=(A.far (((ξ xO d).alloc (J #[V I l] 473)).drew) (λe=>e) (λ_ _ _ e=>e)).is (by omega) (η _);have P:=Tryz.Builder_String_any_k a a o _ cl (by have:=lt_of_heap R;show a<=(d.alloc _).heap.size;simp;omega);rw[fT.out]at P;have f2:=zD P;have ef:=zF bm 0 rfl;have gb:(d.alloc (J #[V I l] 473)).drew.cell? ⟨d.heap.size,0,O⟩=W (V I l):=ef;have cT:∀c:World,Below a (d.alloc (J #[V I l] 473)).drew c->Lib.OthersKept 5 (W a) (d.alloc (J #[V I l] 473)).drew c->Far (RF w.heap.size a) d c/\c.heap[w.heap.size]? =W (J #[U ⟨#[]⟩] 9 (0,0))/\c.heap[w.heap.size+1]? =W (J #[V I 0] 3 (0,0))/\c.heap[w.heap.size+1+1]? =W (J #[V I 0] 24 (0,0))/\c.heap[d.heap.size]? =W (J #[V I l] 473 (0,0)):=by
    intro c X ch;have ok:∀k x,d.heap[k]? =W x->k≠a->(∀cm ep,x≠J cm 5 ep)->c.heap[k]? =W x:=λk x b bw ei=>ch k x (co k x b) (λe=>bw (Option.some.inj e)) ei;refine⟨⟨X.os,X.tape.trans ?_,X.output,Nat.le_trans (by simp) X.size,?_⟩,ok _ _ S (by omega) (by simp),ok _ _ ad (by omega) (by simp),ok _ _ D (by omega) (by simp),ch _ _ bm (by have:=lt_of_heap R;simp;omega) (by simp)⟩
    ·rfl
    ·intro k bw f0
     unfold RF at f0;rcases Nat.lt_or_ge k a with b|b
     ·exact(X.block k b).trans (Below.heap_alloc _ _ _ bw)
     ·have:k=a+1\/k=a+1+1\/k=a+3\/k=a+3+1:=by omega
      obtain⟨gd,T⟩:=T;rcases this with rfl|rfl|rfl|rfl
      ·exact(ok _ _ bb (by omega) (by simp)).trans bb.symm
      ·exact(ok _ _ bs (by omega) (by simp)).trans bs.symm
      ·exact(ok _ _ R (by omega) (by simp)).trans R.symm
      ·exact(ok _ _ T (by omega) (by simp)).trans T.symm
   have fu:=zD cT;have fl:RowKit.Hid (w.heap.size < d.heap.size):=zD (lt_of_heap S);have al:=zD F;clear hI H b8 ba ab bD u bm co cl P cT S ad D A F bb bs R T
   gi_wp2_with fail
   gi_region_with (refine⟨trivial,(CallsIn.inRound _ (callsIn_wide.2 f2.out)).mono ?_⟩;rintro e c ⟨rfl,d3,c4,ck⟩;obtain⟨dA,a4,a9,a3,b1⟩:=fu.out c c4 ck;have f3:c.cell? ⟨d.heap.size,0,O⟩=W (V I l):=ae b1 0;have f9:(c.setCell ⟨w.heap.size,0,O⟩ (U ac)).cell? ⟨d.heap.size,0,O⟩=W (V I l):=ae ((Below.heap_setCell _ _ _ _ (by show d.heap.size≠w.heap.size;have:=fl.out;omega)).trans b1) 0;have gl:c.cell? ⟨w.heap.size,0,O⟩=W (U ⟨#[]⟩):=ae a4 0;have gg:c.cell? ⟨w.heap.size+1,0,O⟩=W (V I 0):=ae a9 0;have f8:c.cell? ⟨w.heap.size+1+1,0,O⟩=W (V I 0):=ae a3 0;have f6:c.frozen? ⟨w.heap.size,0,O⟩=false:=ag a4 0;have e9:c.frozen? ⟨w.heap.size+1,0,O⟩=false:=ag a9 0;have gk:c.frozen? ⟨w.heap.size+1+1,0,O⟩=false:=ag a3 0;have bq:=zD dA;have fS:=zD a4;have fc:=zD a9;have en:=zD a3;clear d3 c4 ck dA a4 a9 a3 b1)
   all_goals gi_wp2_with fail
   all_goals (
    have f7:=bq.out;refine⟨_,⟨rfl,rfl,(Below.heap_setCell _ _ _ _ (by show w.heap.size≠w.heap.size+1+1;omega)).trans ((Below.heap_setCell _ _ _ _ (by show w.heap.size≠w.heap.size+1;omega)).trans (ai fS.out 0 _)),(Below.heap_setCell _ _ _ _ (by show w.heap.size+1≠w.heap.size+1+1;omega)).trans (ai ((Below.heap_setCell _ _ _ _ (by show w.heap.size+1≠w.heap.size;omega)).trans fc.out) 0 _),ai ((Below.heap_setCell _ _ _ _ (by show w.heap.size+1+1≠w.heap.size+1;omega)).trans ((Below.heap_setCell _ _ _ _ (by show w.heap.size+1+1≠w.heap.size;omega)).trans en.out)) 0 _,?_⟩,((bq.out.setCell (λ_=>.inr (.inl rfl)) _).setCell (λ_=>.inr (.inr (.inl rfl))) _).setCell (λ_=>.inr (.inr (.inr (.inl rfl)))) _,λk b=>⟨.inl b,λb=>b.elim⟩⟩;exact(((al.out.trans (bq.out.to_below al.out.size (λi df e=>by unfold RF at e;omega))).setCell (η _) _).setCell (Nat.le_succ _) _).setCell (by show w.heap.size<=w.heap.size+1+1;omega) _)
 case done=>
  rintro E f ⟨_,c2,_⟩;omega
 case stop=>
  rintro cm E f ⟨rfl,rfl,D,A,F,ct⟩ H bD;rw[C.out]at H ⊢;refine wpIn_wide.2 ?_
  go_wp2_with fail
  refine au (q:=a+3) rfl H ?_;intro di ao;have fw:=zF (ao.heap D (by omega)) 0 rfl;have es:=zF (ao.heap A (by omega)) 0 rfl;have d6:=zF (ao.heap F (by omega)) 0 rfl;exact⟨_,by simp[results,results284,go_sem,fw,es,d6],rfl,ct.trans (ao.to_below ct.size (λi df e=>by omega))⟩
end
theorem oC(q:UInt8)(bD:q=34\/q=39)(a:Nat)(s:ByteArray)(p d:Nat)(cm:s.size<=100000)(a2:Ln.right s.data.toList=true)(a3:s.data.toList[p]? =W q)(P:Ln.right (s.data.toList.drop (p+1))=true)(n:Nat)(o k:Tp.B)(ab:Tp.unq q n (s.data.toList.drop (p+1))=W (o,k))
(X:(Tp.closed d k||k.head?==W 58)=true)(w:World)(a0:Glob w)(dp:10<=a)(u:yb w a s p d):
 Calls π 260 #[Z (W ⟨a,0,O⟩)] w (yh w a s (s.size - k.length) d ⟨2,o,p⟩):=by
 obtain⟨_,i,_,_,c5,M,_,_,_⟩:=cd q bD s n (p+1) o k P ab;have b0:s.size - k.length=i:=by
  have:=congrArg List.length M;rw[zZ,ap]at this;omega
 have H:=qz q bD s cm a2 p a3 P n o k ab;rw[b0]at H ⊢;have C:=bT a s i d i 0 (by omega) (by omega) (by omega);rw[M]at C;have bx:yC s i [58]=(k.head?==W 58):=by
  unfold yC;rw[<-M,List.head?_drop];cases s.data.toList[i]? with
  |none=>rfl
  |some c=>simp[List.contains_cons];rw[Bool.eq_iff_iff];simp
 have A:=λg v u c1=>cO a s i d i 0 (by omega) (by omega) (by omega) [58] g 1 rfl (by omega) v u c1;rw[bx]at A;obtain⟨T,bw⟩:∃T,Tp.closed d k=T:=⟨_,rfl⟩;rw[bw]at C X;obtain⟨ad,ba⟩:∃ad,(k.head?==W 58)=ad:=⟨_,rfl⟩;rw[ba]at A X;have a4:=lt_of_heap u;have F:yb (w.alloc (J #[V I 0,U ⟨#[]⟩,V I 0] 305)) a s p d:=aa _ u;have a6:(w.alloc (J #[V I 0,U ⟨#[]⟩,V I 0] 305)).heap[w.heap.size]? =W (J #[V I 0,U ⟨#[]⟩,V I 0] 305):=af w _;have da:Below w.heap.size w (w.alloc (J #[V I 0,U ⟨#[]⟩,V I 0] 305)):=(ζ _ w).alloc (η _) _;have be:∀v,Far xO w v->Glob v:=λv h=>a0.far h (λ_ _ e=>e);obtain⟨f,b3⟩:∃f:ByteArray,(⟨o.toArray⟩:ByteArray)=f:=⟨_,rfl⟩;have S:xR o=U f:=by rw[<-b3];rfl
 rw[S]at H;obtain⟨bq,a9,cT,ca,dj,cc⟩:=zx6 S H C A F u;obtain⟨c0,c6⟩:=zx2 a6 be;have L:=zF F 0 rfl;have D:=zF F 1 rfl;obtain⟨l,bR⟩:∃l:Int,(i:Int)=l:=⟨_,rfl⟩;simp only[bR]at a9;clear u F a6 da H C A a0 be ab a2 a3 P bx bw ba M c5 b0 b3 S
 go_enter func260,ntmps260
 go_upto_region 1 with (fail)
 go_region_held3 (λw'=>w'.cell? ⟨a,0,O⟩=W (U s)/\w'.cell? ⟨a,1,O⟩=W (V I (p:Int))) (first|(with_reducible exact⟨L,D⟩)|exact⟨(World.cell?_of_block (r.block a (by simp;omega))).trans L,(World.cell?_of_block (r.block a (by simp;omega))).trans D⟩|go_keep) (first|(go_at_call 284;refine(a9.out _ (c6.out _ (by first|exact((ξ xO w).alloc _).drew|exact((ξ xO w).alloc _).drewN _))).mono ?_;rintro e b ⟨rfl,r⟩))
 have E:Far xO w b:=by first|exact(((ξ xO w).alloc _).drew).below r|exact(((ξ xO w).alloc _).drewN _).below r
 have m:yb b a s p d:=E.heap cc.out (λe=>e);have y:b.heap[w.heap.size]? =W (J #[V I 0,U ⟨#[]⟩,V I 0] 305):=(r.block _ (by simp)).trans c0.out;obtain⟨dm,dr,dn⟩:=zx3 E m y;have bs:=zF m 1 rfl;have bk:(b.alloc (J #[V I 2,U f,V I (p:Int)] 305)).frozen? ⟨a,1,O⟩=false:=ag (aa _ m) 1;have a1:(b.alloc (J #[V I 2,U f,V I (p:Int)] 305)).cell? ⟨a,1,O⟩=W (V I (p:Int)):=ae (aa _ m) 1;have b1:yb ((b.alloc (J #[V I 2,U f,V I (p:Int)] 305)).setCell ⟨a,1,O⟩ (V I l)) a s i d:=by
  have:=ai (aa (J #[V I 2,U f,V I (p:Int)] 305) m) 1 (V I l);rw[<-bR]at this ⊢;exact this
 have dg:a < b.heap.size:=lt_of_heap m;have ac:((b.alloc (J #[V I 2,U f,V I (p:Int)] 305)).setCell ⟨a,1,O⟩ (V I l)).heap[b.heap.size]? =W (J #[V I 2,U f,V I (p:Int)] 305 (0,0)):=(Below.heap_setCell _ _ _ _ (by show b.heap.size≠a;omega)).trans (af _ _);have b4:((b.alloc (J #[V I 2,U f,V I (p:Int)] 305)).setCell ⟨a,1,O⟩ (V I l)).heap[w.heap.size]? =W (J #[V I 0,U ⟨#[]⟩,V I 0] 305):=(Below.heap_setCell _ _ _ _ (by show w.heap.size≠a;omega)).trans (aa _ y);have bn:Far (·=a) w ((b.alloc (J #[V I 2,U f,V I (p:Int)] 305)).setCell ⟨a,1,O⟩ (V I l)):=((E.mono (D':=(·=a)) (λ_ _ e=>e.elim)).alloc _).setCell (p:=⟨a,1,O⟩) (λ_=>rfl) _;obtain⟨N,z⟩:∃N,b.heap.size=N:=⟨_,rfl⟩;have dl:w.heap.size < N:=by rw[<-z];exact lt_of_heap y
 rw[z]at ac;obtain⟨c3,R,b2,bm,ch⟩:=zx5 z b1 ac b4 bn;clear E m y r b1 ac b4 bn z dg
 go_wp2_with fail
 generalize ((b.alloc (J #[V I 2,U f,V I (p:Int)] 305)).setCell ⟨a,1,O⟩ (V I l))=cl at *;rw[c3.out];refine(cT.out cl R.out).mono ?_;rintro e w5 ⟨rfl,t⟩;have x:=R.out.below t (lt_of_heap R.out);have j:=(t.block _ (lt_of_heap b2.out)).trans b2.out;have u5:=(t.block _ (lt_of_heap bm.out)).trans bm.out;have G:=ch.out.below t;cases T with
 |true=>
  have b8:=zF j 0 rfl;have ck:=zF j 1 rfl;have b5:=zF j 2 rfl;have b6:=zF u5 0 rfl;have b9:=zF u5 1 rfl;have c2:=zF u5 2 rfl;have c4:=ag u5 0;have cf:=ag u5 1;have di:=ag u5 2;obtain⟨dc,df,c9⟩:=zx3 x u5 G;clear x j u5 G t L D bs a1 bk
  go_wp2_with fail
  rw[<-bq.out];exact aF results260 w w5 a s i d ⟨2,o,p⟩ _ df.out dc.out c9.out a4 rfl rfl
 |false=>
  have db:ad=true:=by simpa using X
  subst db;have al:=eC w5 [58] 5;have cS:=zD (ca.out w5.heap.size (w5.alloc (J #[V .u8 58] 5)) (aa _ x) al);have an:=aa (J #[V .u8 58] 5) j;have u6:=aa (J #[V .u8 58] 5) u5;have ao:yb (w5.alloc (J #[V .u8 58] 5)) a s i d:=aa _ x;have bb:=G.alloc (J #[V .u8 58] 5);obtain⟨cb,co,av,cv⟩:=zx4 an ao u6 bb;clear x j u5 G t L D bs a1 bk ao an u6 bb al
  go_wp2_with fail
  refine cS.out.mono ?_;rintro e a5 ⟨rfl,rfl⟩;have j:=cb.out;have u5:=av.out;generalize (w5.alloc (J #[V .u8 58] 5))=a5 at *;have b8:=zF j 0 rfl;have ck:=zF j 1 rfl;have b5:=zF j 2 rfl;have b6:=zF u5 0 rfl;have b9:=zF u5 1 rfl;have c2:=zF u5 2 rfl;have c4:=ag u5 0;have cf:=ag u5 1;have di:=ag u5 2;clear j u5
  go_wp2_with fail
  rw[<-bq.out];exact aF results260 w a5 a s i d ⟨2,o,p⟩ _ av.out co.out cv.out a4 rfl rfl
theorem cX(s:ByteArray)(p m:Nat)(a:Ln.right (s.data.toList.drop p)=true)(b:∀c∈(s.data.toList.drop p).take m,c.toNat < 128):Ln.right (s.data.toList.drop (p+m))=true:=by
 rw[<-List.drop_drop,<-Ln.aS _ _ b,List.take_append_drop];exact a
theorem sb(args:Array Value)(w:World):(callFunc 260 args).run π w=.ok (.enter 260 args) w:=by kernel_rfl
theorem rZ(args:Array Value)(w:World):(callFunc 261 args).run π w=.ok (.enter 261 args) w:=by kernel_rfl
theorem kV(args:Array Value)(w:World):(callFunc 262 args).run π w=.ok (.enter 262 args) w:=by kernel_rfl
theorem rY(args:Array Value)(w:World):(callFunc 263 args).run π w=.ok (.enter 263 args) w:=by kernel_rfl
theorem kU(args:Array Value)(w:World):(callFunc 264 args).run π w=.ok (.enter 264 args) w:=by kernel_rfl
theorem gn(args:Array Value)(w:World):(callFunc 265 args).run π w=.ok (.enter 265 args) w:=by kernel_rfl
theorem qf(b:UInt8)(a:Tp.signC b=true):b.toNat < 128:=by
 unfold Tp.signC at a;simp at a
 omega
theorem oG(a:UInt8)(b:Tp.plainC a=true):a.toNat < 128:=(a8 a b).1
theorem j7(d:Nat)(e:Bool)(l:Tp.B)(k:Int)(b:Tp.B)(c m:Nat)(a:(let u:=Tp.ptake d e l;let s:=Tp.trimR (l.take u);if Tp.okPlain s then W ((1:Int),s,d,u)else O)=W (k,b,c,m)):
 k=1/\m=Tp.ptake d e l/\b=Tp.trimR (l.take m)/\c=d/\Tp.okPlain b=true:=by
 simp only at a;split at a
 ·rename_i hk
  injection a with a;injection a with h1 a;injection a with h2 a;injection a with h3 h4;subst h1 h2 h3 h4;exact⟨rfl,rfl,rfl,rfl,hk⟩
 ·cases a
theorem mX(l:Tp.B)(m:Nat)(c:Tp.okPlain (Tp.trimR (l.take m))=true):∀a∈l.take m,a.toNat < 128:=by
 intro a d;rcases fe _ _ d with b|b
 ·exact oG a ((ci _ c).1 a b)
 ·rw[b];decide
theorem tE(f:Nat)(s:ByteArray)(p d:Nat)(be:s.size<=100000)(b4:Ln.right s.data.toList=true)(a3:Ln.right (s.data.toList.drop p)=true)(c:UInt8)(t:Tp.B)(S:s.data.toList.drop p=c::t)(cv:d<=500000)
(k:Int)(ad:Tp.B)(R m:Nat)(b:Tp.one d (yF s p) (c::t)=W (k,ad,R,m)):1<=m/\p+m<=s.size/\Ln.right (s.data.toList.drop (p+m))=true/\R<=d+1/\
 ∀(w:World),Glob w->10<=f->yb w f s p d->Calls π 198 #[Z (W ⟨f,0,O⟩)] w (yh w f s (p+m) R ⟨k,ad,p⟩):=by
 obtain⟨z,N,b2⟩:=go _ _ _ _ S;rw[ap]at b2;have c1:t.length=s.size - (p+1):=by rw[<-N,zZ,ap]
 unfold Tp.one at b;simp only at b;by_cases T:c.toNat=34\/c.toNat=39
 ·rw[if_pos T]at b
  have b0:c=34\/c=39:=T.imp (λe=>UInt8.toNat_inj.1 e) (λe=>UInt8.toNat_inj.1 e);have bk:c.toNat < 128:=by omega
  have bw:Ln.right (s.data.toList.drop (p+1))=true:=cX s p 1 a3 (by rw[S];intro x M;simp at M;subst M;exact bk);cases an:Tp.unq c (t.length+1) t with
  |none=>rw[an]at b;cases b
  |some x=>
   obtain⟨o,al⟩:=x;rw[an]at b;simp only at b;split at b
   ·rename_i hend
    injection b with b;injection b with y b;injection b with v b;injection b with j i;rw[<-N]at an;obtain⟨co,e,c0,cS,ct,bs,cl,cT,cm,b5⟩:=cd c b0 s _ (p+1) o al bw an;have c2:al.length=s.size - e:=by rw[<-bs,zZ,ap]
    have a2:p+m=s.size - al.length:=by omega
    refine⟨by omega,by omega,?_,by omega,λw G F r=>?_⟩
    ·rw[a2,show s.size - al.length=e by omega,bs];exact b5
    ·rw[a2,<-y,<-v,<-j]
     have E:(V .u8 (c.toNat:Int),rdF 260 f)∈yG f:=by
      unfold yG;rcases T with e|e<;>rw[e]<;>simp
     exact bV 260 c f s p d _ _ _ (by omega) z E (λa w=>sb a w) w r (λg n H=>oC c b0 f s p d be b4 z bw _ o al an hend g (G.step H) F n)
   ·cases b
 rw[if_neg T]at b;by_cases ba:c.toNat=38\/c.toNat=42
 ·rw[if_pos ba]at b
  split at b
  ·rename_i hcond
   injection b with b;injection b with y b;injection b with v b;injection b with j i;rw[zQ]at hcond;obtain⟨ck,ch⟩:=hcond;have bD:=(List.takeWhile_sublist Tp.signC (l:=t)).length_le;have bR:c=38\/c=42:=ba.imp (λe=>UInt8.toNat_inj.1 e) (λe=>UInt8.toNat_inj.1 e);have b3:p+m=p+1+(t.takeWhile Tp.signC).length:=by omega
   refine⟨by omega,by omega,?_,by omega,λw G F r=>?_⟩
   ·refine cX s p m a3 ?_
    rw[S,<-i,Nat.add_comm 1,List.take_succ_cons];intro x M;rcases List.mem_cons.1 M with rfl|M
    ·omega
    ·rw[dd]at M
     exact qf x ((List.all_eq_true.1 (List.all_takeWhile (p:=Tp.signC) (l:=t))) x M)
   ·have E:(V .u8 (c.toNat:Int),rdF 261 f)∈yG f:=by
     unfold yG;rcases ba with e|e<;>rw[e]<;>simp
    have bx:=λg n=>qZ c bR f s p d be z (by rw[N];exact ck) (by rw[N,<-List.drop_drop,N];exact ch) g n;rw[N,<-b3]at bx;have b6:k=if c=38 then 3 else 4:=by
     rw[<-y];rcases bR with rfl|rfl<;>rfl
    rw[b6,<-v,<-j];exact bV 261 c f s p d _ _ _ (by omega) z E (λa w=>rZ a w) w r (λg n H=>bx g n)
  ·cases b
 rw[if_neg ba]at b;have bb:(let u:=Tp.ptake d (yF s p) (c::t);let s:=Tp.trimR ((c::t).take u);if Tp.okPlain s then W ((1:Int),s,d,u)else O)=W (k,ad,R,m)->
  1<=m/\p+m<=s.size/\Ln.right (s.data.toList.drop (p+m))=true/\R<=d+1/\∀(g:World),Glob g->10<=f->yb g f s p d->Calls π 234 #[Z (W ⟨f,0,O⟩)] g (yh g f s (p+m) R ⟨k,ad,p⟩):=by
  intro ca;obtain⟨y,v,j,i,ab⟩:=j7 d (yF s p) (c::t) k ad R m ca;have bD:=(fH s d (c::t) p S).2.2;rw[<-v]at bD;have cf:1<=m:=by
   rcases Nat.eq_zero_or_pos m with bn|bn
   ·rw[bn]at j
    rw[j]at ab;simp[Tp.trimR,Tp.okPlain]at ab
   ·exact bn
  refine⟨cf,by omega,cX s p m a3 (by rw[S];exact mX _ m (by rw[<-j];exact ab)),by omega,λg G F r=>?_⟩;have b1:=oF f s p d be b2 (by rw[S,<-v,<-j];exact ab) g G F r;rw[S,<-v,<-j]at b1;rw[y,i];exact b1
 have X:∀ao:Nat,m=1->c.toNat < 128->1<=m/\p+m<=s.size/\Ln.right (s.data.toList.drop (p+m))=true:=by
  intro ao a2 bk;rw[a2];exact⟨η _,by omega,cX s p 1 a3 (by rw[S];intro x M;simp at M;subst M;exact bk)⟩
 by_cases bm:c.toNat=45
 ·rw[if_pos bm]at b
  have E:(V .u8 (c.toNat:Int),rdF 262 f)∈yG f:=by
   unfold yG;rw[bm];simp
  cases P:Tp.isB t with
  |true=>
   rw[P,if_pos rfl]at b;by_cases L:d=0
   ·rw[if_pos L]at b
    injection b with b;injection b with y b;injection b with v b;injection b with j i;obtain⟨A,C,D⟩:=X 0 i.symm (by omega);refine⟨A,C,D,by omega,λw G F r=>?_⟩;subst L;rw[<-y,<-v,<-j,<-i];exact bV 262 c f s p 0 _ _ _ (by omega) z E (λa w=>kV a w) w r (λg n H=>ul f s p (by omega) (by omega) (by rw[N];exact P) g n)
   ·rw[if_neg L]at b;cases b
  |false=>
   rw[P,if_neg (by decide)]at b;obtain⟨A,C,D,a5,a4⟩:=bb b;exact⟨A,C,D,a5,λw G F r=>bV 262 c f s p d _ _ _ (by omega) z E (λa w=>kV a w) w r (λg n H=>pw f s p d _ _ _ (by omega) (by omega) (by rw[N];exact P) g n (λcb b8 cc=>a4 cb ((G.step H).step cc) F b8))⟩
 rw[if_neg bm]at b;by_cases ac:c.toNat=58
 ·rw[if_pos ac]at b
  have E:(V .u8 (c.toNat:Int),rdF 263 f)∈yG f:=by
   unfold yG;rw[ac];simp
  cases P:Tp.closed d t with
  |true=>
   rw[P,if_pos rfl]at b;injection b with b;injection b with y b;injection b with v b;injection b with j i;obtain⟨A,C,D⟩:=X 0 i.symm (by omega);refine⟨A,C,D,by omega,λw G F r=>?_⟩;rw[<-y,<-v,<-j,<-i];exact bV 263 c f s p d _ _ _ (by omega) z E (λa w=>rY a w) w r (λg n H=>sA f s p d (by omega) (by omega) (by rw[N];exact P) g n)
  |false=>
   rw[P,if_neg (by decide)]at b;exfalso
   obtain⟨y,v,j,i,ab⟩:=j7 d (yF s p) (c::t) k ad R m b;obtain⟨A,C,D,a5,a4⟩:=bb b;obtain⟨ao,rfl⟩:∃ao,m=ao+1:=⟨m - 1,by omega⟩;have b9:c∈(c::t).take (ao+1):=by simp
   rcases fe _ _ b9 with bq|bq
   ·have:=(a8 c ((ci _ ab).1 c (by rw[j];exact bq))).2.2.2.1
    exact this ac
   ·rw[bq]at ac;exact absurd ac (by decide)
 rw[if_neg ac]at b;by_cases a0:c.toNat=91
 ·rw[if_pos a0]at b
  have E:(V .u8 (c.toNat:Int),rdF 264 f)∈yG f:=by
   unfold yG;rw[a0];simp
  injection b with b;injection b with y b;injection b with v b;injection b with j i;obtain⟨A,C,D⟩:=X 0 i.symm (by omega);refine⟨A,C,D,by omega,λw G F r=>?_⟩;rw[<-y,<-v,<-j,<-i];exact bV 264 c f s p d _ _ _ (by omega) z E (λa w=>kU a w) w r (λg n H=>qM f s p d (by omega) (by omega) (by omega) (by rw[bf s p c z,show c=91 from UInt8.toNat_inj.1 a0];rfl) g n)
 rw[if_neg a0]at b;by_cases a1:c.toNat=123
 ·rw[if_pos a1]at b
  have E:(V .u8 (c.toNat:Int),rdF 264 f)∈yG f:=by
   unfold yG;rw[a1];simp
  injection b with b;injection b with y b;injection b with v b;injection b with j i;obtain⟨A,C,D⟩:=X 0 i.symm (by omega);refine⟨A,C,D,by omega,λw G F r=>?_⟩;rw[<-y,<-v,<-j,<-i];exact bV 264 c f s p d _ _ _ (by omega) z E (λa w=>kU a w) w r (λg n H=>qN f s p d (by omega) (by omega) (by omega) (by rw[bf s p c z,show c=123 from UInt8.toNat_inj.1 a1];rfl) g n)
 rw[if_neg a1]at b;by_cases av:c.toNat=44
 ·rw[if_pos av]at b
  have E:(V .u8 (c.toNat:Int),rdF 265 f)∈yG f:=by
   unfold yG;rw[av];simp
  by_cases L:d=0
  ·rw[if_pos L]at b;cases b
  rw[if_neg L]at b;injection b with b;injection b with y b;injection b with v b;injection b with j i;obtain⟨A,C,D⟩:=X 0 i.symm (by omega);refine⟨A,C,D,by omega,λw G F r=>?_⟩;rw[<-y,<-v,<-j,<-i];obtain⟨e,rfl⟩:∃e,d=e+1:=⟨d - 1,by omega⟩;exact bV 265 c f s p (e+1) _ _ _ (by omega) z E (λa w=>gn a w) w r (λg n H=>kJ f s p e (by omega) (by omega) (by omega) (by rw[z,show c=44 from UInt8.toNat_inj.1 av]) g n)
 rw[if_neg av]at b;by_cases a6:c.toNat=93
 ·rw[if_pos a6]at b
  have E:(V .u8 (c.toNat:Int),rdF 265 f)∈yG f:=by
   unfold yG;rw[a6];simp
  by_cases L:d=0
  ·rw[if_pos L]at b;cases b
  rw[if_neg L]at b;injection b with b;injection b with y b;injection b with v b;injection b with j i;obtain⟨A,C,D⟩:=X 0 i.symm (by omega);refine⟨A,C,D,by omega,λw G F r=>?_⟩;rw[<-y,<-v,<-j,<-i];obtain⟨e,rfl⟩:∃e,d=e+1:=⟨d - 1,by omega⟩;exact bV 265 c f s p (e+1) _ _ _ (by omega) z E (λa w=>gn a w) w r (λg n H=>kK f s p e (by omega) (by omega) (by omega) (by rw[z,show c=93 from UInt8.toNat_inj.1 a6]) g n)
 rw[if_neg a6]at b;by_cases a9:c.toNat=125
 ·rw[if_pos a9]at b
  have E:(V .u8 (c.toNat:Int),rdF 265 f)∈yG f:=by
   unfold yG;rw[a9];simp
  by_cases L:d=0
  ·rw[if_pos L]at b;cases b
  rw[if_neg L]at b;injection b with b;injection b with y b;injection b with v b;injection b with j i;obtain⟨A,C,D⟩:=X 0 i.symm (by omega);refine⟨A,C,D,by omega,λw G F r=>?_⟩;rw[<-y,<-v,<-j,<-i];obtain⟨e,rfl⟩:∃e,d=e+1:=⟨d - 1,by omega⟩;exact bV 265 c f s p (e+1) _ _ _ (by omega) z E (λa w=>gn a w) w r (λg n H=>pi f s p e (by omega) (by omega) (by omega) (by rw[z,show c=125 from UInt8.toNat_inj.1 a9]) g n)
 rw[if_neg a9]at b;obtain⟨A,C,D,a5,a4⟩:=bb b;refine⟨A,C,D,a5,λw G F r=>qP c f s p d _ _ _ (by omega) z ?_ w r (λg n H=>a4 g (G.step H) F n)⟩;intro q T e;unfold yG at T;simp only[List.mem_cons,List.not_mem_nil,or_false]at T;rcases T with rfl|rfl|rfl|rfl|rfl|rfl|rfl|rfl|rfl|rfl|rfl<;>simp only at e<;>injection e with _ e<;>omega
section
attribute [local go_sem ↓] Go.wp_at_zero Go.wp_at_succ
attribute [local go_sem] ak
theorem sh(args:Array Value)(w:World):(callFunc 195 args).run π w=.ok (.enter 195 args) w:=by kernel_rfl
theorem iM(a:Nat)(w:World):Calls π 151 #[Z (W ⟨a,0,O⟩)] w λe w'=>e=ρ (φ (.func 195) #[] #[Z (W ⟨w.heap.size,0,O⟩)])/\w'=w.alloc (J #[Z (W ⟨a,0,O⟩)] 296):=by
 go_enter func151,ntmps151
 go_wp2
 go_ret
 exact⟨rfl,rfl⟩
def TkE(b:List Tp.Tk)(t:Nat)(v:Array Value)(a:NS)(_:World):Prop:=(∃x,b[t]? =W x/\v=#[tkV x,.nilIface])/\a=xO
theorem vh(s:ByteArray)(p m:Nat)(b:1<=m)(c:p+m<=s.size):yF s (p+m)=(((s.data.toList.drop p).getD (m - 1) 0).toNat==32):=by
 have a:p+m - 1 < s.data.toList.length:=by rw[ap];omega
 rw[show p+m=(p+m - 1)+1 by omega,fJ s (p+m - 1) _ (zE a)];congr 2
 rw[zY,List.getElem?_drop,show p+(m - 1)=p+m - 1 by omega,zE a];rfl
theorem gE(s:ByteArray)(e3:s.size<=100000)(ck:Ln.right s.data.toList=true)(n:Nat)(C:List Tp.Tk)(dj:Tp.toks n 0 true 0 s.data.toList=W C)(b q:Nat)(dm:10<=b)(f8:10<=q)(c0:b≠q)(w:World)(a3:w.heap[q]? =W (.cells #[Z (W ⟨b,0,O⟩)] 296 (0,0)))(al:yb w b s 0 0)(ba:Glob w):
 yQ π 195 #[Z (W ⟨q,0,O⟩)] 3 C.length (TkE C) (·=b) (λk=>k < 10\/k=q) False (λ_ _=>True) (λ_=>True) w:=by
 intro l J f0 cS v bk ek hF0 bx dW fG c2 fz;have dC:∀k,cS k->10<=k/\k≠b/\k≠q:=λk a=>by have:=hF0 k a;omega
 replace a3:=(bk.block _ (lt_of_heap a3)).trans a3
 replace al:yb v b s 0 0:=(bk.block _ (lt_of_heap al)).trans al
 replace ba:=ba.step bk
 obtain⟨base,cT⟩:∃b,w.heap.size=b:=⟨_,rfl⟩;rw[cT]at bx dW;obtain⟨ao,b9⟩:∃ao,C.length=ao:=⟨_,rfl⟩;have cf:=λp d a=>tE b s p d e3 ck a;obtain⟨H,fr,a1,ej,en,ep⟩:=zx6 bx c2 b9 dC cf a3;obtain⟨fu,fc,fw⟩:=zx3 al ba dj;rw[b9];clear bx c2 b9 dC hF0 fG dW bk ek cT cf a3 al ba dj
 go_enter func195,ntmps195
 go_wp2_with fail
 go_step3
 go_wp2_with fail
 go_step3
 go_wp2_with fail
 go_loopw [] (λwr=>∃(t p d n:Nat) (j:NS),wr.heap[q]? =W (.cells #[Z (W ⟨b,0,O⟩)] 296 (0,0))/\yb wr b s p d/\Tp.toks n d (yF s p) p (s.data.toList.drop p)=W (C.drop t)/\Ln.right (s.data.toList.drop p)=true/\p<=s.size/\d<=p/\t<=ao/\Glob wr/\J t j wr/\(∀k,j k->10<=k/\k≠b/\k≠q)) (λwr=>s.size+1 - AH wr b)
 case atStart=>exact⟨0,0,0,n,cS,ep.out,fu.out,by rw[show yF s 0=true by unfold yF;rfl];exact fw.out,ck,z_ _,η _,z_ _,fc.out,fz,ej.out⟩
 case round=>
  obtain⟨t,p,d,n,j,i,r,f,F,f5,f3,e5,co,di,c1⟩:=hrel;have d3:AH wr b=p:=gz r;have G:=zF i 0 rfl;have fE:=zF r 0 rfl;have bn:=zF r 1 rfl;obtain⟨E,o,A,ct,b1⟩:=zx5 c1 i r co di;clear c1 i r co di
  match n,f with
  |0,f=>simp[Tp.toks]at f
  |n+1,f=>
  obtain⟨l,z⟩:∃l,s.data.toList.drop p=l:=⟨_,rfl⟩;rw[z]at f F
  match l,z,f,F with
  | [],z,f,F=>
   have gc:s.size<=p:=by
    have:=congrArg List.length z;rw[zZ,ap]at this;simp at this
    omega
   have f4:decide ((p:Int) < (s.size:Int))=false:=decide_eq_false (by omega);have e6:∀v,(binOp .lss 3 (V I (p:Int)) (V I (s.size:Int))).run π v=.ok (β false) v:=λv=>by simp[go_sem];omega
   have bs:t=ao:=by
    rw[Tp.toks]at f;injection f with f;have:=congrArg List.length f;rw[zZ,a1.out]at this;simp at this
    omega
   subst bs;clear f F
   go_wp2_with fail
   go_quiet (fail)
   go_wp2_with fail
   rw[Exit.noGoto_normal]
   go_end0
   exact⟨⟨_,rfl⟩,.inl ⟨j,H.out t j _ _ b1.out ((ξ _ wr).drewN _),trivial⟩⟩
  |c::u,z,f,F=>
   obtain⟨bR,dg,fR⟩:=go _ _ _ _ z;rw[ap]at fR;have e6:∀v,(binOp .lss 3 (V I (p:Int)) (V I (s.size:Int))).run π v=.ok (β true) v:=λv=>by simp[go_sem];omega
   have bD:=λv g fS fl=>cO b s p d p 0 (by omega) (by omega) (by omega) [32] g 1 rfl (by omega) v fS fl;rw[bf s p c bR]at bD;have b0:=im b s p d (by omega) (by omega);rw[show y7 s p=(c.toNat==35&&yF s p)by unfold y7;rw[bf s p c bR];unfold yF;rw[Bool.eq_iff_iff];simp[List.contains_cons,<-UInt8.toNat_inj]]at b0;obtain⟨es,ex⟩:=zx2 bD b0;clear bD b0
   go_wp2_with fail
   go_quiet (fail)
   have i:(wr.drewN nq).heap[q]? =W (.cells #[Z (W ⟨b,0,O⟩)] 296 (0,0)):=o.out;have r:yb (wr.drewN nq) b s p d:=A.out;have db:Glob (wr.drewN nq):=ct.out.far ((ξ xO wr).drewN nq) (λ_ _ e=>e);have cc:=H.out t j _ _ b1.out ((ξ _ wr).drewN nq);clear G fE bn o A ct b1
   go_upto_region 1 with (fail)
   generalize wr.drewN nq=D at *;have G:=zF i 0 rfl;have cm:(D.alloc (.cells #[V .u8 32] 5)).heap[q]? =W (.cells #[Z (W ⟨b,0,O⟩)] 296 (0,0)):=aa _ i;have b5:yb (D.alloc (.cells #[V .u8 32] 5)) b s p d:=aa _ r;have dn:=db.far (((ξ xO D)).alloc (.cells #[V .u8 32] 5)) (λ_ _ e=>e);have dr:=H.out t j _ _ cc ((ξ _ D).alloc (.cells #[V .u8 32] 5));have c3:=zD (es.out (D.alloc (.cells #[V .u8 32] 5)) D.heap.size b5 (eC D [32] 5));obtain⟨o,A,b8,b3⟩:=zx4 cm b5 dn dr;clear i r cm b5 db cc dn dr
   go_wp2_with fail
   refine c3.out.mono ?_;rintro e gb ⟨rfl,rfl⟩;clear G c3;generalize D.alloc (.cells #[V .u8 32] 5)=a4 at *;have G:=zF o.out 0 rfl;rw[Tp.toks]at f;by_cases a0:c.toNat=32
   ·rw[if_pos a0]at f
    rw[show ([32]:List UInt8).contains c=true by rw[show c=32 from UInt8.toNat_inj.1 a0];rfl];have bn:=zF A.out 1 rfl;have f7:=ag A.out 1;have fv:IntKind.i64.wrap ((p:Int)+1)=((p+1:Nat):Int):=by rw[show (p:Int)+1=((p+1:Nat):Int)by omega];exact zU _ (by omega)
    obtain⟨L,bw⟩:∃L:Int,((p+1:Nat):Int)=L:=⟨_,rfl⟩;rw[bw]at fv;have b6:=ai A.out 1 (V I L);have dJ:yb (a4.setCell ⟨b,1,O⟩ (V I L)) b s (p+1) d:=by rw[<-bw]at b6 ⊢;exact b6
    have ds:(a4.setCell ⟨b,1,O⟩ (V I L)).heap[q]? =W (.cells #[Z (W ⟨b,0,O⟩)] 296 (0,0)):=(Below.heap_setCell _ _ _ _ (λe=>c0 e.symm)).trans o.out;have X:=H.out t j _ _ b3.out ((ξ _ a4).setCell (p:=⟨b,1,O⟩) (λ_=>⟨λa=>(E.out _ a).2.1 rfl,.inl rfl⟩) (V I L));have ad:=b8.out.keep ((ζ 10 a4).setCell (p:=⟨b,1,O⟩) dm (V I L)) (η _);obtain⟨a6,S,av,ab⟩:=zx4 ds dJ ad X;have eg:Ln.right u=true:=by rw[<-Ln.aR c u (by omega)];exact F
    have a5:yF s (p+1)=true:=by rw[fJ s p c bR,a0];rfl
    clear ds b6 dJ ad X bw
    go_wp2_with fail
    go_roundw
    case rel=>exact⟨t,p+1,d,n,j,a6.out,S.out,by rw[a5,dg];exact f,by rw[dg];exact eg,by omega,by omega,e5,av.out,ab.out,E.out⟩
    case measure=>rw[d3,gz S.out];omega
   ·rw[if_neg a0]at f
    rw[show ([32]:List UInt8).contains c=false by rw[Bool.eq_false_iff];intro a;simp at a;exact a0 (by rw[a];rfl)]
    go_wp2_with fail
    refine(ex.out a4 A.out).mono ?_;rintro e fX ⟨rfl,ac⟩;have i:=(ac.block _ (lt_of_heap o.out)).trans o.out;have r:=A.out.below ac (lt_of_heap A.out);have ad:=b8.out.step ac;have X:=H.out t j _ _ b3.out (vJ ac);obtain⟨a6,S,av,ab⟩:=zx4 i r ad X;clear ad X ac G o A b8 b3;by_cases a2:c.toNat=35/\yF s p=true
    ·rw[if_pos a2]at f
     rw[show (c.toNat==35&&yF s p)=true by rw[a2.2,a2.1];rfl];have bs:t=ao:=by
      injection f with f;have:=congrArg List.length f;rw[zZ,a1.out]at this;simp at this
      omega
     subst bs
     go_wp2_with fail
     rw[Exit.noGoto_normal]
     go_end0
     exact⟨⟨_,rfl⟩,.inl ⟨j,ab.out,trivial⟩⟩
    ·rw[if_neg a2]at f
     rw[show (c.toNat==35&&yF s p)=false by rw[Bool.eq_false_iff];intro a;simp at a;exact a2 a];cases a9:Tp.one d (yF s p) (c::u) with
     |none=>rw[a9]at f;cases f
     |some x=>
     obtain⟨k,N,bm,m⟩:=x;rw[a9]at f;simp only at f;obtain⟨fY,e8,be⟩:=zN.1 f;have P:t < C.length:=by
      rcases Nat.lt_or_ge t C.length with a|a
      ·exact a
      ·rw[List.drop_eq_nil_of_le a]at be;cases be
     have d4:=zW P;rw[d4]at be;injection be with hx0 hx1;have er:C[t]? =W ⟨k,N,p⟩:=by rw[zE P,<-hx0]
     obtain⟨fs,dp,e9,f2,ch⟩:=en.out p d (by rw[z];exact F) c u z (by omega) k N bm m a9;have a5:=vh s p m fs dp;rw[z]at a5;have cl:=ch fX av.out dm S.out;have d2:=zD cl;have bn:=zF r 1 rfl;have G:=zF i 0 rfl;clear cl ch a9 f d4 hx0 i r
     go_wp2_with fail
     refine d2.out.mono ?_;rintro e M ⟨rfl,c5,bq⟩;obtain⟨y,df⟩:∃y:ByteArray,(⟨N.toArray⟩:ByteArray)=y:=⟨_,rfl⟩;have cv:xR N=U y:=by rw[<-df];rfl
     have b2:tkV ⟨k,N,p⟩=γ #[V I k,U y,V I (p:Int)]:=by unfold tkV;simp only;rw[cv]
     rw[b2];have ei:=zD b2;have i:=bq.heap a6.out (λe=>c0 e.symm);have c6:=av.out.far bq (λk eM e=>by omega);have d0:=H.out t j _ _ ab.out (bq.mono (λk _ e=>⟨λa=>(E.out k a).2.1 e,.inl e⟩));obtain⟨dl,c4,d1,dA⟩:=zx4 i c5 c6 d0;clear i c5 bq c6 d0 a6 S av ab bn G d2 df cv b2
     go_upto_region 7 with (fail)
     refine(wpIn_wide (n:=4)).1 ?_;have i:=aa (.cells #[V I k,U y,V I (p:Int)] 305) dl.out;have T:yb (M.alloc (.cells #[V I k,U y,V I (p:Int)] 305)) b s (p+m) bm:=aa _ c4.out;have an:=af M (.cells #[V I k,U y,V I (p:Int)] 305);have da:=d1.out.far ((ξ xO M).alloc (.cells #[V I k,U y,V I (p:Int)] 305)) (λ_ _ e=>e);have dc:=H.out t j _ _ dA.out ((ξ _ M).alloc (.cells #[V I k,U y,V I (p:Int)] 305));generalize hB4:M.heap.size=f6 at an ⊢;clear dl c4 d1 dA hB4;generalize M.alloc (.cells #[V I k,U y,V I (p:Int)] 305)=e2 at *;have el:=zF an 0 rfl;have e0:=zF an 1 rfl;have d6:=zF an 2 rfl;obtain⟨gd,f9,assign,body,e1,d5⟩:=fr.out t (by rw[a1.out];rw[a1.out]at P;exact P) j xO #[tkV ⟨k,N,p⟩,.nilIface] e2 dc ⟨⟨_,er,rfl⟩,rfl⟩ (λ_ a=>a.elim);rw[ei.out]at e1;obtain⟨fL,o,R,e7⟩:=zx4 d5 i T da;clear d5 i T da dc an
     gi_wp2
     refine(fL.out).mono ?_;rintro e e4 ⟨b4,⟨bb,cb⟩,(⟨rfl,dv⟩|⟨rfl,eq⟩)⟩
     ·have i:=bb.heap o.out (λa=>(E.out _ a).2.2 rfl)
      have T:yb e4 b s (p+m) bm:=bb.heap R.out (λa=>(E.out _ a).2.1 rfl);have ca:=e7.out.far bb (λk eM a=>by have:=(E.out _ a).1;omega);have c9:∀k,b4 k->10<=k/\k≠b/\k≠q:=by
       intro k a;rcases cb k a with a|a|a
       ·exact E.out k a
       ·exact a.elim
       ·have f1:=lt_of_heap o.out
        have ga:=lt_of_heap R.out;omega
      obtain⟨ft,fT,ef,o,R⟩:=zx5 c9 dv ca i T;clear dv bb cb c9 ca i T el e0 d6
      gi_wp2
      go_wp2_with fail
      go_roundw
      case rel=>exact⟨t+1,p+m,bm,n,b4,o.out,R.out,by rw[a5,<-List.drop_drop,z,<-hx1];exact e8,e9,dp,by omega,by rw[a1.out]at P;exact P,ef.out,fT.out,ft.out⟩
      case measure=>rw[d3,gz R.out];omega
     ·gi_wp2
      go_wp2_with fail
      rw[Exit.noGoto_normal]
      go_end0
      exact⟨⟨_,rfl⟩,.inr ⟨b4,eq⟩⟩
end
section
attribute [local go_sem] ak
attribute [local go_sem] Oper.semAt_some
def Ar(x:Nat):Bool:=decide ((x:Int) < 32)||decide ((x:Int)=127)
theorem kM(s:ByteArray):∀(a pos:Nat),Ln.plainB (s.data.toList.drop pos)=true->Lib.idxFuncFrom Ar true s a pos=-1
 |0,pos,h=>rfl
 |a+1,pos,h=>by
  unfold Lib.idxFuncFrom;by_cases b:pos < s.size
  ·have c:s.data.toList.drop pos≠[]:=by
    intro e;have:=congrArg List.length e;rw[zZ,ap]at this;simp at this
    omega
   rw[if_pos b,aX];have d:¬((Ln.dec (s.data.toList.drop pos)).1 < 32\/(Ln.dec (s.data.toList.drop pos)).1=127):=λe=>by
    rw[Ln.j6 _ c e]at h;cases h
   rw[if_neg (by unfold Ar;simp;omega)];rw[Ln.ia _ c d,List.drop_drop]at h;exact kM s a _ h
  ·rw[if_neg b]
theorem sj(args:Array Value)(w:World):(callFunc 149 args).run π w=.ok (.enter 149 args) w:=by kernel_rfl
theorem oN(w:World):PredGrows π 149 #[] Ar w:=by
 intro a x c b;refine(oO (x:Int) a).mono ?_;rintro e w' ⟨rfl,rfl⟩;exact⟨rfl,ζ _ _⟩
theorem mu(s:ByteArray)(b:Ln.plainB s.data.toList=true)(w:World):Calls π 150 #[U s,φ (.func 149) #[] #[]] w λe w'=>e=ρ (β false)/\Below w.heap.size w w':=by
 refine(strings_ContainsFunc_grows 149 #[] (λa w=>sj a w) Ar s w (oN w)).mono ?_;rintro e w' ⟨rfl,c⟩;refine⟨?_,c⟩;unfold Lib.idxFunc;rw[kM s s.size 0 (by rw[List.drop_zero];exact b)];rfl
def xZ(a:List Tp.Tk):List Value:=a.flatMap λt=>[V I t.k,xR t.s,V I (t.a:Int)]
theorem gF(a b:List Tp.Tk):xZ (a++b)=xZ a++xZ b:=by simp[xZ]
theorem jM(a:List Tp.Tk)(t:Nat)(x:Tp.Tk)(b:a[t]? =W x):xZ (a.take (t+1))=xZ (a.take t)++[V I x.k,xR x.s,V I (x.a:Int)]:=by
 rw[zG,b,gF];rfl
theorem vC:(prog.info? 305).map (λi=>(i.zero,i.size,i.bytes))=W (W (γ #[V I 0,U ⟨#[]⟩,V I 0]),3,32):=by kernel_rfl
def TI(w:World)(p:Nat)(b:List Tp.Tk)(t:Nat)(c:NS)(a:World):Prop:=
 c=RF w.heap.size p/\t<=b.length/\a.heap[w.heap.size]? =W (J #[Y O 0 0] 216 (0,0))/\a.heap[w.heap.size+1]? =W (J #[V I 0] 3 (0,0))/\a.heap[w.heap.size+1+1]? =W (J #[V I 0] 24 (0,0))/\
 (∃v,a.heap[p]? =W (J #[v] 216 (0,0))/\a.ownsRow (p+5) 305 3 v t (xZ (b.take t)))/\Below w.heap.size w a
theorem TI.far{w:World}{p:Nat}{g:List Tp.Tk}{t:Nat}{f D:NS}{c j:World}(x:TI w p g t f c)(b:Far D c j)(a:∀k,D k->w.heap.size<=k/\¬RF w.heap.size p k):TI w p g t f j:=by
 obtain⟨o,l,s,n,r,⟨v,u,q⟩,d⟩:=x;exact⟨o,l,b.heap s (λe=>(a _ e).2 (.inr (.inl rfl))),b.heap n (λe=>(a _ e).2 (.inr (.inr (.inl rfl)))),b.heap r (λe=>(a _ e).2 (.inr (.inr (.inr (.inl rfl))))),⟨v,b.heap u (λe=>(a _ e).2 (.inl rfl)),aw q b (λk m _ e=>(a _ e).2 (.inr (.inr (.inr (.inr m)))))⟩,d.trans (b.to_below d.size (λi y e=>by have:=(a _ e).1;omega))⟩
theorem lM(s:ByteArray)(dC:s.size<=100000)(ba:Ln.right s.data.toList=true)(ch:Ln.plainB s.data.toList=true)(n:Nat)(z:List Tp.Tk)(co:Tp.toks n 0 true 0 s.data.toList=W z)(ep:z.length<=100000)(w:World)(a5:Glob w):
 Calls π 105 #[U s] w λe w'=>(∃v,e=ρ (.tuple #[v,V I 0,V I 0])/\w'.ownsRow w.heap.size 305 3 v z.length (xZ z))/\Below w.heap.size w w':=by
 obtain⟨dW,bm,dp,eg,d2⟩:=info_parts vC;have a6:=bt s (by omega);rw[ba]at a6;have b2:=mu s ch;have b4:=λdA c5 a1 an df=>gE s dC ba n z co dA c5 a1 an df;obtain⟨bk,ek,dr,dv⟩:=zx4 a5 a6 b2 b4;clear a5 a6 b2 b4 co ba ch;refine callsIn_wide.1 (callsIn_of_wp_marks (n:=5) func105 rfl trivial (wpIn_wide.2 ?_));simp only[ntmps105,List.size_toArray,zO,List.length_nil,Nat.reduceAdd,Nat.reduceSub,Array.replicate_succ,Array.replicate_zero,List.push_toArray,List.append_toArray,List.nil_append,List.cons_append];have bs:Below w.heap.size w (((w.alloc (J #[Y O 0 0] 216)).alloc (J #[V I 0] 3)).alloc (J #[V I 0] 24)):=(((ζ _ _).alloc (η _) _).alloc (by simp) _).alloc (by simp;omega) _
 go_wp2_with fail
 refine(ek.out _ (bk.out.step bs)).mono ?_;rintro e av ⟨rfl,a2⟩;have ad:av.heap[w.heap.size]? =W (J #[Y O 0 0] 216 (0,0)):=(a2.block _ (by simp;omega)).trans (aa _ (aa _ (ah _ _ _ rfl)));have a0:av.heap[w.heap.size+1]? =W (J #[V I 0] 3 (0,0)):=(a2.block _ (by simp)).trans (aa _ (ah _ _ _ (by simp)));have R:av.heap[w.heap.size+1+1]? =W (J #[V I 0] 24 (0,0)):=(a2.block _ (by simp)).trans (ah _ _ _ (by simp));have ao:Below w.heap.size w av:=bs.trans (a2.mono (by simp;omega));obtain⟨a3,u,y,H⟩:=zx4 ad a0 R ao;clear a2 ad a0 R ao bs
 go_wp2_with fail
 refine(dr.out av).mono ?_;rintro e bD ⟨rfl,m⟩;have ad:=(m.block _ (lt_of_heap a3.out)).trans a3.out;have a0:=(m.block _ (lt_of_heap u.out)).trans u.out;have R:=(m.block _ (lt_of_heap y.out)).trans y.out;have ao:=H.out.trans (m.mono H.out.size);have d4:w.heap.size+3<=bD.heap.size:=by have:=lt_of_heap R;omega
 obtain⟨a3,u,y,H⟩:=zx4 ad a0 R ao;clear m ad a0 R ao;obtain⟨p,c1⟩:∃p,bD.heap.size=p:=⟨_,rfl⟩;have r:=zD c1;clear c1
 go_wp2_with fail
 refine(iM _ _).mono ?_;rintro e G ⟨rfl,o⟩;have bR:((bD.alloc (Obj.cells #[Value.slice O 0 0] 216)).alloc (Obj.cells #[Value.string s,Value.int IntKind.i64 0,Value.int IntKind.i64 0] 300)).heap.size=p+1+1:=by simp[r.out]
 rw[bR,r.out];have c0:G.heap.size=p+3:=by rw[o];simp[r.out]
 have cT:G.heap[p]? =W (J #[Y O 0 0] 216 (0,0)):=by rw[o];exact aa _ (aa _ (ah _ _ _ r.out.symm))
 have cl:yb G (p+1) s 0 0:=by rw[o];exact aa _ (ah _ _ _ (by simp[r.out]))
 have cc:G.heap[p+1+1]? =W (J #[Z (W ⟨p+1,0,O⟩)] 296 (0,0)):=by rw[o,r.out];exact ah _ _ _ (by simp[r.out])
 have bw:Below w.heap.size w G:=by rw[o];have:=H.out.size;exact((H.out.alloc H.out.size _).alloc (by simp;omega) _).alloc (by simp;omega) _
 have cv:=bk.out.step bw;have b5:TI w p z 0 (RF w.heap.size p) G:=by
  refine⟨rfl,z_ _,?_,?_,?_,⟨_,cT,World.ownsRow_nil _ _ _ _⟩,bw⟩
  ·rw[o];exact aa _ (aa _ (aa _ a3.out))
  ·rw[o];exact aa _ (aa _ (aa _ u.out))
  ·rw[o];exact aa _ (aa _ (aa _ y.out))
 have en:w.heap.size+3<=p:=by have:=r.out;omega
 obtain⟨c2,M,cm,cb,c4⟩:=zx5 b5 c0 cl cc cv;have ex:=bk.out.1;clear o bR d4 c0 cT cl cc bw b5 cv a3 u y H r
 go_wp2_with fail
 refine wpIn_wide.1 (aC (n:=5) (gf:=195) (lb:=#[Z (W ⟨p+1+1,0,O⟩)]) rfl (λargs wx=>sh args wx)
  (dv.out (p+1) (p+1+1) (by omega) (by omega) (by omega) G cb.out cm.out c4.out) (λk e=>by have:=M.out;omega) (λk e=>by have:=M.out;have:=c4.out.1;omega) (λt v ds b a=>by obtain⟨⟨x,_,rfl⟩,_⟩:=a;rfl)
  (TI w p z) (λ_ _ _=>False) (RF w.heap.size p) (λk a=>by have:=M.out;unfold RF at a;refine⟨?_,?_,?_,?_,λa=>a.elim⟩<;>omega) c2.out ?hI (λ_ _ _ _ a _=>a) (λ_ _ _ _=>trivial) (λ_ _ _ _=>trivial) ?round ?done (λ_ _ _ a=>a.elim))
 case hI=>
  intro t a4 b ef a P;obtain rfl:a4=_:=a.1;exact a.far P (λk e=>⟨by have:=M.out;rcases e.2 with a|a<;>omega,e.1⟩)
 case round=>
  rintro t a4 ds v b K da dm hI ⟨⟨x,b1,rfl⟩,rfl⟩ a5 b8 S;obtain rfl:a4=_:=hI.1;have ca:=M.out;rw[ca]at dm;obtain⟨l,ck⟩:∃l:ByteArray,(⟨x.s.toArray⟩:ByteArray)=l:=⟨_,rfl⟩;have bb:xR x.s=U l:=by rw[<-ck];rfl
  have cS:tkV x=γ #[V I x.k,U l,V I (x.a:Int)]:=by unfold tkV;rw[bb]
  have be:=jM z t x b1;rw[bb]at be;rw[cS];generalize (x.a:Int)=N at *;generalize x.k=KK at *;clear bb cS ck b1
  gi_wp2
  refine S _ _ ((ξ _ b).alloc _) ?_;intro f C _ _;rw[ca]at C;have d1:=(hI.far ((ξ xO b).alloc (J #[V I KK,U l,V I N] 305)) (λk e=>e.elim)).far C (λk e=>⟨by omega,λa=>by unfold RF at a;omega⟩);have L:f.heap[b.heap.size]? =W (J #[V I KK,U l,V I N] 305 (0,0)):=C.heap (af b _) (by omega);generalize hq:b.heap.size=q at L ⊢;have e6:p+5<=q:=by omega
  obtain⟨_,d0,F,E,A,⟨v,X,D⟩,ac⟩:=d1;have e5:=zF X 0 rfl;have er:=zF L 0 rfl;have eM:=zF L 1 rfl;have el:=zF L 2 rfl;have db:t+1<=maxLen:=by unfold maxLen;omega
  have ej:(t+1) * 32<=140737488355328:=by omega
  have di:∀(j:Nat) (bn:Value),[Value.int I KK,U l,V I N][j]? =W bn->(f.alloc (Obj.cells #[Value.int I KK,U l,V I N] 305)).cell? ((⟨f.heap.size,0,O⟩:Addr).add j)=W bn:=by
   intro j bn dj;have d3:(⟨f.heap.size,0,O⟩:Addr).add j=⟨f.heap.size,j,O⟩:=by unfold Addr.add;split<;>simp_all
   rw[d3,ae (ah _ _ f.heap.size rfl) j]
   simpa using dj
  have c6:p+5<=(f.alloc (Obj.cells #[Value.int I KK,U l,V I N] 305)).heap.size:=by have:=lt_of_heap L;simp;omega
  obtain⟨u,y,a9,dc,T,c9⟩:=zx6 F E A X ac be;clear F E A X ac be hI S C a5 b8 c2 cm cb L hq
  gi_wp2_with (gi_at_builtin;refine wpListIn_append_own _ rfl (.tmp 32) (.tmp 34) 216 rfl (p+5) 305 dW _ 3 32 underlying216 bm dp eg d2 rfl (by decide) v t _ rfl (D.alloc _) ⟨f.heap.size,0,O⟩ 1 1 [V I KK,U l,V I N] rfl rfl di (by simp[Value.oneCell']) db ej c6 ?_;intro e2 w5 bx cf _;obtain⟨g,cap,rfl,e0,e4⟩:=aA bx;have b9:=D.lt;have C:Far (λk=>p+5<=k) f w5:=((ξ _ f).alloc _).grown cf (λk e _=>(b9 k e).1);have m:=C.heap dc.out (by omega);have e8:w5.cell? ⟨p,0,O⟩=W v:=ae m 0;have e7:w5.frozen? ⟨p,0,O⟩=false:=ag m 0;have d5:=zD m;have ei:=zD bx;clear m bx cf b9)
  have b3:Far (λk=>k=p) w5 (w5.setCell ⟨p,0,O⟩ (Y (W ⟨g,0,O⟩) (t+1) cap)):=(ξ (λk=>k=p) w5).setCell (p:=⟨p,0,O⟩) (λ_=>rfl) _;have al:Far (λk=>k=p\/p+5<=k) f (w5.setCell ⟨p,0,O⟩ (Y (W ⟨g,0,O⟩) (t+1) cap)):=(C.mono (λ_ _ e=>.inr e)).trans (b3.mono (λ_ _ e=>.inl e));refine⟨_,⟨rfl,da,al.heap u.out (by omega),al.heap y.out (by omega),al.heap a9.out (by omega),⟨_,ai d5.out 0 _,?_⟩,T.out.trans (al.to_below T.out.size (by intro i a1 an;omega))⟩,al.mono (λk _ e=>by unfold RF;omega),λk a=>⟨.inl a,λa=>a.elim⟩⟩;rw[c9.out];exact aw ei.out b3 (by intro k a1 _ an;omega)
 case done=>
  rintro a4 b ⟨_,d0,F,E,A,⟨v,X,D⟩,ac⟩ _ S b8;rw[M.out]at S ⊢;rw[List.take_length]at D;obtain⟨c,d,cap,rfl⟩:∃c d cap,v=Y c d cap:=by
   rcases D.2 with ⟨bq,_⟩|⟨g,cap,eq,bq,_⟩
   ·exact⟨_,_,_,bq⟩
   ·exact⟨_,_,_,bq⟩
  have ct:=zF F 0 rfl;have b6:=zF E 0 rfl;have b0:=zF A 0 rfl;have c3:=zF X 0 rfl;have es:=ag F 0;have e1:=ag E 0;have e3:=ag A 0;obtain⟨u,y,a9,dn,T,dJ⟩:=zx6 F E A D ac S;clear F E A X D ac S
  go_wp2_with fail
  have P:Far (λk=>k=w.heap.size\/k=w.heap.size+1\/k=w.heap.size+1+1) b (((b.setCell ⟨w.heap.size,0,O⟩ (Y c d cap)).setCell ⟨w.heap.size+1,0,O⟩ (V I 0)).setCell ⟨w.heap.size+1+1,0,O⟩ (V I 0)):=
   (((ξ _ b).setCell (λ_=>.inl rfl) _).setCell (λ_=>.inr (.inl rfl)) _).setCell (λ_=>.inr (.inr rfl)) _
  have dl:=(Below.heap_setCell ((b.setCell ⟨w.heap.size,0,O⟩ (Y c d cap)).setCell ⟨w.heap.size+1,0,O⟩ (V I 0)) ⟨w.heap.size+1+1,0,O⟩ (V I 0) w.heap.size (by show w.heap.size≠w.heap.size+1+1;omega)).trans ((Below.heap_setCell (b.setCell ⟨w.heap.size,0,O⟩ (Y c d cap)) ⟨w.heap.size+1,0,O⟩ (V I 0) w.heap.size (by show w.heap.size≠w.heap.size+1;omega)).trans (ai u.out 0 (Y c d cap)));have d6:=(Below.heap_setCell ((b.setCell ⟨w.heap.size,0,O⟩ (Y c d cap)).setCell ⟨w.heap.size+1,0,O⟩ (V I 0)) ⟨w.heap.size+1+1,0,O⟩ (V I 0) (w.heap.size+1) (by show w.heap.size+1≠w.heap.size+1+1;omega)).trans (ai ((Below.heap_setCell b ⟨w.heap.size,0,O⟩ (Y c d cap) (w.heap.size+1) (by show w.heap.size+1≠w.heap.size;omega)).trans y.out) 0 (V I 0));have dg:=ai ((Below.heap_setCell (b.setCell ⟨w.heap.size,0,O⟩ (Y c d cap)) ⟨w.heap.size+1,0,O⟩ (V I 0) (w.heap.size+1+1) (by show w.heap.size+1+1≠w.heap.size+1;omega)).trans ((Below.heap_setCell b ⟨w.heap.size,0,O⟩ (Y c d cap) (w.heap.size+1+1) (by show w.heap.size+1+1≠w.heap.size;omega)).trans a9.out)) 0 (V I 0);refine au (q:=p+3) rfl (P.heap dJ.out (by omega)) ?_;intro ef ab;have ct:=zF (ab.heap dl (by omega)) 0 rfl;have b6:=zF (ab.heap d6 (by omega)) 0 rfl;have b0:=zF (ab.heap dg (by omega)) 0 rfl;refine⟨.tuple #[Y c d cap,V I 0,V I 0],by simp[results,results105,go_sem,ct,b6,b0],⟨_,rfl,?_⟩,(T.out.trans (P.to_below T.out.size (by intro i bm a;omega))).trans (ab.to_below (Nat.le_trans T.out.size P.size) (by intro i bm a;omega))⟩;exact aW (aw (aw dn.out P (by intro k a1 an a;omega)) ab (by intro k a1 an a;omega)) (by omega)
end
theorem lG:Maps.Keyed π 9:=Maps.string_keyed underlying9
theorem o3(s:ByteArray)(a:s.size<=100000):∃l,keyOf π 9 (.string s)=W l:=by
 have:s.size<=maxLen:=by unfold maxLen;omega
 simp[keyOf,underlying9,mapKey,this]
def yA:List (Value × Value):=[(.string ⟨#[]⟩,.nilIface),(.string ⟨#[110,117,108,108]⟩,.nilIface),(.string ⟨#[126]⟩,.nilIface),(.string ⟨#[116,114,117,101]⟩,.iface 4 (.bool true)),(.string ⟨#[102,97,108,115,101]⟩,.iface 4 (.bool false)),(.string ⟨#[46,105,110,102]⟩,.iface 480 (.float .f64 4602678819172646912)),(.string ⟨#[43,46,105,110,102]⟩,.iface 480 (.float .f64 4602678819172646912)),(.string ⟨#[45,46,105,110,102]⟩,.iface 480 (.float .f64 4602678819172646912)),(.string ⟨#[46,110,97,110]⟩,.iface 480 (.float .f64 4602678819172646912))]
theorem fb(w:World):Calls π 308 #[] w λe w'=>e=ρ (.map (W w.heap.size))/\xW π 9 w' w.heap.size yA/\Below w.heap.size w w':=by
 have X:=@run_makeMap π;have c:xW π 9 (w.alloc (.map #[] 0)) w.heap.size []:=aL w;obtain⟨bb,E⟩:=o3 ⟨#[]⟩ (by decide);obtain⟨R,a9,m,k⟩:=c.put lG underlying482 (.string ⟨#[]⟩) (.nilIface) E (by simp);obtain⟨be,g⟩:=o3 ⟨#[110,117,108,108]⟩ (by decide);obtain⟨bn,a0,b,z⟩:=m.put lG underlying482 (.string ⟨#[110,117,108,108]⟩) (.nilIface) g (by simp);obtain⟨a1,t⟩:=o3 ⟨#[126]⟩ (by decide);obtain⟨T,ba,u,F⟩:=b.put lG underlying482 (.string ⟨#[126]⟩) (.nilIface) t (by simp);obtain⟨a2,p⟩:=o3 ⟨#[116,114,117,101]⟩ (by decide);obtain⟨P,bk,l,D⟩:=u.put lG underlying482 (.string ⟨#[116,114,117,101]⟩) (.iface 4 (.bool true)) p (by simp);obtain⟨ad,f⟩:=o3 ⟨#[102,97,108,115,101]⟩ (by decide);obtain⟨w5,S,o,r⟩:=l.put lG underlying482 (.string ⟨#[102,97,108,115,101]⟩) (.iface 4 (.bool false)) f (by simp);obtain⟨bm,s⟩:=o3 ⟨#[46,105,110,102]⟩ (by decide);obtain⟨ac,ao,A,v⟩:=o.put lG underlying482 (.string ⟨#[46,105,110,102]⟩) (.iface 480 (.float .f64 4602678819172646912)) s (by simp);obtain⟨a3,y⟩:=o3 ⟨#[43,46,105,110,102]⟩ (by decide);obtain⟨an,ab,n,j⟩:=A.put lG underlying482 (.string ⟨#[43,46,105,110,102]⟩) (.iface 480 (.float .f64 4602678819172646912)) y (by simp);obtain⟨av,d⟩:=o3 ⟨#[45,46,105,110,102]⟩ (by decide);obtain⟨a6,a4,q,a⟩:=n.put lG underlying482 (.string ⟨#[45,46,105,110,102]⟩) (.iface 480 (.float .f64 4602678819172646912)) d (by simp);obtain⟨a5,x⟩:=o3 ⟨#[46,110,97,110]⟩ (by decide);obtain⟨N,al,C,G⟩:=q.put lG underlying482 (.string ⟨#[46,110,97,110]⟩) (.iface 480 (.float .f64 4602678819172646912)) x (by simp);have L:Below w.heap.size w N:=(((ξ (·=w.heap.size) w).alloc _).step (D':=(·=w.heap.size)) ((((((((k.trans z).trans F).trans D).trans r).trans v).trans j).trans a).trans G) (λi M e=>e)).to_below (η _) (λi M e=>by omega);clear c m b u l o A n q k z F D r v j a G E g t p f s y d x;have H:=zD C;clear C
 go_enter func308,ntmps308
 go_wp2
 go_ret
 exact⟨rfl,H.out,L⟩
theorem dt:∀(l:Tp.B) (a:Nat),(∀b∈l,Tp.isDig b=true)->Lib.decFrom a l=W (l.foldl (λa b=>a * 10+(b.toNat - 48)) a)
 | [],a,_=>rfl
 |b::t,a,h=>by
  have c:=h b (by simp);unfold Tp.isDig at c;simp at c
  have d:Lib.digitVal b=W (b.toNat - 48):=by
   unfold Lib.digitVal;simp
   omega
  rw[List.foldl_cons,Lib.decFrom,d];exact dt t _ (λx e=>h x (by simp[e]))
theorem cC(b:UInt8)(a:Tp.isDig b=true):Tp.plainC b=true:=by
 unfold Tp.isDig at a;unfold Tp.plainC;simp at a ⊢
 omega
inductive AA:Tp.B->Tp.Sc->Prop where
 |nul:AA [110,117,108,108] ⟨0,0,[]⟩
 |tru:AA [116,114,117,101] ⟨1,1,[]⟩
 |fal:AA [102,97,108,115,101] ⟨1,0,[]⟩
 |num (s t:Tp.B) (c:UInt8) (n:Int):Lib.atoi s=W n->Tp.itoa n=s->s.length<=16->-999999999999999<=n->n<=999999999999999->(s=c::t/\Tp.isDig c=true/\(∀x∈t,Tp.isDig x=true)\/s=45::c::t/\Tp.isDig c=true/\(∀x∈t,Tp.isDig x=true))->AA s ⟨2,n,[]⟩
 |let1 (c:UInt8):97<=c.toNat->c.toNat<=122->AA [c] ⟨3,0,[c]⟩
theorem rK:∀(l:Tp.B) (a k:Nat),(∀b∈l,Tp.isDig b=true)->a < 10 ^ k->l.foldl (λa b=>a * 10+(b.toNat - 48)) a < 10 ^ (k+l.length)
 | [],a,k,_,h=>by simpa using h
 |b::t,a,k,hd,h=>by
  have c:=hd b (by simp);unfold Tp.isDig at c;simp at c
  rw[List.foldl_cons,zO,show k+(t.length+1)=(k+1)+t.length by omega];refine rK t _ (k+1) (λx d=>hd x (by simp[d])) ?_;rw[Nat.pow_succ];omega
theorem m6(l:Tp.B)(a:∀c∈l,Tp.isDig c=true)(b:l.length<=15):(Tp.valueOf l:Int)<=999999999999999:=by
 have:=rK l 0 0 a (by decide);rw[Nat.zero_add]at this;have d:10 ^ l.length<=10 ^ 15:=Nat.pow_le_pow_right (by decide) b;unfold Tp.valueOf;omega
theorem j2(s:Tp.B)(x:Tp.Sc)(a:Tp.resolve s=W x):AA s x:=by
 unfold Tp.resolve at a
 match s,a with
 | [],a=>cases a
 |c::t,a=>
  simp only at a;by_cases l:(c::t)=[110,117,108,108]
  ·rw[if_pos l]at a;injection a with a;rw[l,<-a];exact .nul
  rw[if_neg l]at a;by_cases k:(c::t)=[116,114,117,101]
  ·rw[if_pos k]at a;injection a with a;rw[k,<-a];exact .tru
  rw[if_neg k]at a;by_cases n:(c::t)=[102,97,108,115,101]
  ·rw[if_pos n]at a;injection a with a;rw[n,<-a];exact .fal
  rw[if_neg n]at a;by_cases f:Tp.isDig c=true
  ·rw[if_pos f]at a
   split at a
   ·rename_i hc
    obtain⟨b,g,i⟩:=hc;rw[List.all_eq_true]at b;injection a with a;rw[<-a];have p:¬c=45:=λe=>by rw[e]at f;exact absurd f (by decide)
    have r:¬c=43:=λe=>by rw[e]at f;exact absurd f (by decide)
    refine .num (c::t) t c _ ?_ i (by omega) (by omega) (m6 _ b g) (.inl ⟨rfl,f,λx o=>b x (by simp[o])⟩);rw[Lib.atoi,if_neg (by simpa using p),if_neg (by simpa using r),Lib.decNat,if_neg (by simp),dt _ _ b];rfl
   ·cases a
  rw[if_neg f]at a;by_cases m:c.toNat=45
  ·rw[if_pos m]at a
   have j:c=45:=UInt8.toNat_inj.1 m;split at a
   ·rename_i hc
    obtain⟨b,g,i⟩:=hc;rw[List.all_eq_true]at b;injection a with a;rw[<-a];cases t with
    |nil=>rw[j]at i;exact absurd i (by decide)
    |cons d u=>
     refine .num (c::d::u) u d _ ?_ i (by simp only[zO]at g ⊢;omega) (by have:=m6 _ b g;omega) (by omega) (.inr ⟨by rw[j],b d (by simp),λx o=>b x (by simp[o])⟩);rw[j,Lib.atoi,if_pos (by decide),Lib.decNat,if_neg (by simp),dt _ _ b];rfl
   ·cases a
  rw[if_neg m]at a;split at a
  ·rename_i hc
   obtain⟨g,v,q⟩:=hc;have:t=[]:=by
    cases t with
    |nil=>rfl
    |cons d u=>simp at g
   subst this;injection a with a;rw[<-a];exact .let1 c v q
  ·cases a
theorem uY(s:Tp.B)(x:Tp.Sc)(f:AA s x):Tp.okPlain s=true:=by
 cases f with
 |nul=>decide
 |tru=>decide
 |fal=>decide
 |num _ t c n h1 h2 h3 h4 h5 f=>
  unfold Tp.okPlain;rcases f with ⟨rfl,b,g⟩|⟨rfl,b,g⟩
  ·simp only[zQ,List.all_eq_true,Bool.not_eq_true',List.isEmpty_cons,and_true]
   refine⟨?_,?_⟩
   ·intro d a
    rcases List.mem_cons.1 a with rfl|a
    ·exact cC _ b
    ·exact cC _ (g d a)
   ·rw[beq_eq_false_iff_ne]
    intro e;injection e with e1 e2;rw[e1]at b;exact absurd b (by decide)
  ·simp only[zQ,List.all_eq_true,Bool.not_eq_true',List.isEmpty_cons,and_true]
   refine⟨?_,?_⟩
   ·intro d a
    rcases List.mem_cons.1 a with rfl|a
    ·decide
    rcases List.mem_cons.1 a with rfl|a
    ·exact cC _ b
    ·exact cC _ (g d a)
   ·rw[beq_eq_false_iff_ne]
    intro e;injection e with e1 e2;cases e2
 |let1 c h1 h2=>
  unfold Tp.okPlain;simp only[zQ,List.all_eq_true,Bool.not_eq_true',List.isEmpty_cons,and_true];refine⟨?_,?_⟩
  ·intro d a
   simp at a
   subst a;unfold Tp.plainC;simp
   omega
  ·rw[beq_eq_false_iff_ne]
   intro e;injection e with e1 e2;rw[e1]at h1;exact absurd h1 (by decide)
def AW(x:Nat):Bool:=(decide ((x:Int) < 48)||decide (57 < (x:Int)))&&!decide ((x:Int)∈([46,101,69,43,45,95]:List Int))
theorem tI(a:Int)(w:World):Calls π 322 #[V .i32 a] w λe w'=>e=ρ (β ((decide (a < 48)||decide (57 < a))&&!decide (a∈([46,101,69,43,45,95]:List Int))))/\Below w.heap.size w w':=by
 have d:=nD a [46,101,69,43,45,95] (W ⟨w.heap.size,0,O⟩) w.heap.size 0 6 6 rfl (by omega) (w.alloc (J #[V .i32 46,V .i32 101,V .i32 69,V .i32 43,V .i32 45,V .i32 95] 21)) (fC w [46,101,69,43,45,95] 21);generalize decide (a∈([46,101,69,43,45,95]:List Int))=i at *;have f:=(ζ w.heap.size w).alloc (η _) (J #[V .i32 46,V .i32 101,V .i32 69,V .i32 43,V .i32 45,V .i32 95] 21);by_cases c:a < 48
 ·rw[decide_eq_true c,Bool.true_or,Bool.true_and]
  go_enter func322,ntmps322
  go_wp2_with fail
  refine d.mono ?_;rintro e g ⟨rfl,rfl⟩
  go_wp2_with fail
  go_ret
  exact⟨rfl,f⟩
 ·rw[decide_eq_false c,Bool.false_or]
  by_cases b:57 < a
  ·rw[decide_eq_true b,Bool.true_and]
   go_enter func322,ntmps322
   go_wp2_with fail
   refine d.mono ?_;rintro e g ⟨rfl,rfl⟩
   go_wp2_with fail
   go_ret
   exact⟨rfl,f⟩
  ·rw[decide_eq_false b,Bool.false_and]
   go_enter func322,ntmps322
   go_wp2_with fail
   go_ret
   exact⟨rfl,ζ _ _⟩
theorem rV(args:Array Value)(w:World):(callFunc 322 args).run π w=.ok (.enter 322 args) w:=by kernel_rfl
theorem tG(w:World):PredGrows π 322 #[] AW w:=λa x c b=>tI (x:Int) a
theorem rA(s:ByteArray)(e:∀d∈s.data.toList,Tp.isDig d=true):∀(c pos:Nat),Lib.idxFuncFrom AW true s c pos=-1
 |0,pos=>rfl
 |c+1,pos=>by
  unfold Lib.idxFuncFrom;by_cases a:pos < s.size
  ·have f:pos < s.data.toList.length:=by rw[ap];exact a
   have b:=e _ (List.getElem_mem f);rw[if_pos a,aX,zW f];generalize s.data.toList[pos]=d at b;unfold Tp.isDig at b;simp at b
   rw[Ln.aM d _ (by omega)];rw[if_neg (by unfold AW;simp;omega)];exact rA s e c _
  ·rw[if_neg a]
theorem qY(s:ByteArray)(b:∀c∈s.data.toList,Tp.isDig c=true)(w:World):Calls π 150 #[U s,φ (.func 322) #[] #[]] w λe w'=>e=ρ (β false)/\Below w.heap.size w w':=by
 refine(strings_ContainsFunc_grows 322 #[] (λa w=>rV a w) AW s w (tG w)).mono ?_;rintro e w' ⟨rfl,d⟩;refine⟨?_,d⟩;unfold Lib.idxFunc;rw[rA s b s.size 0];rfl
theorem isEmpty_cons(s:ByteArray)(b:UInt8)(t:Tp.B)(a:s.data.toList=b::t):s.toList.isEmpty=false:=by
 rw[ByteArray.toList_eq,a];rfl
theorem xG(s:ByteArray)(c:UInt8)(t:Tp.B)(b:s.data.toList=c::t)(a:World):(Instr.index 9 (U s) (V I 0)).run π a=.ok (V .u8 (c.toNat:Int)) a:=by
 have d:0 < s.size:=by rw[<-ap,b];simp
 rw[vQ s 0 0 rfl d a];unfold Ln.nat
 rw[b];rfl
theorem kH(s T:ByteArray)(c:UInt8)(t:Tp.B)(b:T.data.toList=c::t)(l:Tp.isDig c=true)(q:∀x∈t,Tp.isDig x=true)(a:s=T\/s.data.toList=45::T.data.toList)(w:World):
 Calls π 309 #[U s] w λe w'=>e=ρ (β true)/\Below w.heap.size w w':=by
 have mk:∀i:ByteArray,(⟨i.data.toList.toArray⟩:ByteArray)=i:=λi=>rfl;have k:=l;unfold Tp.isDig at k;simp at k
 have f:∀n:UInt8,n.toNat < 48->(n==c)=false:=λn A=>by rw[beq_eq_false_iff_ne];intro e;rw[e]at A;omega
 have v:Lib.trimPrefix s.data.toList [43]=s.data.toList:=by
  unfold Lib.trimPrefix Lib.hasPrefix;rcases a with rfl|a
  ·rw[b];simp[List.isPrefixOf,f 43 (by decide)]
  ·rw[a];simp[List.isPrefixOf]
 have p:Lib.trimPrefix s.data.toList [45]=T.data.toList:=by
  unfold Lib.trimPrefix Lib.hasPrefix;rcases a with rfl|a
  ·rw[b];simp[List.isPrefixOf,f 45 (by decide)]
  ·rw[a];simp[List.isPrefixOf]
 have m:Lib.hasPrefix s.data.toList [43,45]=false:=by
  unfold Lib.hasPrefix;rcases a with rfl|a
  ·rw[b];simp[List.isPrefixOf,f 43 (by decide)]
  ·rw[a];simp[List.isPrefixOf]
 have o:Lib.trimPrefix T.data.toList [46]=T.data.toList:=by
  unfold Lib.trimPrefix Lib.hasPrefix;rw[b];simp[List.isPrefixOf,f 46 (by decide)]
 have r:=λd=>strings_TrimPrefix s ⟨#[43]⟩ d;have u:=λd=>strings_TrimPrefix s ⟨#[45]⟩ d;have c3:=λd=>strings_HasPrefix s ⟨#[43,45]⟩ d;have c4:=λd=>strings_TrimPrefix T ⟨#[46]⟩ d;rw[show (⟨#[43]⟩:ByteArray).data.toList=[43]from rfl,v,mk]at r;rw[show (⟨#[45]⟩:ByteArray).data.toList=[45]from rfl,p,mk]at u;rw[show (⟨#[43,45]⟩:ByteArray).data.toList=[43,45]from rfl,m]at c3;rw[show (⟨#[46]⟩:ByteArray).data.toList=[46]from rfl,o,mk]at c4;have y:=qY T (by rw[b];intro x j;rcases List.mem_cons.1 j with rfl|j;exact l;exact q x j);have E:=isEmpty_cons T c t b;have C:=xG T c t b;have G:(48:Int)<=(c.toNat:Int):=by omega
 have F:(c.toNat:Int)<=57:=by omega
 generalize (c.toNat:Int)=D at *;clear b l q a k f v p m o mk
 go_enter func309,ntmps309
 go_wp2_with fail
 refine(r _).mono ?_;rintro e g ⟨rfl,rfl⟩
 go_wp2_with fail
 refine(u _).mono ?_;rintro e g ⟨rfl,rfl⟩
 go_wp2_with fail
 refine(c3 _).mono ?_;rintro e g ⟨rfl,rfl⟩
 go_wp2_with fail
 refine(c4 _).mono ?_;rintro e g ⟨rfl,rfl⟩
 go_wp2_with fail
 refine(y _).mono ?_;rintro e g ⟨rfl,z⟩
 go_wp2_with fail
 go_ret
 exact⟨by simp,z⟩
theorem mE(s:ByteArray)(a:UInt8)(c:s.data.toList=[a])(u:97<=a.toNat)(p:a.toNat<=122)(w:World):
 Calls π 309 #[U s] w λe w'=>e=ρ (β false)/\w'=w:=by
 have mk:∀g:ByteArray,(⟨g.data.toList.toArray⟩:ByteArray)=g:=λg=>rfl;have k:∀n:UInt8,n.toNat < 97->(n==a)=false:=λn i=>by rw[beq_eq_false_iff_ne];intro e;rw[e]at i;omega
 have d:∀n:UInt8,n.toNat < 97->Lib.trimPrefix s.data.toList [n]=s.data.toList:=by
  intro n i;unfold Lib.trimPrefix Lib.hasPrefix;rw[c];simp[List.isPrefixOf,k n i]
 have j:Lib.hasPrefix s.data.toList [43,45]=false:=by
  unfold Lib.hasPrefix;rw[c];simp[List.isPrefixOf]
 have l:=λb=>strings_TrimPrefix s ⟨#[43]⟩ b;have m:=λb=>strings_TrimPrefix s ⟨#[45]⟩ b;have c3:=λb=>strings_HasPrefix s ⟨#[43,45]⟩ b;have c4:=λb=>strings_TrimPrefix s ⟨#[46]⟩ b;rw[show (⟨#[43]⟩:ByteArray).data.toList=[43]from rfl,d 43 (by decide),mk]at l;rw[show (⟨#[45]⟩:ByteArray).data.toList=[45]from rfl,d 45 (by decide),mk]at m;rw[show (⟨#[43,45]⟩:ByteArray).data.toList=[43,45]from rfl,j]at c3;rw[show (⟨#[46]⟩:ByteArray).data.toList=[46]from rfl,d 46 (by decide),mk]at c4;have r:=isEmpty_cons s a [] c;have o:=xG s a [] c;have v:(48:Int)<=(a.toNat:Int):=by omega
 have t:¬(a.toNat:Int)<=57:=by omega
 generalize (a.toNat:Int)=q at *;clear c k d j mk
 go_enter func309,ntmps309
 go_wp2_with fail
 refine(l _).mono ?_;rintro e f ⟨rfl,rfl⟩
 go_wp2_with fail
 refine(m _).mono ?_;rintro e f ⟨rfl,rfl⟩
 go_wp2_with fail
 refine(c3 _).mono ?_;rintro e f ⟨rfl,rfl⟩
 go_wp2_with fail
 refine(c4 _).mono ?_;rintro e f ⟨rfl,rfl⟩
 go_wp2_with fail
 go_ret
 exact⟨by simp,rfl⟩
theorem mU(w:World)(a:ByteArray)(B:Nat)(c:B<=w.heap.size):Below B w (Lib.bytesWorld w 5 a):=⟨rfl,rfl,rfl,by rw[Lib.bytesWorld_size];omega,λk b=>Lib.bytesWorld_at_old w 5 a k (zK b c)⟩
theorem pF(w:World):(zeroValue 20).run π w=.ok .nilIface w:=by kernel_rfl
theorem nV(s:ByteArray)(v:Value)(t:s.size<=100)(c:(.string s,v)∈yA)(u:v.cells.size=1)(w:World):Calls π 292 #[.string s] w λe w'=>e=ρ v/\Below w.heap.size w w':=by
 obtain⟨l,r⟩:=o3 s (by omega);have i:∀p∈yA,p.1=.string s->p.2=v:=by
  intro q g k;unfold yA at g c;simp only[List.mem_cons,List.not_mem_nil,or_false,Prod.mk.injEq,Value.string.injEq]at c g;rcases g with rfl|rfl|rfl|rfl|rfl|rfl|rfl|rfl|rfl<;>simp only[Value.string.injEq]at k<;>subst k<;>rcases c with ⟨b,a⟩|⟨b,a⟩|⟨b,a⟩|⟨b,a⟩|⟨b,a⟩|⟨b,a⟩|⟨b,a⟩|⟨b,a⟩|⟨b,a⟩<;>first|exact a.symm|exact absurd b (by decide)
 have j:∀d B,xW π 9 d B yA->(Instr.lookup 482 (.map (W B)) (.string s) true).run π d=.ok (.tuple #[v,.bool true]) d:=λd B f=>f.look_in lG underlying482 (pF _) (.string s) r true v c i;have o:=zD j;clear j i c
 go_enter func292,ntmps292
 go_wp2_with fail
 refine(fb w).mono ?_;rintro e m ⟨rfl,f,n⟩;have x:=o.out m w.heap.size f
 go_wp2_with fail
 go_ret
 exact⟨rfl,n⟩
theorem kz(s:ByteArray)(e:s.size<=100)(b:∀p∈yA,p.1≠.string s)(a:World)(B:Nat)(d:xW π 9 a B yA):(Instr.lookup 482 (.map (W B)) (.string s) true).run π a=.ok (.tuple #[.nilIface,.bool false]) a:=by
 obtain⟨l,c⟩:=o3 s (by omega);exact d.look_out lG underlying482 (pF _) (.string s) c true b
theorem nW(s:ByteArray)(b:UInt8)(a:s.data.toList=[b])(r:97<=b.toNat)(c:b.toNat<=122)(w:World):Calls π 292 #[.string s] w λe w'=>e=ρ (.iface 9 (.string s))/\Below w.heap.size w w':=by
 have g:s.size=1:=by rw[<-ap,a];rfl
 have j:∀p∈yA,p.1≠.string s:=by
  intro q d e;unfold yA at d;simp only[List.mem_cons,List.not_mem_nil,or_false]at d;rcases d with rfl|rfl|rfl|rfl|rfl|rfl|rfl|rfl|rfl<;>simp only[Value.string.injEq]at e<;>rw[<-e]at a g<;>first|(exact absurd g (by decide))|(injection a with a _;rw[<-a]at c;exact absurd c (by decide))
 have i:=kz s (by omega) j;have f:=mE s b a r c;obtain⟨o,n⟩:=zx2 i f;clear i f j a
 go_enter func292,ntmps292
 go_wp2_with fail
 refine(fb w).mono ?_;rintro e k ⟨rfl,l,m⟩;have t:=o.out k w.heap.size l
 go_wp2_with fail
 refine(n.out _).mono ?_;rintro e u ⟨rfl,rfl⟩
 go_wp2_with fail
 go_ret
 exact⟨rfl,m⟩
theorem jF(s T:ByteArray)(c:UInt8)(t:Tp.B)(n:Int)(g:T.data.toList=c::t)(L:Tp.isDig c=true)(P:∀x∈t,Tp.isDig x=true)(d:s=T\/s.data.toList=45::T.data.toList)
(G:Lib.atoi s.data.toList=W n)(A:Tp.itoa n=s.data.toList)(a4:s.size<=16)(a6:-999999999999999<=n)(a1:n<=999999999999999)(w:World)(C:Glob w):
 Calls π 292 #[.string s] w λe w'=>e=ρ (.iface 3 (.int I n))/\Below w.heap.size w w':=by
 have F:∀p∈yA,p.1≠.string s:=by
  intro q j e;unfold yA at j;have b:=L;unfold Tp.isDig at b;simp at b
  have ad:∃a m,s.data.toList=a::m/\(a=c\/(a=45/\m=c::t)):=by
   rcases d with rfl|d
   ·exact⟨c,t,g,.inl rfl⟩
   ·exact⟨45,T.data.toList,d,.inr ⟨rfl,g⟩⟩
  obtain⟨a,m,v,f⟩:=ad;simp only[List.mem_cons,List.not_mem_nil,or_false]at j;rcases j with rfl|rfl|rfl|rfl|rfl|rfl|rfl|rfl|rfl<;>simp only[Value.string.injEq]at e<;>rw[<-e]at v<;>(try cases v)<;>rcases f with f|⟨f,l⟩<;>first|(rw[<-f]at b;exact absurd b (by decide))|(exact absurd f (by decide))|(injection l with l _;rw[<-l]at b;exact absurd b (by decide))
 have z:=kz s (by omega) F;have E:=kH s T c t g L P d;have u:=strconv_Atoi s n (by omega) G;have k:=dP n (by omega) (by omega);rw[A,show xR s.data.toList=.string s from rfl]at k;have a5:(s.toList==s.toList)=true:=by simp
 have a2:¬n < -999999999999999:=by omega
 have a3:¬999999999999999 < n:=by omega
 obtain⟨ab,S,R,ac,X⟩:=zx5 z E u k C;clear z E u k F d g A G C
 go_enter func292,ntmps292
 go_wp2_with fail
 refine(fb w).mono ?_;rintro e M ⟨rfl,r,i⟩;have an:=ab.out M w.heap.size r
 go_wp2_with fail
 refine(S.out _).mono ?_;rintro e av ⟨rfl,y⟩;have H:=i.trans (y.mono i.size);clear an r i y
 go_wp2_with fail
 refine(R.out _).mono ?_;rintro e N ⟨rfl,⟨al,D⟩⟩;have o:Below w.heap.size w N:=by rw[D];exact H.trans (mU av al _ H.size)
 clear D
 go_wp2_with fail
 refine(ac.out _ (X.out.step o)).mono ?_;rintro e a0 ⟨rfl,ao⟩
 go_wp2_with fail
 go_ret
 exact⟨by simp,o.trans (ao.mono o.size)⟩
theorem n7(a:World):(Instr.typeAssert (.nilIface) 20 480 true).run π a=.ok (.tuple #[.float .f64 0,β false]) a:=by kernel_rfl
theorem sW(a:World):(Instr.typeAssert (.nilIface) 20 4 true).run π a=.ok (.tuple #[β false,β false]) a:=by kernel_rfl
theorem sX(a:World):(Instr.typeAssert (.nilIface) 20 3 true).run π a=.ok (.tuple #[V I 0,β false]) a:=by kernel_rfl
theorem sV(a:World):(Instr.typeAssert (.nilIface) 20 9 true).run π a=.ok (.tuple #[U ⟨#[]⟩,β false]) a:=by kernel_rfl
theorem nj(b:Bool)(a:World):(Instr.typeAssert (.iface 4 (β b)) 20 480 true).run π a=.ok (.tuple #[.float .f64 0,β false]) a:=by kernel_rfl
theorem uw(a:Bool)(b:World):(Instr.typeAssert (.iface 4 (β a)) 20 4 true).run π b=.ok (.tuple #[β a,β true]) b:=by kernel_rfl
theorem sY(n:Int)(a:World):(Instr.typeAssert (.iface 3 (V I n)) 20 480 true).run π a=.ok (.tuple #[.float .f64 0,β false]) a:=by kernel_rfl
theorem vY(n:Int)(a:World):(Instr.typeAssert (.iface 3 (V I n)) 20 4 true).run π a=.ok (.tuple #[β false,β false]) a:=by kernel_rfl
theorem vZ(n:Int)(a:World):(Instr.typeAssert (.iface 3 (V I n)) 20 3 true).run π a=.ok (.tuple #[V I n,β true]) a:=by kernel_rfl
theorem sU(s:ByteArray)(a:World):(Instr.typeAssert (.iface 9 (U s)) 20 480 true).run π a=.ok (.tuple #[.float .f64 0,β false]) a:=by kernel_rfl
theorem vW(s:ByteArray)(a:World):(Instr.typeAssert (.iface 9 (U s)) 20 4 true).run π a=.ok (.tuple #[β false,β false]) a:=by kernel_rfl
theorem vX(s:ByteArray)(a:World):(Instr.typeAssert (.iface 9 (U s)) 20 3 true).run π a=.ok (.tuple #[V I 0,β false]) a:=by kernel_rfl
theorem vV(s:ByteArray)(a:World):(Instr.typeAssert (.iface 9 (U s)) 20 9 true).run π a=.ok (.tuple #[U s,β true]) a:=by kernel_rfl
def yK(w:World)(x:Tp.Sc)(e:Ending)(w':World):Prop:=e=ρ (.tuple #[scV x,V I 0])/\Below w.heap.size w w'
theorem wu:(prog.info? 30).map (·.size)=W 3:=by kernel_rfl
theorem cw{e:Func}{a f:Tmp}(i:e.results=#[.cell a 30,.tmp f])(c:World)(q:Nat)(x d z:Value)(b:Array Value)(k:c.heap[q]? =W (J #[x,d,z] 30 (0,0)))(l:b.getD a undef=Z (W ⟨q,0,O⟩)):
 (results e b).run π c=.ok (.tuple #[γ #[x,d,z],b.getD f undef]) c:=by
 have g:b[a]?.getD undef=Z (W ⟨q,0,O⟩):=by simpa using l
 have j:=run_loadVar_row (P:=π) c q 30 30 _ (0,0) _ k underlying30 rfl wu;simp[results,i,asAddr,g,j,Sem.run_bind,Result.andThen]
theorem oq(w:World):Calls π 291 #[.nilIface] w (yK w ⟨0,0,[]⟩):=by
 have c:=n7;have a:=sW;have d:=sX;have b:=sV
 go_enter func291,ntmps291
 go_wp2_with fail
 exact bodyPost_ret (cw results291 _ w.heap.size _ _ _ _ (af w _) rfl) rfl ⟨rfl,(ζ _ _).alloc (η _) _⟩
theorem gU(n:Int)(w:World):Calls π 291 #[.iface 3 (V I n)] w (yK w ⟨2,n,[]⟩):=by
 have b:=sY n;have a:=vY n;have c:=vZ n
 go_enter func291,ntmps291
 go_wp2_with fail
 exact bodyPost_ret (cw results291 _ w.heap.size _ _ _ _ (af w _) rfl) rfl ⟨rfl,(ζ _ _).alloc (η _) _⟩
theorem oo(s:ByteArray)(w:World):Calls π 291 #[.iface 9 (U s)] w (yK w ⟨3,0,s.data.toList⟩):=by
 have c:=sU s;have a:=vW s;have d:=vX s;have b:=vV s
 go_enter func291,ntmps291
 go_wp2_with fail
 exact bodyPost_ret (cw results291 _ w.heap.size _ _ _ _ (af w _) rfl) rfl ⟨rfl,(ζ _ _).alloc (η _) _⟩
theorem lW(w:World):Calls π 291 #[.iface 4 (β true)] w (yK w ⟨1,1,[]⟩):=by
 have a:=nj true;have b:=uw true
 go_enter func291,ntmps291
 go_wp2_with fail
 exact bodyPost_ret (cw results291 _ w.heap.size _ _ _ _ (aa _ (af w _)) rfl) rfl ⟨rfl,((ζ _ _).alloc (η _) _).alloc (by simp) _⟩
theorem jP(w:World):Calls π 291 #[.iface 4 (β false)] w (yK w ⟨1,0,[]⟩):=by
 have a:=nj false;have b:=uw false
 go_enter func291,ntmps291
 go_wp2_with fail
 exact bodyPost_ret (cw results291 _ w.heap.size _ _ _ _ (aa _ (af w _)) rfl) rfl ⟨rfl,((ζ _ _).alloc (η _) _).alloc (by simp) _⟩
theorem bG(s:ByteArray)(x:Tp.Sc)(v:Value)(P:s.size<=100000)(g:Tp.okPlain s.data.toList=true)(C:∀w,Glob w->Calls π 292 #[U s] w λe w'=>e=ρ v/\Below w.heap.size w w')(D:∀w,Calls π 291 #[v] w (yK w x))(w:World)(f:Glob w):
 Calls π 268 #[U s] w (yK w x):=by
 have l:w.heap.size < (w.alloc (J #[V I 0,V I 0,U ⟨#[]⟩] 30)).heap.size:=by simp
 have b:=(ζ w.heap.size w).alloc (η _) (J #[V I 0,V I 0,U ⟨#[]⟩] 30);have A:=re s false P g _ (f.step b);obtain⟨S,t,o⟩:=List.exists_cons_of_ne_nil (ci _ g).2.1;have ad:=isEmpty_cons s S t o;have m:=af w (J #[V I 0,V I 0,U ⟨#[]⟩] 30);obtain⟨G,R,N,M,H,n⟩:=zx6 A C D f m b;clear A C D f m b g o
 go_enter func268,ntmps268
 go_wp2_with fail
 refine G.out.mono ?_;rintro e X ⟨rfl,i⟩;have r:=n.out.trans (i.mono n.out.size);have k:=(i.block _ l).trans H.out;obtain⟨c,u⟩:=zx2 r k;clear i r k l
 go_wp2_with fail
 refine(R.out _ (M.out.step c.out)).mono ?_;rintro e av ⟨rfl,d⟩;have E:=c.out.trans (d.mono c.out.size);have z:=(d.block _ (lt_of_heap u.out)).trans u.out;obtain⟨y,q⟩:=zx2 E z;clear d E z
 go_wp2_with fail
 refine(N.out _).mono ?_;rintro e ab ⟨rfl,j⟩;have p:=y.out.trans (j.mono y.out.size);have a:=(j.block _ (lt_of_heap q.out)).trans q.out;have an:=zF a 0 rfl;have al:=zF a 1 rfl;have T:=zF a 2 rfl;have ao:=ag a 0;have ac:=ag a 1;have a0:=ag a 2;obtain⟨L,F⟩:=zx2 p a;clear j p a;unfold scV
 go_wp2_with fail
 exact bodyPost_ret (cw results268 _ w.heap.size _ _ _ _ (ai (ai (ai F.out 0 _) 1 _) 2 _) rfl) rfl ⟨rfl,((L.out.setCell (η _) _).setCell (η _) _).setCell (η _) _⟩
theorem mh(s:ByteArray)(x:Tp.Sc)(f:s.size<=100000)(o:AA s.data.toList x)(w:World)(b:Glob w):Calls π 268 #[.string s] w (yK w x):=by
 have g:=uY _ _ o;obtain⟨l,a⟩:∃l,s.data.toList=l:=⟨_,rfl⟩;have d:s=⟨l.toArray⟩:=by rw[<-a]
 have m:∀v,(.string s,v)∈yA->s.size<=100->v.cells.size=1->∀w,Glob w->Calls π 292 #[.string s] w λe w'=>e=ρ v/\Below w.heap.size w w':=λv p j i w _=>nV s v j p i w;rw[a]at o;cases o with
 |nul=>exact bG s _ .nilIface f g (m _ (by rw[d];simp[yA]) (by rw[d];decide) (by decide)) oq w b
 |tru=>exact bG s _ (.iface 4 (.bool true)) f g (m _ (by rw[d];simp[yA]) (by rw[d];decide) (by rfl)) lW w b
 |fal=>exact bG s _ (.iface 4 (.bool false)) f g (m _ (by rw[d];simp[yA]) (by rw[d];decide) (by rfl)) jP w b
 |num _ t c n h1 h2 h3 h4 h5 h6=>
  have j:s.size<=16:=by rw[<-ap,a];exact h3
  rcases h6 with ⟨rfl,i,k⟩|⟨rfl,i,k⟩
  ·exact bG s _ (.iface 3 (.int I n)) f g (λw b=>jF s s c t n a i k (.inl rfl) (by rw[a];exact h1) (by rw[a];exact h2) j h4 h5 w b) (gU n) w b
  ·exact bG s _ (.iface 3 (.int I n)) f g (λw b=>jF s ⟨(c::t).toArray⟩ c t n rfl i k (.inr a) (by rw[a];exact h1) (by rw[a];exact h2) j h4 h5 w b) (gU n) w b
 |let1 c h1 h2=>
  have:=oo s;rw[a]at this;exact bG s _ (.iface 9 (.string s)) f g (λw b=>nW s c a h1 h2 w) this w b
end Go.Proofs.YtbikgdhbiebhcaaGreatDoor
