/- Part 14. -/
import Derived.Test.YtbikgdhbiebhcaaGreatDoorW13
set_option linter.unusedVariables false
set_option linter.unusedSimpArgs false
set_option maxRecDepth 100000
set_option maxHeartbeats 2000000
open Go.Value renaming int -> V, string -> U, slice -> Y, pointer -> Z, func -> φ, agg -> γ, bool -> β
open Go.IntKind renaming i64 -> I
open Option renaming some -> W, none -> O
open Go.Obj renaming cells -> J
open Go.Ending renaming returned -> ρ
open Go.Proofs.Tryz renaming prog -> π
open Nat renaming le_refl -> η
open And renaming intro -> θ
open Go.RowKit.Below renaming refl -> ζ
namespace Go.Proofs.YtbikgdhbiebhcaaGreatDoor
open Go.RowKit Tryz
section
attribute [local go_sem] ak
attribute [local go_sem] Oper.semAt_some
def LdP(d:List Ln.Line)(t:Tp.Tree)(g:List Tp.Nd):Nat->Value->NS->World->Prop
 |0,_,_,_=>True
 |1,x,G,a=>∃v,x=.iface 101 v/\Row a G d.length v (ye d)
 |2,x,G,a=>∃b:List Value,x=.iface 78 (γ b.toArray)/\xS a G t b
 |3,x,G,a=>∃c,x=.iface 54 (γ #[V I 0,c])/\yc a G g c
 |_+4,_,_,_=>False
theorem LdP.far{i:List Ln.Line}{t:Tp.Tree}{g:List Tp.Nd}(n:Nat)(x:Value)(b:NS)(e f:World)(D:NS)(j:LdP i t g n x b e)(c:Far D e f)(d:∀k,b k->¬D k):LdP i t g n x b f:=by
 match n,j with
 |0,_=>trivial
 |1,⟨v,h1,h2⟩=>exact⟨v,h1,h2.far c (λk a _=>d k a)⟩
 |2,⟨v,h1,h2⟩=>exact⟨v,h1,xS.far c (λk a _=>d k a) _ _ h2⟩
 |3,⟨v,h1,h2⟩=>exact⟨v,h1,h2.far c (λk a _=>d k a)⟩
structure At(s:ByteArray)(ls:List Ln.Line)(es:List Tp.En)(t:Tp.Tree)(g:List Tp.Nd):Prop where
 size:s.size<=1000000
 split:(Ln.split s.data.toList).2.2=0
 lines:(Ln.split s.data.toList).1=ls
 few:ls.length<=10000
 ind:∀x∈ls,0<=x.ind/\x.ind<=8000
 txt:∀x∈ls,x.s.length<=100000/\Ln.right x.s=true/\Ln.plainB x.s=true
 ents:Tp.ents ls=W es
 ens:∀x∈es,(∀t∈x.l,zf t)/\x.l.length<=100000
 tree:Tp.bread es=W t
 good:zb t
 graph:Tp.graph t=W g
 names:(yv t).Nodup
 deep:Tp.depth t<=900
theorem At.step{s:ByteArray}{j:List Ln.Line}{r:List Tp.En}{t:Tp.Tree}{g:List Tp.Nd}(a:At s j r t g)(n:Nat)(y:n < 3)(x:Value)(l:NS)(b:World)(w:LdP j t g n x l b)(o:Glob b)(p:∀k,l k->k < b.heap.size):
 Calls π (33+n) #[γ #[U s],x] b λe w'=>(∃q,e=ρ (.tuple #[q,.nilIface])/\LdP j t g (n+1) q (λk=>b.heap.size<=k/\k < w'.heap.size) w')/\Below b.heap.size b w':=by
 match n,y,w with
 |0,_,_=>
  refine(mz s a.size a.split x b o).mono ?_;rintro e w' ⟨⟨v,rfl,c⟩,f⟩;rw[a.lines]at c;exact⟨⟨_,rfl,v,rfl,(az c).mono (λk i d=>⟨i,d⟩)⟩,f⟩
 |1,_,⟨v,hx,c⟩=>
  subst hx;refine(nX (U s) .nilIface j r t v l b c p a.few a.ind a.txt a.ents a.ens a.tree o).mono ?_;rintro e w' ⟨⟨m,rfl,c⟩,f⟩;exact⟨⟨_,rfl,m,rfl,xS.mono (λk i d=>⟨i,d⟩) _ _ c⟩,f⟩
 |2,_,⟨m,hx,hT⟩=>
  subst hx;refine(mJ (U s) .nilIface t m l g b hT a.good o p a.graph a.names a.deep).mono ?_;rintro e w' ⟨⟨u,rfl,c⟩,f⟩;exact⟨⟨_,rfl,u,rfl,c.mono (λk i d=>⟨i,d⟩)⟩,f⟩
theorem lO(b:Value)(d:Option Addr)(a c:Nat)(w:World):Calls π 51 #[γ #[b],Y d a c] w λe w'=>e=ρ (φ (.func 69) #[] #[Z (W ⟨w.heap.size+1,0,O⟩)])/\w'=(w.alloc (J #[b] 75)).alloc (J #[Y d a c] 97):=by
 go_enter func51,ntmps51
 go_wp2
 go_ret
 exact⟨rfl,rfl⟩
theorem ud(args:Array Value)(w:World):(callFunc 69 args).run π w=.ok (.enter 69 args) w:=by kernel_rfl
theorem uh(args:Array Value)(w:World):(callFunc 33 args).run π w=.ok (.enter 33 args) w:=by kernel_rfl
theorem ug(args:Array Value)(w:World):(callFunc 34 args).run π w=.ok (.enter 34 args) w:=by kernel_rfl
theorem uf(args:Array Value)(w:World):(callFunc 35 args).run π w=.ok (.enter 35 args) w:=by kernel_rfl
theorem ua(n:Nat)(a:n < 3)(args:Array Value)(w:World):(callFunc (33+n) args).run π w=.ok (.enter (33+n) args) w:=by
 match n,a with
 |0,_=>exact uh args w
 |1,_=>exact ug args w
 |2,_=>exact uf args w
theorem la1(v:Value)(a:World):(Instr.typeAssert (.iface 101 v) 20 78 true).run π a=.ok (.tuple #[γ #[V I 0,U ⟨#[]⟩,V I 0,V I 0,U ⟨#[]⟩,Y O 0 0,Y O 0 0],β false]) a:=by kernel_rfl
theorem la2(v:Value)(a:World):(Instr.typeAssert (.iface 101 v) 20 54 true).run π a=.ok (.tuple #[γ #[V I 0,Y O 0 0],β false]) a:=by kernel_rfl
theorem la3(v:Value)(a:World):(Instr.typeAssert (.iface 78 v) 20 78 true).run π a=.ok (.tuple #[v,β true]) a:=by kernel_rfl
theorem la4(v:Value)(a:World):(Instr.typeAssert (.iface 54 v) 20 78 true).run π a=.ok (.tuple #[γ #[V I 0,U ⟨#[]⟩,V I 0,V I 0,U ⟨#[]⟩,Y O 0 0,Y O 0 0],β false]) a:=by kernel_rfl
theorem la5(v:Value)(a:World):(Instr.typeAssert (.iface 54 v) 20 54 true).run π a=.ok (.tuple #[v,β true]) a:=by kernel_rfl
theorem mg{g:Func}{a f d:Tmp}(s:g.results=#[.cell a 78,.cell f 54,.cell d 41])(b:World)(q p o:Nat)(xs e:Array Value)(z:Value)(c:Array Value)(A:b.heap[q]? =W (J xs 78 (0,0)))(y:xs.size=7)(m:b.heap[p]? =W (J e 54 (0,0)))(u:e.size=2)(r:b.cell? ⟨o,0,O⟩=W z)(j:c.getD a undef=Z (W ⟨q,0,O⟩))(w:c.getD f undef=Z (W ⟨p,0,O⟩))(l:c.getD d undef=Z (W ⟨o,0,O⟩)):
 (results g c).run π b=.ok (.tuple #[γ xs,γ e,z]) b:=by
 have n:c[a]?.getD undef=Z (W ⟨q,0,O⟩):=by simpa using j
 have x:c[f]?.getD undef=Z (W ⟨p,0,O⟩):=by simpa using w
 have i:c[d]?.getD undef=Z (W ⟨o,0,O⟩):=by simpa using l
 have t:=run_loadVar_row (P:=π) b q 78 78 xs (0,0) _ A underlying78 rfl (by rw[y];exact gS);have k:=run_loadVar_row (P:=π) b p 54 54 e (0,0) _ m underlying54 rfl (by rw[u];kernel_rfl);have v:(loadVar 41 ⟨o,0,O⟩).run π b=.ok z b:=by simp[r,go_sem]
 simp[results,s,asAddr,n,x,i,t,k,v,Sem.run_bind,Result.andThen]
structure LdI(w:World)(b:Nat)(g:List Tp.Nd)(t:Nat)(F:NS)(W:World):Prop where
 tr:∃zk zS zx zn zT za1 zn1 zp1 za2 zn2 zp2,W.heap[b+1]? =some (J #[V I zk,U zS,V I zx,V I zn,U zT,Y za1 zn1 zp1,Y za2 zn2 zp2] 78 (0,0))
 gr:∃ra rn rc,W.heap[b+2]? =some (J #[V I 0,Y ra rn rc] 54 (0,0))/\(t=3->∃KG:NS,yc W KG g (Y ra rn rc)/\∀k,KG k->F k/\b+6<=k)
 er:W.heap[b+3]? =some (J #[.nilIface] 41 (0,0))
 own:F (b+1)/\F (b+2)/\F (b+3)
 low:∀k,F k->(b+1<=k/\k<=b+3)\/b+8<=k
 bel:Below b w W
theorem LdI.far{w:World}{b:Nat}{g:List Tp.Nd}{t:Nat}{i:NS}{f j:World}(d:LdI w b g t i f)(a:Far (y8 xO i (b+6)) f j)(q:w.heap.size<=b+6/\b<=f.heap.size):LdI w b g t i j:=by
 obtain⟨⟨P,E,A,H,R,C,n,D,z,L,y,v⟩,⟨o,p,M,m,F⟩,s,c,G,x⟩:=d;refine⟨⟨P,E,A,H,R,C,n,D,z,L,y,a.heap v (λe=>e.1 c.1)⟩,⟨o,p,M,a.heap m (λe=>e.1 c.2.1),λe=>?_⟩,a.heap s (λe=>e.1 c.2.2),c,G,x.trans (a.to_below q.2 (λk _ e=>?_))⟩
 ·obtain⟨N,u,l⟩:=F e
  exact⟨N,u.far a (λk r _ e=>e.1 (l k r).1),l⟩
 ·rcases e.2 with d|d
  ·exact d.elim
  ·omega
theorem sN(s:ByteArray)(e7:List Ln.Line)(hg:List Tp.En)(t:Tp.Tree)(g:List Tp.Nd)(b:At s e7 hg t g)(y:Nat)(T:TypeId)(w:World)(S:Glob w)(c2:w.heap[y]? =W (J #[φ (.func 33) #[γ #[(U s)]] #[],φ (.func 34) #[γ #[(U s)]] #[],φ (.func 35) #[γ #[(U s)]] #[]] T (0,0))):
 Calls π 32 #[γ #[U s],Y (W ⟨y,0,O⟩) 3 3] w λe w'=>(∃a3 an ad a5 a9 a1 av a2 a0 a6 ac f1,e=ρ (.tuple #[γ #[V I a3,U an,V I ad,V I a5,U a9,Y a1 av a2,Y a0 a6 ac],γ #[V I 0,f1],.nilIface])/\yc w' (New w) g f1)/\Below w.heap.size w w':=by
 obtain⟨a,C⟩:∃a,w.heap.size=a:=⟨_,rfl⟩;obtain⟨d,hz⟩:∃d,Value.string s=d:=⟨_,rfl⟩;have dv:=λn bs x A c=>b.step n bs x A c;rw[hz]at c2 dv ⊢;have ho:10<=a:=by rw[<-C];exact S.1
 have f:Far xO w ((((w.alloc (J #[d] 75)).alloc (J #[V I 0,U ⟨#[]⟩,V I 0,V I 0,U ⟨#[]⟩,Y O 0 0,Y O 0 0] 78)).alloc (J #[V I 0,Y O 0 0] 54)).alloc (J #[.nilIface] 41)):=((((ξ _ w).alloc _).alloc _).alloc _).alloc _;have d4:((((w.alloc (J #[d] 75)).alloc (J #[V I 0,U ⟨#[]⟩,V I 0,V I 0,U ⟨#[]⟩,Y O 0 0,Y O 0 0] 78)).alloc (J #[V I 0,Y O 0 0] 54)).alloc (J #[.nilIface] 41)).heap[a]? =W (J #[d] 75 (0,0)):=by rw[<-C];exact aa _ (aa _ (aa _ (af w _)))
 have E:((((w.alloc (J #[d] 75)).alloc (J #[V I 0,U ⟨#[]⟩,V I 0,V I 0,U ⟨#[]⟩,Y O 0 0,Y O 0 0] 78)).alloc (J #[V I 0,Y O 0 0] 54)).alloc (J #[.nilIface] 41)).heap[a+1]? =W (J #[V I 0,U ⟨#[]⟩,V I 0,V I 0,U ⟨#[]⟩,Y O 0 0,Y O 0 0] 78 (0,0)):=aa _ (aa _ (ah _ _ _ (by simp[C])));have G:((((w.alloc (J #[d] 75)).alloc (J #[V I 0,U ⟨#[]⟩,V I 0,V I 0,U ⟨#[]⟩,Y O 0 0,Y O 0 0] 78)).alloc (J #[V I 0,Y O 0 0] 54)).alloc (J #[.nilIface] 41)).heap[a+2]? =W (J #[V I 0,Y O 0 0] 54 (0,0)):=aa _ (ah _ _ _ (by simp[C]));have g3:((((w.alloc (J #[d] 75)).alloc (J #[V I 0,U ⟨#[]⟩,V I 0,V I 0,U ⟨#[]⟩,Y O 0 0,Y O 0 0] 78)).alloc (J #[V I 0,Y O 0 0] 54)).alloc (J #[.nilIface] 41)).heap[a+3]? =W (J #[.nilIface] 41 (0,0)):=ah _ _ _ (by simp[C]);have P:((((w.alloc (J #[d] 75)).alloc (J #[V I 0,U ⟨#[]⟩,V I 0,V I 0,U ⟨#[]⟩,Y O 0 0,Y O 0 0] 78)).alloc (J #[V I 0,Y O 0 0] 54)).alloc (J #[.nilIface] 41)).heap.size=a+4:=by simp[C]
 have he:=zF d4 0 rfl;have fv:=f.heap c2 id;have hN:y < a:=C ▸ lt_of_heap c2;refine callsIn_wide.1 (callsIn_of_wp_marks (n:=5) func32 rfl trivial (wpIn_wide.2 ?_));simp only[ntmps32,List.size_toArray,zO,List.length_nil,Nat.reduceAdd,Nat.reduceSub,Array.replicate_succ,Array.replicate_zero,List.push_toArray,List.append_toArray,List.nil_append,List.cons_append];obtain⟨N,gl,fR,er,e9,hA⟩:=zx6 C f E G g3 dv;obtain⟨eq,hk⟩:=zx2 fv S;clear f d4 E G g3 dv fv S c2 b
 go_upto_region 1 with (fail)
 generalize ((((w.alloc (J #[d] 75)).alloc (J #[V I 0,U ⟨#[]⟩,V I 0,V I 0,U ⟨#[]⟩,Y O 0 0,Y O 0 0] 78)).alloc (J #[V I 0,Y O 0 0] 54)).alloc (J #[.nilIface] 41))=F at *;clear C
 go_wp2_with fail
 refine(lO d _ 3 3 _).mono ?_;rintro e hH ⟨rfl,rfl⟩;rw[P];have be:Far xO F ((F.alloc (J #[d] 75)).alloc (J #[Y (W ⟨y,0,O⟩) 3 3] 97)):=((ξ _ F).alloc _).alloc _;have e1:((F.alloc (J #[d] 75)).alloc (J #[Y (W ⟨y,0,O⟩) 3 3] 97)).heap.size=a+6:=by simp[P]
 have e8:((F.alloc (J #[d] 75)).alloc (J #[Y (W ⟨y,0,O⟩) 3 3] 97)).heap[a+4+1]? =W (J #[Y (W ⟨y,0,O⟩) 3 3] 97 (0,0)):=ah _ _ _ (by simp[P]);have fl:=n9 (γ #[d]) (λn=>33+n) (LdP e7 t g) (a+4+1) y ((F.alloc (J #[d] 75)).alloc (J #[Y (W ⟨y,0,O⟩) 3 3] 97)) e8 T (be.heap eq.out id) (λn bs=>ua n bs) (λ_=>trivial) (λn x A c c0 D b cl g7=>LdP.far n x A c c0 D b cl g7) (λn bs x A c b5 hc hl=>hA.out n bs x A c b5 hc hl);have f4:Below a w ((F.alloc (J #[d] 75)).alloc (J #[Y (W ⟨y,0,O⟩) 3 3] 97)):=(gl.out.trans be).to_below (by rw[N.out];exact η _) (λ_ _ e=>e.elim);have gg:LdI w a g 0 (λk=>a+1<=k/\k<=a+3) ((F.alloc (J #[d] 75)).alloc (J #[Y (W ⟨y,0,O⟩) 3 3] 97)):=⟨⟨_,_,_,_,_,_,_,_,_,_,_,be.heap fR.out id⟩,⟨_,_,_,be.heap er.out id,λe=>by omega⟩,be.heap e9.out id,⟨by omega,by omega,by omega⟩,λk b=>.inl b,f4⟩;obtain⟨fs,g1,bR⟩:=zx3 fl gg e1;clear be e1 e8 fl f4 gg fR er e9 gl eq he;generalize ((F.alloc (J #[d] 75)).alloc (J #[Y (W ⟨y,0,O⟩) 3 3] 97))=hX at *;clear P
 go_wp2_with fail
 refine wpIn_wide.1 (aC (n:=5) (gf:=69) (lb:=#[Z (W ⟨a+4+1,0,O⟩)]) rfl (λargs wx=>ud args wx)
  fs.out (λk e=>e.elim) (λk e=>by have:=bR.out;rcases e with e|e<;>omega) (λt v A c b=>by obtain⟨x,rfl,_⟩:=b;rfl)
  (LdI w a g) (λ_ _ _=>False) (λk=>a+1<=k/\k<=a+3) (λk b=>by have:=bR.out;exact⟨λe=>e,λe=>by rcases e with e|e<;>omega,by omega,by omega,λ_=>by omega⟩) g1.out ?hI (λ_ _ _ _ b _=>b) (λt L c b=>hk.out.keep b.bel ho) (λ_ _ _ _=>trivial) ?round ?done (λ_ _ _ b=>b.elim))
 case hI=>
  intro hB L c c0 b cl;rw[bR.out]at cl;exact b.far cl ⟨by rw[N.out];omega,by have:=b.bel.size;rw[N.out]at this;exact this⟩
 case round=>
  rintro n L A v c K bs hb hI ⟨x,rfl,b5,g4⟩ S a4 r;have gd:=bR.out;rw[gd]at hb a4 S g4
  gi_wp2
  refine r _ _ (ξ _ _) ?_;intro o ab _ _;rw[gd]at ab;obtain⟨⟨a3,an,ad,a5,a9,a1,av,a2,a0,a6,ac,bm⟩,⟨j,X,i,bk,R⟩,b0,ck,b6,bn⟩:=hI;have d6:=ab.size;have gx:=ab.heap bm (by omega);have gr:=ab.heap bk (by omega);have f6:=ab.heap b0 (by omega);have es:=bn.trans (ab.to_below (B:=a) (by omega) (λk _ e=>by omega));have hr:n=0\/n=1\/n=2:=by omega
  obtain⟨H,b8,d3,d1,d0,dr⟩:=zx6 ck b6 gx gr f6 es;obtain⟨b3,b1⟩:=zx2 a4 S;clear bm bk b0 bn ck b6 r a4 S gx gr f6 es;rcases hr with rfl|rfl|rfl
  ·obtain⟨v,rfl,hn⟩:=b5
   have en:=la1 v;have hf:=la2 v;clear hn R
   gi_wp2
   refine⟨L,⟨⟨_,_,_,_,_,_,_,_,_,_,_,d3.out⟩,⟨_,_,_,d1.out,λe=>by omega⟩,d0.out,H.out,b8.out,dr.out⟩,ξ _ _,λk b=>⟨.inl b,λ_=>by have:=(b3.out k b).2.2 trivial;omega⟩⟩
  ·obtain⟨hC,rfl,fn⟩:=b5
   obtain⟨ct,cc,da,db,c9,c6,cb,cv,ca,ch,b9,rfl⟩:=fn.form;have en:=la3 (γ #[V I ct,U cc,V I da,V I db,U c9,Y c6 cb cv,Y ca ch b9]);have f:Far xO o (o.alloc (J #[V I ct,U cc,V I da,V I db,U c9,Y c6 cb cv,Y ca ch b9] 78)):=(ξ _ o).alloc _;have E:=f.heap d3.out id;have G:=f.heap d1.out id;have b2:=f.heap d0.out id;obtain⟨_,_,_,_,_,_,_,gb,e6,hp,ei,hx,hu,hv⟩:=bd E;obtain⟨M,m⟩:=aG E (V I ct) (U cc) (V I da) (V I db) (U c9) (Y c6 cb cv) (Y ca ch b9);have d5:=m.heap G (by omega);have bD:=m.heap b2 (by omega);have ao:Below a o (o.alloc (J #[V I ct,U cc,V I da,V I db,U c9,Y c6 cb cv,Y ca ch b9] 78)):=f.to_below (by omega) (λ_ _ e=>e.elim);have b4:=(dr.out.trans ao).trans (m.to_below (B:=a) (by have:=ao.size;omega) (λk _ e=>by omega));have bw:Far L o _:=(f.mono (λ_ _ e=>e.elim)).step m (λk _ (e:k=a+1)=>by rw[e];exact H.out.1);have u:=zD (θ M (θ d5 (θ bD (θ b4 bw))));clear fn R G b2 M m d5 bD ao b4 bw f E
   gi_wp2
   refine⟨L,⟨⟨_,_,_,_,_,_,_,_,_,_,_,u.out.1⟩,⟨_,_,_,u.out.2.1,λe=>by omega⟩,u.out.2.2.1,H.out,b8.out,u.out.2.2.2.1⟩,u.out.2.2.2.2,λk b=>⟨.inl b,λ_=>by have:=(b3.out k b).2.2 trivial;have:=u.out.2.2.2.2.size;omega⟩⟩
  ·obtain⟨hG,rfl,dp⟩:=b5
   obtain⟨j,i,rfl,_⟩:=dp.form;generalize g.length=z at *;have en:=la4 (γ #[V I 0,Y j z i]);have hf:=la5 (γ #[V I 0,Y j z i]);have f:Far xO o (o.alloc (J #[V I 0,Y j z i] 54)):=(ξ _ o).alloc _;have E:=f.heap d3.out id;have G:=f.heap d1.out id;have b2:=f.heap d0.out id;obtain⟨_,_,gb,e6⟩:=bO G;have M:(((o.alloc (J #[V I 0,Y j z i] 54)).setCell ⟨a+2,0,O⟩ (V I 0)).setCell ⟨a+2,1,O⟩ (Y j z i)).heap[a+2]? =W (J #[V I 0,Y j z i] 54 (0,0)):=ai (ai G 0 _) 1 _;have m:Far (·=a+2) (o.alloc (J #[V I 0,Y j z i] 54)) (((o.alloc (J #[V I 0,Y j z i] 54)).setCell ⟨a+2,0,O⟩ (V I 0)).setCell ⟨a+2,1,O⟩ (Y j z i)):=Far.setCell (D:=(·=a+2)) (Far.setCell (D:=(·=a+2)) (ξ _ _) (p:=⟨a+2,0,O⟩) (λ_=>rfl) _) (p:=⟨a+2,1,O⟩) (λ_=>rfl) _;have g5:=m.heap E (by omega);have bD:=m.heap b2 (by omega);have ao:Below a o (o.alloc (J #[V I 0,Y j z i] 54)):=f.to_below (by omega) (λ_ _ e=>e.elim);have b4:=(dr.out.trans ao).trans (m.to_below (B:=a) (by have:=ao.size;omega) (λk _ e=>by omega));have bw:Far L o _:=(f.mono (λ_ _ e=>e.elim)).step m (λk _ (e:k=a+2)=>by rw[e];exact H.out.2.1);have f0:=((dp.far ab (λk l _ e=>(b1.out k l).2.2.1 e)).far f (λ_ _ _ e=>e)).far m (λk l _ e=>(b1.out k l).1 (by rw[show k=a+2 from e];exact H.out.2.1));have e3:∀k,A k->a+8<=k:=λk l=>by have bm:=g4 k l;have bk:=(b1.out k l).2.1;have R:=(b1.out k l).2.2.1;omega
   have u:=zD (θ g5 (θ M (θ bD (θ b4 (θ bw (θ f0 e3))))));clear dp R G b2 M m g5 bD ao b4 bw f E f0 e3
   gi_wp2
   obtain⟨ht,hq,g8,hw,f5,hd,e4⟩:=u.out;refine⟨λk=>L k\/A k,⟨⟨_,_,_,_,_,_,_,_,_,_,_,ht⟩,⟨_,_,_,hq,λ_=>⟨A,hd,λk l=>⟨.inr l,by have:=e4 k l;omega⟩⟩⟩,g8,⟨.inl H.out.1,.inl H.out.2.1,.inl H.out.2.2⟩,λk b=>?_,hw⟩,f5,λk b=>⟨?_,λ_=>?_⟩⟩
   ·rcases b with b|b
    ·exact b8.out k b
    ·exact .inr (e4 k b)
   ·rcases b with b|b
    ·exact .inl b
    ·exact .inr (.inl b)
   ·have P:=f5.size
    rcases b with b|b
    ·exact zK ((b3.out k b).2.2 trivial) (Nat.le_trans d6 P)
    ·exact zK ((b1.out k b).2.2.2) (Nat.le_trans d6 P)
 case done=>
  rintro L c hI _ r a4;rw[bR.out]at r a4 ⊢;obtain⟨⟨a3,an,ad,a5,a9,a1,av,a2,a0,a6,ac,bm⟩,⟨j,X,i,bk,R⟩,b0,ck,b6,bn⟩:=hI;obtain⟨hU,g0,eg⟩:=R rfl;have cf:Far xO c c.drew:=(ξ _ c).drew;have f3:=zD (cf.heap r id);have u:=zD (θ (g0.far cf (λ_ _ _ e=>e)) eg);have b3:=zD a4;have ds:=zD (bn.trans (cf.to_below (B:=a) (by have:=bn.size;rw[N.out]at this;exact this) (λ_ _ e=>e.elim)));have b8:=zD b6;have ba:(λc=>c.heap[a+1]? =W (J #[V I a3,U an,V I ad,V I a5,U a9,Y a1 av a2,Y a0 a6 ac] 78 (0,0))/\c.heap[a+2]? =W (J #[V I 0,Y j X i] 54 (0,0))/\c.heap[a+3]? =W (J #[.nilIface] 41 (0,0))) c.drew:=⟨bm,bk,b0⟩;clear r g0 eg a4 bm bk R b0 ck b6 bn cf g1 fs
  go_upto_region 13 with (fail)
  refine wp_region_noPanic ?_;refine ar (λc=>c.heap[a+1]? =W (J #[V I a3,U an,V I ad,V I a5,U a9,Y a1 av a2,Y a0 a6 ac] 78 (0,0))/\c.heap[a+2]? =W (J #[V I 0,Y j X i] 54 (0,0))/\c.heap[a+3]? =W (J #[.nilIface] 41 (0,0))) [] (by kernel_rfl) ?_;generalize c.drew=ha at *;refine ay 10 (by kernel_rfl) (λ_ _ _ _ b=>b) ba 3 [0,1] _ _ (by kernel_rfl) ?_;iterate 2 (refine ax (v:=?_) ?_ ?_;rotate_left;·(intro hL g2;(try dsimp only at g2);obtain⟨fz,e5,g6⟩:=g2;obtain⟨hV,hK,hD,c3,c4,c5,hM,_⟩:=bd fz;obtain⟨hE,hJ,_⟩:=bO e5;clear fz e5 g6;go_simp;try with_reducible rfl);(try go_frame))
  refine xT.done ?_;try dsimp only
  obtain⟨hm,hi,hS,hW,hR,hQ,hY,gb,e6,hp,ei,hx,hu,hv⟩:=bd ba.1;obtain⟨M,m⟩:=aG ba.1 (V I a3) (U an) (V I ad) (V I a5) (U a9) (Y a1 av a2) (Y a0 a6 ac);have f2:=m.heap ba.2.1 (by omega);have gc:=m.heap ba.2.2 (by omega);have bb:=zD (θ M (θ f2 gc));have f8:=zD m;clear M m f2 gc;refine aq [2] ?_;refine aj rfl (λK r=>?_) xQ.nil
  go_simp
  refine r.out _ _ (λ_=>bb.out) ?_;clear r K
  (try go_frame)
  generalize (((((((ha.setCell ⟨a+1,0,O⟩ (V I a3)).setCell ⟨a+1,1,O⟩ (U an)).setCell ⟨a+1,2,O⟩ (V I ad)).setCell ⟨a+1,3,O⟩ (V I a5)).setCell ⟨a+1,4,O⟩ (U a9)).setCell ⟨a+1,5,O⟩ (Y a1 av a2)).setCell ⟨a+1,6,O⟩ (Y a0 a6 ac))=cm at *;obtain⟨hm,hi,hF,hT⟩:=bO bb.out.2.1;have e0:((cm.setCell ⟨a+2,0,O⟩ (V I 0)).setCell ⟨a+2,1,O⟩ (Y j X i)).heap[a+2]? =W (J #[V I 0,Y j X i] 54 (0,0)):=ai (ai bb.out.2.1 0 _) 1 _;have c1:Far (·=a+2) cm ((cm.setCell ⟨a+2,0,O⟩ (V I 0)).setCell ⟨a+2,1,O⟩ (Y j X i)):=Far.setCell (D:=(·=a+2)) (Far.setCell (D:=(·=a+2)) (ξ _ _) (p:=⟨a+2,0,O⟩) (λ_=>rfl) _) (p:=⟨a+2,1,O⟩) (λ_=>rfl) _;have fG:=c1.heap bb.out.1 (by omega);have ex:=c1.heap bb.out.2.2 (by omega);have al:=zD (θ fG (θ e0 ex));have f9:=zD c1;clear e0 c1 fG ex;refine aq [3] ?_;refine aj rfl (λK r=>?_) xQ.nil
  go_simp
  refine r.out _ _ (λ_=>al.out) ?_;clear r K
  (try go_frame)
  generalize ((cm.setCell ⟨a+1+1,0,O⟩ (V I 0)).setCell ⟨a+1+1,1,O⟩ (Y j X i))=d2 at *;have hP:=zF al.out.2.2 0 rfl;have ei:=ag al.out.2.2 0;have ge:(d2.setCell ⟨a+3,0,O⟩ .nilIface).heap[a+3]? =W (J #[.nilIface] 41 (0,0)):=ai al.out.2.2 0 _;have co:Far (·=a+3) d2 (d2.setCell ⟨a+3,0,O⟩ .nilIface):=Far.setCell (D:=(·=a+3)) (ξ _ _) (p:=⟨a+3,0,O⟩) (λ_=>rfl) _;have f7:=co.heap al.out.1 (by omega);have ga:=co.heap al.out.2.1 (by omega);have dc:=zD (θ f7 (θ ga ge));have ft:=zD co;clear ge co f7 ga;refine aq [4] ?_;refine aj rfl (λK r=>?_) xQ.nil
  go_simp
  refine r.out _ _ (λ_=>dc.out) ?_;clear r K
  (try go_frame)
  refine aP (by kernel_rfl) (NoPanic.normal ?_) _;have df:=((f8.out.mono (D':=λk=>a+1<=k/\k<=a+3) (λk _ e=>by have:k=a+1:=e;omega)).trans (f9.out.mono (D':=λk=>a+1<=k/\k<=a+3) (λk _ e=>by have:k=a+2:=e;omega))).trans (ft.out.mono (D':=λk=>a+1<=k/\k<=a+3) (λk _ e=>by have:k=a+3:=e;omega));have e2:=ds.out.trans (df.to_below (B:=a) (by have:=ds.out.size;rw[N.out]at this;exact this) (λk _ e=>by omega));have fr:=u.out.1.far df (λk l _ e=>by have:=(u.out.2 k l).2;omega);have gk:=df.heap f3.out (by omega);have dn:=zD (θ e2 (θ fr gk));clear df e2 fr gk f8 f9 ft bb al f3 ds ba
  go_wp2_with fail
  refine au (q:=a+6) rfl dn.out.2.2 ?_;intro c0 bx;have hs:=bx.heap dc.out.1 (by omega);have hy:=bx.heap dc.out.2.1 (by omega);have hj:=zF (bx.heap dc.out.2.2 (by omega)) 0 rfl;refine⟨_,mg results32 c0 (a+1) (a+2) (a+3) _ _ _ _ hs rfl hy rfl hj rfl rfl rfl,⟨_,_,_,_,_,_,_,_,_,_,_,_,rfl,?_⟩,?_⟩
  ·have hh:=b3.out
   exact(dn.out.2.1.far bx (λk l _ (e:k=a+6)=>hh k (u.out.2 k l).1 e)).mono (λk l _=>by have:=(u.out.2 k l).2;have:=N.out;show w.heap.size<=k;omega)
  ·rw[N.out]
   exact dn.out.1.trans (bx.to_below (B:=a) (by have:=dn.out.1.size;rw[N.out]at this;exact this) (λk l e=>by omega))
end
section
attribute [local go_sem] ak
theorem ox{f:Func}{a g d:Tmp}(j:f.results=#[.cell a 54,.tmp g,.tmp d])(c:World)(q:Nat)(x e:Value)(b:Array Value)(l:c.heap[q]? =W (J #[x,e] 54 (0,0)))(m:b.getD a undef=Z (W ⟨q,0,O⟩)):
 (results f b).run π c=.ok (.tuple #[γ #[x,e],b.getD g undef,b.getD d undef]) c:=by
 have i:b[a]?.getD undef=Z (W ⟨q,0,O⟩):=by simpa using m
 have k:=run_loadVar_row (P:=π) c q 54 54 #[x,e] (0,0) _ l underlying54 rfl (by kernel_rfl);simp[results,j,asAddr,i,k,Sem.run_bind,Result.andThen]
theorem uv(s:ByteArray)(ad:List Ln.Line)(a9:List Tp.En)(t:Tp.Tree)(g:List Tp.Nd)(h:At s ad a9 t g)(w:World)(ba:Glob w):
 Calls π 18 #[U s] w λe w'=>(∃r,e=ρ (.tuple #[γ #[V I 0,r],V I 0,V I 0])/\yc w' (New w) g r)/\Below w.heap.size w w':=by
 obtain⟨a,i⟩:∃a,w.heap.size=a:=⟨_,rfl⟩;have o:Far xO w (((w.alloc (J #[V I 0,Y O 0 0] 54)).alloc (J #[U s] 75)).alloc (J #[φ (.func 33) #[γ #[(U s)]] #[],φ (.func 34) #[γ #[(U s)]] #[],φ (.func 35) #[γ #[(U s)]] #[]] 81)):=(((ξ _ w).alloc _).alloc _).alloc _;have S:(((w.alloc (J #[V I 0,Y O 0 0] 54)).alloc (J #[U s] 75)).alloc (J #[φ (.func 33) #[γ #[(U s)]] #[],φ (.func 34) #[γ #[(U s)]] #[],φ (.func 35) #[γ #[(U s)]] #[]] 81)).heap[a]? =W (J #[V I 0,Y O 0 0] 54 (0,0)):=by rw[<-i];exact aa _ (aa _ (af w _))
 have bb:(((w.alloc (J #[V I 0,Y O 0 0] 54)).alloc (J #[U s] 75)).alloc (J #[φ (.func 33) #[γ #[(U s)]] #[],φ (.func 34) #[γ #[(U s)]] #[],φ (.func 35) #[γ #[(U s)]] #[]] 81)).heap[a+2]? =W (J #[φ (.func 33) #[γ #[(U s)]] #[],φ (.func 34) #[γ #[(U s)]] #[],φ (.func 35) #[γ #[(U s)]] #[]] 81 (0,0)):=ah _ _ _ (by simp[i]);have bk:=sN s ad a9 t g h (a+2) 81 (((w.alloc (J #[V I 0,Y O 0 0] 54)).alloc (J #[U s] 75)).alloc (J #[φ (.func 33) #[γ #[(U s)]] #[],φ (.func 34) #[γ #[(U s)]] #[],φ (.func 35) #[γ #[(U s)]] #[]] 81)) (ba.far o (λ_ _ e=>e)) bb;have a3:(((w.alloc (J #[V I 0,Y O 0 0] 54)).alloc (J #[U s] 75)).alloc (J #[φ (.func 33) #[γ #[(U s)]] #[],φ (.func 34) #[γ #[(U s)]] #[],φ (.func 35) #[γ #[(U s)]] #[]] 81)).heap.size=a+3:=by simp[i]
 have bs:((w.alloc (J #[V I 0,Y O 0 0] 54)).alloc (J #[U s] 75)).cell? ⟨a+1,0,O⟩=W (U s):=ae (ah _ _ _ (by simp[i])) 0;obtain⟨a1,ab,a5,an⟩:=zx4 bk o S i;clear bk o S bb h ba
 go_enter func18,ntmps18
 go_wp2_with fail
 refine a1.out.mono ?_;rintro e f ⟨⟨L,F,A,H,P,C,u,E,z,M,y,r,rfl,G⟩,n⟩;obtain⟨c,d,rfl,_⟩:=G.form;generalize g.length=b at *;obtain⟨q,bn⟩:∃q,f.heap.size=q:=⟨_,rfl⟩;have m:Far xO f ((f.alloc (J #[V I L,U F,V I A,V I H,U P,Y C u E,Y z M y] 78)).alloc (J #[V I 0,Y c b d] 54)):=((ξ _ f).alloc _).alloc _;have av:((f.alloc (J #[V I L,U F,V I A,V I H,U P,Y C u E,Y z M y] 78)).alloc (J #[V I 0,Y c b d] 54)).heap[q+1]? =W (J #[V I 0,Y c b d] 54 (0,0)):=ah _ _ _ (by simp[bn]);have bm:=n.size;rw[a3]at bm;have ao:=(ab.out.below n).trans m;have T:=(G.far m (λ_ _ _ e=>e)).mono (G':=λk=>a+3<=k) (λk (j:_<=k) _=>by rw[a3]at j;exact j);have al:=m.heap ((Far.of_below n xO).heap a5.out id) id;obtain⟨a2,R,ac,N⟩:=zx4 T av ao al;clear m av ao T al G n a1 ab a5 bs
 go_wp2_with fail
 generalize ((f.alloc (J #[V I L,U F,V I A,V I H,U P,Y C u E,Y z M y] 78)).alloc (J #[V I 0,Y c b d] 54))=bD at *;refine(pR bD).mono ?_;rintro e w5 ⟨rfl,l⟩;have a4:=(l.block _ (lt_of_heap R.out)).trans R.out;have x:=(l.block _ (lt_of_heap N.out)).trans N.out;obtain⟨b2,b3,_⟩:=bO a4;obtain⟨b4,b1,b5,b0⟩:=bO x;have a0:=ac.out.below l;have X:=a2.out.below l;have a6:((w5.setCell ⟨a,0,O⟩ (V I 0)).setCell ⟨a,1,O⟩ (Y c b d)).heap[a]? =W (J #[V I 0,Y c b d] 54 (0,0)):=ai (ai x 0 _) 1 _;have v:Far (·=a) w5 ((w5.setCell ⟨a,0,O⟩ (V I 0)).setCell ⟨a,1,O⟩ (Y c b d)):=Far.setCell (D:=(·=a)) (Far.setCell (D:=(·=a)) (ξ _ _) (p:=⟨a,0,O⟩) (λ_=>rfl) _) (p:=⟨a,1,O⟩) (λ_=>rfl) _;have bx:=zD a6;have bw:=zD ((X.far v (λk j _ (e:k=a)=>by omega)).mono (G':=New w) (λk j _=>by have:=an.out;show w.heap.size<=k;omega));have bR:=zD ((a0.step v (λk j (e:k=a)=>by have:=an.out;omega)).to_below (η _) (λ_ _ e=>e));clear a4 x a0 X a6 v l R N ac a2
 go_wp2_with fail
 exact bodyPost_ret (ox results18 _ _ _ _ _ bx.out rfl) rfl ⟨⟨_,rfl,bw.out⟩,bR.out⟩
theorem d7(s:ByteArray)(q:List Ln.Line)(z:List Tp.En)(t:Tp.Tree)(g i:List Tp.Nd)(x:List Nat)(c:Tp.B)(C:At s q z t g)(r:QOk g x i)(p:zm i c)(w:World)(l:Glob w):
 Calls π 7 #[U s] w λe w'=>e=ρ (.tuple #[xR c,V I 0])/\Below w.heap.size w w':=by
 have v:=uv s q z t g C w l;obtain⟨A,H,X,M⟩:=zx4 v r p l;clear v r p C l;obtain⟨ad,y⟩:∃T,xR c=U T:=⟨_,rfl⟩;rw[y]
 go_enter func7,ntmps7
 go_wp2_with fail
 refine A.out.mono ?_;rintro e b ⟨⟨o,rfl,d⟩,j⟩;have a:Far xO b (b.alloc (J #[V I 0,o] 54)):=(ξ _ b).alloc _;have R:=d.far a (λ_ _ _ e=>e);have m:=j.trans (a.to_below (B:=w.heap.size) j.size (λ_ _ e=>e.elim));have ac:∀k,w.heap.size<=k->True:=λ_ _=>trivial;have n:=sR g i x c o (λk=>w.heap.size<=k/\k < b.heap.size) _ ((d.mono (λk N E=>⟨N,E⟩)).far a (λ_ _ _ e=>e)) (λk L=>zK L.2 a.size) (M.out.step m) H.out X.out;obtain⟨G,S,rfl,_⟩:=d.form;generalize g.length=F at *;obtain⟨al,an,_⟩:=bO (af b (J #[V I 0,Y G F S] 54));rw[y]at n;obtain⟨u,f⟩:=zx2 n m;clear n m R d j a A
 go_wp2_with fail
 refine u.out.mono ?_;rintro e ab ⟨rfl,D⟩;have P:=f.out.trans (D.mono f.out.size);clear D u f
 go_wp2_with fail
 go_ret2
 exact⟨rfl,P⟩
end
section
attribute [local go_sem] ak
def yn(a:Nat):Tp.B:=if a=0 then []else 97::Tp.itoa a
theorem mO(n:Nat)(m:n<=48)(s:ByteArray)(d:s.data.toList=List.replicate 48 32)(w:World):∃cap a,(convert 9 36 (U s)).run π w=.ok (Y (W ⟨w.heap.size,0,O⟩) 48 cap) a/\48<=cap/\Below w.heap.size w a/\∀b,(convert 36 9 (Y (W ⟨w.heap.size,0,O⟩) n b)).run π a=.ok (xR (List.replicate n 32)) a:=by
 have l:s.size=48:=by show s.data.size=48;rw[<-Array.length_toList,d];rfl
 have c:=Lib.run_convert_string_bytes (P:=π) w 9 36 5 s underlying9 underlying36 underlying5;have f:=Lib.bytesWorld_at_new w 5 s;rw[l]at c;refine⟨_,Lib.bytesWorld w 5 s,c,grownCap_ge _ _ _ _,⟨rfl,rfl,rfl,Nat.le_of_lt (lt_of_heap f),λi k=>Lib.bytesWorld_at_old w 5 _ i k⟩,λb=>?_⟩;have e:=run_convert_bytes_back (P:=π) (Lib.bytesWorld w 5 s) 36 9 5 ⟨w.heap.size,0,O⟩ b (List.replicate n 32) underlying36 underlying5 underlying9 (λj g=>by
  rw[List.length_replicate]at g;rw[gK,Lib.bytesWorld_cell w 5 s j (by omega),d];simp only[List.getElem_replicate];rw[zY,List.getElem?_replicate,if_pos (by omega)];rfl)
 rw[List.length_replicate]at e;exact e
theorem ur(n:Nat)(q:n<=48)(w:World):Calls π 180 #[V I (n:Int)] w λe w'=>e=ρ (xR (List.replicate n 32))/\Below w.heap.size w w':=by
 have f:=strings_Repeat_main ⟨#[32]⟩ 48 w (by decide) (by decide) (by decide) (by decide);obtain⟨a,g⟩:∃a,(⟨(Lib.repeatL (⟨#[32]⟩:ByteArray).data.toList 48).toArray⟩:ByteArray)=a:=⟨_,rfl⟩;rw[g]at f;have m:a.data.toList=List.replicate 48 32:=by rw[<-g];decide
 obtain⟨T,j⟩:∃T,xR (List.replicate n 32)=U T:=⟨_,rfl⟩;have b:=λc=>mO n q a m c;rw[j]at b ⊢;have v:(0:Int)<=(n:Int):=by omega
 obtain⟨k,l⟩:=zx2 f b;clear f g j m b
 go_enter func180,ntmps180
 go_wp2_with fail
 refine k.out.mono ?_;rintro e c ⟨rfl,d⟩;obtain⟨cap,u,b,t,o,i⟩:=l.out c;have p:=d.trans (o.mono d.size);have r:(n:Int)<=(cap:Int):=by omega
 have s:n<=cap:=by omega
 have i:=i n;clear d o k l
 go_wp2_with fail
 go_ret
 exact⟨rfl,p⟩
theorem dB(b:UInt8)(l:Tp.B)(T:ByteArray)(a:xR l=U T):xR (b::l)=U ((⟨#[b]⟩:ByteArray)++T):=by
 unfold xR at a ⊢;injection a with a;rw[<-a];exact congrArg Value.string (cV [b] l).symm
theorem dM(a:UInt8)(T:ByteArray):((⟨#[a]⟩:ByteArray)++T).size=T.size+1:=by rw[zX];show 1+T.size=_;omega
theorem ob(g:List Tp.Nd)(v t:Value)(P F:NS)(q:List Nat)(j f i b:Nat)(l:List Nat)(x:Tp.Nd)(w:World)(n:yc w P g v)(s:g[i]? =W x)(d:w.heap[j]? =W (J #[.int I 0,v,t,.map (W f)] 198 (0,0)))(M:Glob w)(k:x.kids≠[])(z:Row w F g.length t (xP q))(u:q[i]? =W b)(C:b=0)(be:b<=1000)(m:(yn b).length<=1000)(y:xW π 3 w f (yo l))(G:i∈l)(ba:f≠j):
 Calls π 132 #[.pointer (W ⟨j,0,O⟩),.int I (i:Int)] w λe w'=>e=ρ (zp (42::yn b))/\Below w.heap.size w w':=by
 obtain⟨kv,ab,c⟩:=n.at s;obtain⟨ac,o,cap,rfl,bm,a2,a5,a6,c3,c4,c5⟩:=c.cells;have bs:=c.lt;have L:=c.le;obtain⟨a4,an,a1,rfl,_,X,bn⟩:=z.nat u;obtain⟨bw,S,rfl,_⟩:=c.kid.form;obtain⟨bk,a0,al,bb,_⟩:=pC d;have bx:(0:Int)<=(i:Int):=by omega
 have R:(i:Int) < (g.length:Int):=by omega
 have a3:¬(x.kids.length:Int)=0:=by cases N:x.kids with
  |nil=>exact absurd N k
  |cons a r=>simp;omega
 unfold maxLen at L;have D:=bW i (by omega);have A:yn b=[]:=by unfold yn;rw[if_pos C]
 rw[A]at m ⊢;have ao:¬(0:Int) < (b:Int):=by omega
 have E:zp [42]=.iface 273 (.string ((⟨#[42]⟩:ByteArray)++⟨#[]⟩)):=by unfold zp;rw[dB 42 [] ⟨#[]⟩ rfl]
 rw[E];have ad:((⟨#[42]⟩:ByteArray)++(⟨#[]⟩:ByteArray)).size<=maxLen:=by rw[dM];unfold maxLen;show 0+1<=_;omega
 have H:=y.look_in bh underlying196 (jA _) (.int I (i:Int)) D false (.bool true) (List.mem_map.2 ⟨i,G,rfl⟩) (λp d _=>by obtain⟨a9,_,rfl⟩:=List.mem_map.1 d;rfl);simp only[Bool.false_eq_true,if_false]at H;generalize g.length=av at *;generalize x.kids.length=T at *;clear n s c k z u d y M m A
 go_enter func132,ntmps132
 go_wp2_with fail
 go_ret
 exact⟨rfl,ζ _ _⟩
theorem oa(g:List Tp.Nd)(v E:Value)(av a3:NS)(P:List Nat)(n m i b:Nat)(u:List Nat)(x:Tp.Nd)(w:World)(N:yc w av g v)(y:g[i]? =W x)(d:w.heap[n]? =W (J #[.int I 0,v,E,.map (W m)] 198 (0,0)))(z:Glob w)(L:x.kids≠[])(G:Row w a3 g.length E (xP P))(A:P[i]? =W b)(a1:¬b=0)(bw:b<=1000)(s:(yn b).length<=1000)(F:xW π 3 w m (yo u))(a4:i∈u)(cm:m≠n):
 Calls π 132 #[.pointer (W ⟨n,0,O⟩),.int I (i:Int)] w λe w'=>e=ρ (zp (42::yn b))/\Below w.heap.size w w':=by
 obtain⟨kv,b3,f⟩:=N.at y;obtain⟨bD,o,cap,rfl,co,ca,b0,bn,c3,c4,c5⟩:=f.cells;have b1:=f.lt;have S:=f.le;obtain⟨bm,ba,cl,rfl,_,a0,ao⟩:=G.nat A;obtain⟨b9,a9,rfl,_⟩:=f.kid.form;obtain⟨R,ad,a2,X,_⟩:=pC d;have cb:(0:Int)<=(i:Int):=by omega
 have bx:(i:Int) < (g.length:Int):=by omega
 have b6:¬(x.kids.length:Int)=0:=by cases h:x.kids with
  |nil=>exact absurd h L
  |cons a r=>simp;omega
 unfold maxLen at S;have ac:=bW i (by omega);have C:yn b=97::Tp.itoa b:=by unfold yn;rw[if_neg a1]
 rw[C]at s ⊢;have bb:(0:Int) < (b:Int):=by omega
 have l:=dP (b:Int) (by omega) (by omega) w z;obtain⟨q,c⟩:∃T,xR (Tp.itoa b)=.string T:=⟨_,rfl⟩;have a5:=dB 97 _ _ c;have bR:q.size<=1000:=by
  unfold xR at c;injection c with c;rw[<-c];simp only[zO]at s;show (Tp.itoa b).length<=_;omega
 have bs:((⟨#[97]⟩:ByteArray)++q).size<=maxLen:=by rw[dM];unfold maxLen;omega
 rw[c]at l;have a6:=dB 42 _ _ a5;have b4:((⟨#[42]⟩:ByteArray)++((⟨#[97]⟩:ByteArray)++q)).size<=maxLen:=by rw[dM,dM];unfold maxLen;omega
 unfold zp;rw[a6];obtain⟨D,k,t⟩:=zx3 l F d;have be:=zD (θ ao a0);clear l;generalize g.length=b5 at *;generalize x.kids.length=b2 at *;clear N y f L G A d F z s C
 go_enter func132,ntmps132
 go_wp2_with fail
 refine D.out.mono ?_;rintro e cf ⟨rfl,j⟩;have H:=(j.block _ (lt_of_heap t.out)).trans t.out;obtain⟨ch,ck,cc,bk,_⟩:=pC H;have M:=k.out.below j k.out.lt;have al:=M.look_in bh underlying196 (jA _) (.int I (i:Int)) ac false (.bool true) (List.mem_map.2 ⟨i,a4,rfl⟩) (λp d _=>by obtain⟨b8,_,rfl⟩:=List.mem_map.1 d;rfl);simp only[Bool.false_eq_true,if_false]at al;have an:=zD j;clear j H M k t D R ad a2 X
 go_wp2_with fail
 go_ret
 exact⟨rfl,an.out⟩
theorem fi(g:List Tp.Nd)(v u:Value)(X ad:NS)(G:List Nat)(l d i c:Nat)(b:List Nat)(x:Tp.Nd)(w:World)(F:yc w X g v)(n:g[i]? =W x)(j:w.heap[l]? =W (J #[.int I 0,v,u,.map (W d)] 198 (0,0)))(H:Glob w)(A:x.kids≠[])(z:Row w ad g.length u (xP G))(q:G[i]? =W c)(ab:c=0)(a6:c<=1000)(E:(yn c).length<=1000)(k:xW π 3 w d (yo b))(an:¬i∈b)(b5:d≠l):
 Calls π 132 #[.pointer (W ⟨l,0,O⟩),.int I (i:Int)] w λe w'=>e=ρ (.iface 277 (γ #[.int I (i:Int),xR (yn c)]))/\xW π 3 w' d (yo (b++[i]))/\Far (·=d) w w':=by
 obtain⟨kv,bn,f⟩:=F.at n;obtain⟨ba,o,cap,rfl,b6,b0,bb,a4,c3,c4,c5⟩:=f.cells;have bk:=f.lt;have N:=f.le;obtain⟨a3,a0,b4,rfl,_,b2,bD⟩:=z.nat q;obtain⟨bR,av,rfl,_⟩:=f.kid.form;obtain⟨a5,bw,b3,be,_⟩:=pC j;have b1:(0:Int)<=(i:Int):=by omega
 have a9:(i:Int) < (g.length:Int):=by omega
 have bx:¬(x.kids.length:Int)=0:=by cases P:x.kids with
  |nil=>exact absurd P A
  |cons a r=>simp;omega
 unfold maxLen at N;have y:=bW i (by omega);have s:yn c=[]:=by unfold yn;rw[if_pos ab]
 rw[s]at E ⊢;have a1:¬(0:Int) < (c:Int):=by omega
 have ac:xR []=.string ⟨#[]⟩:=rfl;rw[ac];have C:∀p∈yo b,p.1≠.int I (i:Int):=λp j e=>by
  obtain⟨R,M,T⟩:=eZ _ _ j;rw[T]at e;simp at e
  have:R=i:=by omega
  exact an (this ▸ M)
 have S:=k.look_out bh underlying196 (jA _) (.int I (i:Int)) y false C;simp only[Bool.false_eq_true,if_false]at S;obtain⟨L,a2,D,t⟩:=k.put bh underlying196 (.int I (i:Int)) (.bool true) y C;have m:xW π 3 L d (yo (b++[i])):=by rw[show yo (b++[i])=yo b++[(.int I (i:Int),.bool true)]by simp[yo]];exact D
 obtain⟨al,ao⟩:=zx2 m t;clear D m t;generalize g.length=bs at *;generalize x.kids.length=bm at *;clear F n f A z q j k H E s
 go_enter func132,ntmps132
 go_wp2_with fail
 go_ret
 exact⟨rfl,al.out,ao.out⟩
theorem lP(g:List Tp.Nd)(v G:Value)(a9 bk:NS)(ac:List Nat)(q d i b:Nat)(c:List Nat)(x:Tp.Nd)(w:World)(ab:yc w a9 g v)(z:g[i]? =W x)(j:w.heap[q]? =W (J #[.int I 0,v,G,.map (W d)] 198 (0,0)))(A:Glob w)(P:x.kids≠[])(M:Row w bk g.length G (xP ac))(C:ac[i]? =W b)(bb:¬b=0)(b6:b<=1000)(t:(yn b).length<=1000)(H:xW π 3 w d (yo c))(bn:¬i∈c)(c9:d≠q):
 Calls π 132 #[.pointer (W ⟨q,0,O⟩),.int I (i:Int)] w λe w'=>e=ρ (.iface 277 (γ #[.int I (i:Int),xR (yn b)]))/\xW π 3 w' d (yo (c++[i]))/\Far (·=d) w w':=by
 obtain⟨kv,ch,k⟩:=ab.at z;obtain⟨b9,o,cap,rfl,da,co,cb,b4,c3,c4,c5⟩:=k.cells;have cc:=k.lt;have ao:=k.le;obtain⟨b3,bD,c6,rfl,_,ba,a5⟩:=M.nat C;obtain⟨cm,bx,rfl,_⟩:=k.kid.form;obtain⟨ad,a1,be,av,_⟩:=pC j;have ct:(0:Int)<=(i:Int):=by omega
 have b8:(i:Int) < (g.length:Int):=by omega
 have cl:¬(x.kids.length:Int)=0:=by cases h:x.kids with
  |nil=>exact absurd h P
  |cons a r=>simp;omega
 unfold maxLen at ao;have L:=bW i (by omega);have D:yn b=97::Tp.itoa b:=by unfold yn;rw[if_neg bb]
 rw[D]at t ⊢;have bR:(0:Int) < (b:Int):=by omega
 have n:=dP (b:Int) (by omega) (by omega) w A;obtain⟨X,f⟩:∃T,xR (Tp.itoa b)=.string T:=⟨_,rfl⟩;have bw:=dB 97 _ _ f;have ca:X.size<=1000:=by
  unfold xR at f;injection f with f;rw[<-f];simp only[zO]at t;show (Tp.itoa b).length<=_;omega
 have b5:((⟨#[97]⟩:ByteArray)++X).size<=maxLen:=by rw[dM];unfold maxLen;omega
 rw[f]at n;rw[bw];have R:∀p∈yo c,p.1≠.int I (i:Int):=λp j e=>by
  obtain⟨a2,an,a6⟩:=eZ _ _ j;rw[a6]at e;simp at e
  have:a2=i:=by omega
  exact bn (this ▸ an)
 obtain⟨F,m,u⟩:=zx3 n H j;have b0:=zD (θ a5 ba);clear n;generalize g.length=ck at *;generalize x.kids.length=cf at *;clear ab z k P M C j H A t D
 go_enter func132,ntmps132
 go_wp2_with fail
 refine F.out.mono ?_;rintro e c0 ⟨rfl,l⟩;have N:=(l.block _ (lt_of_heap u.out)).trans u.out;obtain⟨c1,c2,cv,b2,_⟩:=pC N;have s:=m.out.below l m.out.lt;have a3:=s.look_out bh underlying196 (jA _) (.int I (i:Int)) L false R;simp only[Bool.false_eq_true,if_false]at a3;obtain⟨al,b1,S,E⟩:=s.put bh underlying196 (.int I (i:Int)) (.bool true) L R;have y:xW π 3 al d (yo (c++[i])):=by rw[show yo (c++[i])=yo c++[(.int I (i:Int),.bool true)]by simp[yo]];exact S
 obtain⟨bm,bs⟩:=zx2 y E;clear S y E;have a4:=zD l;clear l N s m u F ad a1 be av
 go_wp2_with fail
 go_ret
 exact⟨rfl,bm.out,((Far.of_below a4.out (·=d)).step bs.out (λ_ _ e=>e))⟩
end
section
attribute [local go_sem] ak
theorem qL(n:Nat)(a2:n<=48)(c u:Nat)(xs:List Tp.B)(d:Int)(w:World)(G:c < w.heap.size)(T:∀(j:Nat) x,xs[j]? =some x->w.cell? ⟨c,j,O⟩=some (xR x))(bs:xs.length<=10)(a4:xs.length<=u)(r:xs.flatten.length<=1000000):
 Calls π 133 #[V I (n:Int),V I d,Y (some ⟨c,0,O⟩) xs.length u] w λe w'=>e=ρ (Al (List.replicate n 32++xs.flatten) (n:Int) d)/\Below w.heap.size w w':=by
 have f:=λW (h:Below w.heap.size w W)=>strings_Join c 0 u (xs.map λx=>(⟨x.toArray⟩:ByteArray)) ⟨#[]⟩ W (λj x C=>by
  rw[List.getElem?_map]at C;obtain⟨av,a0,rfl⟩:=zN.1 C;rw[Nat.zero_add];exact(World.cell?_of_block (w:=w) (h.block c G)).trans (T j av a0)) (zK G h.size) (by simp;omega) (by simpa using a4) (by
   rw[List.map_map,show ((λx=>x.data.toList) ∘ λx:Tp.B=>(⟨x.toArray⟩:ByteArray))=id from rfl,List.map_id];show (Lib.join xs []).length<=_;rw[kE];omega)
 simp only[List.length_map]at f;have ab:(Lib.join ((xs.map λx=>(⟨x.toArray⟩:ByteArray)).map (·.data.toList)) (⟨#[]⟩:ByteArray).data.toList)=xs.flatten:=by
  rw[List.map_map,show ((λx=>x.data.toList) ∘ λx:Tp.B=>(⟨x.toArray⟩:ByteArray))=id from rfl,List.map_id];exact kE xs
 rw[ab]at f;have g:=ur n a2;have F:xR (List.replicate n 32++xs.flatten)=U ((⟨(List.replicate n 32).toArray⟩:ByteArray)++⟨xs.flatten.toArray⟩):=congrArg Value.string (cV _ _).symm;have y:((⟨(List.replicate n 32).toArray⟩:ByteArray)++⟨xs.flatten.toArray⟩).size<=maxLen:=by
  rw[cV];show ((List.replicate n 32++xs.flatten).toArray).size<=_;rw[List.size_toArray,zP,List.length_replicate];unfold maxLen;omega
 unfold Al;rw[F];unfold xR at g;obtain⟨a,R⟩:∃a:ByteArray,(⟨xs.flatten.toArray⟩:ByteArray)=a:=⟨_,rfl⟩;obtain⟨b,al⟩:∃a:ByteArray,(⟨(List.replicate n 32).toArray⟩:ByteArray)=a:=⟨_,rfl⟩;rw[R]at f y ⊢;rw[al]at g y ⊢;have ao:b.size+a.size<=maxLen:=by rw[<-zX];exact y
 have bb:b.size+a.size<=9223372036854775807:=by unfold maxLen at ao;omega
 have a6:¬9223372036854775807 < b.size+a.size:=by omega
 have N:Below w.heap.size w (w.alloc (J #[U ⟨#[]⟩,V I 0,V I 0] 203)):=(ζ _ w).alloc (η _) _;have o:=af w (J #[U ⟨#[]⟩,V I 0,V I 0] 203);obtain⟨q,l⟩:∃q,w.heap.size=q:=⟨_,rfl⟩;rw[l]at o;obtain⟨E,M,p,m,a3⟩:=zx5 f g N o l;generalize xs.length=ba at *;clear f g N T r ab o R al F
 go_enter func133,ntmps133
 go_upto_region 1 with (fail)
 generalize (w.alloc (J #[U ⟨#[]⟩,V I 0,V I 0] 203))=a5 at *;clear l
 go_wp2_with fail
 refine(M.out _).mono ?_;rintro e a9 ⟨rfl,t⟩;have S:=p.out.trans (t.mono p.out.size);have k:=zD S;have D:=(t.block _ (lt_of_heap m.out)).trans m.out;have s:=zD D;clear t S D p m M
 go_wp2_with fail
 refine(E.out _ k.out).mono ?_;rintro e bR ⟨rfl,z⟩;have ac:=k.out.trans (z.mono k.out.size);have A:=(z.block _ (lt_of_heap s.out)).trans s.out;obtain⟨bx,bn,bk,be,bm,bD⟩:=bv A;have L:=xv A (U (b++a)) (V I (n:Int)) (V I d);obtain⟨H,X⟩:=zx2 L ac;clear z A L ac E s k
 go_wp2_with fail
 have an:=X.out.trans (H.out.2.to_below X.out.size (λi bw e=>by have:=a3.out;omega));exact bodyPost_ret (v:=γ #[U (b++a),V I (n:Int),V I d]) (by
  have r:=run_loadVar_row (P:=π) _ q 203 203 #[U (b++a),V I (n:Int),V I d] (0,0) _ H.out.1 underlying203 rfl (by kernel_rfl);have a1:f133.results=#[ResultVar.cell 6 203]:=rfl;simp[results,a1,asAddr,r,Sem.run_bind,Result.andThen]) rfl ⟨rfl,an⟩
def Ax(a:Tp.B):Tp.B:=if a.isEmpty then []else 32::38::a
theorem j8(i:Int)(d:Tp.B)(m:d.length<=1000)(w:World):Calls π 385 #[γ #[V I i,xR d]] w λe w'=>e=ρ (xR (Ax d))/\Below w.heap.size w w':=by
 have b:Below w.heap.size w (w.alloc (J #[V I i,xR d] 277)):=(ζ _ w).alloc (η _) _;cases d with
 |nil=>
  have g:xR []=U ⟨#[]⟩:=rfl;have f:Ax []=[]:=rfl;rw[f,g];rw[g]at b;have j:=zD b;clear b g f
  go_enter func385,ntmps385
  go_wp2_with fail
  go_ret
  exact⟨rfl,j.out⟩
 |cons c r=>
  have f:Ax (c::r)=32::38::c::r:=rfl;rw[f];obtain⟨T,a⟩:∃T,xR (c::r)=U T:=⟨_,rfl⟩;have l:xR (32::38::c::r)=U ((⟨#[32,38]⟩:ByteArray)++T):=by
   unfold xR at a ⊢;injection a with a;rw[<-a];exact congrArg Value.string (cV [32,38] (c::r)).symm
  have k:T.size=r.length+1:=by unfold xR at a;injection a with a;rw[<-a];rfl
  have p:T.toList.isEmpty=false:=by
   unfold xR at a;injection a with a;rw[<-a,ByteArray.toList_eq];rfl
  simp only[zO]at m;have o:((⟨#[32,38]⟩:ByteArray)++T).size<=maxLen:=by rw[zX,k];unfold maxLen;show 2+_<=_;omega
  have n:¬9223372036854775807 < 2+T.size:=by omega
  rw[l,a];rw[a]at b;have j:=zD b;clear b a l f k
  go_enter func385,ntmps385
  go_wp2_with fail
  go_ret
  exact⟨rfl,j.out⟩
end
section
attribute [local go_sem] ak
structure AU(g:List Tp.Nd):Prop where
 good:∀x∈g,Ah x
 few:∀x∈g,yx x
 keys:∀x∈g,∀y∈Tp.keysOf x,(x8 y=true/\y.s.length<=1000)/\(Tp.scText y).length<=100000
 kind:∀x∈g,x.kids≠[]->x.k=1\/x.k=2
 leaf:∀x∈g,x.kids=[]->(0<=x.k/\x.k<=2)/\(x8 x.x=true/\x.x.s.length<=1000)/\(Tp.nodeWord x).length<=100000
 len:∀x∈g,(Tp.headsOf x).length=(Tp.kidsOf x).length
 heads:∀x∈g,∀h∈Tp.headsOf x,h.length<=100001
 kl:∀x∈g,(Tp.kidsOf x).length<=100000
 kid:∀x∈g,∀k∈Tp.kidsOf x,k < g.length
 anc:∀i,i < g.length->Tp.anchor g i<=1000/\(yn (Tp.anchor g i)).length<=1000
def dOk(g:List Tp.Nd):Nat->Nat->Prop
 |0,i=>∀x,g[i]? =W x->∀k∈Tp.kidsOf x,∀a,g[k]? =W a->a.kids=[]
 |d+1,i=>∀x,g[i]? =W x->∀k∈Tp.kidsOf x,∀a,g[k]? =W a->a.kids=[]\/dOk g d k
structure EmW(g:List Tp.Nd)(v av:Value)(GG GA:NS)(pb mb:Nat)(W:World):Prop where
 gr:yc W GG g v
 pr:W.heap[pb]? =some (J #[V I 0,v,av,.map (some mb)] 198 (0,0))
 gl:Glob W
 an:Row W GA g.length av (xP ((List.range g.length).map (Tp.anchor g)))
theorem EmW.far{g:List Tp.Nd}{v o:Value}{f j D:NS}{i l:Nat}{m n:World}(c:EmW g v o f j i l m)(b:Far D m n)(d:∀k,D k->¬f k/\¬j k/\k≠i/\¬k < 10):EmW g v o f j i l n:=
 ⟨c.gr.far b (λk a _ e=>(d k e).1 a),b.heap c.pr (λe=>(d _ e).2.2.1 rfl),c.gl.far b (λk a e=>(d k e).2.2.2 a),c.an.far b (λk a _ e=>(d k e).2.1 a)⟩
theorem tN(g:List Tp.Nd)(i:Nat):Tp.anchName g i=yn (Tp.anchor g i):=rfl
theorem xd(k:Nat)(s:Value)(a:World):(Instr.typeAssert (.iface 277 (γ #[V I (k:Int),s])) 271 277 true).run π a=.ok (.tuple #[γ #[V I (k:Int),s],β true]) a:=by kernel_rfl
theorem uQ(x:Value)(a:World):(Go.method 653 277 x "sigillary/emit.text").run π a=.ok (385,x) a:=by kernel_rfl
theorem kS(args:Array Value)(a:World):(callFunc 384 args).run π a=.ok (.enter 384 args) a:=by kernel_rfl
theorem rU(args:Array Value)(a:World):(callFunc 385 args).run π a=.ok (.enter 385 args) a:=by kernel_rfl
theorem vS(b:Tp.B)(f:b.length<=200000)(c:World):Calls π 384 #[xR b] c λe w'=>e=ρ (xR (32::b))/\Below c.heap.size c w':=by
 obtain⟨d,a⟩:∃d,xR b=U d:=⟨_,rfl⟩;rw[dB 32 _ _ a,a];refine(jD d (by unfold xR at a;injection a with a;rw[<-a];show b.length<=_;omega) c).mono ?_;rintro e w' ⟨rfl,rfl⟩;exact⟨rfl,ζ _ _⟩
def Bb(g:List Tp.Nd)(x q k b m:Nat)(w:Tp.B)(p:List (Tp.B × Nat))(f r:List Nat)(rest:List Tp.B)(wr:World):Prop:=
 ∃(n:TypeId) (c:Value) (u:Int) (y:ByteArray) (ok:Bool) (l:Tp.B) (i:Nat) (o:List Nat),
  Calls π 132 #[.pointer (W ⟨x,0,O⟩),.int I (k:Int)] wr (λe w'=>e=ρ (.iface n c)/\xW π 3 w' q (yo o)/\Far (·=q) wr w')/\
  (∀a,(Instr.typeAssert (.iface n c) 271 277 true).run π a=.ok (.tuple #[γ #[.int I u,.string y],.bool ok]) a)/\
  (∀a,(Go.method 653 n c "sigillary/emit.text").run π a=.ok (i,c) a)/\
  (∀args a,(callFunc i args).run π a=.ok (.enter i args) a)/\
  (∀a,Calls π i #[c] a λe w'=>e=ρ (xR l)/\Below a.heap.size a w')/\l.length<=200010/\
  ((ok=false/\(∀j,j∈o↔j∈f)/\∃d,Tp.itemsL g m b p f=W (d,r)/\rest=(List.replicate b 32++(w++l))::d)\/
   (ok=true/\u=(k:Int)/\(∀j,j∈o↔j∈k::f)/\(∃v,g[k]? =W v/\v.kids≠[])/\∃t s d,Tp.items g m k (b+2) (k::f)=W (t,s)/\Tp.itemsL g m b p s=W (d,r)/\rest=(List.replicate b 32++(w++l))::(t++d)))
theorem tT(g:List Tp.Nd)(v s:Value)(t C:NS)(l f k L G:Nat)(X:Tp.B)(P:List (Tp.B × Nat))(y R i:List Nat)(rest:List Tp.B)(wr:World)(T:AU g)(a:EmW g v s t C l f wr)(p:xW π 3 wr f (yo i))(q:∀j,j∈i↔j∈y)(F:f≠l)(H:k < g.length)(c:Tp.itemsL g (G+1) L ((X,k)::P) y=W (rest,R)):Bb g l f k L G X P y R rest wr:=by
 obtain⟨b,o⟩:∃b,g[k]? =W b:=⟨_,zE H⟩;have ad:=zL o;have E:((List.range g.length).map (Tp.anchor g))[k]? =W (Tp.anchor g k):=by simp[H]
 have n:=T.anc k H;unfold Tp.itemsL at c;simp only[zY,o,Option.getD_some]at c;by_cases m:b.kids=[]
 ·have D:=T.leaf b ad m
  rw[if_pos (by rw[m];rfl)]at c;obtain⟨⟨u,S⟩,A,d⟩:=zN.1 c;injection d with d h3;subst h3;refine⟨273,xR (Tp.nodeWord b),0,⟨#[]⟩,false,32::Tp.nodeWord b,384,i,(oc g v s t l f k b wr a.gr o a.pr a.gl D.2.1 D.1 m).mono ?_,wo _,pX _,kS,vS _ (by have:=D.2.2;omega),by have:=D.2.2;simp;omega,.inl ⟨rfl,q,u,A,?_⟩⟩
  ·rintro e w' ⟨rfl,x⟩
   exact⟨rfl,p.below x p.lt,Far.of_below x _⟩
  ·rw[<-d,List.append_assoc]
 ·rw[if_neg (by rw[List.isEmpty_iff];exact m),tN]at c
  by_cases r:k∈y
  ·rw[if_pos r]at c
   obtain⟨⟨u,S⟩,A,d⟩:=zN.1 c;injection d with d h3;subst h3;have N:Calls π 132 #[.pointer (W ⟨l,0,O⟩),.int I (k:Int)] wr λe w'=>e=ρ (zp (42::yn (Tp.anchor g k)))/\Below wr.heap.size wr w':=by
    by_cases w:Tp.anchor g k=0
    ·exact ob g v s t C _ l f k _ i b wr a.gr o a.pr a.gl m a.an E w n.1 n.2 p ((q k).2 r) F
    ·exact oa g v s t C _ l f k _ i b wr a.gr o a.pr a.gl m a.an E w n.1 n.2 p ((q k).2 r) F
   refine⟨273,xR (42::yn (Tp.anchor g k)),0,⟨#[]⟩,false,32::42::yn (Tp.anchor g k),384,i,N.mono ?_,wo _,pX _,kS,vS _ (by simp;omega),by simp;omega,.inl ⟨rfl,q,u,A,?_⟩⟩
   ·rintro e w' ⟨rfl,x⟩
    exact⟨rfl,p.below x p.lt,Far.of_below x _⟩
   ·rw[<-d,List.append_assoc]
  ·rw[if_neg r]at c
   cases M:Tp.items g G k (L+2) (k::y) with
   |none=>rw[M]at c;cases c
   |some z=>
    obtain⟨ac,ab⟩:=z;rw[M]at c;obtain⟨⟨u,S⟩,A,d⟩:=zN.1 c;injection d with d h3;subst h3;have N:Calls π 132 #[.pointer (W ⟨l,0,O⟩),.int I (k:Int)] wr λe w'=>e=ρ (.iface 277 (γ #[.int I (k:Int),xR (yn (Tp.anchor g k))]))/\xW π 3 w' f (yo (i++[k]))/\Far (·=f) wr w':=by
     by_cases w:Tp.anchor g k=0
     ·exact fi g v s t C _ l f k _ i b wr a.gr o a.pr a.gl m a.an E w n.1 n.2 p (λe=>r ((q k).1 e)) F
     ·exact lP g v s t C _ l f k _ i b wr a.gr o a.pr a.gl m a.an E w n.1 n.2 p (λe=>r ((q k).1 e)) F
    refine⟨277,γ #[.int I (k:Int),xR (yn (Tp.anchor g k))],(k:Int),⟨(yn (Tp.anchor g k)).toArray⟩,true,Ax (yn (Tp.anchor g k)),385,i++[k],N,xd k _,uQ _,rU,j8 _ _ n.2,?_,.inr ⟨rfl,rfl,?_,⟨b,o,m⟩,ac,ab,u,M,A,?_⟩⟩
    ·unfold Ax;split<;>simp;omega
    ·intro j;simp[q j,or_comm]
    ·rw[<-d,List.append_assoc];rfl
end
section
attribute [local go_sem] ak
def AR(c:List Tp.B)(t:Nat)(a:Array Value)(b:NS)(_:World):Prop:=(∃s n k,c[t]? =W s/\a=#[Al s n k])/\b=xO
def A4(g:Nat->NS->World->Prop)(m:NS->World->Prop)(i d:Nat)(l:List Nat)(c:NS)(w:World)(e:Ending)(b:World):Prop:=(e=ρ (.bool true)/\∃a f,g i a b/\(∀j,j∈f↔j∈l)/\xW π 3 b d (yo f)/\Far (λk=>c k\/k=d) w b/\(∀k,a k->c k\/w.heap.size<=k))\/(e=ρ (.bool false)/\∃a,m a b)
def Aw(g:List Tp.Nd)(v z:Value)(o m:NS)(f a l:Nat)(LS:List Tp.B)(t:Nat->NS->World->Prop)(u:NS->World->Prop)(d:Nat):Prop:=
 ∀(y i e:Nat) (q p:List Nat) (b:List Tp.B) (r:List Nat) (n:Nat) (c:NS) (w:World),Tp.items g y i e q=W (b,r)->dOk g d i->e+2 * d<=46->(∀j,j∈p↔j∈q)->(∃x,g[i]? =W x/\x.kids≠[])->
  EmW g v z o m f a w->xW π 3 w a (yo p)->(∀j s,b[j]? =W s->LS[n+j]? =W s)->(∀k,c k->¬o k/\¬m k/\k≠f/\¬k < 10/\k≠a)->(∀k,o k\/m k->k < w.heap.size)->t n c w->
  Calls π 134 #[.pointer (W ⟨f,0,O⟩),φ (.yield l) #[] #[],.int I (i:Int),.int I (e:Int)] w (A4 t u (n+b.length) a r c w)
theorem ij(g:List Tp.Nd)(v b1:Value)(G M:NS)(L m B l:Nat)(LS:List Tp.B)(X:Nat->NS->World->Prop)(gd:NS->World->Prop)(P:AU g)(g4:m≠L)(rc:10<=m)(i6:∀k,G k\/M k->k≠m)
(it:∀t f y c4,X t f y->Far (y8 (·=m) f B) y c4->X t f c4)(h2:∀t f y,X t f y->B<=y.heap.size)(r:∀t f y,X t f y->∀k,f k->k < y.heap.size)
(k0:∀t,t < LS.length->∀f f2 hC y,X t f y->AR LS t hC f2 y->(∀k,f2 k->¬f k/\k < y.heap.size)->YieldAt Fence.wide 3 π l hC y λe c4=>∃a2,(Far f y c4/\∀k,a2 k->f k\/f2 k\/y.heap.size<=k)/\((e=ρ (.bool true)/\X (t+1) a2 c4)\/(e=ρ (.bool false)/\gd a2 c4)))
(d:Nat)(le:∀(i:Nat) x,dOk g d i->g[i]? =W x->∀k∈Tp.kidsOf x,∀d0,g[k]? =W d0->d0.kids≠[]->∃e1,d=e1+1/\dOk g e1 k/\Aw g v b1 G M L m l LS X gd e1):Aw g v b1 G M L m l LS X gd d:=by
 intro bR i ac an al kt c5 E F w b9 kl pe i7 ba b3 hu cm hF0 hR ga;obtain⟨x,ba,g7⟩:=ba;have av:=zL ba;obtain⟨a4,rfl⟩:∃a4,bR=a4+1:=by
  cases bR with
  |zero=>unfold Tp.items at b9;cases b9
  |succ bR=>exact⟨bR,rfl⟩
 unfold Tp.items at b9;simp only[zY,ba,Option.getD_some]at b9;obtain⟨C,ft⟩:∃f3,w.heap.size=f3:=⟨_,rfl⟩;have hM:∀k,F k->k < C:=λk b=>by rw[<-ft];exact r E F w ga k b
 have e6:=rF g v b1 G L m i x w b3.gr ba b3.pr b3.gl (P.good x av) (P.few x av) (P.keys x av) (P.kind x av g7) g7;obtain⟨kv,nx,lr⟩:=b3.gr.at ba;have e2:=λy (lt:Below w.heap.size w y)=>bQ 0 x v kv nx g.length i G y (lr.below lt) (P.few x av);obtain⟨a,d4,rfl,q8⟩:=b3.gr.form;have js:=λ(t k g2:Nat) (b:Tp.B) (cv:List (Tp.B × Nat)) met1 M1 rest1 (wr:World)=>tT g (Y a g.length d4) b1 G M L m k ac g2 b cv met1 c5 M1 rest1 wr P;have f1:=le i x kl ba;have hb:=P.kid x av;have b8:=P.len x av;have hc:=P.heads x av;have hH:=P.kl x av;obtain⟨ad,gr⟩:∃ad,Tp.headsOf x=ad:=⟨_,rfl⟩;obtain⟨D,fR⟩:∃D,Tp.kidsOf x=D:=⟨_,rfl⟩;obtain⟨Z,fl⟩:∃Z,ad.zip D=Z:=⟨_,rfl⟩;rw[gr,fR,fl]at b9;rw[gr]at e6 b8 hc;rw[fR]at e2 b8 hH hb f1;obtain⟨p,fG⟩:∃p,D.length=p:=⟨_,rfl⟩;rw[fG]at b8 hH e2;rw[b8]at e6;have i5:Z.length=p:=by rw[<-fl,List.length_zip,b8,fG];exact Nat.min_self _
 have hn:∀(t k:Nat) (b:Tp.B),ad[t]? =W b->D[t]? =W k->Z.drop t=(b,k)::Z.drop (t+1):=λt k b H on=>by
  have ab:Z[t]? =W (b,k):=by rw[<-fl];exact(List.getElem?_zip_eq_some (z:=(b,k))).2 ⟨H,on⟩
  have b5:t < Z.length:=(zM.1 ab).1;rw[zW b5];rw[zE b5]at ab;injection ab with ab;rw[ab]
 obtain⟨bx,hh⟩:∃bx,E+kt.length=bx:=⟨_,rfl⟩;rw[hh];have h3:=zD (θ fG b8);obtain⟨h9,hB,om,oj,o0,l5⟩:=zx6 e6 e2 js f1 hb k0;obtain⟨pb,fz,p5,ct,e4,ot⟩:=zx6 r it h2 hR i6 hc;obtain⟨md,c6,db⟩:=zx3 hM hF0 b3;have d3:=zD (θ hu i7);have ks:=zD ga;have f6:=zD (θ b9 (θ cm hh));have kn:=zD (θ i5 hn);clear e6 e2 js f1 hb k0 r it h2 hR i6 hc hM hF0 b3 hu i7 ga b9 cm hh i5 hn ba lr g7 gr fR fl fG b8 P le kl av;obtain⟨no,op,o2,m3,_⟩:=pC db.out.pr
 go_enter func134,ntmps134
 go_wp2_with fail
 refine h9.out.mono ?_;rintro e o1 ⟨⟨bk,rfl,ch⟩,hl⟩;have hF:=(hl.block _ (lt_of_heap db.out.pr)).trans db.out.pr;obtain⟨nb,np,l9,mb,_⟩:=pC hF;obtain⟨h1,d6,rfl,_⟩:=ch.form;obtain⟨dc,k2⟩:=zx2 hl ch;clear hl ch h9 no op o2 m3 hF
 go_wp2_with fail
 refine(hB.out _ dc.out).mono ?_;rintro e nm ⟨⟨q3,rfl,g1⟩,gx⟩;have cc:=dc.out.trans (gx.mono dc.out.size);have ch:=k2.out.below gx;have i0:=g1.mono (G':=New w) (λk (c:o1.heap.size<=k) _=>(by have:=dc.out.size;show w.heap.size<=k;omega));have hQ:=fz.out E F _ _ ks.out ((Far.of_below cc (y8 (·=m) F B)));have ky:=d3.out.1.below cc d3.out.1.lt;have h0:=db.out.far (Far.of_below cc xO) (λ_ e=>e.elim);obtain⟨n3,f0,rfl,_⟩:=g1.form;obtain⟨q,i4⟩:∃f3,nm.heap.size=f3:=⟨_,rfl⟩;have m2:=zD (ch.mono (G':=λk=>C<=k/\k < q) (λk c hf=>⟨(by rw[<-ft];exact c),by rw[<-i4];exact hf⟩));have l7:=zD (i0.mono (G':=λk=>C<=k/\k < q) (λk c hf=>⟨(by rw[<-ft];exact c),by rw[<-i4];exact hf⟩));obtain⟨m1,l6,oe⟩:=zx3 hQ ky h0;have l0:=zD (Far.of_below cc (λk=>F k\/k=m));have ls:=cc.size;have l3:=lt_of_heap db.out.pr;have oi:=d3.out.1.lt;clear gx cc ch g1 i0 hQ ky h0 k2 hB dc nb np l9 mb ks;rw[ft]at ls l3 ct oi
 go_wp2_with fail
 go_loopw [32] (λgk wr=>∃(t:Nat),gk=.int I (t:Int)/\t<=p/\∃(f:NS) (E a4:Nat) (an al:List Nat) (rest:List Tp.B),Row wr (λk=>C<=k/\k < q) p (Y h1 p d6) (ad.map xR)/\Row wr (λk=>C<=k/\k < q) p (Y n3 p f0) (xP D)/\EmW g (Y a g.length d4) b1 G M L m wr/\xW π 3 wr m (yo al)/\(∀j,j∈al↔j∈an)/\Tp.itemsL g a4 ac (Z.drop t) an=W (rest,c5)/\(∀j s,rest[j]? =W s->LS[E+j]? =W s)/\E+rest.length=bx/\q<=wr.heap.size/\X E f wr/\(∀k,f k->¬G k/\¬M k/\k≠L/\¬k < 10/\k≠m/\(F k\/q<=k)/\(k < C\/q<=k))/\Far (λk=>F k\/k=m) w wr) (λgk _=>p - (Lib.intOf gk).toNat)
 case atStart=>exact⟨0,rfl,z_ _,F,E,a4,an,al,kt,m2.out,l7.out,oe.out,l6.out,d3.out.2,f6.out.1,f6.out.2.1,f6.out.2.2,by omega,m1.out,λk c=>⟨(c6.out k c).1,(c6.out k c).2.1,(c6.out k c).2.2.1,(c6.out k c).2.2.2.1,(c6.out k c).2.2.2.2,.inl c,.inl (md.out k c)⟩,l0.out⟩
 case round=>
  obtain⟨t,rfl,p0,f,u,f7,e9,k3,rest,S,a0,ei,eq,e8,T,cm,b4,q5,N,fr,es⟩:=hrel;by_cases b5:t < p
  ·obtain⟨k,c⟩:∃k,D[t]? =W k:=⟨_,zE (by rw[h3.out.1];exact b5)⟩
   obtain⟨b,fs⟩:∃b,ad[t]? =W b:=⟨_,zE (by rw[h3.out.2];exact b5)⟩;rw[kn.out.2 t k b fs c]at T;obtain⟨d5,rfl⟩:∃g2,f7=g2+1:=by
    cases f7 with
    |zero=>unfold Tp.itemsL at T;cases T
    |succ bR=>exact⟨bR,rfl⟩
   have gg:=zL c;have p6:=ot.out b (zL fs);have hx:=oj.out k gg;obtain⟨pr,q7,dn,fv,kg,ds,p4,hA,cb,m4,nn,n8,hs,p8,hz⟩:=om.out t k d5 b _ e9 k3 rest wr ei eq e8 g4 (o0.out k gg) T;obtain⟨hL,ht,p3,n0,p2,q4,mp⟩:=a0.nat c;injection n0 with e21 e22 e23;clear e22;subst e21 e23;obtain⟨ra,bm,dv,l4,hq,la,g8,gc⟩:=S;have c0:(ad.map xR)[t]? =W (xR b):=by rw[List.getElem?_map,fs];rfl
   obtain⟨rfl,q1,h5⟩:=gc (λe=>by rw[e]at c0;simp at c0);have ns:=g8 (λe=>by rw[e]at c0;simp at c0);have S:Row wr (λk=>C<=k/\k < q) p (Y h1 p d6) (ad.map xR):=⟨_,bm,dv,l4,hq,la,g8,gc⟩;injection hq with e11 e12 e13;clear e12;subst e11 e13;have h6:=h5 t _ c0;have qb:(t:Int) < (p:Int):=by omega
   have pl:(0:Int)<=(t:Int):=by omega
   obtain⟨hN,hp,i2,hv,lc,hW⟩:=zx6 cb S a0 ei hz hs;have cf:=zD (θ cm b4);obtain⟨ln,ao,hY,nf⟩:=zx4 N fr es hx;clear cb S a0 ei hz hs cm b4 N fr es hx gc g8 la h5 c0 c fs T eq e8 gg
   go_wp2_with fail
   refine hN.out.mono ?_;rintro e c3 ⟨rfl,kf,gl⟩;have h7:=fz.out u f _ _ ln.out (gl.mono (D':=y8 (·=m) f B) (λk _ e=>⟨λc=>(ao.out k c).2.2.2.2.1 e,.inl e⟩));have er:Far xO c3 (c3.alloc (J #[.int I dn,.string fv] 277)):=(ξ _ c3).alloc _;have k4:=fz.out u f _ _ h7 (er.mono (λ_ _ e=>e.elim));have hV:=kf.far er id;have b0:Far (·=m) wr (c3.alloc (J #[.int I dn,.string fv] 277)):=gl.step er (λ_ _ e=>e.elim);have ps:bm < q/\C<=bm:=by have:=ns;omega
   have e5:=b0.at h6 (by show bm≠m;omega);have ih:=hv.out.far b0 (λk e=>by subst e;exact⟨λb=>e4.out _ (.inl b) rfl,λb=>e4.out _ (.inr b) rfl,g4,by omega⟩);have hr:=hp.out.far b0 (λk c _ e=>by omega);have hG:=i2.out.far b0 (λk c _ e=>by omega);obtain⟨nd,n5,_⟩:=bO (af c3 (J #[.int I dn,.string fv] 277));have qk:=b0.size;obtain⟨g0,h8⟩:∃o,(if kg=true then dn else -1)=o:=⟨_,rfl⟩;obtain⟨hP,hm,hy,hT,kk⟩:=zx5 k4 hV ih hr hG;have lb:=zD (hY.out.step b0 (λk _ e=>.inr e));have ho:=zD h8;clear h7 k4 kf hV gl b0 er ih hr hG h8 hN hv hp i2 ln hY h6 mp
   go_upto_if 45 with (fail)
   generalize (c3.alloc (J #[.int I dn,.string fv] 277))=eg at *;clear m4
   go_cut [15]from 33 to 71 (λn4 wx=>n4=.int I g0/\wx=eg)
   case first=>
    have H:=ho.out;cases kg with
    |true=>
     simp only[if_true]at H;subst H
     go_wp2_with fail
     go_meet
     case rel=>exact⟨rfl,rfl⟩
    |false=>
     simp only[Bool.false_eq_true,if_false]at H;subst H
     go_wp2_with fail
     go_meet
     case rel=>exact⟨rfl,rfl⟩
   case rest=>
    obtain⟨rfl,k5⟩:=hcut;obtain rfl:=k5.symm;clear k5 nd n5
    go_upto_region 11 with (fail)
    obtain⟨c1,kc⟩:∃hd,xR b=.string hd:=⟨_,rfl⟩;rw[kc]at e5;refine wp_region_noPanic ?_;refine(wpIn_wide (n:=4)).1 ?_;refine cK (λy=>y.cell? ⟨bm,dv+t,O⟩=W (.string c1)) [11,12] (by kernel_rfl) ?_;refine fV (by kernel_rfl) (λ_ _ _ _ b=>b) e5 5 [0,1,2,3,4,5,6,7] _ _ (by kernel_rfl) ?_;iterate 8 (refine ax (v:=?_) ?_ ?_;rotate_left;·(intro pc pa;(try dsimp only at pa);go_simp;try with_reducible rfl);(try go_frame))
    refine xT.done ?_;try dsimp only
    refine dQ [8] (by kernel_rfl) (by simp) ?_;refine yj.cons rfl (by kernel_rfl) (λK r=>?_) yj.nil
    go_simp
    refine⟨trivial,callsIn_wide.2 ((hW.out _).mono ?_)⟩;rintro e cl ⟨rfl,h4⟩;obtain⟨SX,hX⟩:∃hd,xR ds=.string hd:=⟨_,rfl⟩;have f9:Far xO eg cl:=((ξ _ eg).drew).below h4;have i9:=f9.at e5 id;rw[hX];refine r.out _ _ (λ_=>i9) ?_;clear r K n8 nn hW
    (try go_frame)
    refine dQ [9] (by kernel_rfl) (by simp) ?_;refine yj.cons rfl (by kernel_rfl) (λK r=>?_) yj.nil;have f8:Far xO eg (cl.alloc (J #[.string c1,.string SX] 9)):=f9.alloc _;have gb:(cl.alloc (J #[.string c1,.string SX] 9)).cell? ⟨bm,dv+t,O⟩=W (.string c1):=f8.at e5 id;have en:=af cl (J #[.string c1,.string SX] 9)
    go_simp
    refine r.out _ _ (λ_=>gb) ?_;clear r K
    (try go_frame)
    refine dQ [10] (by kernel_rfl) (by simp) ?_;refine yj.cons rfl (by kernel_rfl) (λK r=>?_) yj.nil;have ge:=qL ac (by omega) cl.heap.size 2 [b,ds] g0 (cl.alloc (J #[.string c1,.string SX] 9)) (lt_of_heap en) (λj z ab=>by
     match j with
     |0=>simp at ab;subst ab;rw[kc];exact ae en 0
     |1=>simp at ab;subst ab;rw[hX];exact ae en 1
     |j+2=>simp at ab) (by simp) (by simp) (by simp;omega)
    have nv:[b,ds].flatten=b++ds:=by simp
    rw[nv]at ge
    go_simp
    refine⟨trivial,callsIn_wide.2 (ge.mono ?_)⟩;rintro e l1 ⟨rfl,hk⟩;have a6:=f8.below hk;refine r.out _ _ (λ_=>((Far.of_below hk xO).at gb id)) ?_;clear r K ge gb i9 en f8 f9 hk h4
    (try go_frame)
    have he:=fz.out u f _ _ hP.out (a6.mono (λ_ _ e=>e.elim));obtain⟨co,e0⟩:∃co,List.replicate ac 32++(b++ds)=co:=⟨_,rfl⟩;have l2:∃cv,rest=co::cv:=by
     rcases lc.out with ⟨_,_,cv,_,e⟩|⟨_,_,_,_,R,g3,cv,_,_,e⟩
     ·exact⟨cv,by rw[e,e0]⟩
     ·exact⟨_,by rw[e,e0]⟩
    obtain⟨q9,gf⟩:=l2;have f5:LS[u]? =W co:=cf.out.1 0 co (by rw[gf];rfl);have l8:u < LS.length:=(zM.1 f5).1;obtain⟨rd,p1,assign,body,b6,kd⟩:=l5.out u l8 f xO #[Al co (ac:Int) g0] l1 he ⟨⟨_,_,_,f5,rfl⟩,rfl⟩ (λk b=>b.elim);obtain⟨hi,j9,kb⟩:=zx3 kd gf e0;clear kd gf f5 e0;rw[kb.out];refine dQ [11] (by kernel_rfl) (by simp) ?_;refine yj.cons rfl (by kernel_rfl) (λK r=>?_) yj.nil;unfold Al at b6 ⊢
    go_simp
    refine(hi.out).mono ?_;rintro e be ⟨a2,⟨bs,ck⟩,(⟨rfl,hS⟩|⟨rfl,hE⟩)⟩
    ·have q2:=a6.size
     have q0:=bs.size;have hU:=(hy.out.far a6 (λ_ e=>e.elim)).far bs (λk e=>⟨(ao.out k e).1,(ao.out k e).2.1,(ao.out k e).2.2.1,(ao.out k e).2.2.2.1⟩);have ka:=(hm.out.far a6 id).far bs (λe=>(ao.out _ e).2.2.2.2.1 rfl);have S:=(hT.out.far a6 (λ_ _ _ e=>e)).far bs (λk c _ e=>by have:=(ao.out k e).2.2.2.2.2.2;omega);have a0:=(kk.out.far a6 (λ_ _ _ e=>e)).far bs (λk c _ e=>by have:=(ao.out k e).2.2.2.2.2.2;omega);have kr:=(lb.out.step a6 (λ_ _ e=>e.elim)).step bs (D':=f) (λk c e=>by rcases (ao.out k e).2.2.2.2.2.1 with b|b;exact .inl b;omega);have k6:∀k,a2 k->¬G k/\¬M k/\k≠L/\¬k < 10/\k≠m/\(F k\/q<=k)/\(k < C\/q<=k):=by
      intro k b;rcases ck k b with b|b|b
      ·exact ao.out k b
      ·exact b.elim
      ·exact⟨λc=>by have:=ct.out k (.inl c);omega,λc=>by have:=ct.out k (.inr c);omega,by omega,by omega,by omega,.inr (by omega),.inr (by omega)⟩
     have ex:=zD (θ hU (θ ka (θ S (θ a0 (θ kr (θ k6 hS))))));clear hU ka S a0 kr k6 hS bs ck a6 hy hm hT kk lb hP hi b6 he;refine r.out _ _ (λb=>absurd (by simp) b) ?_;clear r K
     (try go_frame)
     refine dQ [12] (by kernel_rfl) (by simp) ?_;refine yj.cons rfl (by kernel_rfl) (λK r=>?_) yj.nil
     go_simp
     refine r.out _ _ (λb=>absurd (by simp) b) ?_;clear r K
     (try go_frame)
     refine rD (by kernel_rfl) (NoPanic.normal ?_) _;rcases lc.out with ⟨g6,c9,bk,a9,a3⟩|⟨g6,n2,c9,da,R,g3,bk,i1,a9,a3⟩
     ·subst g6
      obtain⟨a5,df,bw,bn,bD,A,dp⟩:=ex.out;have fn:=j9.out;rw[a3,kb.out]at fn;have d2:∀j s,bk[j]? =W s->LS[u+1+j]? =W s:=λj s N=>by
       have:=cf.out.1 (j+1) s (by rw[a3];exact N);rw[show u+1+j=u+(j+1)by omega];exact this
      have bb:u+1+bk.length=bx:=by
       have H:=cf.out.2;rw[a3,zO]at H;omega
      have hg:=zD (show ∃(b2:Nat),Value.int I ((t:Int)+1)=.int I (b2:Int)/\b2<=p/\∃(f:NS) (E a4:Nat) (an al:List Nat) (rest:List Tp.B),Row be (λk=>C<=k/\k < q) p (Y (W ⟨bm,dv,O⟩) p d6) (ad.map xR)/\Row be (λk=>C<=k/\k < q) p (Y (W ⟨hL,ht,O⟩) p f0) (xP D)/\EmW g (Y a g.length d4) b1 G M L m be/\xW π 3 be m (yo al)/\(∀j,j∈al↔j∈an)/\Tp.itemsL g a4 ac (Z.drop b2) an=W (rest,c5)/\(∀j s,rest[j]? =W s->LS[E+j]? =W s)/\E+rest.length=bx/\q<=be.heap.size/\X E f be/\(∀k,f k->¬G k/\¬M k/\k≠L/\¬k < 10/\k≠m/\(F k\/q<=k)/\(k < C\/q<=k))/\Far (λk=>F k\/k=m) w be from ⟨t+1,by go_num,b5,a2,u+1,d5,e9,hA,bk,bw,bn,a5,df,c9,a9,d2,bb,by omega,dp,A,bD⟩);clear a5 df bw bn bD A dp ex c9 a9 a3 fn d2 bb
      go_wp2_with fail
      go_roundw
      case rel=>exact hg.out
      case measure=>simp[Lib.intOf];omega
     ·subst g6
      obtain⟨a5,df,bw,bn,bD,A,dp⟩:=ex.out;obtain⟨d0,b6,da⟩:=da;obtain⟨e1,m9,hw,i3⟩:=nf.out d0 b6 da;obtain rfl:=m9;have H:=ho.out;simp only[if_true]at H;rw[n2]at H;subst H;have fn:=j9.out;have d2:∀j s,R[j]? =W s->LS[u+1+j]? =W s:=λj s N=>by
       have mt:=(zM.1 N).1;have:=cf.out.1 (j+1) s (by rw[a3,List.getElem?_cons_succ,List.getElem?_append_left mt];exact N);rw[show u+1+j=u+(j+1)by omega];exact this
      have d1:∀j s,bk[j]? =W s->LS[u+1+R.length+j]? =W s:=λj s N=>by
       have:=cf.out.1 (R.length+j+1) s (by rw[a3,List.getElem?_cons_succ,zV (by omega),show R.length+j - R.length=j by omega];exact N);rw[show u+1+R.length+j=u+(R.length+j+1)by omega];exact this
      have bb:u+1+R.length+bk.length=bx:=by
       have H:=cf.out.2;rw[a3,zO,zP]at H;omega
      have cb:=i3 d5 k (ac+2) (k::e9) hA R g3 (u+1) a2 be i1 hw (by omega) c9 ⟨d0,b6,da⟩ a5 df d2 (λk c=>⟨(A k c).1,(A k c).2.1,(A k c).2.2.1,(A k c).2.2.2.1,(A k c).2.2.2.2.1⟩) (λk c=>zK (ct.out k c) (by omega)) dp;have k1:((ac+2:Nat):Int)=(ac:Int)+2:=by omega
      rw[k1]at cb;have hj:=zD cb;have ha:=zD (θ a5 (θ bw (θ bn (θ bD A))));have g5:=zD (θ a9 (θ d1 bb));clear a5 df bw bn bD A dp cb i3 d2 d1 bb fn a3 a9 i1 hw c9 ex b6 da k1
      go_wp2_with fail
      refine hj.out.mono ?_;rintro e ca (⟨rfl,e7,ne,hZ,hJ,hI,c2,i8⟩|⟨rfl,e7,hD⟩)
      ·obtain⟨a5,bw,bn,bD,A⟩:=ha.out
       obtain⟨a9,d1,bb⟩:=g5.out;have rb:=c2.size;have b4:=a5.far c2 (λk e=>by
        rcases e with e|e
        ·exact⟨(A k e).1,(A k e).2.1,(A k e).2.2.1,(A k e).2.2.2.1⟩
        ·subst e;exact⟨λb=>e4.out _ (.inl b) rfl,λb=>e4.out _ (.inr b) rfl,g4,by omega⟩)
       have f4:∀k,(a2 k\/k=m)->k < C\/q<=k:=λk e=>by
        rcases e with e|e
        ·exact(A k e).2.2.2.2.2.2
        ·left;omega
       have S:=bw.far c2 (λk c _ e=>by have:=f4 k e;omega);have a0:=bn.far c2 (λk c _ e=>by have:=f4 k e;omega);have hK:=bD.step c2 (λk c e=>by
        rcases e with e|e
        ·rcases (A k e).2.2.2.2.2.1 with b|b
         ·exact .inl b
         ·omega
        ·exact .inr e)
       have ck:∀k,e7 k->¬G k/\¬M k/\k≠L/\¬k < 10/\k≠m/\(F k\/q<=k)/\(k < C\/q<=k):=λk b=>by
        rcases i8 k b with b|b
        ·exact A k b
        ·exact⟨λc=>by have:=ct.out k (.inl c);omega,λc=>by have:=ct.out k (.inr c);omega,by omega,by omega,by omega,.inr (by omega),.inr (by omega)⟩
       have hg:=zD (show ∃(b2:Nat),Value.int I ((t:Int)+1)=.int I (b2:Int)/\b2<=p/\∃(f:NS) (E a4:Nat) (an al:List Nat) (rest:List Tp.B),Row ca (λk=>C<=k/\k < q) p (Y (W ⟨bm,dv,O⟩) p d6) (ad.map xR)/\Row ca (λk=>C<=k/\k < q) p (Y (W ⟨hL,ht,O⟩) p f0) (xP D)/\EmW g (Y a g.length d4) b1 G M L m ca/\xW π 3 ca m (yo al)/\(∀j,j∈al↔j∈an)/\Tp.itemsL g a4 ac (Z.drop b2) an=W (rest,c5)/\(∀j s,rest[j]? =W s->LS[E+j]? =W s)/\E+rest.length=bx/\q<=ca.heap.size/\X E f ca/\(∀k,f k->¬G k/\¬M k/\k≠L/\¬k < 10/\k≠m/\(F k\/q<=k)/\(k < C\/q<=k))/\Far (λk=>F k\/k=m) w ca from ⟨t+1,by go_num,b5,e7,u+1+R.length,d5,g3,ne,bk,S,a0,b4,hI,hJ,a9,d1,bb,by omega,hZ,ck,hK⟩);clear a5 bw bn bD A a9 d1 bb b4 f4 S a0 hK ck hZ hJ hI c2 i8 hj ha g5
       go_wp2_with fail
       go_roundw
       case rel=>exact hg.out
       case measure=>simp[Lib.intOf];omega
      ·have dr:=zD hD
       clear hD hj ha g5
       go_wp2_with fail
       go_ret
       exact .inr ⟨rfl,e7,dr.out⟩
    ·have dr:=zD hE
     clear hE bs ck hi b6 he;refine r.out _ _ (λb=>absurd (by simp) b) ?_;clear r K
     (try go_frame)
     refine dQ [12] (by kernel_rfl) (by simp) ?_;refine yj.cons rfl (by kernel_rfl) (λK r=>?_) yj.nil
     go_simp
     refine r.out _ _ (λb=>absurd (by simp) b) ?_;clear r K
     (try go_frame)
     refine rD (by kernel_rfl) (NoPanic.normal ?_) _
     go_wp2_with fail
     go_ret
     exact .inr ⟨rfl,a2,dr.out⟩
  ·obtain rfl:t=p:=by omega
   have q6:¬(t:Int) < (t:Int):=by omega
   rw[List.drop_eq_nil_of_le (by rw[kn.out.1];exact η _)]at T;obtain⟨rfl,rfl⟩:rest=[]/\e9=c5:=by
    cases f7 with
    |zero=>unfold Tp.itemsL at T;cases T
    |succ bR=>unfold Tp.itemsL at T;cases T;exact⟨rfl,rfl⟩
   have n1:u=bx:=by simpa using b4
   rw[n1]at N;have dr:=zD N;have e3:=zD (θ e8 (θ eq (θ es fr)));clear S a0 ei eq e8 T cm b4 N fr es
   go_wp2_with fail
   go_ret
   exact .inl ⟨rfl,f,k3,dr.out,e3.out.1,e3.out.2.1,e3.out.2.2.1,λk c=>((e3.out.2.2.2 k c).2.2.2.2.2.1).elim .inl (λb=>.inr (by omega))⟩
end
section
attribute [local go_sem] ak
theorem kX(g:List Tp.Nd)(v q:Value)(p o:NS)(n f B l:Nat)(LS:List Tp.B)(c:Nat->NS->World->Prop)(m:NS->World->Prop)(G:AU g)(L:f≠n)(C:10<=f)(N:∀k,p k\/o k->k≠f)
(E:∀t b a j,c t b a->Far (y8 (·=f) b B) a j->c t b j)(M:∀t b a,c t b a->B<=a.heap.size)(y:∀t b a,c t b a->∀k,b k->k < a.heap.size)
(A:∀t,t < LS.length->∀b u P a,c t b a->AR LS t P u a->(∀k,u k->¬b k/\k < a.heap.size)->YieldAt Fence.wide 3 π l P a λe j=>∃w,(Far b a j/\∀k,w k->b k\/u k\/a.heap.size<=k)/\((e=ρ (β true)/\c (t+1) w j)\/(e=ρ (β false)/\m w j))):∀d,Aw g v q p o n f l LS c m d
 |0=>ij g v q p o n f B l LS c m G L C N E M y A 0 (λi x r F k s z D H=>absurd (r x F k s z D) H)
 |d+1=>ij g v q p o n f B l LS c m G L C N E M y A (d+1) (λi x r F k s z D H=>⟨d,rfl,(r x F k s z D).resolve_left H,kX g v q p o n f B l LS c m G L C N E M y A d⟩)
def AJ(g:List Tp.Nd)(v:Value)(d:NS)(LS:List Tp.B):Prop:=∀(a:World) (b c e:Nat) (i:Value) (f:NS),yc a d g v->Glob a->(∀k,d k\/f k->k < a.heap.size/\k≠b)->a.heap[e]? =W (J #[.int I 0,v,i,.map (W b)] 198 (0,0))->a.heap[c]? =W (J #[.pointer (W ⟨e,0,O⟩)] 195 (0,0))->Row a f g.length i (xP ((List.range g.length).map (Tp.anchor g)))->xW π 3 a b []->10<=b->
 yQ π 131 #[.pointer (W ⟨c,0,O⟩)] 3 LS.length (AR LS) (·=b) (λk=>k=c\/k=e\/k < 10\/d k\/f k) True (λ_ _=>True) (λ_=>True) a
theorem vb(g:List Tp.Nd)(v:Value)(A:NS)(H:List Tp.B)(a9:List Nat)(x:Tp.Nd)(d:Nat)(a0:AU g)(F:g[0]? =W x)(bR:x.kids≠[])(c3:Tp.anchor g 0=0)(be:Tp.items g 1000 0 0 [0]=W (H,a9))(bx:dOk g d 0)(dn:2 * d<=46):AJ g v A H:=by
 intro w f b6 z ab L b3 E C D u bs y c2;intro l J ca r b o da hF0 T c1 b1 bb bD;have S:z≠f:=λe=>by obtain⟨ck,cc,a,_⟩:=y.1;rw[e,a]at D;cases D
 have cv:b6≠f:=λe=>by obtain⟨ck,cc,a,_⟩:=y.1;rw[e,a]at u;cases u
 have m:EmW g v ab A L z f b:=⟨b3.below o,(o.block _ (lt_of_heap D)).trans D,E.step o,bs.below o⟩;have N:=(o.block _ (lt_of_heap u)).trans u;have cb:0 < g.length:=(zM.1 F).1;have a1:((List.range g.length).map (Tp.anchor g))[0]? =W 0:=by simp[cb,c3]
 have a4:=fi g v ab A L _ z f 0 0 [] x b m.gr F m.pr m.gl bR m.an a1 rfl (by omega) (by decide) (y.below o y.lt) (by simp) S.symm;have a5:=o.size;have bn:∀k,r k->¬A k/\¬L k/\k≠z/\¬k < 10/\k≠f:=λk q=>by
  have p:=hF0 k q;exact⟨λe=>p.2 (.inr (.inr (.inr (.inl e)))),λe=>p.2 (.inr (.inr (.inr (.inr e)))),λe=>p.2 (.inr (.inl e)),λe=>p.2 (.inr (.inr (.inl e))),p.1⟩
 have a6:=λi (P:Far (·=f) b i) (G:J 0 r i) (c0:xW π 3 i f (yo [0]))=>kX g v ab A L z f w.heap.size l H (λt c b=>J t c b/\w.heap.size<=b.heap.size) ca a0 S.symm c2 (λk q=>(C k q).2)
  (λt c b bw a n=>⟨T t c b bw a.1 n,Nat.le_trans a.2 n.size⟩) (λt c b a=>a.2) (λt c b a=>(b1 t c b a.1).2 trivial) (λt b8 c cf co b G m E=>(by
   obtain⟨c4,cm,assign,body,ch,b9⟩:=bb t b8 c cf co b G.1 m E;refine⟨c4,cm,assign,body,ch,b9.mono ?_⟩;rintro e bw ⟨b0,n,(⟨p,cl⟩|a)⟩
   ·exact⟨b0,n,.inl ⟨p,cl,Nat.le_trans G.2 n.1.size⟩⟩
   ·exact⟨b0,n,.inr a⟩)) d 1000 0 0 [0] [0] H a9 0 r i be bx (by omega) (λ_=>Iff.rfl) ⟨x,F,bR⟩ (m.far P (λk e=>by subst e;exact⟨λa=>(C _ (.inl a)).2 rfl,λa=>(C _ (.inr a)).2 rfl,S.symm,by omega⟩)) c0 (λj s a=>by rw[Nat.zero_add];exact a) bn (λk q=>zK (C k q).1 (Nat.le_trans a5 P.size)) ⟨G,Nat.le_trans a5 P.size⟩
 have b4:∀i,Far (·=f) b i->J 0 r i:=λi n=>T 0 r b i bD (n.mono (λk _ e=>⟨λa=>(hF0 k a).1 e,.inl e⟩));have c9:=zF N 0 rfl;obtain⟨av,X,R,ct⟩:=zx4 a4 a6 b4 N;clear a4 a6 b4 T c1 b1 bb bD b3 F a0 D E C bs y hF0 bn o u N m a1 be bx
 go_enter func131,ntmps131
 go_wp2_with fail
 refine av.out.mono ?_;rintro e ad ⟨rfl,b2,ao⟩;have df:=wn 0 ⟨#[]⟩;have dc:=wm 0 ⟨#[]⟩;have a2:xR (yn 0)=.string ⟨#[]⟩:=rfl;rw[a2];have a3:=ao.heap ct.out cv;have bk:Far (·=f) b (ad.alloc (.cells #[.int I 0,.string ⟨#[]⟩] 277)):=ao.alloc _;have ba:xW π 3 (ad.alloc (.cells #[.int I 0,.string ⟨#[]⟩] 277)) f (yo [0]):=b2.far ((ξ xO _).alloc _) id;have bm:=af ad (.cells #[.int I 0,.string ⟨#[]⟩] 277);obtain⟨db,dr,_⟩:=bO bm;have b5:=aa (.cells #[.int I 0,.string ⟨#[]⟩] 277) a3;have c6:=zF b5 0 rfl;obtain⟨M,al⟩:=zx2 bk ba;clear ao bk bm a3 b5 b2 ba a2 av
 go_wp2_with fail
 refine(X.out _ M.out (R.out _ M.out) al.out).mono ?_;rintro e dp (⟨rfl,c,c5,a,_⟩|⟨rfl,c,a⟩)
 ·have an:=zD a.1
  clear a X R M al
  go_wp2_with fail
  go_end0
  exact⟨⟨_,rfl⟩,.inl ⟨c,by have:=an.out;rw[Nat.zero_add]at this;exact this,trivial⟩⟩
 ·have an:=zD a
  clear a X R M al
  go_wp2_with fail
  go_end0
  exact⟨⟨_,rfl⟩,.inr ⟨c,an.out⟩⟩
end
section
attribute [local go_sem] ak
attribute [local go_sem] Oper.semAt_some
theorem mj(g:List Tp.Nd)(v:Value)(H:NS)(eq:List Nat)(LS:List Tp.B)(w:World)(ex:yc w H g v)(ds:∀k,H k->k < w.heap.size)(b5:Glob w)(bm:yt g)(S:yR g)(T:Tp.tidy 0 g=W g)(g2:Tp.deepest g 1000 0 1 (List.replicate g.length 0)=W eq)(b6:Tp.okGr 0 g=true)
(f6:∀i,i < g.length->eq.getD i 0+(if (g.getD i ⟨0,Tp.Sc.null,[],[]⟩).kids.isEmpty then 0 else 1)<=24)(ga:Tp.places g<=200)(fv:AJ g v H LS)(e8:(LS.flatMap (·++[10])).length<=8000):
 Calls π 61 #[γ #[.int I 0,v]] w λe w'=>(∃f8,e=ρ (.tuple #[f8,.int I 0])/\Row w' (New w) LS.length f8 (LS.map xR))/\Below w.heap.size w w':=by
 obtain⟨hx,gr,hm,hK,hA⟩:=info_parts tV;obtain⟨l,ac⟩:∃l,w.heap.size=l:=⟨_,rfl⟩;have a5:=λc (b:Below l w c)=>ex.below (by rw[ac];exact b);have b0:=λc (b:Below l w c) k (R:H k)=>zK (ds k R) (Nat.le_trans (Nat.le_of_eq ac) (Nat.le_trans (Nat.le_of_eq ac.symm) b.size));have ba:=λc (b:Below l w c)=>b5.step (by rw[ac];exact b);have f4:=λc (b:Below l w c)=>il g v H c (a5 c b) (b0 c b) (ba c b) bm S T;have e9:=λc (b:Below l w c)=>pg g v H eq c (a5 c b) (b0 c b) (ba c b) bm S T g2 b6 f6;have c3:=λc (b:Below l w c)=>mZ g v H c (a5 c b) (b0 c b) (ba c b) bm S T b6;have c4:=λc (b:Below l w c) av GA (hF:Row c GA g.length av (xP ((List.range g.length).map (Tp.anchor g))))=>oH g v av H GA c (a5 c b) (b0 c b) (ba c b) bm S T b6 hF;have ho:=b5.1;have c5:=λc d bx pb av GA (b:Below l w c)=>fv c d bx pb av GA (a5 c b) (ba c b);have e2:Below l w (w.alloc (J #[.int I 0,v] 54)):=(ζ _ w).alloc (by omega) _;have a3:=af w (J #[.int I 0,v] 54);rw[ac]at a3 ho;obtain⟨a,M,rfl,_⟩:=ex.form;have fs:∀k,H k->k < l:=λk R=>ac ▸ ds k R;obtain⟨f,hb⟩:∃f,g.length=f:=⟨_,rfl⟩;obtain⟨c0,gc,_⟩:=bO a3;obtain⟨e0,c6,db,b3,co,be⟩:=zx6 f4 e9 c3 c4 c5 e2;obtain⟨b2,C,cm,d1⟩:=zx4 a3 ac fs e8;rw[hb]at e0 c6 db b3 co be b2 c0 gc ⊢;have hs:=ga;clear f4 e9 c3 c4 c5 e2 a3 fs e8 ex ds b5 bm S T g2 b6 f6 ga fv a5 b0 ba hb;obtain⟨hQ,hy⟩:∃p,Tp.places g=p:=⟨_,rfl⟩;rw[hy]at b3 hs;refine callsIn_wide.1 (callsIn_of_wp_marks (n:=5) func61 rfl trivial (wpIn_wide.2 ?_));simp only[ntmps61,List.size_toArray,zO,List.length_nil,Nat.reduceAdd,Nat.reduceSub,Array.replicate_succ,Array.replicate_zero,List.push_toArray,List.append_toArray,List.nil_append,List.cons_append]
 go_upto_region 1 with (fail)
 generalize (w.alloc (J #[.int I 0,Y a f M] 54))=h1 at *;clear ac
 go_step3
 go_wp2_with fail
 refine(e0.out _ be.out).mono ?_;rintro e h8 ⟨rfl,e1⟩;have hZ:=be.out.size;have s:=be.out.trans (e1.mono (by have:=C.out;omega));have eg:=(e1.block _ (lt_of_heap b2.out)).trans b2.out;obtain⟨d2,c9,_⟩:=bO eg;obtain⟨a2,cv⟩:=zx2 s eg;clear s eg e1 c0 gc e0 be b2
 go_wp2_with fail
 refine(c6.out _ a2.out).mono ?_;rintro e i2 ⟨rfl,da⟩;have r:=a2.out.trans (da.mono (by have:=C.out;have:=a2.out.size;omega));have dn:=(da.block _ (lt_of_heap cv.out)).trans cv.out;obtain⟨c2,d6,_⟩:=bO dn;obtain⟨a0,es⟩:=zx2 r dn;clear r dn da d2 c9 c6 a2 cv
 go_wp2_with fail
 refine(db.out _ a0.out).mono ?_;rintro e hl ⟨⟨h2,rfl,ck⟩,df⟩;obtain⟨P,N,rfl,_⟩:=ck.form;have u:=a0.out.trans (df.mono (by have:=C.out;have:=a0.out.size;omega));have c1:=(df.block _ (lt_of_heap es.out)).trans es.out;obtain⟨d2,c9,_⟩:=bO c1;obtain⟨ad,dr⟩:=zx2 u c1;have dv:=zD (ck.mono (G':=λk=>l<=k/\k < hl.heap.size) (λk (s:_<=k) r=>⟨by have:=C.out;have:=a0.out.size;omega,r⟩));clear u c1 df c2 d6 db a0 es ck
 go_wp2_with fail
 refine(b3.out _ ad.out _ _ dv.out).mono ?_;rintro e x ⟨rfl,b1⟩;have z:=ad.out.trans (b1.mono (by have:=C.out;have:=ad.out.size;omega));have ft:=(b1.block _ (lt_of_heap dr.out)).trans dr.out;have f0:=dv.out.below b1;obtain⟨c2,d6,_⟩:=bO ft;have hh:=b1.size;have X:=zD z;have fn:=zD (f0.mono (G':=λk=>l<=k/\k < x.heap.size) (λk s r=>⟨s.1,by omega⟩));clear hh;clear z ft b1 f0 d2 c9 b3 ad dr dv;have hH:=@run_makeMap π;have hB:¬200 < (hQ:Int):=by omega
 go_wp2_with fail
 obtain⟨d,al⟩:∃m,x.heap.size=m:=⟨_,rfl⟩;have ab:Far xO x (((((x.alloc (.map #[] 0)).alloc (J #[.int I 0,Y a f M,Y P f N,.map (W d)] 198)).alloc (J #[Y O 0 0] 22)).alloc (J #[.int I 0] 3))):=((((ξ _ x).alloc _).alloc _).alloc _).alloc _;have e3:(((((x.alloc (.map #[] 0)).alloc (J #[.int I 0,Y a f M,Y P f N,.map (W d)] 198)).alloc (J #[Y O 0 0] 22)).alloc (J #[.int I 0] 3))).heap[d]? =W (.map #[] 0):=aa _ (aa _ (aa _ (by rw[<-al];exact af x _)));have fr:(((((x.alloc (.map #[] 0)).alloc (J #[.int I 0,Y a f M,Y P f N,.map (W d)] 198)).alloc (J #[Y O 0 0] 22)).alloc (J #[.int I 0] 3))).heap[d+1]? =W (J #[.int I 0,Y a f M,Y P f N,.map (W d)] 198 (0,0)):=aa _ (aa _ (ah _ _ _ (by simp[al])));have ge:(((((x.alloc (.map #[] 0)).alloc (J #[.int I 0,Y a f M,Y P f N,.map (W d)] 198)).alloc (J #[Y O 0 0] 22)).alloc (J #[.int I 0] 3))).heap[d+2]? =W (J #[Y O 0 0] 22 (0,0)):=aa _ (ah _ _ _ (by simp[al]));have hd:(((((x.alloc (.map #[] 0)).alloc (J #[.int I 0,Y a f M,Y P f N,.map (W d)] 198)).alloc (J #[Y O 0 0] 22)).alloc (J #[.int I 0] 3))).heap[d+3]? =W (J #[.int I 0] 3 (0,0)):=ah _ _ _ (by simp[al]);have bR:(((((x.alloc (.map #[] 0)).alloc (J #[.int I 0,Y a f M,Y P f N,.map (W d)] 198)).alloc (J #[Y O 0 0] 22)).alloc (J #[.int I 0] 3))).heap.size=d+4:=by simp[al]
 have ih:l<=d:=by have:=C.out;have:=X.out.size;omega
 obtain⟨gk,f7,e7,f2⟩:=zx4 e3 fr ge hd;have g7:=zD (((X.out.trans ((Far.to_below ab (η _) (λ_ _ e=>e)).mono (by omega)))):Below l w (((((x.alloc (.map #[] 0)).alloc (J #[.int I 0,Y a f M,Y P f N,.map (W d)] 198)).alloc (J #[Y O 0 0] 22)).alloc (J #[.int I 0] 3))));have en:=zD (fn.out.far ab (λ_ _ _ e=>e));rw[al]at en;clear e3 fr ge hd ab fn X c2 d6 hB;rw[al];generalize ((((x.alloc (.map #[] 0)).alloc (J #[.int I 0,Y a f M,Y P f N,.map (W d)] 198)).alloc (J #[Y O 0 0] 22)).alloc (J #[.int I 0] 3))=G at *;clear al hH;have a1:Far xO G (G.alloc (J #[.pointer (W ⟨d+1,0,O⟩)] 195)):=(ξ _ G).alloc _;have cb:Below l w (G.alloc (J #[.pointer (W ⟨d+1,0,O⟩)] 195)):=g7.out.trans ((Far.to_below a1 (η _) (λ_ _ e=>e)).mono (by omega));have f9:xW π 3 (G.alloc (J #[.pointer (W ⟨d+1,0,O⟩)] 195)) d []:=⟨⟨#[],0,a1.heap gk.out id,rfl⟩,by simp⟩;have g8:∀k,H k\/(l<=k/\k < d)->k < (G.alloc (J #[.pointer (W ⟨d+1,0,O⟩)] 195)).heap.size/\k≠d:=λk R=>by
  have i1:(G.alloc (J #[.pointer (W ⟨d+1,0,O⟩)] 195)).heap.size=d+5:=by simp[bR]
  rcases R with b|b
  ·have:=cm.out k b;omega
  ·omega
 have f3:=co.out (G.alloc (J #[.pointer (W ⟨d+1,0,O⟩)] 195)) d (d+4) (d+1) (Y P f N) _ cb g8 (a1.heap f7.out id) (ah _ _ _ bR.symm) (en.out.far a1 (λ_ _ _ e=>e)) f9 (by omega);have g1:PnI l w (d+2) LS 0 (λk=>k=d+2\/k=d+2+1\/(Value.slice O 0 0).ownBlock=W k) (G.alloc (J #[.pointer (W ⟨d+1,0,O⟩)] 195)):=⟨z_ _,⟨O,0,0,λ_=>Iff.rfl,a1.heap e7.out id,a1.heap f2.out id,World.ownsRow_nil _ _ _ _⟩,cb⟩;have fl:(G.alloc (J #[.pointer (W ⟨d+1,0,O⟩)] 195)).heap.size=d+5:=by simp[bR]
 obtain⟨hq,ha,bn,hX⟩:=zx4 f3 g1 fl cb;clear a1 cb g8 f9 f3 g1 fl gk f7 e7 f2 g7 en co
 go_step3
 go_wp2_with fail
 refine(my _ _).mono ?_;rintro e hY ⟨rfl,rfl⟩;rw[bR];generalize (G.alloc (J #[.pointer (W ⟨d+1,0,O⟩)] 195))=hC at *;clear bR
 go_wp2_with fail
 obtain⟨q,a3⟩:∃q,d+2=q:=⟨_,rfl⟩;rw[a3]at ha;rw[show d+1+1+1=q+1 by omega,show d+1+1=q by omega];have d3:RowKit.Hid (hC.heap.size=q+3):=zD (by have:=bn.out;omega);refine wpIn_wide.1 (aC (n:=5) (gf:=131) (lb:=#[.pointer (W ⟨d+4,0,O⟩)]) rfl (λargs wx=>sk args wx)
  hq.out (λk e=>by have:=bn.out;omega) (λk e=>by have:=bn.out;rcases e with rfl|rfl|e|e|e;omega;omega;omega;(have:=cm.out k e;omega);omega) (λt v hn c b=>by obtain⟨⟨i,_,_,_,rfl⟩,_⟩:=b;rfl)
  (PnI l w q LS) (λ_ _ _=>False) (λk=>k=q\/k=q+1\/(Value.slice O 0 0).ownBlock=W k) (λk b=>?hF0) ha.out ?hI (λ_ _ _ _ b _=>b) (λ_ _ _ _=>trivial) (λ_ _ _ _=>trivial) ?round ?done (λ_ _ _ b=>b.elim))
 case hF0=>
  have R:k=q\/k=q+1:=by
   rcases b with b|b|b
   ·exact .inl b
   ·exact .inr b
   ·simp[Value.ownBlock]at b
  have:=bn.out;have hL:¬H k:=λe=>by have:=cm.out k e;omega
  exact⟨by omega,λe=>by rcases e with e|e|e|e|e;omega;omega;omega;exact hL e;omega,by omega,by omega,λ_=>by omega⟩
 case hI=>
  rintro t ct c hG ⟨dc,⟨y,L,E,F,s,r,u⟩,z⟩ S;refine⟨dc,⟨y,L,E,F,S.heap s (λe=>e.1 ((F q).2 (.inl rfl))),S.heap r (λe=>e.1 ((F (q+1)).2 (.inr (.inl rfl)))),am u S (λk e b=>b.1 ((F k).2 (.inr (.inr e))))⟩,z.trans (S.to_below (by have:=z.size;have:=C.out;omega) (λi gr e=>?_))⟩;have:=bn.out;rcases e.2 with b|b
  ·omega
  ·omega
 case round=>
  rintro t ct hn hE c K e4 fR ⟨dc,⟨y,L,E,F,s,r,u⟩,z⟩ ⟨⟨d5,gd,gb,cl,rfl⟩,rfl⟩ b5 a6 a4;have gx:=d3.out;rw[gx]at fR a6;unfold Al;obtain⟨o,a9⟩:∃o,xR d5=.string o:=⟨_,rfl⟩;have fG:o.size=d5.length:=by injection a9 with a9;rw[<-a9];rfl
  rw[a9]
  gi_wp2
  refine a4 _ _ ((ξ _ c).alloc _) ?_;intro ao bw _ _;rw[gx]at bw;have bs:Far (·=q+3+1) c ao:=((ξ xO c).alloc (J #[.string o,.int I gd,.int I gb] 203) |>.mono (λ_ _ e=>e.elim)).trans bw;have bb:=bw.heap (af c (J #[.string o,.int I gd,.int I gb] 203)) (by omega);obtain⟨p,er⟩:∃p,c.heap.size=p:=⟨_,rfl⟩;rw[er]at bb ⊢;rw[er]at fR;have ch:=bs.heap s (by omega);have cf:=bs.heap r (by omega);have bD:=am u bs (λk e b=>by have:=(a6 k ((F k).2 (.inr (.inr e)))).2.1;omega);have g4:=z.trans (bs.to_below (by have:=z.size;have:=C.out;omega) (λk R e=>by omega));obtain⟨A,bk⟩:∃A,lenTo LS t=A:=⟨_,rfl⟩;have b8:=ig LS t d5 cl;have ca:=Nat.le_trans (cY LS (t+1)) d1.out;rw[bk]at b8 cf;rw[b8]at ca;have g0:=zF ch 0 rfl;have h0:=zF bb 0 rfl;have g5:(LS.take (t+1)).map xR=(LS.take t).map xR++[.string o]:=by rw[zG,cl];simp[a9]
  have g3:∀k,(Value.slice y L E).ownBlock=W k->q+2<=k/\k < ao.heap.size:=λk e=>bD.lt k e;have hc:∀k,(Value.slice y L E).ownBlock=W k->k≠p:=λk e=>by have:=u.lt k e;omega
  have hV:=bw.size;have hU:=lt_of_heap bb;have hp:=lt_of_heap ch;have ht:=lt_of_heap cf;obtain⟨a2,a0,ad,X,hR,hM⟩:=zx6 ch cf bD g4 bb g5;obtain⟨d4,hz,an,hf⟩:=zx4 g3 hc F b8;have hW:IntKind.i64.wrap ((o.size:Int)+1)=(o.size:Int)+1:=zU _ (by omega);have hS:IntKind.i64.wrap ((A:Int)+((o.size:Int)+1))=(A:Int)+((o.size:Int)+1):=zU _ (by omega);have hu:¬8000 < (A:Int)+((o.size:Int)+1):=by omega
  rw[<-fG]at hf;have h5:t < LS.length:=e4;have h4:t<=8000:=by
   have s:=cY LS LS.length;have r:=d1.out;have:=nE LS;omega
  clear s r u z ch cf bD g4 bb g5 bw a4 a6 cl g3 hc F b8 bs bk er a9 ca fG
  gi_wp2_with (gi_at_builtin;refine wpListIn_append_own_at _ rfl (.tmp 32) (.tmp 35) 22 rfl (q+2) 9 hx _ 1 16 underlying22 gr hm hK hA rfl (by decide) (Y y L E) t _ rfl (ad.out.alloc _) ⟨ao.heap.size,0,O⟩ 1 1 [.string o] rfl rfl (λj hE hi=>by rw[gK];exact(ae (af ao _) j).trans (by simpa using hi)) (by simp[Value.oneCell']) (by unfold maxLen;omega) (by omega) (by simp;omega) ?_;intro h9 w5 d0 he _ gl;obtain⟨gg,cap,rfl,h7,_⟩:=aA d0;have ab:Far (λk=>(Value.slice y L E).ownBlock=W k) ao w5:=(((ξ (λk=>(Value.slice y L E).ownBlock=W k) ao).alloc _).grown he (λk e _=>e));have b4:=ab.heap a2.out (λe=>by have:=(d4.out q e).1;omega);have hT:w5.cell? ⟨q,0,O⟩=W (Y y L E):=ae b4 0;have c0:w5.frozen? ⟨q,0,O⟩=false:=ag b4 0;have T:Far (·=q) w5 (w5.setCell ⟨q,0,O⟩ (Y (W ⟨gg,0,O⟩) (t+1) cap)):=Far.setCell (D:=(·=q)) (ξ _ _) (p:=⟨q,0,O⟩) (λ_=>rfl) _;have b9:=T.heap (ab.heap a0.out (λe=>by have:=(d4.out _ e).1;omega)) (by omega);have g6:=T.heap (ab.heap hR.out (λe=>hz.out _ e rfl)) (by omega);have h3:(w5.setCell ⟨q,0,O⟩ (Y (W ⟨gg,0,O⟩) (t+1) cap)).cell? ⟨q+1,0,O⟩=W (.int I (A:Int)):=ae b9 0;have h6:(w5.setCell ⟨q,0,O⟩ (Y (W ⟨gg,0,O⟩) (t+1) cap)).frozen? ⟨q+1,0,O⟩=false:=ag b9 0;have i0:(w5.setCell ⟨q,0,O⟩ (Y (W ⟨gg,0,O⟩) (t+1) cap)).cell? ⟨p,0,O⟩=W (.string o):=ae g6 0;have hv:=zD b4;have hD:=zD ab;have hj:=zD d0;have hg:=zD gl;have hr:=zD b9;have f5:=zD T;clear b4 ab d0 he gl b9 g6 T)
  have ei:Far (·=q+1) (w5.setCell ⟨q,0,O⟩ (Y (W ⟨gg,0,O⟩) (t+1) cap)) ((w5.setCell ⟨q,0,O⟩ (Y (W ⟨gg,0,O⟩) (t+1) cap)).setCell ⟨q+1,0,O⟩ (.int I ((A:Int)+((o.size:Int)+1)))):=Far.setCell (D:=(·=q+1)) (ξ _ _) (p:=⟨q+1,0,O⟩) (λ_=>rfl) _;have e5:gg≠q/\gg≠q+1:=by omega
  have dp:=am (am hj.out f5.out (λk e b=>by injection e with e;exact e5.1 (e.trans b))) ei (λk e b=>by injection e with e;exact e5.2 (e.trans b));rw[<-hM.out]at dp;have cc:=((hD.out.mono (D':=ct) (λk _ e=>(an.out k).2 (.inr (.inr e)))).step f5.out (λk _ e=>(an.out k).2 (.inl e))).step ei (λk _ e=>(an.out k).2 (.inr (.inl e)));have hP:gg < w5.heap.size:=(dp.lt gg rfl).2 |> λb=>by simpa [World.setCell]using b
  have hN:(Value.slice y L E).ownBlock=W gg\/ao.heap.size<=gg:=by
   rcases hg.out with b|b
   ·left;rw[<-b];rfl
   ·right
    simp[Value.ownBlock]at b
    omega
  have hJ:((lenTo LS (t+1):Nat):Int)=(A:Int)+((o.size:Int)+1):=by rw[hf.out];omega
  refine⟨λk=>k=q\/k=q+1\/(Value.slice (W ⟨gg,0,O⟩) (t+1) cap).ownBlock=W k,⟨e4,⟨_,_,_,λ_=>Iff.rfl,ei.heap (ai hv.out 0 _) (by omega),by rw[hJ];exact ai hr.out 0 _,dp⟩,X.out.trans (cc.to_below (by have:=X.out.size;have:=C.out;omega) (λk R e=>by
   rcases (an.out k).1 e with b|b|b
   ·omega
   ·omega
   ·have:=(d4.out k b).1;omega))⟩,cc,λk b=>?_⟩
  rcases b with rfl|rfl|b
  ·exact⟨.inl ((an.out k).2 (.inl rfl)),λ_=>zK hp cc.size⟩
  ·exact⟨.inl ((an.out (q+1)).2 (.inr (.inl rfl))),λ_=>zK ht cc.size⟩
  ·simp[Value.ownBlock]at b
   subst b;refine⟨?_,λ_=>by simpa [World.setCell]using hP⟩;rcases hN with b|b
   ·exact .inl ((an.out gg).2 (.inr (.inr b)))
   ·exact .inr (.inr (by omega))
 case done=>
  rintro ct c ⟨dc,⟨y,L,E,F,s,r,u⟩,z⟩ _ a4 a6;rw[d3.out]at a4 ⊢;rw[List.take_length]at u;have ca:=Nat.le_trans (cY LS LS.length) d1.out;obtain⟨A,bk⟩:∃A,lenTo LS LS.length=A:=⟨_,rfl⟩;rw[bk]at r ca;have hu:¬8000 < (A:Int):=by omega
  have g0:=zF s 0 rfl;have it:=zF r 0 rfl;have fz:∀k,(Value.slice y L E).ownBlock=W k->k≠q+3:=λk e=>by have s:=a6 k ((F k).2 (.inr (.inr e)));have:=d3.out;omega
  have f1:=cz u;rw[f1]at u fz g0;clear F a6 s;obtain⟨ad,X,hw⟩:=zx3 u z a4;clear r u z a4 bk f1
  go_wp2_with fail
  refine au (q:=q+3) rfl hw.out ?_;intro hG e6;have bD:=am ad.out e6 (λk e b=>fz k e b);refine⟨.tuple #[Y y LS.length E,.int I 0],by simp[results,results61,go_sem],⟨_,rfl,(az bD).mono (G':=New w) (λk (R:q+2<=k) _=>by have:=C.out;show w.heap.size<=k;omega)⟩,?_⟩;have hk:=X.out.trans (e6.to_below (by have:=X.out.size;have:=C.out;omega) (λk R e=>by omega));rw[C.out];exact hk
end
section
attribute [local go_sem] ak
structure PrG(g:List Tp.Nd)(ds:List Nat)(LS:List Tp.B):Prop where
 good:yt g
 few:yR g
 tidy:Tp.tidy 0 g=W g
 deep:Tp.deepest g 1000 0 1 (List.replicate g.length 0)=W ds
 ok:Tp.okGr 0 g=true
 d24:∀i,i < g.length->ds.getD i 0+(if (g.getD i ⟨0,Tp.Sc.null,[],[]⟩).kids.isEmpty then 0 else 1)<=24
 pl:Tp.places g<=200
 root:∀v GG,AJ g v GG LS
 size:(LS.flatMap (·++[10])).length<=8000
theorem ut(g:List Tp.Nd)(v:Value)(y:NS)(bx:List Nat)(LS:List Tp.B)(w:World)(S:yc w y g v)(ba:∀k,y k->k < w.heap.size)(ad:Glob w)(j:PrG g bx LS):
 Calls π 38 #[γ #[V I 0,v]] w λe w'=>e=ρ (.tuple #[xR (LS.flatMap (·++[10])),V I 0])/\Below w.heap.size w w':=by
 have q:Below w.heap.size w (w.alloc (J #[V I 0,v] 54)):=(ζ _ w).alloc (η _) _;have F:=mj g v y bx LS _ (S.below q) (λk s=>zK (ba k s) q.size) (ad.step q) j.good j.few j.tidy j.deep j.ok j.d24 j.pl (j.root v y) j.size;have E:=j.size;obtain⟨a,c0,rfl,_⟩:=S.form;obtain⟨d,ab⟩:∃d,LS.length=d:=⟨_,rfl⟩;rw[ab]at F;have c5:d<=8000:=by
  have R:=nE LS;have b9:=cY LS LS.length;omega
 obtain⟨bR,P,bn,bm⟩:=zx4 F q E ab;clear F q E S ba ad j ab;generalize g.length=ct at *;obtain⟨cv,N⟩:∃T,xR (LS.flatMap (·++[10]))=T:=⟨_,rfl⟩;rw[N]
 go_enter func38,ntmps38
 go_wp2_with fail
 refine bR.out.mono ?_;rintro e o ⟨⟨c3,rfl,n⟩,b0⟩;obtain⟨a1,ao,rfl,_⟩:=n.form;have L:=P.out.trans (b0.mono P.out.size);have m:=bo o;have r:=L.size;have c:Below w.heap.size w (o.alloc (J #[Z O,Y O 0 0] 38)):=L.alloc r _;have b3:=n.far ((ξ xO o).alloc (J #[Z O,Y O 0 0] 38)) (λ_ _ _ e=>e);obtain⟨b,C⟩:∃b,o.heap.size=b:=⟨_,rfl⟩;have b2:(o.alloc (J #[Z O,Y O 0 0] 38)).heap.size=b+1:=by simp[C]
 rw[C]at m r;have a9:=zD (n.mono (G':=λk=>k < b) (λk _ s=>by rw[<-C];exact s));have bw:=zD ((a9.out.far ((ξ xO o).alloc (J #[Z O,Y O 0 0] 38)) (λ_ _ _ e=>e)));obtain⟨cb,a3⟩:=zx2 c m;clear n b0 L c m bR P b3 a9
 go_wp2_with fail
 generalize (o.alloc (J #[Z O,Y O 0 0] 38))=c9 at *
 go_loopw [16] (λG wr=>∃t:Nat,G=V I (t:Int)/\t<=d/\Lib.IsBuilderF 38 5 b b (Lib.byteCells ((LS.take t).flatMap (·++[10]))) wr/\Row wr (λk=>k < b) d (Y a1 d ao) (LS.map xR)/\Below w.heap.size w wr/\b+1<=wr.heap.size) (λG _=>d - (Lib.intOf G).toNat)
 case atStart=>exact⟨0,rfl,z_ _,a3.out,bw.out,cb.out,by omega⟩
 case round=>
  obtain⟨t,rfl,c2,m,n,u,E⟩:=hrel;by_cases a0:t < d
  ·obtain⟨l,x⟩:∃l,LS[t]? =W l:=⟨_,zE (by rw[bm.out];exact a0)⟩
   obtain⟨df,cl,b8,cc,an,bb,ac,A⟩:=n;have z:(LS.map xR)[t]? =W (xR l):=by rw[List.getElem?_map,x];rfl
   obtain⟨rfl,da,be⟩:=A (λe=>by rw[e]at z;simp at z);have n:Row wr (λk=>k < b) d (Y a1 d ao) (LS.map xR):=⟨_,cl,b8,cc,an,bb,ac,A⟩;injection an with e11 e12 e13;clear e12;subst e11 e13;have ch:=be t _ z;obtain⟨f,X⟩:∃f,xR l=U f:=⟨_,rfl⟩;have av:(⟨l.toArray⟩:ByteArray)=f:=by injection X
   rw[X]at ch;have ck:l.length<=8000:=by
    have R:=ig LS t l x;have b9:=cY LS (t+1);have b4:=bn.out;omega
   have db:f.size<=8000:=by rw[<-av];exact ck
   have dn:(f++(⟨#[10]⟩:ByteArray)).size<=maxLen:=by rw[zX];unfold maxLen;show f.size+1<=_;omega
   have c1:f.size+1<=maxLen:=by unfold maxLen;omega
   have co:f.size+1<=9223372036854775807:=by omega
   have c4:¬9223372036854775807 < f.size+1:=by omega
   have cf:(Lib.byteCells ((LS.take t).flatMap (·++[10]))).length<=8000:=by
    rw[Lib.byteCells_length,<-iO];have R:=cY LS t;unfold lenTo at R;have b4:=bn.out;omega
   have M:=fa b b _ (f++(⟨#[10]⟩:ByteArray)) wr m (by rw[zX];have:(⟨#[10]⟩:ByteArray).size=1:=rfl;omega) (by omega);have bD:Lib.byteCells ((LS.take t).flatMap (·++[10]))++Lib.strCells (f++(⟨#[10]⟩:ByteArray))=Lib.byteCells ((LS.take (t+1)).flatMap (·++[10])):=by
    rw[zG,x,List.flatMap_append,<-av];unfold Lib.strCells Lib.byteCells;rw[List.map_append];congr 1
    simp
   rw[bD]at M;have b5:(t:Int) < (d:Int):=by omega
   have dc:(0:Int)<=(t:Int):=by omega
   obtain⟨a6,bk,p,ca⟩:=zx4 M n u m;clear M bD m n u bb ac A be z X x cf
   go_wp2_with fail
   refine a6.out.mono ?_;rintro e a2 ⟨rfl,al,c,_⟩;have b2:=c.size;have bs:=bk.out.far (D:=λk=>b<=k) ⟨c.os,c.tape,c.output,c.size,λi c6 cm=>c.block i (Nat.lt_of_not_le cm)⟩ (λk s _ e=>by omega);have a5:=p.out.trans (c.mono r);have H:=zD (θ (show Lib.IsBuilderF 38 5 b b _ a2 from .inr al) (θ bs a5));clear al c bs a5 a6 bk p ca
   go_wp2_with fail
   go_roundw
   case rel=>exact⟨t+1,by go_num,a0,H.out.1,H.out.2.1,H.out.2.2,by omega⟩
   case measure=>simp[Lib.intOf];omega
  ·obtain rfl:t=d:=by omega
   have b5:¬(t:Int) < (t:Int):=by omega
   rw[zR (by rw[bm.out];omega)]at m;have a4:=Tryz.Builder_String_any_f b b _ wr m (by omega);obtain⟨b1,p⟩:=zx2 a4 u;clear a4 u m n a3 bw
   go_wp2_with fail
   refine b1.out.mono ?_;rintro e a2 ⟨rfl,_,c⟩;have b6:=p.out.trans (c.mono r);clear c b1 p;unfold xR at N;rw[N]
   go_wp2_with fail
   go_ret2
   exact⟨rfl,b6⟩
theorem nh(g:List Tp.Nd)(a:List Nat)(LS:List Tp.B)(e:PrG g a LS):zm g (LS.flatMap (·++[10])):=λi c d f j b=>ut g d c a LS i f j b e
end
structure yd(n:Nat)(x:Tp.Nd):Prop where
 sc:x8 x.x=true/\x.x.s.length<=100
 keys:∀y∈x.keys,x8 y=true/\y.s.length<=100
 kl:x.keys.length < 20
 kk:x.k=2->x.keys.length=x.kids.length
 k0:x.k=0->x.kids=[]
 kr:0<=x.k/\x.k<=2
 kid:∀k∈x.kids,k < n
 kidl:x.kids.length<=100
theorem iy:∀(a n:Nat),(Tp.digits a n).length<=a
 |0,_=>η _
 |a+1,n=>by
  unfold Tp.digits;split
  ·simp
  ·have:=iy a (n / 10);simp;omega
theorem jg(n:Int):(Tp.itoa n).length<=21:=by
 unfold Tp.itoa;have:=iy 20 n.natAbs;split<;>simp<;>omega
theorem gV(a:Tp.Sc)(d:a.s.length<=100):(Tp.scText a).length<=500:=by
 unfold Tp.scText;have b:=jg a.n;have c:=Tp.aD a.s;split
 ·decide
 ·split
  ·split<;>decide
  ·split<;>omega
theorem ii(x:Tp.Nd):∀b∈Tp.keysOf x,b∈x.keys:=by
 intro b a;unfold Tp.keysOf Tp.pairs at a;split at a
 ·obtain⟨p,c,rfl⟩:=List.mem_map.1 a
  have:=(Tp.cW (x.keys.zip x.kids)).2 p;exact(List.of_mem_zip (this.1 c)).1
 ·simp at a
theorem oZ(x:Tp.Nd):(Tp.keysOf x).length<=x.keys.length:=by
 unfold Tp.keysOf Tp.pairs;split
 ·rw[List.length_map,(Tp.cW _).1,List.length_zip];omega
 ·simp
theorem kD(x:Tp.Nd)(a:x.k≠1):(Tp.keysOf x).length=(Tp.kidsOf x).length:=by
 unfold Tp.keysOf Tp.kidsOf;rw[if_neg a,List.length_map,List.length_map]
theorem et:∀(a:List Tp.B) (m:Nat),(∀l∈a,l.length<=m)->(commas a).length<=a.length * (m+1)
 | [],m,_=>by simp[commas]
 |l::r,m,h=>by
  have d:=h l (by simp);have b:=et r m (λx c=>h x (by simp[c]));unfold commas at b ⊢;rw[List.flatMap_cons,zP,zP,show (l::r).length=r.length+1 from rfl,Nat.add_mul];simp only[zO,List.length_nil];omega
theorem yd.good{n:Nat}{x:Tp.Nd}(a:yd n x):Ah x:=⟨⟨a.sc.1,Nat.le_trans a.sc.2 (by omega)⟩,λb c=>⟨(a.keys b c).1,Nat.le_trans (a.keys b c).2 (by omega)⟩⟩
theorem yd.few{n:Nat}{x:Tp.Nd}(a:yd n x):yx x:=⟨a.kl,a.kk,Nat.le_trans a.kidl (by omega)⟩
theorem yd.ks{n:Nat}{x:Tp.Nd}(b:yd n x):∀a∈Tp.keysOf x,x8 a=true/\a.s.length<=1000:=λa c=>b.good.2 a (ii x a c)
theorem yd.kt{n:Nat}{x:Tp.Nd}(b:yd n x):∀a∈Tp.keysOf x,(Tp.scText a).length<=500:=λa c=>gV a (b.keys a (ii x a c)).2
theorem yd.s1{n:Nat}{x:Tp.Nd}(a:yd n x):(commas ((Tp.keysOf x).map Tp.scText)).length<=1000000:=by
 have e:=et ((Tp.keysOf x).map Tp.scText) 500 (λl c=>by obtain⟨b,d,rfl⟩:=List.mem_map.1 c;exact a.kt b d);have f:=oZ x;have i:=a.kl;rw[List.length_map]at e;have g:=Nat.mul_le_mul_right 501 (show (Tp.keysOf x).length<=20 by omega);omega
theorem yd.s2{n:Nat}{x:Tp.Nd}(b:yd n x)(a:List Nat):(commas ((Tp.kidsOf x).map λk=>Tp.itoa ((a.getD k 0:Nat):Int))).length<=1000000:=by
 have d:=et ((Tp.kidsOf x).map λk=>Tp.itoa ((a.getD k 0:Nat):Int)) 21 (λl c=>by obtain⟨e,i,rfl⟩:=List.mem_map.1 c;exact jg _);have f:=bI x;have j:=b.kidl;rw[List.length_map]at d;have g:=Nat.mul_le_mul_right 22 (show (Tp.kidsOf x).length<=100 by omega);omega
theorem mf(x:Tp.Sc)(a:x8 x=true):(0<=x.k/\x.k<=3)/\-999999999999999<=x.n/\x.n<=999999999999999:=by
 unfold x8 at a;split at a
 ·simp at a;omega
 ·split at a
  ·simp at a;omega
  ·split at a
   ·simp at a;omega
   ·split at a
    ·simp at a;omega
    ·cases a
theorem qm(g:List Tp.Nd)(c:∀x∈g,yd g.length x):Ag g:=by
 intro d _ _;refine⟨λx b=>⟨(c x b).few,λk e=>(c x b).kid k (bj x k e),(c x b).ks,(c x b).s1,(c x b).s2 d⟩,λs a=>?_⟩;obtain⟨x,b,rfl⟩:=List.mem_map.1 a;have a:=c x b;obtain⟨l,j,m⟩:=mf x.x a.sc.1;have e:=a.kr;have f:(Tp.say d x).2.2.1=commas ((Tp.keysOf x).map Tp.scText):=by unfold commas Tp.say;rw[List.flatMap_map]
 have i:(Tp.say d x).2.2.2=commas ((Tp.kidsOf x).map λk=>Tp.itoa ((d.getD k 0:Nat):Int)):=by unfold commas Tp.say;rw[List.flatMap_map]
 unfold yM;rw[f,i];exact wO _ _ _ _ _ _ (uO _ (by show _<=x.k;omega) (by show x.k<=_;omega)) (uO _ (by show _<=x.x.k;omega) (by show x.x.k<=_;omega)) (uO _ (by show _<=x.x.n;omega) (by show x.x.n<=_;omega)) (by show x.x.s.length<=_;have:=a.sc.2;unfold maxLen;omega) (by have:=a.s1;unfold maxLen;show (commas _).length<=_;omega) (by have:=a.s2 d;unfold maxLen;show (commas _).length<=_;omega)
theorem sM(g:List Tp.Nd)(i:Nat):Tp.anchor g i<=i+1:=by
 unfold Tp.anchor;split
 ·exact Nat.le_trans (List.length_filter_le _ _) (by simp)
 ·omega
theorem vB(g:List Tp.Nd)(hl:g.length<=200)(h:∀x∈g,yd g.length x):AU g where
 good:=λx hx=>(h x hx).good
 few:=λx hx=>(h x hx).few
 keys:=λx hx y hy=>⟨(h x hx).ks y hy,Nat.le_trans ((h x hx).kt y hy) (by omega)⟩
 kind:=λx hx hk=>by
  have h1:=(h x hx).kr;have h2:=(h x hx).k0;by_cases h3:x.k=0
  ·exact absurd (h2 h3) hk
  ·omega
 leaf:=λx hx _=>⟨(h x hx).kr,(h x hx).good.1,by
  have:=gV x.x (h x hx).sc.2;unfold Tp.nodeWord;split
  ·omega
  ·split<;>simp⟩
 len:=λx hx=>by
  unfold Tp.headsOf;by_cases h1:x.k=1
  ·rw[if_pos h1];unfold Tp.kidsOf;rw[if_pos h1,List.length_map]
  ·rw[if_neg h1,List.length_map,kD x h1]
 heads:=λx hx l hl=>by
  unfold Tp.headsOf at hl;split at hl
  ·obtain⟨_,_,rfl⟩:=List.mem_map.1 hl;simp
  ·obtain⟨y,hy,rfl⟩:=List.mem_map.1 hl
   have:=(h x hx).kt y hy;simp;omega
 kl:=λx hx=>by have h1:=bI x;have h2:=(h x hx).kidl;omega
 kid:=λx hx k hk=>(h x hx).kid k (bj x k hk)
 anc:=λi hi=>by
  have h1:=sM g i;have h2:=jg ((Tp.anchor g i:Nat):Int);refine⟨by omega,?_⟩;unfold yn;split
  ·simp
  ·simp;omega
theorem nO(g:List Tp.Nd)(b:g.length<=200)(a:∀x∈g,yd g.length x):yR g:=⟨λx c=>(a x c).few,b⟩
theorem kO(g:List Tp.Nd)(a:∀x∈g,yd g.length x):yt g:=λx b=>(a x b).good
theorem qD(g e:List Tp.Nd)(a:List Nat)(j:g.length<=200)(c:∀x∈g,yd g.length x)(d:∀x∈Tp.whole g a,yd g.length x)(n:(Tp.whole g a).length<=200)(f:Tp.okGr 0 g=true)(r:Tp.classes g=W a)(o:a.length=g.length)(l:∀m∈a,m < g.length)(p:a[0]? =W 0)(q:Tp.tidy 0 (Tp.whole g a)=W e):QOk g a e:=
 ⟨kO g c,nO g j c,f,qm g c,r,o,l,λx b k i=>(c x b).kid k (bj x k i),p,q,λx b=>(d x b).good,⟨λx b=>(d x b).few,n⟩⟩
theorem uB(g:List Tp.Nd)(b:List Nat)(a:List Tp.B)(e:List Nat)(x:Tp.Nd)(d:Nat)(f:g.length<=200)(c:∀x∈g,yd g.length x)(u:Tp.okGr 0 g=true)(n:Tp.tidy 0 g=W g)(j:Tp.deepest g 1000 0 1 (List.replicate g.length 0)=W b)(s:∀i,i < g.length->b.getD i 0+(if (g.getD i ⟨0,Tp.Sc.null,[],[]⟩).kids.isEmpty then 0 else 1)<=24)(m:Tp.places g<=200)(t:g[0]? =W x)(o:x.kids≠[])(q:Tp.anchor g 0=0)(r:Tp.items g 1000 0 0 [0]=W (a,e))(l:dOk g d 0)(k:2 * d<=46)(p:(a.flatMap (·++[10])).length<=8000):PrG g b a:=
 ⟨kO g c,nO g f c,n,j,u,s,m,λv w=>vb g v w a e x d (vB g f c) t o q r l k,p⟩
end Go.Proofs.YtbikgdhbiebhcaaGreatDoor
