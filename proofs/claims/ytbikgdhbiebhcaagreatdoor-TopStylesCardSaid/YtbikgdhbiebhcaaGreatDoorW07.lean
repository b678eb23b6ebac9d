/- Part 7. -/
import Derived.Test.YtbikgdhbiebhcaaGreatDoorW06
import Derived.DeepKeys4
import Derived.LaidEql
import Derived.Laws.Cover1
set_option linter.unusedVariables false
set_option linter.unusedSimpArgs false
set_option maxRecDepth 100000
set_option maxHeartbeats 2000000
open Go.Value renaming int -> V, string -> U, slice -> Y, pointer -> Z, func -> φ, agg -> γ, bool -> β
open Go.IntKind renaming i64 -> I
open Option renaming some -> W, none -> O
open Go.Obj renaming cells -> J
open Go.Ending renaming returned -> ρ
open Go.Proofs.Tryz renaming prog -> π
open Nat renaming le_refl -> η
open Go.RowKit.Below renaming refl -> ζ
namespace Go.Proofs.YtbikgdhbiebhcaaGreatDoor
open Go.RowKit Tryz
def xP(l:List Nat):List Value:=l.map λi:Nat=>V I (i:Int)
def xX(w:World)(a:NS):List Tp.Nd->List Value->Prop
 | [],cs=>cs=[]
 |x::r,cs=>∃kv c b,cs=[V I x.k,V I x.x.k,V I x.x.n,xR x.x.s,kv,c]++b/\Row w a x.keys.length kv (xV x.keys)/\Row w a x.kids.length c (xP x.kids)/\xX w a r b
theorem xX.far{D c:NS}{w w':World}(b:Far D w w')(d:∀k,c k->k < w.heap.size->¬D k):∀(g:List Tp.Nd) (a:List Value),xX w c g a->xX w' c g a
 | [],a,h=>by unfold xX at h ⊢;exact h
 |x::r,a,h=>by
  unfold xX at h ⊢;obtain⟨kv,l,e,j,f,m,i⟩:=h;exact⟨kv,l,e,j,f.far b d,m.far b d,xX.far b d r e i⟩
theorem xX.mono{c G':NS}{w:World}(b:∀k,c k->k < w.heap.size->G' k):∀(g:List Tp.Nd) (a:List Value),xX w c g a->xX w G' g a
 | [],a,h=>by unfold xX at h ⊢;exact h
 |x::r,a,h=>by
  unfold xX at h ⊢;obtain⟨kv,j,d,f,e,l,i⟩:=h;exact⟨kv,j,d,f,e.mono b,l.mono b,xX.mono b r d i⟩
theorem xX.snoc{w:World}{b:NS}{x:Tp.Nd}{kv d:Value}(f:Row w b x.keys.length kv (xV x.keys))(e:Row w b x.kids.length d (xP x.kids)):∀(g:List Tp.Nd) (c:List Value),xX w b g c->xX w b (g++[x]) (c++[V I x.k,V I x.x.k,V I x.x.n,xR x.x.s,kv,d])
 | [],c,hk=>by
  unfold xX at hk;subst hk;rw[List.nil_append,List.nil_append];unfold xX;exact⟨kv,d,[],rfl,f,e,by unfold xX;rfl⟩
 |y::r,c,hk=>by
  unfold xX at hk;obtain⟨a,k,i,rfl,m,j,l⟩:=hk;rw[List.cons_append];unfold xX;exact⟨a,k,_,List.append_assoc _ _ _,m,j,xX.snoc f e r i l⟩
theorem xX.at{w:World}{f:NS}:∀(g:List Tp.Nd) (b:List Value) (i:Nat) (x:Tp.Nd),xX w f g b->g[i]? =W x->∃kv d,(∀j c,[Value.int I x.k,V I x.x.k,V I x.x.n,xR x.x.s,kv,d][j]? =W c->b[i * 6+j]? =W c)/\Row w f x.keys.length kv (xV x.keys)/\Row w f x.kids.length d (xP x.kids)
 | [],b,i,x,hk,h=>by simp at h
 |y::r,b,0,x,hk,h=>by
  unfold xX at hk;obtain⟨a,k,n,rfl,o,l,m⟩:=hk;simp at h
  subst h;refine⟨a,k,λj c e=>?_,o,l⟩;have q:=(zM.1 e).1;rw[Nat.zero_mul,Nat.zero_add,List.getElem?_append_left q];exact e
 |y::r,b,i+1,x,hk,h=>by
  unfold xX at hk;obtain⟨a,k,n,rfl,o,l,m⟩:=hk;obtain⟨kv,d,s,p⟩:=xX.at r n i x m (by simpa using h);refine⟨kv,d,λj c e=>?_,p⟩;rw[zV (by simp;omega),show (i+1) * 6+j - List.length [Value.int I y.k,V I y.x.k,V I y.x.n,xR y.x.s,a,k]=i * 6+j by simp;omega];exact s j c e
def yc(w:World)(a:NS)(g:List Tp.Nd)(v:Value):Prop:=∃b,Row w a g.length v b/\xX w a g b
theorem yc.far{D a:NS}{w w':World}{g:List Tp.Nd}{v:Value}(d:yc w a g v)(b:Far D w w')(c:∀k,a k->k < w.heap.size->¬D k):yc w' a g v:=by
 obtain⟨f,i,e⟩:=d;exact⟨f,i.far b c,xX.far b c _ _ e⟩
theorem yc.mono{a G':NS}{w:World}{g:List Tp.Nd}{v:Value}(c:yc w a g v)(b:∀k,a k->k < w.heap.size->G' k):yc w G' g v:=by
 obtain⟨e,f,d⟩:=c;exact⟨e,f.mono b,xX.mono b _ _ d⟩
theorem yc.below{a:NS}{w w':World}{g:List Tp.Nd}{v:Value}(b:yc w a g v)(c:Below w.heap.size w w'):yc w' a g v:=b.far (Far.of_below c xO) (λ_ _ _ e=>e)
theorem Row.below{a:NS}{w w':World}{n:Nat}{v:Value}{b:List Value}(c:Row w a n v b)(d:Below w.heap.size w w'):Row w' a n v b:=c.far (Far.of_below d xO) (λ_ _ _ e=>e)
theorem Row.form{e:NS}{w:World}{n:Nat}{v:Value}{f:List Value}(b:Row w e n v f):∃a d,v=Y a n d/\n<=maxLen:=by obtain⟨a,_,_,d,b,c,_⟩:=b;exact⟨_,_,b,Nat.le_trans c.1 c.2⟩
theorem yc.form{c:NS}{w:World}{g:List Tp.Nd}{v:Value}(b:yc w c g v):∃a d,v=Y a g.length d/\g.length<=maxLen:=by obtain⟨_,b,_⟩:=b;exact b.form
structure yN(w:World)(G:NS)(v:Value)(n i:Nat)(x:Tp.Nd)(kv dv:Value):Prop where
 cell:∃gb o cap,v=Y (W ⟨gb,o,O⟩) n cap/\gb < w.heap.size/\G gb/\∀j u,[Value.int I x.k,V I x.x.k,V I x.x.n,xR x.x.s,kv,dv][j]? =W u->w.cell? ⟨gb,o+i * 6+j,O⟩=W u
 lt:i < n
 le:n<=maxLen
 key:Row w G x.keys.length kv (xV x.keys)
 kid:Row w G x.kids.length dv (xP x.kids)
theorem yc.at{w:World}{d:NS}{g:List Tp.Nd}{v:Value}{i:Nat}{x:Tp.Nd}(C:yc w d g v)(k:g[i]? =W x):∃kv a,yN w d v g.length i x kv a:=by
 obtain⟨f,⟨D,m,o,cap,q,c,u,p⟩,r⟩:=C;obtain⟨kv,a,l,s,t⟩:=xX.at g f i x r k;have b:f≠[]:=λe=>by have:=l 0 _ rfl;rw[e]at this;simp at this
 obtain⟨rfl,z,n⟩:=p b;exact⟨kv,a,⟨m,o,cap,q,z,u b,λj y A=>by rw[Nat.add_assoc];exact n _ _ (l j y A)⟩,(zM.1 k).1,Nat.le_trans c.1 c.2,s,t⟩
theorem yN.far{D c:NS}{w w':World}{v:Value}{n i:Nat}{x:Tp.Nd}{kv e:Value}(y:yN w c v n i x kv e)(a:Far D w w')(b:∀k,c k->k < w.heap.size->¬D k):yN w' c v n i x kv e:=by
 obtain⟨⟨g,o,cap,m,d,f,l⟩,p,t,q,r⟩:=y;exact⟨⟨g,o,cap,m,zK d a.size,f,λj s u=>a.at (l j s u) (b _ f d)⟩,p,t,q.far a b,r.far a b⟩
theorem yN.below{a:NS}{w w':World}{v:Value}{n i:Nat}{x:Tp.Nd}{kv b:Value}(c:yN w a v n i x kv b)(d:Below w.heap.size w w'):yN w' a v n i x kv b:=c.far (Far.of_below d xO) (λ_ _ _ e=>e)
theorem yN.cells{w:World}{d:NS}{v:Value}{n i:Nat}{x:Tp.Nd}{kv c:Value}(e:yN w d v n i x kv c):∃a o cap,v=Y (W ⟨a,o,O⟩) n cap/\a < w.heap.size/\w.cell? ⟨a,o+i * 6,O⟩=W (V I x.k)/\w.cell? ⟨a,o+i * 6+1,O⟩=W (V I x.x.k)/\w.cell? ⟨a,o+i * 6+2,O⟩=W (V I x.x.n)/\w.cell? ⟨a,o+i * 6+3,O⟩=W (xR x.x.s)/\w.cell? ⟨a,o+i * 6+4,O⟩=W kv/\w.cell? ⟨a,o+i * 6+5,O⟩=W c:=by
 obtain⟨⟨a,o,cap,g,f,j,b⟩,_⟩:=e;exact⟨a,o,cap,g,f,b 0 _ rfl,b 1 _ rfl,b 2 _ rfl,b 3 _ rfl,b 4 _ rfl,b 5 _ rfl⟩
theorem gX:∀(a:List Tp.Sc) (i:Nat) (x:Tp.Sc),a[i]? =W x->(xV a)[i * 3]? =W (V I x.k)/\(xV a)[i * 3+1]? =W (V I x.n)/\(xV a)[i * 3+2]? =W (xR x.s)
 | [],i,x,h=>by simp at h
 |y::r,0,x,h=>by simp at h;subst h;exact⟨rfl,rfl,rfl⟩
 |y::r,i+1,x,h=>by
  have b:=gX r i x (by simpa using h);have e:xV (y::r)=[V I y.k,V I y.n,xR y.s]++xV r:=rfl;have c:(i+1) * 3=i * 3+3:=by omega
  refine⟨?_,?_,?_⟩
  ·rw[e,zV (by simp;omega),<-b.1];congr 1;simp;omega
  ·rw[e,zV (by simp;omega),<-b.2.1];congr 1;simp;omega
  ·rw[e,zV (by simp;omega),<-b.2.2];congr 1;simp;omega
theorem fq:∀a:List Tp.Sc,(xV a).length=a.length * 3
 | []=>rfl
 |y::r=>by
  have e:xV (y::r)=[V I y.k,V I y.n,xR y.s]++xV r:=rfl;rw[e,zP,fq r,zO,zO,zO,List.length_nil,zO];omega
theorem Row.sc{f:NS}{w:World}{n i:Nat}{v:Value}{a:List Tp.Sc}{x:Tp.Sc}(r:Row w f n v (xV a))(p:a[i]? =W x):∃g o cap,v=Y (W ⟨g,o,O⟩) n cap/\f g/\g < w.heap.size/\w.cell? ⟨g,o+i * 3,O⟩=W (V I x.k)/\w.cell? ⟨g,o+i * 3+1,O⟩=W (V I x.n)/\w.cell? ⟨g,o+i * 3+2,O⟩=W (xR x.s):=by
 obtain⟨u,g,o,cap,k,t,m,j⟩:=r;obtain⟨c,s,l⟩:=gX a i x p;have d:xV a≠[]:=λe=>by rw[e]at c;simp at c
 obtain⟨rfl,q,b⟩:=j d;exact⟨g,o,cap,k,m d,q,b _ _ c,b _ _ s,b _ _ l⟩
theorem Row.nat{d:NS}{w:World}{n i:Nat}{v:Value}{a:List Nat}{x:Nat}(q:Row w d n v (xP a))(m:a[i]? =W x):∃g o cap,v=Y (W ⟨g,o,O⟩) n cap/\d g/\g < w.heap.size/\w.cell? ⟨g,o+i,O⟩=W (V I (x:Int)):=by
 obtain⟨s,g,o,cap,k,r,l,j⟩:=q;have b:(xP a)[i]? =W (V I (x:Int)):=by unfold xP;rw[List.getElem?_map,m];rfl
 have c:xP a≠[]:=λe=>by rw[e]at b;simp at b
 obtain⟨rfl,p,f⟩:=j c;exact⟨g,o,cap,k,l c,p,f _ _ b⟩
theorem sS{w:World}{q:Nat}{a:Value}{T:TypeId}(b:w.heap[q]? =W (J #[a] T (0,0))):w.cell? ⟨q,0,O⟩=W a/\w.frozen? ⟨q,0,O⟩=false:=⟨ae b 0,ag b 0⟩
theorem bO{w:World}{q:Nat}{b c:Value}{T:TypeId}(a:w.heap[q]? =W (J #[b,c] T (0,0))):w.cell? ⟨q,0,O⟩=W b/\w.cell? ⟨q,1,O⟩=W c/\w.frozen? ⟨q,0,O⟩=false/\w.frozen? ⟨q,1,O⟩=false:=⟨ae a 0,ae a 1,ag a 0,ag a 1⟩
theorem bv{w:World}{q:Nat}{b c d:Value}{T:TypeId}(a:w.heap[q]? =W (J #[b,c,d] T (0,0))):w.cell? ⟨q,0,O⟩=W b/\w.cell? ⟨q,1,O⟩=W c/\w.cell? ⟨q,2,O⟩=W d/\w.frozen? ⟨q,0,O⟩=false/\w.frozen? ⟨q,1,O⟩=false/\w.frozen? ⟨q,2,O⟩=false:=⟨ae a 0,ae a 1,ae a 2,ag a 0,ag a 1,ag a 2⟩
theorem pC{w:World}{q:Nat}{b c d e:Value}{T:TypeId}(a:w.heap[q]? =W (J #[b,c,d,e] T (0,0))):w.cell? ⟨q,0,O⟩=W b/\w.cell? ⟨q,1,O⟩=W c/\w.cell? ⟨q,2,O⟩=W d/\w.cell? ⟨q,3,O⟩=W e/\w.frozen? ⟨q,0,O⟩=false/\w.frozen? ⟨q,1,O⟩=false/\w.frozen? ⟨q,2,O⟩=false/\w.frozen? ⟨q,3,O⟩=false:=⟨ae a 0,ae a 1,ae a 2,ae a 3,ag a 0,ag a 1,ag a 2,ag a 3⟩
theorem pE{w:World}{q:Nat}{c d e f b g:Value}{T:TypeId}(a:w.heap[q]? =W (J #[c,d,e,f,b,g] T (0,0))):w.cell? ⟨q,0,O⟩=W c/\w.cell? ⟨q,1,O⟩=W d/\w.cell? ⟨q,2,O⟩=W e/\w.cell? ⟨q,3,O⟩=W f/\w.cell? ⟨q,4,O⟩=W b/\w.cell? ⟨q,5,O⟩=W g/\w.frozen? ⟨q,0,O⟩=false/\w.frozen? ⟨q,1,O⟩=false/\w.frozen? ⟨q,2,O⟩=false/\w.frozen? ⟨q,3,O⟩=false/\w.frozen? ⟨q,4,O⟩=false/\w.frozen? ⟨q,5,O⟩=false:=⟨ae a 0,ae a 1,ae a 2,ae a 3,ae a 4,ae a 5,ag a 0,ag a 1,ag a 2,ag a 3,ag a 4,ag a 5⟩
theorem bd{w:World}{q:Nat}{c d e f b g i:Value}{T:TypeId}(a:w.heap[q]? =W (J #[c,d,e,f,b,g,i] T (0,0))):w.cell? ⟨q,0,O⟩=W c/\w.cell? ⟨q,1,O⟩=W d/\w.cell? ⟨q,2,O⟩=W e/\w.cell? ⟨q,3,O⟩=W f/\w.cell? ⟨q,4,O⟩=W b/\w.cell? ⟨q,5,O⟩=W g/\w.cell? ⟨q,6,O⟩=W i/\w.frozen? ⟨q,0,O⟩=false/\w.frozen? ⟨q,1,O⟩=false/\w.frozen? ⟨q,2,O⟩=false/\w.frozen? ⟨q,3,O⟩=false/\w.frozen? ⟨q,4,O⟩=false/\w.frozen? ⟨q,5,O⟩=false/\w.frozen? ⟨q,6,O⟩=false:=⟨ae a 0,ae a 1,ae a 2,ae a 3,ae a 4,ae a 5,ae a 6,ag a 0,ag a 1,ag a 2,ag a 3,ag a 4,ag a 5,ag a 6⟩
theorem wZ{w:World}{q:Nat}{c e:Value}{T:TypeId}(d:w.heap[q]? =W (J #[c,e] T (0,0)))(b a:Value):((w.setCell ⟨q,0,O⟩ b).setCell ⟨q,1,O⟩ a).heap[q]? =W (J #[b,a] T (0,0))/\Far (·=q) w ((w.setCell ⟨q,0,O⟩ b).setCell ⟨q,1,O⟩ a):=⟨(ai (ai d 0 b) 1 a),(((ξ (·=q) w).setCell (p:=⟨q,0,O⟩) (λ_=>rfl) b).setCell (p:=⟨q,1,O⟩) (λ_=>rfl) a)⟩
theorem xv{w:World}{q:Nat}{d f g:Value}{T:TypeId}(e:w.heap[q]? =W (J #[d,f,g] T (0,0)))(b a c:Value):(((w.setCell ⟨q,0,O⟩ b).setCell ⟨q,1,O⟩ a).setCell ⟨q,2,O⟩ c).heap[q]? =W (J #[b,a,c] T (0,0))/\Far (·=q) w (((w.setCell ⟨q,0,O⟩ b).setCell ⟨q,1,O⟩ a).setCell ⟨q,2,O⟩ c):=⟨(ai (ai (ai e 0 b) 1 a) 2 c),((((ξ (·=q) w).setCell (p:=⟨q,0,O⟩) (λ_=>rfl) b).setCell (p:=⟨q,1,O⟩) (λ_=>rfl) a).setCell (p:=⟨q,2,O⟩) (λ_=>rfl) c)⟩
theorem xL{w:World}{q:Nat}{i k l m g n:Value}{T:TypeId}(j:w.heap[q]? =W (J #[i,k,l,m,g,n] T (0,0)))(c a d f e b:Value):((((((w.setCell ⟨q,0,O⟩ c).setCell ⟨q,1,O⟩ a).setCell ⟨q,2,O⟩ d).setCell ⟨q,3,O⟩ f).setCell ⟨q,4,O⟩ e).setCell ⟨q,5,O⟩ b).heap[q]? =W (J #[c,a,d,f,e,b] T (0,0))/\Far (·=q) w ((((((w.setCell ⟨q,0,O⟩ c).setCell ⟨q,1,O⟩ a).setCell ⟨q,2,O⟩ d).setCell ⟨q,3,O⟩ f).setCell ⟨q,4,O⟩ e).setCell ⟨q,5,O⟩ b):=⟨(ai (ai (ai (ai (ai (ai j 0 c) 1 a) 2 d) 3 f) 4 e) 5 b),(((((((ξ (·=q) w).setCell (p:=⟨q,0,O⟩) (λ_=>rfl) c).setCell (p:=⟨q,1,O⟩) (λ_=>rfl) a).setCell (p:=⟨q,2,O⟩) (λ_=>rfl) d).setCell (p:=⟨q,3,O⟩) (λ_=>rfl) f).setCell (p:=⟨q,4,O⟩) (λ_=>rfl) e).setCell (p:=⟨q,5,O⟩) (λ_=>rfl) b)⟩
theorem xK{w:World}{q:Nat}{m o r i k j l:Value}{T:TypeId}(n:w.heap[q]? =W (J #[m,o,r,i,k,j,l] T (0,0)))(e a f d g b c:Value):(((((((w.setCell ⟨q,0,O⟩ e).setCell ⟨q,1,O⟩ a).setCell ⟨q,2,O⟩ f).setCell ⟨q,3,O⟩ d).setCell ⟨q,4,O⟩ g).setCell ⟨q,5,O⟩ b).setCell ⟨q,6,O⟩ c).heap[q]? =W (J #[e,a,f,d,g,b,c] T (0,0))/\Far (·=q) w (((((((w.setCell ⟨q,0,O⟩ e).setCell ⟨q,1,O⟩ a).setCell ⟨q,2,O⟩ f).setCell ⟨q,3,O⟩ d).setCell ⟨q,4,O⟩ g).setCell ⟨q,5,O⟩ b).setCell ⟨q,6,O⟩ c):=⟨(ai (ai (ai (ai (ai (ai (ai n 0 e) 1 a) 2 f) 3 d) 4 g) 5 b) 6 c),((((((((ξ (·=q) w).setCell (p:=⟨q,0,O⟩) (λ_=>rfl) e).setCell (p:=⟨q,1,O⟩) (λ_=>rfl) a).setCell (p:=⟨q,2,O⟩) (λ_=>rfl) f).setCell (p:=⟨q,3,O⟩) (λ_=>rfl) d).setCell (p:=⟨q,4,O⟩) (λ_=>rfl) g).setCell (p:=⟨q,5,O⟩) (λ_=>rfl) b).setCell (p:=⟨q,6,O⟩) (λ_=>rfl) c)⟩
theorem cR{a b d:World}(c:Below a.heap.size a b)(k:Below b.heap.size b d):Below a.heap.size a d:=c.trans (k.mono c.size)
theorem cq{w:World}{a:Nat}{o:Obj}(b:w.heap[a]? =W o):w.drew.heap[a]? =W o:=b
theorem Far.new{a b c:World}{q:Nat}(d:Far xO a b)(f:a.heap.size<=q)(k:Far (·=q) b c):Below a.heap.size a c:=(d.step k (λi g e=>by omega)).to_below (η _) (λ_ _ e=>e)
theorem fW(d:Int)(a:Option Addr)(n f i:Nat)(j:i < n)(w:World):Calls π 162 #[γ #[V I d,Y a n f],V I (i:Int)] w λe w'=>e=ρ (β true)/\Below w.heap.size w w':=by
 have c:=λb=>uJ (i:Int) 0 b;rw[decide_eq_true (Int.natCast_nonneg i)]at c;have g:=λb=>wG (i:Int) (n:Int) b;rw[decide_eq_true (by omega:(i:Int) < (n:Int))]at g
 go_enter func162,ntmps162
 go_wp2_with fail
 go_ret
 exact⟨rfl,(ζ _ _).alloc (η _) _⟩
theorem qx{d:Func}{a e:Tmp}(g:d.results=#[.cell a 256,.tmp e])(c:World)(q:Nat)(x:Array Value)(b:Array Value)(j:c.heap[q]? =W (J x 256 (0,0)))(l:x.size=7)(k:b.getD a undef=Z (W ⟨q,0,O⟩)):
 (results d b).run π c=.ok (.tuple #[γ x,b.getD e undef]) c:=by
 have f:b[a]?.getD undef=Z (W ⟨q,0,O⟩):=by simpa using k
 have i:=run_loadVar_row (P:=π) c q 256 256 x (0,0) _ j underlying256 rfl (by rw[l];kernel_rfl);simp[results,g,asAddr,f,i,Sem.run_bind,Result.andThen]
def yH(x:Tp.Nd)(kv a:Value)(n:Nat):Value:=γ #[V I x.k,V I x.x.k,V I x.x.n,xR x.x.s,kv,a,V I (n:Int)]
theorem cj(c:Int)(D:NS)(v kv r:Value)(n i:Nat)(x:Tp.Nd)(w:World)(b:yN w D v n i x kv r):Calls π 121 #[γ #[V I c,v],V I (i:Int)] w λe w'=>e=ρ (.tuple #[yH x kv r n,V I 0])/\Below w.heap.size w w':=by
 obtain⟨d,o,cap,rfl,a5,s,t,u,c3,c4,c5⟩:=b.cells;have q:=fW c (W ⟨d,o,O⟩) n cap i b.lt;have an:=b.lt;unfold yH;obtain⟨H,l,rfl,_⟩:=b.key.form;obtain⟨L,j,rfl,_⟩:=b.kid.form;obtain⟨g,z⟩:∃g,xR x.x.s=U g:=⟨_,rfl⟩;rw[z]at c3 ⊢;generalize x.k=K at *;generalize x.x.k=E at *;generalize x.x.n=F at *;generalize x.keys.length=M at *;generalize x.kids.length=G at *;have y:=zD q;clear q b z;have a6:(0:Int)<=(i:Int):=by omega
 have N:(i:Int) < (n:Int):=by omega
 go_enter func121,ntmps121
 go_wp2_with fail
 refine(y.out _).mono ?_;rintro e P ⟨rfl,f⟩;have m:Far xO w ((w.alloc (J #[V I c,Y (W ⟨d,o,O⟩) n cap] 54)).alloc (J #[V I 0,V I 0,V I 0,U ⟨#[]⟩,Y O 0 0,Y O 0 0,V I 0] 256)):=((ξ _ w).alloc _).alloc _;have a:=m.below f;have p:=(f.block w.heap.size (by simp;omega)).trans (aa _ (af w (J #[V I c,Y (W ⟨d,o,O⟩) n cap] 54)));have k:=(f.block (w.heap.size+1) (by simp)).trans (ah (w.alloc (J #[V I c,Y (W ⟨d,o,O⟩) n cap] 54)) (J #[V I 0,V I 0,V I 0,U ⟨#[]⟩,Y O 0 0,Y O 0 0,V I 0] 256) (w.heap.size+1) (by simp))
 replace s:=a.at s id
 replace t:=a.at t id
 replace u:=a.at u id
 replace c3:=a.at c3 id
 replace c4:=a.at c4 id
 replace c5:=a.at c5 id
 have ao:=zF p 1 rfl;obtain⟨a3,ac,T,a1,X,R,av,a4,S,a0,ab,a2,ad,al⟩:=bd k;obtain⟨A,C⟩:=zx2 k a;clear f m a p k y
 go_wp2_with fail
 go_region
 all_goals (
  go_wp2_with fail
  obtain⟨l,j⟩:=xK A.out (V I K) (V I E) (V I F) (U g) (Y H M l) (Y L G j) (V I (n:Int));exact bodyPost_ret (qx results121 _ _ _ _ (cq l) rfl rfl) rfl ⟨rfl,C.out.new (by omega) j.drew⟩)
theorem vU:prog.underlying 4=W .bool:=by kernel_rfl
theorem a7(b:Nat)(k:b=246\/b=240)(q n:Nat)(m:n<=100)(w:World)(i:∀j,j < n->w.cell? ⟨q,j,O⟩=W (β true)):Calls π b #[Y (W ⟨q,0,O⟩) n n] w λe w'=>e=ρ (β true)/\w'=w:=by
 have c:=bY Value.bool (λx a=>x==a) (Go.Proofs.EqlAt.bool 4 vU) q 0 n n (List.replicate n true) false w (by simp) (by omega) (λj d=>by
  rw[List.length_replicate]at d;rw[Nat.zero_add,i j d];simp[d])
 have f:(((List.replicate n true).take n).any λa=>false==a)=false:=by simp
 rw[f]at c;have g:=zD c;clear c f i;rcases k with rfl|rfl
 ·go_enter func246,ntmps246
  go_wp2_with fail
  refine g.out.mono ?_;rintro e l ⟨rfl,rfl⟩
  go_wp2_with fail
  go_ret
  exact⟨rfl,rfl⟩
 ·go_enter func240,ntmps240
  go_wp2_with fail
  refine g.out.mono ?_;rintro e l ⟨rfl,rfl⟩
  go_wp2_with fail
  go_ret
  exact⟨rfl,rfl⟩
theorem o8(K b c g:Int)(a T:ByteArray)(i k:Option Addr)(ad ac f d:Nat)(w:World)(q:∀m,Far xO w m->Calls π 20 #[γ #[V I b,V I c,U a]] m λe w'=>e=ρ (β true)/\Below m.heap.size m w'):
 Calls π 214 #[γ #[V I K,V I b,V I c,U a,Y i 0 f,Y k 0 d,V I g]] w λe w'=>e=ρ (β true)/\Below w.heap.size w w':=by
 have p:Far xO w (w.alloc (J #[V I K,V I b,V I c,U a,Y i 0 f,Y k 0 d,V I g] 256)):=(ξ _ w).alloc _;have o:=af w (J #[V I K,V I b,V I c,U a,Y i 0 f,Y k 0 d,V I g] 256);obtain⟨S,N,L,R,M,H,P,_⟩:=bd o;have A:=zD q;clear q
 go_enter func214,ntmps214
 go_upto_region 1 with (fail)
 have t:=zD p;generalize (w.alloc (J #[V I K,V I b,V I c,U a,Y i 0 f,Y k 0 d,V I g] 256))=l at *;have G:∀wx,Far xO l wx->wx.cell? ⟨w.heap.size,0,O⟩=W (V I K)/\wx.cell? ⟨w.heap.size,1,O⟩=W (V I b)/\wx.cell? ⟨w.heap.size,2,O⟩=W (V I c)/\wx.cell? ⟨w.heap.size,3,O⟩=W (U a)/\wx.cell? ⟨w.heap.size,4,O⟩=W (Y i 0 f)/\wx.cell? ⟨w.heap.size,5,O⟩=W (Y k 0 d)/\wx.cell? ⟨w.heap.size,6,O⟩=W (V I g):=λwx y=>by obtain⟨r,u,F,v,z,x,s,_⟩:=bd (y.heap o id);exact⟨r,u,F,v,z,x,s⟩
 go_region_held3 (λw'=>w'.cell? ⟨w.heap.size,0,O⟩=W (V I K)/\w'.cell? ⟨w.heap.size,1,O⟩=W (V I b)/\w'.cell? ⟨w.heap.size,2,O⟩=W (V I c)/\w'.cell? ⟨w.heap.size,3,O⟩=W (U a)/\w'.cell? ⟨w.heap.size,4,O⟩=W (Y i 0 f)/\w'.cell? ⟨w.heap.size,5,O⟩=W (Y k 0 d)/\w'.cell? ⟨w.heap.size,6,O⟩=W (V I g)) (exact G _ (by repeat (first|exact ξ _ _|assumption|refine Far.drew ?_|refine Far.alloc ?_ _|refine Far.drewN ?_ _))) (first|(go_at_call 20;refine(A.out l.drew p.drew).mono ?_;rintro e n ⟨rfl,D⟩;have ab:Far xO l n:=((ξ _ l).drew).below D)|(go_at_call 246;refine(a7 246 (.inl rfl) _ 3 (by omega) _ (by intro j X;have C:j=0\/j=1\/j=2:=(by omega);rcases C with rfl|rfl|rfl<;>exact aY rfl rfl)).mono ?_;rintro e al ⟨rfl,rfl⟩))
 have E:Far xO l (n.alloc (J #[β true,β true,β true] 4)):=by repeat (first|exact ξ _ _|assumption|refine Far.drew ?_|refine Far.alloc ?_ _|refine Far.drewN ?_ _)
 go_wp2_with fail
 go_ret
 exact⟨rfl,(t.out.trans E).to_below (η _) (λ_ _ e=>e)⟩
theorem o7(K b c T:Int)(a g:ByteArray)(i k:Option Addr)(ad ac f d:Nat)(w:World)(q:∀m,Far xO w m->Calls π 20 #[γ #[V I b,V I c,U a]] m λe w'=>e=ρ (β true)/\Below m.heap.size m w'):
 Calls π 207 #[γ #[V I K,U g,V I b,V I c,U a,Y i 0 f,Y k 0 d]] w λe w'=>e=ρ (β true)/\Below w.heap.size w w':=by
 have p:Far xO w (w.alloc (J #[V I K,U g,V I b,V I c,U a,Y i 0 f,Y k 0 d] 161)):=(ξ _ w).alloc _;have o:=af w (J #[V I K,U g,V I b,V I c,U a,Y i 0 f,Y k 0 d] 161);obtain⟨S,N,L,R,M,H,P,_⟩:=bd o;have A:=zD q;clear q
 go_enter func207,ntmps207
 go_upto_region 1 with (fail)
 have t:=zD p;generalize (w.alloc (J #[V I K,U g,V I b,V I c,U a,Y i 0 f,Y k 0 d] 161))=l at *;have G:∀wx,Far xO l wx->wx.cell? ⟨w.heap.size,0,O⟩=W (V I K)/\wx.cell? ⟨w.heap.size,1,O⟩=W (U g)/\wx.cell? ⟨w.heap.size,2,O⟩=W (V I b)/\wx.cell? ⟨w.heap.size,3,O⟩=W (V I c)/\wx.cell? ⟨w.heap.size,4,O⟩=W (U a)/\wx.cell? ⟨w.heap.size,5,O⟩=W (Y i 0 f)/\wx.cell? ⟨w.heap.size,6,O⟩=W (Y k 0 d):=λwx y=>by obtain⟨r,u,F,v,z,x,s,_⟩:=bd (y.heap o id);exact⟨r,u,F,v,z,x,s⟩
 go_region_held3 (λw'=>w'.cell? ⟨w.heap.size,0,O⟩=W (V I K)/\w'.cell? ⟨w.heap.size,1,O⟩=W (U g)/\w'.cell? ⟨w.heap.size,2,O⟩=W (V I b)/\w'.cell? ⟨w.heap.size,3,O⟩=W (V I c)/\w'.cell? ⟨w.heap.size,4,O⟩=W (U a)/\w'.cell? ⟨w.heap.size,5,O⟩=W (Y i 0 f)/\w'.cell? ⟨w.heap.size,6,O⟩=W (Y k 0 d)) (exact G _ (by repeat (first|exact ξ _ _|assumption|refine Far.drew ?_|refine Far.alloc ?_ _|refine Far.drewN ?_ _))) (first|(go_at_call 20;refine(A.out l.drew p.drew).mono ?_;rintro e n ⟨rfl,D⟩;have ab:Far xO l n:=((ξ _ l).drew).below D)|(go_at_call 240;refine(a7 240 (.inr rfl) _ 3 (by omega) _ (by intro j X;have C:j=0\/j=1\/j=2:=(by omega);rcases C with rfl|rfl|rfl<;>exact aY rfl rfl)).mono ?_;rintro e al ⟨rfl,rfl⟩))
 have E:Far xO l (n.alloc (J #[β true,β true,β true] 4)):=by repeat (first|exact ξ _ _|assumption|refine Far.drew ?_|refine Far.alloc ?_ _|refine Far.drewN ?_ _)
 go_wp2_with fail
 go_ret
 exact⟨rfl,(t.out.trans E).to_below (η _) (λ_ _ e=>e)⟩
theorem iW(x:Tp.Sc)(a:x8 x=true)(b:x.s.length<=1000)(w:World)(c:Glob w):Calls π 20 #[scV x] w λe w'=>e=ρ (β true)/\Below w.heap.size w w':=by
 rw[<-a];exact fy x b w c
theorem ki(c:Nat)(o:c=279\/c=273)(x:Tp.Sc)(p:x8 x=true)(q:x.s.length<=1000)(w:World)(i:Glob w):Calls π c #[scV x] w λe w'=>e=ρ (β false)/\Below w.heap.size w w':=by
 have l:=λn i=>iW x p q n i;have d:Below w.heap.size w (w.alloc (J #[V I x.k,V I x.n,xR x.s] 30)):=(ζ _ _).alloc (η _) _;have j:=l _ (i.step d);unfold scV at j ⊢;obtain⟨b,f⟩:=zx2 d j;clear l j d;obtain⟨k,r⟩:∃k,xR x.s=U k:=⟨_,rfl⟩;rw[r]at f b ⊢;rcases o with rfl|rfl
 ·go_enter func279,ntmps279
  go_wp2_with fail
  refine f.out.mono ?_;rintro e m ⟨rfl,a⟩;have g:=cR b.out a;clear a
  go_wp2_with fail
  go_ret
  exact⟨rfl,g⟩
 ·go_enter func273,ntmps273
  go_wp2_with fail
  refine f.out.mono ?_;rintro e m ⟨rfl,a⟩;have g:=cR b.out a;clear a
  go_wp2_with fail
  go_ret
  exact⟨rfl,g⟩
theorem rT(a:Nat)(b:a=279\/a=273)(args:Array Value)(w:World):(callFunc a args).run π w=.ok (.enter a args) w:=by rcases b with rfl|rfl<;>kernel_rfl
theorem ms(d:Nat)(A:d=279\/d=273)(b:List Tp.Sc)(v:Value)(G:NS)(w:World)(r:Row w G b.length v (xV b))(q:∀x∈b,x8 x=true/\x.s.length<=1000)(m:Glob w):Calls π 300 #[v,φ (.func d) #[] #[]] w λe w'=>e=ρ (V I (-1))/\Below w.heap.size w w':=by
 obtain⟨a,an,rfl,D⟩:=r.form;have E:=λ(i:Nat) (x:Tp.Sc) (f:b[i]? =W x) (t:World) (m:Glob t)=>ki d A x (q x (zL (l:=b) (i:=i) f)).1 (q x (zL (l:=b) (i:=i) f)).2 t m;have L:b.length<=9223372036854775807:=D;obtain⟨c,C⟩:∃c,b.length=c:=⟨_,rfl⟩;have ao:=rT d A;obtain⟨z,H,P⟩:=zx3 r m E;rw[C]at L z ⊢;clear E r q D m
 go_enter func300,ntmps300
 go_wp2_with fail
 go_loopw [5,8] (λ_ p wr=>∃j:Nat,j<=c/\p=V I (j:Int)/\Below w.heap.size w wr) (λ_ p _=>c - (Lib.intOf p).toNat)
 case atStart=>exact⟨0,z_ _,rfl,ζ _ _⟩
 case round=>
  obtain⟨j,al,rfl,k⟩:=hrel;by_cases y:j < c
  ·obtain⟨x,f⟩:∃x,b[j]? =W x:=⟨_,zE (by rw[C];exact y)⟩
   obtain⟨g,o,cap,e,_,X,ab,ac,N⟩:=(z.out.below k).sc f;injection e with e1 e2 e3;subst e1 e3;have n:=P.out j x f wr (H.out.step k);unfold scV at n;obtain⟨s,S⟩:∃s,xR x.s=U s:=⟨_,rfl⟩;rw[S]at n N;have M:=zD n;have F:(j:Int) < (c:Int):=by omega
   have ad:(0:Int)<=(j:Int):=by omega
   clear n f
   go_wp2_with (go_at_fn d;refine M.out.mono ?_;rintro e T ⟨rfl,u⟩;have R:=cR k u;clear u)
   go_roundw
   case rel=>exact⟨j+1,y,by go_num,R⟩
   case measure=>simp[Lib.intOf];omega
  ·have F:¬(j:Int) < (c:Int):=by omega
   go_wp2_with fail
   go_ret
   exact⟨rfl,k⟩
theorem eE(a:Nat)(g:a=279\/a=273)(b:List Tp.Sc)(v:Value)(c:NS)(w:World)(f:Row w c b.length v (xV b))(d:∀x∈b,x8 x=true/\x.s.length<=1000)(k:Glob w):Calls π 274 #[v,φ (.func a) #[] #[]] w λe w'=>e=ρ (β false)/\Below w.heap.size w w':=by
 have i:=zD (ms a g b v c w f d k);clear f d
 go_enter func274,ntmps274
 go_wp2_with fail
 refine i.out.mono ?_;rintro e l ⟨rfl,j⟩
 go_wp2_with fail
 go_ret
 exact⟨rfl,j⟩
theorem nG:laidOutB π=true:=by kernel_rfl
theorem vT:(match prog.underlying 30 with|some (.array _ _)|some (.struct _)=>true|_=>false)=true:=by kernel_rfl
theorem uN:(match prog.underlying 387 with|some (.array _ _)|some (.struct _)=>true|_=>false)=true:=by kernel_rfl
theorem mD:Maps.Keyed π 30:=Maps.Keyed.of_law (deep_law_laid nG (m:=3) (by omega) (of_decide_eq_true (by kernel_rfl)) (by kernel_rfl) vT)
theorem eY:Maps.Keyed π 387:=Maps.Keyed.of_law (deep_law_laid nG (m:=4) (by omega) (of_decide_eq_true (by kernel_rfl)) (by kernel_rfl) uN)
theorem lJ:prog.underlying 30=W (.struct (prog.fieldsOf 30)):=by kernel_rfl
theorem iK:prog.underlying 387=W (.struct (prog.fieldsOf 387)):=by kernel_rfl
theorem xH:(prog.fieldsOf 30).toList.map (λa=>(a.type,a.offset,a.name != "_"))=[(3,0,true),(3,1,true),(9,2,true)]:=by kernel_rfl
theorem wR:(prog.fieldsOf 387).toList.map (λa=>(a.type,a.offset,a.name != "_"))=[(3,0,true),(30,1,true),(9,4,true),(9,5,true)]:=by kernel_rfl
theorem xI:prog.cellsOf 30=3:=by kernel_rfl
theorem co3:prog.cellsOf 3=1:=by kernel_rfl
theorem co9:prog.cellsOf 9=1:=by kernel_rfl
theorem xD:prog.cellsOf 387=6:=by kernel_rfl
theorem un3:prog.underlying 3=W (.int I):=by kernel_rfl
theorem un9:prog.underlying 9=W .string:=by kernel_rfl
theorem xN:prog.keyType 30=true:=by kernel_rfl
theorem xz:prog.keyType 387=true:=by kernel_rfl
theorem tsz:prog.types.size=3+(prog.types.size - 3):=by kernel_rfl
theorem xy(d:Nat)(n:Int)(a:(Lit.int I n).wf=true):prog.keyLits (d+1) 3 [.int I n]=W [.int I n]:=by
 simp[Program.keyLits,un3,a]
theorem xx(d:Nat)(s:ByteArray)(a:s.size<=maxLen):prog.keyLits (d+1) 9 [.string s]=W [.string s.data.toList]:=by
 simp[Program.keyLits,un9,a]
theorem fO{α c d:Type}(b:α->c)(a:c->Option d):∀l:List α,(l.map b).mapM a=l.mapM (λx=>a (b x))
 | []=>rfl
 |x::r=>by rw[List.map_cons,List.mapM_cons,List.mapM_cons,fO b a r]
theorem lj(b:Array Field)(l:List (TypeId × Nat × Bool))(c:b.toList.map (λa=>(a.type,a.offset,a.name != "_"))=l)(d:l.all (λx=>x.2.2)=true):b.all (·.name != "_")=true:=by
 rw[<-Array.all_toList,<-d,<-c,List.all_map];rfl
theorem uE(d:Nat)(k n:Int)(s:ByteArray)(c:(Lit.int I k).wf=true)(b:(Lit.int I n).wf=true)(e:s.size<=maxLen):prog.keyLits (d+1+1) 30 [.int I k,.int I n,.string s]=W [.int I k,.int I n,.string s.data.toList]:=by
 unfold Program.keyLits;simp only[lJ];rw[if_pos ⟨xI.symm,lj _ _ xH rfl⟩];have:=fO (λa:Field=>(a.type,a.offset,a.name != "_")) (λx=>prog.keyLits (d+1) x.1 (([Value.int I k,.int I n,.string s].drop x.2.1).take (prog.cellsOf x.1))) (prog.fieldsOf 30).toList;rw[xH]at this;rw[<-this];simp[co3,co9,xy d _ c,xy d _ b,xx d _ e]
theorem vy(d:Nat)(c k n:Int)(s a e:ByteArray)(m:(Lit.int I c).wf=true)(i:(Lit.int I k).wf=true)(f:(Lit.int I n).wf=true)(o:s.size<=maxLen)(g:a.size<=maxLen)(j:e.size<=maxLen):∃l,prog.keyLits (d+1+1+1) 387 [.int I c,.int I k,.int I n,.string s,.string a,.string e]=W l:=by
 unfold Program.keyLits;simp only[iK];rw[if_pos ⟨xD.symm,lj _ _ wR rfl⟩];have:=fO (λb:Field=>(b.type,b.offset,b.name != "_")) (λx=>prog.keyLits (d+1+1) x.1 (([Value.int I c,.int I k,.int I n,.string s,.string a,.string e].drop x.2.1).take (prog.cellsOf x.1))) (prog.fieldsOf 387).toList;rw[wR]at this;rw[<-this];simp[co3,co9,xI,xy (d+1) _ m,uE d k n s i f o,xx (d+1) _ g,xx (d+1) _ j]
theorem uO(n:Int)(b:-9223372036854775808<=n)(a:n<=9223372036854775807):(Lit.int I n).wf=true:=by
 simp[Lit.wf,IntKind.min,IntKind.max,IntKind.bits,IntKind.signed]
 omega
theorem xA(k n:Int)(s:ByteArray)(d:(Lit.int I k).wf=true)(c:(Lit.int I n).wf=true)(e:s.size<=maxLen):∃l,keyOf π 30 (γ #[.int I k,.int I n,.string s])=W l:=by
 unfold keyOf;rw[lJ];simp only;have b:(Value.agg #[.int I k,.int I n,.string s]).formed π 30=true:=by simp[Value.formed,lJ,xI]
 rw[xN,b];have a:=uE (prog.types.size - 3+2) k n s d c e;rw[show prog.types.size - 3+2+1+1=prog.types.size+1 by have:=tsz;omega]at a;exact⟨_,by rw[show (Value.agg #[.int I k,.int I n,.string s]).cells.toList=[.int I k,.int I n,.string s]from rfl,a];rfl⟩
theorem wO(b k n:Int)(s a c:ByteArray)(m:(Lit.int I b).wf=true)(i:(Lit.int I k).wf=true)(f:(Lit.int I n).wf=true)(o:s.size<=maxLen)(g:a.size<=maxLen)(j:c.size<=maxLen):∃l,keyOf π 387 (γ #[.int I b,.int I k,.int I n,.string s,.string a,.string c])=W l:=by
 unfold keyOf;rw[iK];simp only;have e:(Value.agg #[.int I b,.int I k,.int I n,.string s,.string a,.string c]).formed π 387=true:=by simp[Value.formed,iK,xD]
 rw[xz,e];obtain⟨l,d⟩:=vy (prog.types.size - 3+1) b k n s a c m i f o g j;rw[show prog.types.size - 3+1+1+1+1=prog.types.size+1 by have:=tsz;omega]at d;exact⟨_,by rw[show (Value.agg #[.int I b,.int I k,.int I n,.string s,.string a,.string c]).cells.toList=[.int I b,.int I k,.int I n,.string s,.string a,.string c]from rfl,d];rfl⟩
section
attribute [local go_sem] ak
def yB:List Tp.Sc->List Tp.Sc->Nat
 |_,[]=>0
 |met,x::r=>if x∈met then 0 else yB (met++[x]) r+1
theorem dT:∀(l a:List Tp.Sc),yB a l<=l.length
 | [],_=>η _
 |x::r,a=>by
  unfold yB;split
  ·exact z_ _
  ·have:=dT r (a++[x])
   rw[zO];omega
theorem eI:∀(l b:List Tp.Sc),b.Nodup->(yB b l=l.length↔(b++l).Nodup)
 | [],b,h=>by simp[yB,h]
 |x::r,b,h=>by
  unfold yB;by_cases c:x∈b
  ·rw[if_pos c]
   constructor
   ·intro e;simp at e
   ·intro f
    rw[List.nodup_append]at f;exact absurd rfl (f.2.2 x c x (by simp))
  ·have g:(b++[x]).Nodup:=by
    rw[List.nodup_append];exact⟨h,by simp,λa i j d e=>by simp at d;subst d;subst e;exact c i⟩
   rw[if_neg c,zO,Nat.add_right_cancel_iff,eI r _ g,List.append_assoc];rfl
theorem fZ:∀(l a:List Tp.Sc) (t:Nat) (x:Tp.Sc),t<=yB a l->l[t]? =W x->(t < yB a l↔x ∉ a++l.take t)
 | [],a,t,x,_,h=>by simp at h
 |y::r,a,0,x,_,h=>by
  simp at h
  subst h;unfold yB;by_cases b:y∈a<;>simp[b]
 |y::r,a,t+1,x,ht,h=>by
  unfold yB at ht ⊢;by_cases b:y∈a
  ·rw[if_pos b]at ht;omega
  ·rw[if_neg b]at ht ⊢
   rw[Nat.add_lt_add_iff_right,fZ r (a++[y]) t x (by omega) (by simpa using h),List.append_assoc];rfl
theorem rH(v:Value)(c:∃a n b,v=Y a n b)(w:World):Calls π 25 #[v] w λe w'=>e=ρ (φ (.func 41) #[] #[Z (W ⟨w.heap.size,0,O⟩)])/\w'=w.alloc (J #[v] 28):=by
 obtain⟨a,n,b,rfl⟩:=c
 go_enter func25,ntmps25
 go_wp2
 go_ret
 exact⟨rfl,rfl⟩
theorem ue(args:Array Value)(w:World):(callFunc 41 args).run π w=.ok (.enter 41 args) w:=by kernel_rfl
theorem jA(w:World):(zeroValue 4).run π w=.ok (β false) w:=by kernel_rfl
def AN(l:List Tp.Sc):List (Value × Value):=l.map λx=>(scV x,β true)
theorem qh{x c:Tp.Sc}(b:scV x=scV c):x=c:=by
 obtain⟨a,e,g⟩:=x;obtain⟨d,i,f⟩:=c;unfold scV xR at b;simp at b
 obtain⟨rfl,rfl,b⟩:=b;rw[b]
def AO(x:Tp.Sc):Prop:=(Lit.int I x.k).wf=true/\(Lit.int I x.n).wf=true/\x.s.length<=1000
theorem wN(x:Tp.Sc)(a:AO x):∃l,keyOf π 30 (scV x)=W l:=xA _ _ _ a.1 a.2.1 (Nat.le_trans (show (⟨x.s.toArray⟩:ByteArray).size<=1000 from a.2.2) (by decide))
theorem pk(c:List Tp.Sc)(v:Value)(u:NS)(E:Nat)(w:World)(cm:∀x∈c,AO x)(bm:∀k,u k->k < w.heap.size)(f:Row w u c.length v (xV c))(A:w.heap[E]? =W (.cells #[v] 28 (0,0))):
 yQ π 41 #[.pointer (W ⟨E,0,O⟩)] 3 (yB [] c) (λ_ e8 d2 _=>e8.size=1/\d2=xO) xO (λk=>k=E\/u k) True (λ_ _=>True) (λ_=>True) w:=by
 intro l J fz ac d al b4 hF0 a5 bR bD cc bw
 replace A:=(al.block _ (lt_of_heap A)).trans A
 replace f:=f.below al
 obtain⟨base,ca⟩:∃be,w.heap.size=be:=⟨_,rfl⟩;rw[ca]at a5 bR;have fr:base<=d.heap.size:=by have:=al.size;omega
 have c4:∀k,ac k->k≠d.heap.size/\k≠E/\¬u k:=λk b=>⟨λe=>by have:=(bD 0 ac d bw).2 trivial k b;omega,λe=>(hF0 k b).2 (.inl e),λe=>(hF0 k b).2 (.inr e)⟩;obtain⟨a,dv,rfl,ch⟩:=f.form;have fs:c.length<=9223372036854775807:=ch;have a4:RowKit.Hid (∀k,u k->k < d.heap.size):=zD (λk r=>by have:=bm k r;omega);obtain⟨av,f4,cv,b3,bx,a2⟩:=zx6 a5 bR cc c4 A f;obtain⟨dc,ei⟩:=zx2 bD cm;have ao:=zF A 0 rfl;have db:=lt_of_heap A;clear a5 bR cc c4 A f hF0 al b4 ca bD ch cm bm;obtain⟨s,a6⟩:∃s,c.length=s:=⟨_,rfl⟩;obtain⟨y,an⟩:∃y,yB [] c=y:=⟨_,rfl⟩;have f6:y<=s:=by rw[<-an,<-a6];exact dT _ _
 rw[a6]at fs a2 bx ao;have c2:=cv;rw[an]at c2 ⊢;clear cv;have c5:=aL (P:=π) (K:=30) d;have R:Far xO d (d.alloc (.map #[] 0)):=(ξ _ d).alloc _;have ab:=a2.out.far R (λ_ _ _ e=>e);have ga:=R.heap bx.out (λe=>e);have dp:=av.out 0 ac _ _ bw (R.mono (λ_ _ e=>e.elim))
 replace ao:=R.at ao id
 have ex:=a2.out;have f5:=@run_makeMap π
 go_enter func41,ntmps41
 go_wp2_with fail
 go_step3
 go_wp2_with fail
 go_step3
 go_wp2_with fail
 obtain⟨S,c9⟩:∃be,d.heap.size=be:=⟨_,rfl⟩;rw[c9]at c5 b3 db fr a4 ⊢;have d4:∀k,u k->k≠S:=λk r e=>by have:=a4.out k r;omega
 clear R bw a2 bx ex c9
 go_loopw [9] (λa9 wr=>∃(t:Nat) (i:NS),a9=.int I (t:Int)/\t<=y/\xW π 30 wr S (AN (c.take t))/\Row wr u s (Y a s dv) (xV c)/\J t i wr/\(∀k,i k->k≠S/\k≠E/\¬u k)) (λa9 _=>s - (Lib.intOf a9).toNat)
 case atStart=>exact⟨0,ac,rfl,z_ _,c5,ab,dp,b3.out⟩
 case round=>
  obtain⟨t,i,rfl,d6,N,f,C,ad⟩:=hrel;by_cases er:t < s
  ·obtain⟨x,D⟩:∃x,c[t]? =W x:=⟨_,zE (by rw[a6];exact er)⟩
   obtain⟨g,o,cap,e,bm,f0,ao,f1,b5⟩:=f.sc D;injection e with e1 e2 e3;subst e1 e3;have en:=ei.out x (zL D);obtain⟨fG,bn⟩:=wN x en;have M:=fZ c [] t x (by rw[an];exact d6) D;rw[an,List.nil_append]at M;have z:Far xO wr (wr.alloc (.cells #[.int I x.k,.int I x.n,xR x.s] 30)):=(ξ _ wr).alloc _;have F:=N.far z (λe=>e);have d1:(t:Int) < (s:Int):=by omega
   have f9:(0:Int)<=(t:Int):=by omega
   by_cases L:x∈c.take t
   ·have d3:t=y:=by
     have f7:¬t < y:=λb=>M.1 b L;omega
    have j:=F.look_in mD underlying88 (jA _) (scV x) bn false (.bool true) (List.mem_map.2 ⟨x,L,rfl⟩) (λp T _=>by obtain⟨ct,_,rfl⟩:=List.mem_map.1 T;rfl);unfold scV at j;obtain⟨m,b0⟩:∃m,xR x.s=.string m:=⟨_,rfl⟩;rw[b0]at j b5 z;simp only[Bool.false_eq_true,if_false]at j;subst d3;have b9:=av.out _ i _ _ C (z.mono (λ_ _ e=>e.elim));have bb:=zD b9;clear F N f C ad D b9 M
    go_wp2_with fail
    go_end0
    exact⟨⟨_,rfl⟩,.inl ⟨i,bb.out,trivial⟩⟩
   ·have fl:t < y:=M.2 L
    have j:=F.look_out mD underlying88 (jA _) (scV x) bn false (λp T=>by
     obtain⟨ct,H,rfl⟩:=List.mem_map.1 T;exact λe=>L (qh e ▸ H))
    have X:=λ(d:World) (b:xW π 30 d S (AN (c.take t)))=>b.put mD underlying88 (scV x) (.bool true) bn (λp T=>by
     obtain⟨ct,H,rfl⟩:=List.mem_map.1 T;exact λe=>L (qh e ▸ H))
    have co:AN (c.take t)++[(scV x,.bool true)]=AN (c.take (t+1)):=by rw[zG,D];simp[AN]
    rw[co]at X;unfold scV at j X;obtain⟨m,b0⟩:∃m,xR x.s=.string m:=⟨_,rfl⟩;rw[b0]at j X b5 z F;simp only[Bool.false_eq_true,if_false]at j;have ab:=f.far z (λ_ _ _ e=>e);have c1:=av.out _ i _ _ C (z.mono (λ_ _ e=>e.elim));have a1:=af wr (.cells #[.int I x.k,.int I x.n,.string m] 30);have ds:=N.lt;have cf:∀k,i k->k < wr.heap.size:=λk b=>(dc.out t i wr C).2 trivial k b;obtain⟨ft,d5,e9,ba,e0,c0⟩:=zx6 F ab c1 ad X j;clear N f C ad D M F ab c1 X z co j
    go_upto_region 4 with (fail)
    refine(wpIn_wide (n:=4)).1 ?_;obtain⟨q,d0⟩:∃q,wr.heap.size=q:=⟨_,rfl⟩;rw[d0]at a1 ds cf ⊢;have b4:q < (wr.alloc (.cells #[.int I x.k,.int I x.n,.string m] 30)).heap.size:=lt_of_heap a1;have j:=c0.out;clear c0;generalize (wr.alloc (.cells #[.int I x.k,.int I x.n,.string m] 30))=eg at *;obtain⟨dr,e4,fn,_⟩:=bv a1;obtain⟨f8,f3,assign,body,H,b1⟩:=c2.out t fl i xO #[γ #[.int I x.k,.int I x.n,.string m]] eg e9.out ⟨rfl,rfl⟩ (λk b=>b.elim);have c6:=zD b1;clear b1
    gi_wp2
    refine(c6.out).mono ?_;rintro e eq ⟨a0,⟨G,a3⟩,(⟨rfl,c3⟩|⟨rfl,b6⟩)⟩
    ·have b8:=ft.out.far G (λb=>(ba.out _ b).1 rfl)
     have ck:=d5.out.far G (λk r _ b=>(ba.out k b).2.2 r);have da:=G.heap a1 (λb=>Nat.lt_irrefl _ (cf _ b));have bk:∀k,a0 k->k≠S/\k≠E/\¬u k:=by
      intro k b;rcases a3 k b with b|b|b
      ·exact ba.out k b
      ·exact b.elim
      ·exact⟨by omega,by omega,λr=>by have:=a4.out k r;omega⟩
     obtain⟨fR,f2,cl,bs⟩:=e0.out eq b8;obtain⟨dr,e4,fn,_⟩:=bv da;have cb:=ck.far bs (λk r _ e=>d4 k r e);have b2:=av.out _ a0 _ _ c3 (bs.mono (λk _ e=>⟨λb=>(bk k b).1 e,.inr (by omega)⟩));obtain⟨e5,dn,es,e7⟩:=zx4 cl cb b2 bk;clear cl cb b2 bk c3 a3 G bs b8 ck da c6 H
     gi_wp2
     go_wp2_with fail
     go_roundw
     case rel=>exact⟨t+1,a0,rfl,by omega,e5.out,dn.out,es.out,e7.out⟩
     case measure=>simp[Lib.intOf];omega
    ·have fv:=zD b6
     clear b6 G a3
     gi_wp2
     go_wp2_with fail
     rw[Exit.noGoto_normal]
     go_end0
     exact⟨⟨_,rfl⟩,.inr ⟨a0,fv.out⟩⟩
  ·have df:t=y:=by omega
   have d1:¬(t:Int) < (s:Int):=by omega
   subst df;have bb:=zD C;clear N f C ad
   go_wp2_with fail
   go_end0
   exact⟨⟨_,rfl⟩,.inl ⟨i,bb.out,trivial⟩⟩
end
section
attribute [local go_sem] ak
attribute [local go_sem] Oper.semAt_some
theorem rI(a:List Tp.Sc):decide (yB [] a < a.length)=Tp.twice a:=by
 have b:=eI a [] List.nodup_nil;have f:=dT a [];rw[List.nil_append]at b;have e:∀l:List Tp.Sc,Tp.twice l=false↔l.Nodup:=by
  intro l;induction l with
  |nil=>simp[Tp.twice]
  |cons x r ih=>simp[Tp.twice,ih]
 cases c:Tp.twice a with
 |false=>rw[decide_eq_false];have:=b.2 ((e a).1 c);omega
 |true=>
  rw[decide_eq_true];rcases Nat.lt_or_ge (yB [] a) a.length with d|d
  ·exact d
  ·rw[(e a).2 (b.1 (by omega))]at c;cases c
def CtI(w:World)(q b t:Nat)(c:NS)(a:World):Prop:=c=(·=q)/\t<=b/\a.heap[q]? =W (J #[V I (t:Int)] 3 (0,0))/\Below w.heap.size w a
theorem jI(b:List Tp.Sc)(v:Value)(j:NS)(w:World)(a1:∀x∈b,AO x)(P:Row w j b.length v (xV b))(A:∀k,j k->k < w.heap.size):Calls π 9 #[v] w λe w'=>e=ρ (β (Tp.twice b))/\Below w.heap.size w w':=by
 rw[<-rI];obtain⟨a,f,rfl,an⟩:=P.form;have av:=dT b [];have a6:=rH (Y a b.length f) ⟨_,_,_,rfl⟩;obtain⟨q,y⟩:∃q,w.heap.size=q:=⟨_,rfl⟩;have F:Below w.heap.size w ((w.alloc (J #[V I 0] 3)).alloc (J #[Y a b.length f] 28)):=((ζ _ w).alloc (η _) _).alloc (by simp) _;have R:((w.alloc (J #[V I 0] 3)).alloc (J #[Y a b.length f] 28)).heap[q+1]? =W (J #[Y a b.length f] 28 (0,0)):=ah _ _ _ (by simp[y]);have M:((w.alloc (J #[V I 0] 3)).alloc (J #[Y a b.length f] 28)).heap[q]? =W (J #[V I 0] 3 (0,0)):=by rw[<-y];exact aa _ (af w _)
 have ab:=P.below F;have ad:=pk b _ j (q+1) _ a1 (λk H=>by have:=A k H;simp;omega) ab R;have a2:((w.alloc (J #[V I 0] 3)).alloc (J #[Y a b.length f] 28)).heap.size=q+2:=by simp[y]
 have b4:b.length<=9223372036854775807:=an;have S:∀k,j k->k < q:=λk H=>y ▸ A k H;obtain⟨L,N,ac⟩:=zx3 a6 ad F;clear a6 ad P ab a1 F an A;obtain⟨g,bb⟩:∃g,b.length=g:=⟨_,rfl⟩;obtain⟨d,a0⟩:∃d,yB [] b=d:=⟨_,rfl⟩;rw[bb]at b4 L N ac M R a2 av ⊢;rw[a0]at N av ⊢;clear bb a0;refine callsIn_wide.1 (callsIn_of_wp_marks (n:=5) func9 rfl trivial (wpIn_wide.2 ?_));simp only[ntmps9,List.size_toArray,zO,List.length_nil,Nat.reduceAdd,Nat.reduceSub,Array.replicate_succ,Array.replicate_zero,List.push_toArray,List.append_toArray,List.nil_append,List.cons_append]
 go_wp2_with fail
 refine(L.out _).mono ?_;rintro e cc ⟨rfl,rfl⟩;have bm:(w.alloc (J #[V I 0] 3)).heap.size=q+1:=by simp[y]
 rw[bm];generalize ((w.alloc (J #[V I 0] 3)).alloc (J #[Y a g f] 28))=b6 at *
 go_wp2_with fail
 have b8:RowKit.Hid (CtI w q d 0 (·=q) b6):=zD ⟨rfl,z_ _,M,ac.out⟩;have G:=zD a2;have cb:=R;clear M L;refine wpIn_wide.1 (aC (n:=5) (gf:=41) (lb:=#[Z (W ⟨q+1,0,O⟩)]) rfl (λargs wx=>ue args wx)
  N.out (λk e=>e.elim) (λk e=>by rcases e with rfl|e;omega;have:=S k e;omega) (λt v j r c=>by simp[c.1])
  (CtI w q d) (λ_ _ _=>False) (·=q) (λk c=>?hF0) b8.out ?hI (λ_ _ _ _ c _=>c) (λ_ _ _ _=>trivial) (λ_ _ _ _=>trivial) ?round ?done (λ_ _ _ c=>c.elim))
 case hF0=>
  subst c;exact⟨λe=>e.elim,λe=>by rcases e with e|e;omega;have:=S k e;omega,by omega,by omega,λ_=>by omega⟩
 case hI=>
  rintro t T r a5 ⟨rfl,b3,bD,X⟩ al;exact⟨rfl,b3,al.heap bD (λe=>e.1 rfl),X.trans (al.to_below X.size (λi a4 e=>by have:=G.out;rcases e.2 with c|c;exact c;omega))⟩
 case round=>
  rintro t T j v r K be ca ⟨rfl,bx,z,m⟩ ⟨b0,rfl⟩ A bs o;obtain⟨E,rfl⟩:∃E,v=#[E]:=by
   obtain⟨l⟩:=v
   match l,b0 with
   | [E],_=>exact⟨E,rfl⟩
  gi_wp2
  refine o _ _ (ξ _ _) ?_;intro u C _ _;rw[G.out]at C;have s:=C.heap z (by omega);have a9:Below w.heap.size w u:=m.trans (C.to_below m.size (λi a4 e=>by omega));have b2:=zF s 0 rfl;have b9:=ag s 0;have a3:CtI w q d (t+1) (·=q) (u.setCell ⟨q,0,O⟩ (V I ((t:Int)+1))):=⟨rfl,be,by have:=ai s 0 (V I ((t:Int)+1));simpa using this,a9.setCell (by show w.heap.size<=q;omega) _⟩;have ao:Far (·=q) u (u.setCell ⟨q,0,O⟩ (V I ((t:Int)+1))):=Far.setCell (D:=(·=q)) (ξ _ _) (p:=⟨q,0,O⟩) (λ_=>rfl) _;obtain⟨bR,bn⟩:=zx2 a3 ao;have b5:RowKit.Hid (q < (u.setCell ⟨q,0,O⟩ (V I ((t:Int)+1))).heap.size):=zD (lt_of_heap (ai s 0 _));clear z m s a9 C o a3 ao
  gi_wp2_with fail
  exact⟨_,bR.out,bn.out,λk c=>⟨.inl c,λ_=>by subst c;exact b5.out⟩⟩
 case done=>
  rintro T r ⟨rfl,bx,z,m⟩ _ o bs;rw[G.out]at o ⊢;have b2:=zF z 0 rfl;have b1:=λr=>wG (d:Int) (g:Int) r;rw[show decide ((d:Int) < (g:Int))=decide (d < g)by rw[decide_eq_decide];omega]at b1;obtain⟨ba,bw⟩:=zx2 m o;clear z m o
  go_wp2_with fail
  refine au (q:=q+2) rfl bw.out ?_;intro a5 bk;refine⟨β (decide (d < g)),by simp[results,results9,go_sem],rfl,?_⟩;exact(show Below w.heap.size w a5 from ba.out.trans (bk.to_below ba.out.size (λi a4 e=>by omega))).mono (by omega)
end
theorem cQ(K g i j:Int)(c:ByteArray)(k l:Option Addr)(a m f d:Nat)(w:World)(n:a=m):Calls π 167 #[γ #[V I K,V I g,V I i,U c,Y k a f,Y l m d,V I j]] w λe w'=>e=ρ (β true)/\Below w.heap.size w w':=by
 subst n;obtain⟨u,r,p,t,q,o,s,_⟩:=bd (af w (J #[V I K,V I g,V I i,U c,Y k a f,Y l a d,V I j] 256));have v:∀b,(binOp .eql 3 (V I (a:Int)) (V I (a:Int))).run π b=.ok (β true) b:=λb=>by simp[go_sem]
 go_enter func167,ntmps167
 go_wp2_with fail
 go_ret
 exact⟨rfl,(ζ _ _).alloc (η _) _⟩
def Af(n:Int)(i:Int):Bool:=decide (i < 0)||decide (n<=i)
theorem rX(args:Array Value)(w:World):(callFunc 277 args).run π w=.ok (.enter 277 args) w:=by kernel_rfl
theorem mV(a:Int)(q:Nat)(w:World)(e:q < w.heap.size)(d:w.cell? ⟨q,6,O⟩=W (V I a)):PredAt π 277 #[Z (W ⟨q,0,O⟩)] (Value.int I) (Af a) w:=by
 intro f x c;have g:f.cell? ⟨q,6,O⟩=W (V I a):=(World.cell?_of_block (w:=w) (c.block q e)).trans d;unfold Af;clear d c;by_cases b:x < 0
 ·rw[decide_eq_true b]
  go_enter func277,ntmps277
  go_wp2_with fail
  go_ret
  exact⟨rfl,0,rfl⟩
 ·rw[decide_eq_false b,Bool.false_or]
  go_enter func277,ntmps277
  go_wp2_with fail
  go_ret
  exact⟨rfl,0,rfl⟩
theorem gB(K m p c:Int)(k:ByteArray)(r d:Option Addr)(s a l b:Nat)(w:World)(f:List Nat)(n:Nat)(P:NS)(H:c=(n:Int))(C:a=f.length)(v:Row w P a (Y d a b) (xP f))(z:∀i∈f,i < n):Calls π 247 #[γ #[V I K,V I m,V I p,U k,Y r s l,Y d a b,V I c]] w λe w'=>e=ρ (β true)/\Below w.heap.size w w':=by
 have u:Below w.heap.size w (w.alloc (J #[V I K,V I m,V I p,U k,Y r s l,Y d a b,V I c] 256)):=(ζ _ _).alloc (η _) _;have A:=af w (J #[V I K,V I m,V I p,U k,Y r s l,Y d a b,V I c] 256);obtain⟨a9,a3,a1,a6,a2,ao,T,_⟩:=bd A;have D:=mV c w.heap.size (w.alloc (J #[V I K,V I m,V I p,U k,Y r s l,Y d a b,V I c] 256)) (lt_of_heap A) T;have L:Calls π 278 #[Y d a b,φ (.func 277) #[] #[Z (W ⟨w.heap.size,0,O⟩)]] (w.alloc (J #[V I K,V I m,V I p,U k,Y r s l,Y d a b,V I c] 256)) λe w'=>e=ρ (β false)/\∃q,w'=(w.alloc (J #[V I K,V I m,V I p,U k,Y r s l,Y d a b,V I c] 256)).drewN q:=by
  rcases Nat.eq_zero_or_pos a with y|y
  ·rw[y]
   exact(slices_ContainsFunc_empty (α:=Int) d b _ _).mono (λe w' t=>⟨t.1,0,t.2⟩)
  ·have G:=v.below u
   obtain⟨a5,al⟩:∃x,f[0]? =W x:=⟨_,zE (by omega)⟩;obtain⟨g,o,cap,e,_,a0,_⟩:=G.nat al;injection e with e1 e2 e3;subst e1 e3;have:=slices_ContainsFunc (Value.int I) (Af c) 277 _ rX g o a b (f.map λi:Nat=>(i:Int)) _ D (by simp[C]) (by have:=v.form;obtain⟨_,_,_,t⟩:=this;exact t) (λj ad=>by
    have E:j < f.length:=by simpa using ad
    obtain⟨a4,ba,av,R,_,_,S⟩:=G.nat (i:=j) (x:=f[j]) (zE E);injection R with e1 e2 e3;injection e1 with e1;injection e1 with e1 e4;subst e1 e4;rw[S];simp[E])
   have ac:(((f.map λi:Nat=>(i:Int)).take a).any (Af c))=false:=by
    rw[List.any_eq_false];intro x X;obtain⟨i,ab,rfl⟩:=List.mem_map.1 (List.mem_of_mem_take X);have:=z i ab;subst H;simp[Af];omega
   rw[ac]at this;exact this
 obtain⟨F,N⟩:=zx2 L u;clear L D v z u H C
 go_enter func247,ntmps247
 go_wp2_with fail
 refine F.out.mono ?_;rintro e an ⟨rfl,q,rfl⟩;have M:Below w.heap.size w ((w.alloc (J #[V I K,V I m,V I p,U k,Y r s l,Y d a b,V I c] 256)).drewN q):=below_drewN' N.out q;clear F
 go_wp2_with fail
 go_ret
 exact⟨rfl,M⟩
theorem mY(K i j l:Int)(f:ByteArray)(c m:Option Addr)(s n b g:Nat)(w:World)(a:List Tp.Sc)(p:NS)(R:s=a.length)(F:Row w p s (Y c s b) (xV a))(q:∀x∈a,x8 x=true/\AO x)(P:Tp.twice a=false)(H:Glob w)(M:∀k,p k->k < w.heap.size):Calls π 248 #[γ #[V I K,V I i,V I j,U f,Y c s b,Y m n g,V I l]] w λe w'=>e=ρ (β true)/\Below w.heap.size w w':=by
 subst R;have o:Below w.heap.size w (w.alloc (J #[V I K,V I i,V I j,U f,Y c a.length b,Y m n g,V I l] 256)):=(ζ _ _).alloc (η _) _;have z:=af w (J #[V I K,V I i,V I j,U f,Y c a.length b,Y m n g,V I l] 256);obtain⟨av,ad,ac,ao,A,ab,an,_⟩:=bd z;have u:=F.below o;have C:=eE 279 (.inl rfl) a _ p _ u (λx r=>⟨(q x r).1,(q x r).2.2.2⟩) (H.step o);have t:=λW (d:Below (w.alloc (J #[V I K,V I i,V I j,U f,Y c a.length b,Y m n g,V I l] 256)).heap.size (w.alloc (J #[V I K,V I i,V I j,U f,Y c a.length b,Y m n g,V I l] 256)) W)=>jI a _ p W (λx r=>(q x r).2) (u.below d) (λk S=>zK (M k S) (Nat.le_trans o.size d.size));rw[P]at t;obtain⟨E,L,y⟩:=zx3 C t o;clear C t F u q o H
 go_enter func248,ntmps248
 go_upto_region 2 with (fail)
 generalize (w.alloc (J #[V I K,V I i,V I j,U f,Y c a.length b,Y m n g,V I l] 256))=N at *
 go_wp2_with fail
 refine E.out.mono ?_;rintro e v ⟨rfl,d⟩;have al:v.cell? ⟨w.heap.size,4,O⟩=some (Y c a.length b):=(World.cell?_of_block (w:=N) (d.block _ (lt_of_heap z))).trans A;have D:=zD (L.out v d);have T:=zD (cR y.out (d.mono (η _)));clear d E L y A
 go_wp2_with fail
 refine D.out.mono ?_;rintro e a0 ⟨rfl,G⟩;have X:=cR T.out G;clear G D
 go_wp2_with fail
 go_ret
 exact⟨rfl,X⟩
theorem xC:eqL 0 0 ⟨#[]⟩ 0 0 ⟨#[]⟩=true:=by rw[jp];simp
theorem o5(K R T c:Int)(F ab:ByteArray)(d f:Option Addr)(al g b a:Nat)(w:World)(o:∀k,Far xO w k->Calls π 247 #[γ #[V I K,V I 0,V I 0,U ⟨#[]⟩,Y d 0 b,Y f g a,V I c]] k λe w'=>e=ρ (β true)/\Below k.heap.size k w'):
 Calls π 215 #[γ #[V I K,V I 0,V I 0,U ⟨#[]⟩,Y d 0 b,Y f g a,V I c]] w λe w'=>e=ρ (β true)/\Below w.heap.size w w':=by
 have t:Far xO w (w.alloc (J #[V I K,V I 0,V I 0,U ⟨#[]⟩,Y d 0 b,Y f g a,V I c] 256)):=(ξ _ w).alloc _;have m:=af w (J #[V I K,V I 0,V I 0,U ⟨#[]⟩,Y d 0 b,Y f g a,V I c] 256);obtain⟨X,N,L,S,M,H,P,_⟩:=bd m;have ac:=xC;have q:=zD o;clear o
 go_enter func215,ntmps215
 go_upto_region 1 with (fail)
 have n:=zD t;generalize (w.alloc (J #[V I K,V I 0,V I 0,U ⟨#[]⟩,Y d 0 b,Y f g a,V I c] 256))=i at *;have E:∀wx,Far xO i wx->wx.cell? ⟨w.heap.size,0,O⟩=W (V I K)/\wx.cell? ⟨w.heap.size,1,O⟩=W (V I 0)/\wx.cell? ⟨w.heap.size,2,O⟩=W (V I 0)/\wx.cell? ⟨w.heap.size,3,O⟩=W (U ⟨#[]⟩)/\wx.cell? ⟨w.heap.size,4,O⟩=W (Y d 0 b)/\wx.cell? ⟨w.heap.size,5,O⟩=W (Y f g a)/\wx.cell? ⟨w.heap.size,6,O⟩=W (V I c):=λwx y=>by obtain⟨p,u,D,v,z,x,s,_⟩:=bd (y.heap m id);exact⟨p,u,D,v,z,x,s⟩
 go_region_held3 (λw'=>w'.cell? ⟨w.heap.size,0,O⟩=W (V I K)/\w'.cell? ⟨w.heap.size,1,O⟩=W (V I 0)/\w'.cell? ⟨w.heap.size,2,O⟩=W (V I 0)/\w'.cell? ⟨w.heap.size,3,O⟩=W (U ⟨#[]⟩)/\w'.cell? ⟨w.heap.size,4,O⟩=W (Y d 0 b)/\w'.cell? ⟨w.heap.size,5,O⟩=W (Y f g a)/\w'.cell? ⟨w.heap.size,6,O⟩=W (V I c)) (exact E _ (by repeat (first|exact ξ _ _|assumption|refine Far.drew ?_|refine Far.alloc ?_ _|refine Far.drewN ?_ _))) (first|(go_at_call 247;refine(q.out i.drew (n.out.trans (by repeat (first|exact ξ _ _|assumption|refine Far.drew ?_|refine Far.alloc ?_ _|refine Far.drewN ?_ _)))).mono ?_;rintro e l ⟨rfl,r⟩;have G:Far xO i l:=(show Far xO i i.drew by repeat (first|exact ξ _ _|assumption|refine Far.drew ?_|refine Far.alloc ?_ _|refine Far.drewN ?_ _)).below r)|(go_at_call 246;refine(a7 246 (.inl rfl) _ 3 (by omega) _ (by intro j ad;have A:j=0\/j=1\/j=2:=(by omega);rcases A with rfl|rfl|rfl<;>exact aY rfl rfl)).mono ?_;rintro e an ⟨rfl,rfl⟩))
 have C:Far xO i (l.alloc (J #[β true,β true,β true] 4)):=by repeat (first|exact ξ _ _|assumption|refine Far.drew ?_|refine Far.alloc ?_ _|refine Far.drewN ?_ _)
 go_wp2_with fail
 go_ret
 exact⟨rfl,(n.out.trans C).to_below (η _) (λ_ _ e=>e)⟩
theorem pd(K a0 a2 f:Int)(T a4:ByteArray)(g i:Option Addr)(l k d c:Nat)(w:World)(p:∀a,Far xO w a->Calls π 167 #[γ #[V I K,V I 0,V I 0,U ⟨#[]⟩,Y g l d,Y i k c,V I f]] a λe w'=>e=ρ (β true)/\Below a.heap.size a w')(t:∀a,Far xO w a->Calls π 248 #[γ #[V I K,V I 0,V I 0,U ⟨#[]⟩,Y g l d,Y i k c,V I f]] a λe w'=>e=ρ (β true)/\Below a.heap.size a w')(s:∀a,Far xO w a->Calls π 247 #[γ #[V I K,V I 0,V I 0,U ⟨#[]⟩,Y g l d,Y i k c,V I f]] a λe w'=>e=ρ (β true)/\Below a.heap.size a w'):
 Calls π 216 #[γ #[V I K,V I 0,V I 0,U ⟨#[]⟩,Y g l d,Y i k c,V I f]] w λe w'=>e=ρ (β true)/\Below w.heap.size w w':=by
 have D:Far xO w (w.alloc (J #[V I K,V I 0,V I 0,U ⟨#[]⟩,Y g l d,Y i k c,V I f] 256)):=(ξ _ w).alloc _;have r:=af w (J #[V I K,V I 0,V I 0,U ⟨#[]⟩,Y g l d,Y i k c,V I f] 256);obtain⟨a3,an,ac,a1,ad,ab,ao,_⟩:=bd r;have a5:=xC;obtain⟨y,v,z⟩:=zx3 p t s;clear p t s
 go_enter func216,ntmps216
 go_upto_region 1 with (fail)
 have m:=zD D;generalize (w.alloc (J #[V I K,V I 0,V I 0,U ⟨#[]⟩,Y g l d,Y i k c,V I f] 256))=b at *;have S:∀wx,Far xO b wx->wx.cell? ⟨w.heap.size,0,O⟩=W (V I K)/\wx.cell? ⟨w.heap.size,1,O⟩=W (V I 0)/\wx.cell? ⟨w.heap.size,2,O⟩=W (V I 0)/\wx.cell? ⟨w.heap.size,3,O⟩=W (U ⟨#[]⟩)/\wx.cell? ⟨w.heap.size,4,O⟩=W (Y g l d)/\wx.cell? ⟨w.heap.size,5,O⟩=W (Y i k c)/\wx.cell? ⟨w.heap.size,6,O⟩=W (V I f):=λwx H=>by obtain⟨u,E,R,F,L,G,C,_⟩:=bd (H.heap r id);exact⟨u,E,R,F,L,G,C⟩
 go_region_held3 (λw'=>w'.cell? ⟨w.heap.size,0,O⟩=W (V I K)/\w'.cell? ⟨w.heap.size,1,O⟩=W (V I 0)/\w'.cell? ⟨w.heap.size,2,O⟩=W (V I 0)/\w'.cell? ⟨w.heap.size,3,O⟩=W (U ⟨#[]⟩)/\w'.cell? ⟨w.heap.size,4,O⟩=W (Y g l d)/\w'.cell? ⟨w.heap.size,5,O⟩=W (Y i k c)/\w'.cell? ⟨w.heap.size,6,O⟩=W (V I f)) (exact S _ (by repeat (first|exact ξ _ _|assumption|refine Far.drew ?_|refine Far.alloc ?_ _|refine Far.drewN ?_ _))) (first|(go_at_call 167;refine(y.out b.drew (m.out.trans (by repeat (first|exact ξ _ _|assumption|refine Far.drew ?_|refine Far.alloc ?_ _|refine Far.drewN ?_ _)))).mono ?_;rintro e n ⟨rfl,A⟩;have X:Far xO b n:=(show Far xO b b.drew by repeat (first|exact ξ _ _|assumption|refine Far.drew ?_|refine Far.alloc ?_ _|refine Far.drewN ?_ _)).below A)|(go_at_call 248;refine(v.out n (m.out.trans (by repeat (first|exact ξ _ _|assumption|refine Far.drew ?_|refine Far.alloc ?_ _|refine Far.drewN ?_ _)))).mono ?_;rintro e o ⟨rfl,M⟩;have av:Far xO b o:=(show Far xO b n by repeat (first|exact ξ _ _|assumption|refine Far.drew ?_|refine Far.alloc ?_ _|refine Far.drewN ?_ _)).below M)|(go_at_call 247;refine(z.out o (m.out.trans (by repeat (first|exact ξ _ _|assumption|refine Far.drew ?_|refine Far.alloc ?_ _|refine Far.drewN ?_ _)))).mono ?_;rintro e q ⟨rfl,x⟩;have al:Far xO b q:=(show Far xO b o by repeat (first|exact ξ _ _|assumption|refine Far.drew ?_|refine Far.alloc ?_ _|refine Far.drewN ?_ _)).below x)|(go_at_call 246;refine(a7 246 (.inl rfl) _ 4 (by omega) _ (by intro j a6;have N:j=0\/j=1\/j=2\/j=3:=(by omega);rcases N with rfl|rfl|rfl|rfl<;>exact aY rfl rfl)).mono ?_;rintro e a9 ⟨rfl,rfl⟩))
 have P:Far xO b (q.alloc (J #[β true,β true,β true,β true] 4)):=by repeat (first|exact ξ _ _|assumption|refine Far.drew ?_|refine Far.alloc ?_ _|refine Far.drewN ?_ _)
 go_wp2_with fail
 go_ret
 exact⟨rfl,(m.out.trans P).to_below (η _) (λ_ _ e=>e)⟩
theorem cP(K f g i:Int)(b:ByteArray)(j k:Option Addr)(m l d c L:Nat)(w:World)(n:(K=0/\L=214)\/(K=1/\L=215)\/(K=2/\L=216))(q:∀H,Far xO w H->Calls π L #[γ #[V I K,V I f,V I g,U b,Y j m d,Y k l c,V I i]] H λe w'=>e=ρ (β true)/\Below H.heap.size H w'):
 Calls π 164 #[γ #[V I K,V I f,V I g,U b,Y j m d,Y k l c,V I i]] w λe w'=>e=ρ (β true)/\Below w.heap.size w w':=by
 have P:Far xO w ((w.alloc (J #[V I K,V I f,V I g,U b,Y j m d,Y k l c,V I i] 256)).alloc (J #[φ (.func 214) #[] #[],φ (.func 215) #[] #[],φ (.func 216) #[] #[]] 390)):=((ξ _ w).alloc _).alloc _;have N:=aa (J #[φ (.func 214) #[] #[],φ (.func 215) #[] #[],φ (.func 216) #[] #[]] 390) (af w (J #[V I K,V I f,V I g,U b,Y j m d,Y k l c,V I i] 256));have M:=ah (w.alloc (J #[V I K,V I f,V I g,U b,Y j m d,Y k l c,V I i] 256)) (J #[φ (.func 214) #[] #[],φ (.func 215) #[] #[],φ (.func 216) #[] #[]] 390) (w.heap.size+1) (by simp);have p:=zD P;clear P;rcases n with ⟨rfl,rfl⟩|⟨rfl,rfl⟩|⟨rfl,rfl⟩
 ·have y:=zD q
  clear q
  go_enter func164,ntmps164
  go_upto_region 2 with (fail)
  generalize ((w.alloc (J #[V I 0,V I f,V I g,U b,Y j m d,Y k l c,V I i] 256)).alloc (J #[φ (.func 214) #[] #[],φ (.func 215) #[] #[],φ (.func 216) #[] #[]] 390))=a at *;have G:∀wx,Far xO a wx->wx.cell? ⟨w.heap.size,0,O⟩=W (V I 0)/\wx.cell? ⟨w.heap.size,1,O⟩=W (V I f)/\wx.cell? ⟨w.heap.size,2,O⟩=W (V I g)/\wx.cell? ⟨w.heap.size,3,O⟩=W (U b)/\wx.cell? ⟨w.heap.size,4,O⟩=W (Y j m d)/\wx.cell? ⟨w.heap.size,5,O⟩=W (Y k l c)/\wx.cell? ⟨w.heap.size,6,O⟩=W (V I i)/\wx.cell? ⟨w.heap.size+1,0,O⟩=W (φ (.func 214) #[] #[])/\wx.cell? ⟨w.heap.size+1,1,O⟩=W (φ (.func 215) #[] #[])/\wx.cell? ⟨w.heap.size+1,2,O⟩=W (φ (.func 216) #[] #[]):=λwx n=>by obtain⟨r,u,F,x,A,z,t,_⟩:=bd (n.heap N id);obtain⟨v,s,C,_⟩:=bv (n.heap M id);exact⟨r,u,F,x,A,z,t,v,s,C⟩
  go_region_held3 (λw'=>w'.cell? ⟨w.heap.size,0,O⟩=W (V I 0)/\w'.cell? ⟨w.heap.size,1,O⟩=W (V I f)/\w'.cell? ⟨w.heap.size,2,O⟩=W (V I g)/\w'.cell? ⟨w.heap.size,3,O⟩=W (U b)/\w'.cell? ⟨w.heap.size,4,O⟩=W (Y j m d)/\w'.cell? ⟨w.heap.size,5,O⟩=W (Y k l c)/\w'.cell? ⟨w.heap.size,6,O⟩=W (V I i)/\w'.cell? ⟨w.heap.size+1,0,O⟩=W (φ (.func 214) #[] #[])/\w'.cell? ⟨w.heap.size+1,1,O⟩=W (φ (.func 215) #[] #[])/\w'.cell? ⟨w.heap.size+1,2,O⟩=W (φ (.func 216) #[] #[])) (exact G _ (by repeat (first|exact ξ _ _|assumption|refine Far.drew ?_|refine Far.alloc ?_ _|refine Far.drewN ?_ _))) (first|(go_at_call 214;refine(y.out a.drew (p.out.trans (by repeat (first|exact ξ _ _|assumption|refine Far.drew ?_|refine Far.alloc ?_ _|refine Far.drewN ?_ _)))).mono ?_;rintro e o ⟨rfl,D⟩;have R:Far xO a o:=((ξ _ a).drew).below D))
  have E:Far xO a o:=by repeat (first|exact ξ _ _|assumption|refine Far.drew ?_|refine Far.alloc ?_ _|refine Far.drewN ?_ _)
  go_wp2_with fail
  go_ret
  exact⟨rfl,(p.out.trans E).to_below (η _) (λ_ _ e=>e)⟩
 ·have y:=zD q
  clear q
  go_enter func164,ntmps164
  go_upto_region 2 with (fail)
  generalize ((w.alloc (J #[V I 1,V I f,V I g,U b,Y j m d,Y k l c,V I i] 256)).alloc (J #[φ (.func 214) #[] #[],φ (.func 215) #[] #[],φ (.func 216) #[] #[]] 390))=a at *;have G:∀wx,Far xO a wx->wx.cell? ⟨w.heap.size,0,O⟩=W (V I 1)/\wx.cell? ⟨w.heap.size,1,O⟩=W (V I f)/\wx.cell? ⟨w.heap.size,2,O⟩=W (V I g)/\wx.cell? ⟨w.heap.size,3,O⟩=W (U b)/\wx.cell? ⟨w.heap.size,4,O⟩=W (Y j m d)/\wx.cell? ⟨w.heap.size,5,O⟩=W (Y k l c)/\wx.cell? ⟨w.heap.size,6,O⟩=W (V I i)/\wx.cell? ⟨w.heap.size+1,0,O⟩=W (φ (.func 214) #[] #[])/\wx.cell? ⟨w.heap.size+1,1,O⟩=W (φ (.func 215) #[] #[])/\wx.cell? ⟨w.heap.size+1,2,O⟩=W (φ (.func 216) #[] #[]):=λwx n=>by obtain⟨r,u,F,x,A,z,t,_⟩:=bd (n.heap N id);obtain⟨v,s,C,_⟩:=bv (n.heap M id);exact⟨r,u,F,x,A,z,t,v,s,C⟩
  go_region_held3 (λw'=>w'.cell? ⟨w.heap.size,0,O⟩=W (V I 1)/\w'.cell? ⟨w.heap.size,1,O⟩=W (V I f)/\w'.cell? ⟨w.heap.size,2,O⟩=W (V I g)/\w'.cell? ⟨w.heap.size,3,O⟩=W (U b)/\w'.cell? ⟨w.heap.size,4,O⟩=W (Y j m d)/\w'.cell? ⟨w.heap.size,5,O⟩=W (Y k l c)/\w'.cell? ⟨w.heap.size,6,O⟩=W (V I i)/\w'.cell? ⟨w.heap.size+1,0,O⟩=W (φ (.func 214) #[] #[])/\w'.cell? ⟨w.heap.size+1,1,O⟩=W (φ (.func 215) #[] #[])/\w'.cell? ⟨w.heap.size+1,2,O⟩=W (φ (.func 216) #[] #[])) (exact G _ (by repeat (first|exact ξ _ _|assumption|refine Far.drew ?_|refine Far.alloc ?_ _|refine Far.drewN ?_ _))) (first|(go_at_call 215;refine(y.out a.drew (p.out.trans (by repeat (first|exact ξ _ _|assumption|refine Far.drew ?_|refine Far.alloc ?_ _|refine Far.drewN ?_ _)))).mono ?_;rintro e o ⟨rfl,D⟩;have R:Far xO a o:=((ξ _ a).drew).below D))
  have E:Far xO a o:=by repeat (first|exact ξ _ _|assumption|refine Far.drew ?_|refine Far.alloc ?_ _|refine Far.drewN ?_ _)
  go_wp2_with fail
  go_ret
  exact⟨rfl,(p.out.trans E).to_below (η _) (λ_ _ e=>e)⟩
 ·have y:=zD q
  clear q
  go_enter func164,ntmps164
  go_upto_region 2 with (fail)
  generalize ((w.alloc (J #[V I 2,V I f,V I g,U b,Y j m d,Y k l c,V I i] 256)).alloc (J #[φ (.func 214) #[] #[],φ (.func 215) #[] #[],φ (.func 216) #[] #[]] 390))=a at *;have G:∀wx,Far xO a wx->wx.cell? ⟨w.heap.size,0,O⟩=W (V I 2)/\wx.cell? ⟨w.heap.size,1,O⟩=W (V I f)/\wx.cell? ⟨w.heap.size,2,O⟩=W (V I g)/\wx.cell? ⟨w.heap.size,3,O⟩=W (U b)/\wx.cell? ⟨w.heap.size,4,O⟩=W (Y j m d)/\wx.cell? ⟨w.heap.size,5,O⟩=W (Y k l c)/\wx.cell? ⟨w.heap.size,6,O⟩=W (V I i)/\wx.cell? ⟨w.heap.size+1,0,O⟩=W (φ (.func 214) #[] #[])/\wx.cell? ⟨w.heap.size+1,1,O⟩=W (φ (.func 215) #[] #[])/\wx.cell? ⟨w.heap.size+1,2,O⟩=W (φ (.func 216) #[] #[]):=λwx n=>by obtain⟨r,u,F,x,A,z,t,_⟩:=bd (n.heap N id);obtain⟨v,s,C,_⟩:=bv (n.heap M id);exact⟨r,u,F,x,A,z,t,v,s,C⟩
  go_region_held3 (λw'=>w'.cell? ⟨w.heap.size,0,O⟩=W (V I 2)/\w'.cell? ⟨w.heap.size,1,O⟩=W (V I f)/\w'.cell? ⟨w.heap.size,2,O⟩=W (V I g)/\w'.cell? ⟨w.heap.size,3,O⟩=W (U b)/\w'.cell? ⟨w.heap.size,4,O⟩=W (Y j m d)/\w'.cell? ⟨w.heap.size,5,O⟩=W (Y k l c)/\w'.cell? ⟨w.heap.size,6,O⟩=W (V I i)/\w'.cell? ⟨w.heap.size+1,0,O⟩=W (φ (.func 214) #[] #[])/\w'.cell? ⟨w.heap.size+1,1,O⟩=W (φ (.func 215) #[] #[])/\w'.cell? ⟨w.heap.size+1,2,O⟩=W (φ (.func 216) #[] #[])) (exact G _ (by repeat (first|exact ξ _ _|assumption|refine Far.drew ?_|refine Far.alloc ?_ _|refine Far.drewN ?_ _))) (first|(go_at_call 216;refine(y.out a.drew (p.out.trans (by repeat (first|exact ξ _ _|assumption|refine Far.drew ?_|refine Far.alloc ?_ _|refine Far.drewN ?_ _)))).mono ?_;rintro e o ⟨rfl,D⟩;have R:Far xO a o:=((ξ _ a).drew).below D))
  have E:Far xO a o:=by repeat (first|exact ξ _ _|assumption|refine Far.drew ?_|refine Far.alloc ?_ _|refine Far.drewN ?_ _)
  go_wp2_with fail
  go_ret
  exact⟨rfl,(p.out.trans E).to_below (η _) (λ_ _ e=>e)⟩
theorem qT(x:Tp.Sc)(a:x8 x=true)(b:x.s.length<=1000):AO x:=by
 unfold x8 at a;refine⟨uO _ ?_ ?_,uO _ ?_ ?_,b⟩<;>(repeat' split at a)<;>simp at a<;>omega
def Ah(x:Tp.Nd):Prop:=(x8 x.x=true/\x.x.s.length<=1000)/\∀a∈x.keys,x8 a=true/\a.s.length<=1000
theorem jc(x:Tp.Nd)(kv t:Value)(n:Nat)(g:NS)(w:World)(u:Row w g x.keys.length kv (xV x.keys))(l:Row w g x.kids.length t (xP x.kids))(F:Glob w)(v:∀k,g k->k < w.heap.size)(i:Ah x)(c:Tp.okNd n x=true):Calls π 164 #[yH x kv t n] w λe w'=>e=ρ (β true)/\Below w.heap.size w w':=by
 obtain⟨N,L,rfl,_⟩:=u.form;obtain⟨P,H,rfl,_⟩:=l.form;have s:∀f,Far xO w f->Glob f/\∀k,g k->k < f.heap.size:=λf b=>⟨F.far b (λ_ _ e=>e),λk C=>zK (v k C) b.size⟩;have r:∀f,Far xO w f->∀k,g k->k < w.heap.size->¬xO k:=λ_ _ _ _ _ e=>e;unfold Tp.okNd at c;unfold yH;by_cases m:x.k=0
 ·rw[if_pos m]at c
  simp only[zQ,List.isEmpty_iff]at c;have q:x.keys.length=0:=by rw[c.1.2];rfl
  have D:x.kids.length=0:=by rw[c.2];rfl
  rw[q,D];refine cP _ _ _ _ _ _ _ _ _ _ _ 214 w (.inl ⟨m,rfl⟩) (λf b=>o8 _ _ _ _ _ ⟨#[]⟩ _ _ 0 0 _ _ f (λa d=>iW x.x i.1.1 i.1.2 a (s a (b.trans d)).1))
 ·rw[if_neg m]at c
  by_cases p:x.k=1
  ·rw[if_pos p]at c
   simp only[zQ,List.isEmpty_iff,decide_eq_true_eq,List.all_eq_true]at c;have q:x.keys.length=0:=by rw[c.1.2];rfl
   rw[q,c.1.1];refine cP _ _ _ _ _ _ _ _ _ _ _ 215 w (.inr (.inl ⟨p,rfl⟩)) (λf b=>o5 _ 0 0 _ ⟨#[]⟩ ⟨#[]⟩ _ _ 0 _ _ _ f (λa d=>gB _ _ _ _ _ _ _ _ _ _ _ a x.kids n g rfl rfl (l.far (b.trans d) (r a (b.trans d))) c.2))
  ·rw[if_neg p]at c
   simp only[zQ,List.isEmpty_iff,decide_eq_true_eq,List.all_eq_true,beq_iff_eq,Bool.not_eq_true']at c;obtain⟨⟨⟨⟨⟨y,G⟩,E⟩,M⟩,A⟩,z⟩:=c;rw[G];refine cP _ _ _ _ _ _ _ _ _ _ _ 216 w (.inr (.inr ⟨y,rfl⟩)) (λf b=>pd _ 0 0 _ ⟨#[]⟩ ⟨#[]⟩ _ _ _ _ _ _ f
    (λa d=>cQ _ _ _ _ _ _ _ _ _ _ _ a E)
    (λa d=>mY _ _ _ _ _ _ _ _ _ _ _ a x.keys g rfl (u.far (b.trans d) (r a (b.trans d))) (λj o=>⟨(i.2 j o).1,qT j (i.2 j o).1 (i.2 j o).2⟩) A (s a (b.trans d)).1 (s a (b.trans d)).2)
    (λa d=>gB _ _ _ _ _ _ _ _ _ _ _ a x.kids n g rfl rfl (l.far (b.trans d) (r a (b.trans d))) z))
section
attribute [local go_sem] ak
theorem pJ(b:Int)(v:Value)(d:∃a n c,v=Y a n c)(w:World):Calls π 163 #[γ #[V I b,v]] w λe w'=>e=ρ (φ (.func 213) #[] #[Z (W ⟨w.heap.size,0,O⟩)])/\w'=w.alloc (J #[V I b,v] 54):=by
 obtain⟨a,n,c,rfl⟩:=d
 go_enter func163,ntmps163
 go_wp2
 go_ret
 exact⟨rfl,rfl⟩
theorem sg(args:Array Value)(w:World):(callFunc 213 args).run π w=.ok (.enter 213 args) w:=by kernel_rfl
def AY(e:NS)(g:List Tp.Nd)(d:Value)(t:Nat)(b:Array Value)(c:NS)(f:World):Prop:=∃x kv a,g[t]? =W x/\b=#[V I (t:Int),yH x kv a g.length]/\yN f e d g.length t x kv a/\c=xO
theorem nU(a0:Int)(i:NS)(g:List Tp.Nd)(v:Value)(m:Nat)(w:World)(f:yc w i g v)(ba:∀k,i k->k < w.heap.size)(d:w.heap[m]? =some (.cells #[V I a0,v] 54 (0,0))):
 yQ π 213 #[Z (some ⟨m,0,O⟩)] 3 g.length (AY i g v) xO (λk=>k=m\/i k) False (λ_ _=>True) (λ_=>True) w:=by
 intro l J dp a1 W E b2 hF0 N bw c5 a3 c0
 replace d:=(E.block _ (lt_of_heap d)).trans d
 replace f:=f.below E
 obtain⟨base,a2⟩:∃cc,w.heap.size=cc:=⟨_,rfl⟩;rw[a2]at N bw;have bn:∀k,a1 k->k≠m/\¬i k:=λk b=>⟨λe=>(hF0 k b).2 (.inl e),λe=>(hF0 k b).2 (.inr e)⟩;obtain⟨a,S,rfl,a5⟩:=f.form;have c9:g.length<=9223372036854775807:=a5;have b3:RowKit.Hid (∀k,i k->k < W.heap.size):=zD (λk y=>by have:=ba k y;have:=E.size;omega);obtain⟨cv,bb,b1⟩:=zx3 N a3 bn;have ct:=zF d 1 rfl;obtain⟨c,s⟩:∃c,g.length=c:=⟨_,rfl⟩;rw[s]at c9 ct bb f d;obtain⟨c2,da⟩:=zx2 d f;rw[s];clear N bw a3 bn d f hF0 E b2 a2 c5 a5 ba
 go_enter func213,ntmps213
 go_wp2_with fail
 go_step3
 go_wp2_with fail
 go_step3
 go_wp2_with fail
 go_loopw [8] (λac wr=>∃(t:Nat) (r:NS),ac=V I (t:Int)/\t<=c/\yc wr i g (Y a c S)/\wr.heap[m]? =some (.cells #[V I a0,Y a c S] 54 (0,0))/\J t r wr/\(∀k,r k->k≠m/\¬i k)/\W.heap.size<=wr.heap.size) (λac _=>c - (Lib.intOf ac).toNat)
 case atStart=>exact⟨0,a1,rfl,z_ _,da.out,c2.out,c0,b1.out,η _⟩
 case round=>
  obtain⟨t,r,rfl,d4,f,d,F,ab,d6⟩:=hrel;by_cases al:t < c
  ·obtain⟨x,R⟩:∃x,g[t]? =some x:=⟨_,zE (by rw[s];exact al)⟩
   obtain⟨kv,eg,p⟩:=f.at R;rw[s]at p;obtain⟨b6,o,cap,e,ex,dr,d3,d5,ch,er,ds⟩:=p.cells;injection e with e1 e2 e3;subst e1 e3;have b0:=p;obtain⟨A,D,rfl,_⟩:=p.key.form;obtain⟨C,u,rfl,_⟩:=p.kid.form;obtain⟨T,db⟩:∃T,xR x.x.s=U T:=⟨_,rfl⟩;have cm:(t:Int) < (c:Int):=by omega
   have eq:(0:Int)<=(t:Int):=by omega
   have j:Far xO wr (wr.alloc (.cells #[V I x.k,V I x.x.k,V I x.x.n,xR x.x.s,Y A x.keys.length D,Y C x.kids.length u] 185)):=(ξ _ wr).alloc _;have H:=af wr (.cells #[V I x.k,V I x.x.k,V I x.x.n,xR x.x.s,Y A x.keys.length D,Y C x.kids.length u] 185);have P:=f.far j (λ_ _ _ e=>e);have L:=j.heap d (λe=>e);have bk:=cv.out _ r _ _ F (j.mono (λ_ _ e=>e.elim));have a4:AY i g (Y (some ⟨b6,o,O⟩) c S) t #[V I (t:Int),yH x (Y A x.keys.length D) (Y C x.kids.length u) c] xO (wr.alloc (.cells #[V I x.k,V I x.x.k,V I x.x.n,xR x.x.s,Y A x.keys.length D,Y C x.kids.length u] 185)):=⟨x,_,_,R,by rw[s],by rw[s];exact p.far j (λ_ _ _ e=>e),rfl⟩;have G:=bb.out t al r xO _ _ bk a4 (λk b=>b.elim);unfold yH at G;rw[db]at ch H P L G j;obtain⟨ca,cb,X⟩:=zx3 G P ab;obtain⟨b4,ck,c1,cf,bD,b8,_⟩:=pE H;have dv:=zF L 1 rfl;obtain⟨be,bx⟩:=zx2 L H;have dn:=j.size;clear f F ab R P L bk a4 G p b0 d j H
   go_upto_region 3 with (fail)
   refine(wpIn_wide (n:=4)).1 ?_;obtain⟨q,b5⟩:∃q,wr.heap.size=q:=⟨_,rfl⟩;rw[b5]at b4 ck c1 cf bD b8 bx ⊢;generalize (wr.alloc (.cells #[V I x.k,V I x.x.k,V I x.x.n,U T,Y A x.keys.length D,Y C x.kids.length u] 185))=d1 at *;obtain⟨es,ei,assign,body,d0,ao⟩:=ca.out;have c4:=zD ao;clear ao
   gi_wp2
   refine(c4.out).mono ?_;rintro e d2 ⟨ad,⟨z,M⟩,(⟨rfl,bm⟩|⟨rfl,av⟩)⟩
   ·have a6:=cb.out.far z (λk y _ b=>(X.out k b).2 y)
    have bs:=z.heap be.out (λb=>(X.out _ b).1 rfl);have en:=z.size;have a9:∀k,ad k->k≠m/\¬i k:=by
     intro k b;rcases M k b with b|b|b
     ·exact X.out k b
     ·exact b.elim
     ·exact⟨by have:=lt_of_heap be.out;omega,λy=>by have:=b3.out k y;omega⟩
    obtain⟨c6,c3,dc,co⟩:=zx4 a6 bs bm a9;clear a6 bs bm a9 M z
    gi_wp2
    go_wp2_with fail
    go_roundw
    case rel=>exact⟨t+1,ad,rfl,by omega,c6.out,c3.out,dc.out,co.out,by omega⟩
    case measure=>simp[Lib.intOf];omega
   ·have df:=zD av
    clear av z M
    gi_wp2
    go_wp2_with fail
    try rw[Exit.noGoto_normal]
    go_end0
    exact⟨⟨_,rfl⟩,.inr ⟨ad,df.out⟩⟩
  ·have bR:t=c:=by omega
   have cm:¬(t:Int) < (c:Int):=by omega
   subst bR;have b9:=zD F;clear f F ab d
   go_wp2_with fail
   go_end0
   exact⟨⟨_,rfl⟩,.inl ⟨r,b9.out,trivial⟩⟩
end
theorem sL(t:Value)(w:World):Calls π 56 #[.nilIface,t] w λe w'=>e=ρ (β false)/\w'=w:=by
 go_enter func56,ntmps56
 go_wp2
 go_ret
 exact⟨rfl,rfl⟩
theorem fd(a:Int)(w:World):Calls π 53 #[V I a,V I 0] w λe w'=>e=ρ .nilIface/\w'=w:=by
 go_enter func53,ntmps53
 go_wp2
 go_ret
 exact⟨rfl,rfl⟩
theorem pR(w:World):Calls π 36 #[.nilIface] w λe w'=>e=ρ (.tuple #[V I 0,V I 0])/\Below w.heap.size w w':=by
 go_enter func36,ntmps36
 go_wp2_with (go_at_call 56;refine(sL _ _).mono ?_;rintro e a ⟨rfl,rfl⟩)
 go_ret2
 exact⟨rfl,(ζ _ _).alloc (η _) _⟩
theorem nY(w:World):Calls π 75 #[.nilIface] w λe w'=>e=ρ (.tuple #[V I 0,V I 0])/\Below w.heap.size w w':=by
 go_enter func75,ntmps75
 go_wp2_with (go_at_call 56;refine(sL _ _).mono ?_;rintro e a ⟨rfl,rfl⟩)
 go_ret2
 exact⟨rfl,(ζ _ _).alloc (η _) _⟩
theorem nZ(w:World):Calls π 118 #[.nilIface] w λe w'=>e=ρ (.tuple #[V I 0,V I 0])/\Below w.heap.size w w':=by
 go_enter func118,ntmps118
 go_wp2_with (go_at_call 56;refine(sL _ _).mono ?_;rintro e a ⟨rfl,rfl⟩)
 go_ret2
 exact⟨rfl,(ζ _ _).alloc (η _) _⟩
section
attribute [local go_sem] ak
attribute [local go_sem] Oper.semAt_some
def yt(g:List Tp.Nd):Prop:=∀x∈g,Ah x
structure A5(w:World)(GG:NS)(g:List Tp.Nd)(v:Value)(q N t:Nat)(F:NS)(W:World):Prop where
 no:F=xO
 le:t<=N
 res:W.heap[q]? =some (J #[.nilIface] 41 (0,0))
 below:Below w.heap.size w W
theorem qy{d:Func}{a:Tmp}(f:d.results=#[.cell a 41])(c:World)(q:Nat)(b:Array Value)(g:c.cell? ⟨q,0,O⟩=W .nilIface)(i:b.getD a undef=Z (W ⟨q,0,O⟩)):(results d b).run π c=.ok .nilIface c:=by
 have e:b[a]?.getD undef=Z (W ⟨q,0,O⟩):=by simpa using i
 simp[results,f,e,go_sem,g]
theorem mT(c:Nat)(o:NS)(g:List Tp.Nd)(v:Value)(w:World)(ab:yc w o g v)(N:∀k,o k->k < w.heap.size)(av:Glob w)(c3:yt g)(a0:Tp.okGr c g=true):Calls π 119 #[γ #[V I (c:Int),v]] w λe w'=>e=ρ .nilIface/\Below w.heap.size w w':=by
 unfold Tp.okGr at a0;simp only[zQ,decide_eq_true_eq,List.all_eq_true]at a0;obtain⟨⟨c0,dv⟩,b5⟩:=a0;obtain⟨a,d,rfl,db⟩:=ab.form;have a6:=fW (c:Int) a g.length d c dv;have a1:=pJ (c:Int) (Y a g.length d) ⟨_,_,_,rfl⟩;obtain⟨b,al⟩:∃b,g.length=b:=⟨_,rfl⟩;rw[al]at a6 a1 ab b5 c0 ⊢;obtain⟨q,L⟩:∃q,w.heap.size=q:=⟨_,rfl⟩;have ds:=λf=>uI (b:Int) 200 f;rw[decide_eq_false (by omega:¬(200:Int) < (b:Int))]at ds;have E:Below w.heap.size w ((w.alloc (J #[V I (c:Int),Y a b d] 54)).alloc (J #[.nilIface] 41)):=((ζ _ w).alloc (η _) _).alloc (by simp) _;have F:((w.alloc (J #[V I (c:Int),Y a b d] 54)).alloc (J #[.nilIface] 41)).heap[q]? =W (J #[V I (c:Int),Y a b d] 54 (0,0)):=by rw[<-L];exact aa _ (af w _)
 have D:((w.alloc (J #[V I (c:Int),Y a b d] 54)).alloc (J #[.nilIface] 41)).heap[q+1]? =W (J #[.nilIface] 41 (0,0)):=ah _ _ _ (by simp[L]);obtain⟨d1,c6,_⟩:=bO F;obtain⟨b3,bR,d3,b2,b8⟩:=zx5 a6 a1 ab E av;clear a6 a1 ab E db av;refine callsIn_wide.1 (callsIn_of_wp_marks (n:=5) func119 rfl trivial (wpIn_wide.2 ?_));simp only[ntmps119,List.size_toArray,zO,List.length_nil,Nat.reduceAdd,Nat.reduceSub,Array.replicate_succ,Array.replicate_zero,List.push_toArray,List.append_toArray,List.nil_append,List.cons_append]
 go_upto_region 1 with (fail)
 have r:=zD L;have c4:((w.alloc (J #[V I (c:Int),Y a b d] 54)).alloc (J #[.nilIface] 41)).heap.size=q+2:=by simp[L]
 generalize ((w.alloc (J #[V I (c:Int),Y a b d] 54)).alloc (J #[.nilIface] 41))=eq at *;clear L
 go_wp2_with fail
 refine(b3.out _).mono ?_;rintro e z ⟨rfl,G⟩
 replace F:=(G.block q (by omega)).trans F
 replace D:=(G.block (q+1) (by omega)).trans D
 obtain⟨c2,d2,_⟩:=bO F;have b9:=G.size;have an:=cR b2.out (G.mono (η _));clear d1 c6 G b2 b3 F
 go_wp2_with fail
 refine(bR.out _).mono ?_;rintro e e5 ⟨rfl,rfl⟩;have a3:Below w.heap.size w (z.alloc (J #[V I (c:Int),Y a b d] 54)):=an.alloc an.size _;have a4:=af z (J #[V I (c:Int),Y a b d] 54)
 replace D:=aa (J #[V I (c:Int),Y a b d] 54) D
 have ao:(z.alloc (J #[V I (c:Int),Y a b d] 54)).heap.size=z.heap.size+1:=by simp
 obtain⟨l,bk⟩:∃l,z.heap.size=l:=⟨_,rfl⟩;rw[bk]at a4 ao b9 ⊢;generalize (z.alloc (J #[V I (c:Int),Y a b d] 54))=ba at *;have a2:=nU (c:Int) o g (Y a b d) l ba (d3.out.below a3) (λk m=>by have:=N k m;have:=r.out;omega) a4;rw[al]at a2;have da:=zD a2;have d4:RowKit.Hid (A5 w o g (Y a b d) (q+1) b 0 xO ba):=zD ⟨rfl,z_ _,D,a3⟩;have T:=zD ao;have y:RowKit.Hid (q+2<=l):=zD (by omega);clear a2 an a3 D a4 c2 d2 bR b9 c4 ao bk
 go_wp2_with fail
 refine wpIn_wide.1 (aC (n:=5) (gf:=213) (lb:=#[Z (W ⟨l,0,O⟩)]) rfl (λargs wx=>sg args wx)
  da.out (λk e=>e.elim) (λk e=>by have:=T.out;rcases e with rfl|e;omega;have:=N k e;have:=r.out;have:=y.out;omega) (λt v c5 f j=>by obtain⟨_,_,_,_,rfl,_⟩:=j;rfl)
  (A5 w o g (Y a b d) (q+1) b) (λ_ _ _=>False) xO (λk j=>j.elim) d4.out ?hI (λ_ _ _ _ j _=>j) (λ_ _ _ _=>trivial) (λ_ _ _ _=>trivial) ?round ?done (λ_ _ _ j=>j.elim))
 case hI=>
  rintro t bs f H ⟨rfl,bb,dr,bw⟩ s;have bD:∀i,i < l+1->¬y8 xO xO ba.heap.size i:=λi a9 e=>by have:=T.out;rcases e.2 with j|j;exact j;omega
  have:=y.out;have:=r.out;exact⟨rfl,bb,s.heap dr (bD _ (by omega)),bw.trans (s.to_below bw.size (λi a9=>bD i (by omega)))⟩
 case round=>
  rintro t bs c5 e1 f K co c1 ⟨rfl,dn,u,p⟩ ⟨x,kv,es,bx,rfl,C,rfl⟩ av c9 A;rw[al]at C;have a5:=zL bx;obtain⟨b6,ck,rfl,_⟩:=C.key.form;obtain⟨cb,be,rfl,_⟩:=C.kid.form;have cm:∀k,o k->k≠l+1+1:=λk m e=>by have:=N k m;have:=y.out;have:=r.out;omega
  have eg:=b8.out.1;have P:=λH (s:Far (·=l+1+1) f H)=>jc x _ _ b o H (C.key.far s (λk m _ e=>cm k m e)) (C.kid.far s (λk m _ e=>cm k m e)) ((b8.out.step p).far s (λk m e=>by have:=y.out;have:=r.out;omega)) (λk m=>zK (N k m) (Nat.le_trans p.size s.size)) (c3 x a5) (b5 x a5);unfold yH at P;unfold yH;obtain⟨R,d5⟩:∃R,xR x.x.s=U R:=⟨_,rfl⟩;rw[d5]at P ⊢;rw[al];have ch:=zD P;clear P C bx a5
  gi_wp2
  refine A _ _ ((ξ _ f).alloc _) ?_;intro bn S _ _;rw[T.out]at S c1;have E:Far xO f (f.alloc (J #[V I x.k,V I x.x.k,V I x.x.n,U R,Y b6 x.keys.length ck,Y cb x.kids.length be,V I b] 256)):=(ξ _ f).alloc _;have X:=(E.mono (D':=(·=l+1+1)) (λ_ _ e=>e.elim)).trans S;have cc:=S.heap (af f (J #[V I x.k,V I x.x.k,V I x.x.n,U R,Y b6 x.keys.length ck,Y cb x.kids.length be,V I b] 256)) (by omega);have b1:=X.heap u (by have:=y.out;omega);have cl:Below w.heap.size w bn:=p.trans (X.to_below p.size (λi a9 e=>by have:=y.out;have:=r.out;omega));have b0:=ch.out bn X;obtain⟨ct,ex,e2,en,d6,ei,e4,_⟩:=bd cc;obtain⟨cf,ac,M⟩:=zx3 b0 b1 cl;clear u p b1 cl S A E X cc b0 ch
  gi_wp2_with fail
  refine⟨trivial,(CallsIn.inRound _ (callsIn_wide.2 cf.out)).mono ?_⟩;rintro e dp ⟨rfl,ad⟩;have ca:A5 w o g (Y a b d) (q+1) b (t+1) xO dp:=⟨rfl,co,(ad.block _ (lt_of_heap ac.out)).trans ac.out,M.out.trans (ad.mono M.out.size)⟩;have b4:=Far.of_below ad xO;obtain⟨d0,cv⟩:=zx2 ca b4;clear ad ca b4 cf
  gi_wp2_with fail
  exact⟨xO,d0.out,cv.out,λ_ j=>j.elim⟩
 case done=>
  rintro bs f ⟨rfl,dn,u,p⟩ _ A c9;rw[T.out]at A ⊢;have ct:=ag u 0;have e3:=zF u 0 rfl;obtain⟨ac,M,df⟩:=zx3 u p A;clear u p A
  go_wp2_with fail
  have er:=y.out;have dc:=Below.heap_setCell f ⟨q+1,0,O⟩ .nilIface;refine au (q:=l+1) rfl ((dc _ (by show l+1≠q+1;omega)).trans df.out) ?_;intro H bm;have bb:=ae (bm.heap (ai ac.out 0 .nilIface) (by omega)) 0;refine⟨_,qy results119 H (q+1) _ bb rfl,rfl,?_⟩;have e0:=r.out;exact(M.out.setCell (by show w.heap.size<=q+1;omega) _).trans (bm.to_below (by simp[World.setCell];exact M.out.size) (λi a9 e=>by omega))
theorem iE(c:Nat)(f:NS)(g:List Tp.Nd)(v:Value)(w:World)(d:yc w f g v)(i:∀k,f k->k < w.heap.size)(q:Glob w)(l:yt g)(r:Tp.okGr c g=true):Calls π 83 #[γ #[V I (c:Int),v]] w λe w'=>e=ρ (.tuple #[V I 0,V I 0])/\Below w.heap.size w w':=by
 obtain⟨a,t,rfl,y⟩:=d.form;have b:Below w.heap.size w (w.alloc (J #[V I (c:Int),Y a g.length t] 54)):=(ζ _ w).alloc (η _) _;have o:=zD (mT c f g _ _ (d.below b) (λk s=>zK (i k s) b.size) (q.step b) l r);have m:=zD b;clear d i q l r b
 go_enter func83,ntmps83
 go_wp2_with fail
 refine o.out.mono ?_;rintro e x ⟨rfl,j⟩;have n:=zD (cR m.out j);clear j o m
 go_wp2_with fail
 refine(nZ _).mono ?_;rintro e z ⟨rfl,p⟩;have u:=cR n.out p;clear p n
 go_wp2_with fail
 go_ret2
 exact⟨rfl,u⟩
end
def funcs4(v:Value):Array Value:=#[φ (.func 21) #[v] #[],φ (.func 22) #[v] #[],φ (.func 23) #[v] #[],φ (.func 24) #[v] #[]]
theorem eb(x:Tp.Sc)(L:x.s.length<=1000)(y:x8 x=true)(w:World)(M:Glob w):Calls π 8 #[scV x] w λe w'=>e=ρ (.tuple #[xR (Tp.scText x),.int I 0])/\Below w.heap.size w w':=by
 obtain⟨k,n,s⟩:=x;have N:=fy ⟨k,n,s⟩ L;rw[y]at N;have i:=(ζ w.heap.size w).alloc (η _) (J #[.int I k,.int I n,xR s] 30);have m:=zD (N _ (M.step i));have T:=zD M;clear N M;unfold scV at m ⊢;simp only at m L;unfold xR at m i;rw[show xR s=U ⟨s.toArray⟩from rfl];obtain⟨b,ac⟩:∃b:ByteArray,(⟨s.toArray⟩:ByteArray)=b:=⟨_,rfl⟩;rw[ac]at m i ⊢;obtain⟨V,z⟩:∃V,xR (Tp.scText ⟨k,n,s⟩)=V:=⟨_,rfl⟩;rw[z];have al:=zD z;unfold x8 at y;have R:(U b:Value)=xR s:=by rw[<-ac];rfl
 have C:=zD R;clear R;by_cases S:k=0
 ·subst S
  go_enter func8,ntmps8
  go_wp2_with fail
  refine m.out.mono ?_;rintro e c ⟨rfl,f⟩;have a:=(f.block w.heap.size (by simp)).trans (af w _);have d:=i.trans (f.mono i.size);have r:=zF a 0 rfl;have H:=zF a 1 rfl;have E:=zF a 2 rfl;have g:=λW (A:Below w.heap.size w W)=>(show Calls π 21 #[γ #[.int I 0,.int I n,U b]] W λe w'=>e=ρ (xR (Tp.scText ⟨0,n,s⟩))/\Below W.heap.size W w' from by rw[C.out];exact tJ ⟨0,n,s⟩ W);rw[z]at g;have t:=zD g;have q:=d.size;have p:w.heap.size < c.heap.size:=lt_of_heap a;have G:∀o j:Obj,((c.alloc o).alloc j).cell? ⟨w.heap.size,0,O⟩=some (.int I 0):=λo j=>aK (by simp;omega) (aK p r);have u:=zD d;clear f d a g
  go_wp2_with fail
  have l:Below w.heap.size w ((c.alloc (Obj.cells #[.int I 0,.int I n,U b] 60)).alloc (Obj.cells (funcs4 (γ #[.int I 0,.int I n,U b])) 61)):=(u.out.alloc q _).alloc (by simp;omega) _;refine(t.out _ l).mono ?_;rintro e F ⟨rfl,v⟩
  go_wp2_with fail
  go_ret2
  exact⟨rfl,l.trans (v.mono (by simp;omega))⟩
 by_cases X:k=1
 ·subst X
  go_enter func8,ntmps8
  go_wp2_with fail
  refine m.out.mono ?_;rintro e c ⟨rfl,f⟩;have a:=(f.block w.heap.size (by simp)).trans (af w _);have d:=i.trans (f.mono i.size);have r:=zF a 0 rfl;have H:=zF a 1 rfl;have E:=zF a 2 rfl;have g:=λW (A:Below w.heap.size w W)=>(show Calls π 22 #[γ #[.int I 1,.int I n,U b]] W λe w'=>e=ρ (xR (Tp.scText ⟨1,n,s⟩))/\Below W.heap.size W w' from by rw[C.out];exact pM ⟨1,n,s⟩ W);rw[z]at g;have t:=zD g;have q:=d.size;have p:w.heap.size < c.heap.size:=lt_of_heap a;have G:∀o j:Obj,((c.alloc o).alloc j).cell? ⟨w.heap.size,0,O⟩=some (.int I 1):=λo j=>aK (by simp;omega) (aK p r);have u:=zD d;clear f d a g
  go_wp2_with fail
  have l:Below w.heap.size w ((c.alloc (Obj.cells #[.int I 1,.int I n,U b] 60)).alloc (Obj.cells (funcs4 (γ #[.int I 1,.int I n,U b])) 61)):=(u.out.alloc q _).alloc (by simp;omega) _;refine(t.out _ l).mono ?_;rintro e F ⟨rfl,v⟩
  go_wp2_with fail
  go_ret2
  exact⟨rfl,l.trans (v.mono (by simp;omega))⟩
 by_cases P:k=2
 ·subst P
  have D:-9223372036854775808<=n/\n<=9223372036854775807:=by simp at y;omega
  go_enter func8,ntmps8
  go_wp2_with fail
  refine m.out.mono ?_;rintro e c ⟨rfl,f⟩;have a:=(f.block w.heap.size (by simp)).trans (af w _);have d:=i.trans (f.mono i.size);have r:=zF a 0 rfl;have H:=zF a 1 rfl;have E:=zF a 2 rfl;have g:=λW (A:Below w.heap.size w W)=>(show Calls π 23 #[γ #[.int I 2,.int I n,U b]] W λe w'=>e=ρ (xR (Tp.scText ⟨2,n,s⟩))/\Below W.heap.size W w' from by rw[C.out];exact oP ⟨2,n,s⟩ D.1 D.2 W (T.out.step A));rw[z]at g;have t:=zD g;have q:=d.size;have p:w.heap.size < c.heap.size:=lt_of_heap a;have G:∀o j:Obj,((c.alloc o).alloc j).cell? ⟨w.heap.size,0,O⟩=some (.int I 2):=λo j=>aK (by simp;omega) (aK p r);have u:=zD d;clear f d a g
  go_wp2_with fail
  have l:Below w.heap.size w ((c.alloc (Obj.cells #[.int I 2,.int I n,U b] 60)).alloc (Obj.cells (funcs4 (γ #[.int I 2,.int I n,U b])) 61)):=(u.out.alloc q _).alloc (by simp;omega) _;refine(t.out _ l).mono ?_;rintro e F ⟨rfl,v⟩
  go_wp2_with fail
  go_ret2
  exact⟨rfl,l.trans (v.mono (by simp;omega))⟩
 by_cases ab:k=3
 ·subst ab
  have D:Ln.right s=true:=by simp at y;exact y.2
  go_enter func8,ntmps8
  go_wp2_with fail
  refine m.out.mono ?_;rintro e c ⟨rfl,f⟩;have a:=(f.block w.heap.size (by simp)).trans (af w _);have d:=i.trans (f.mono i.size);have r:=zF a 0 rfl;have H:=zF a 1 rfl;have E:=zF a 2 rfl;have g:=λW (A:Below w.heap.size w W)=>(show Calls π 24 #[γ #[.int I 3,.int I n,U b]] W λe w'=>e=ρ (xR (Tp.scText ⟨3,n,s⟩))/\Below W.heap.size W w' from by rw[C.out];exact pW ⟨3,n,s⟩ L D W (T.out.step A));rw[z]at g;have t:=zD g;have q:=d.size;have p:w.heap.size < c.heap.size:=lt_of_heap a;have G:∀o j:Obj,((c.alloc o).alloc j).cell? ⟨w.heap.size,0,O⟩=some (.int I 3):=λo j=>aK (by simp;omega) (aK p r);have u:=zD d;clear f d a g
  go_wp2_with fail
  have l:Below w.heap.size w ((c.alloc (Obj.cells #[.int I 3,.int I n,U b] 60)).alloc (Obj.cells (funcs4 (γ #[.int I 3,.int I n,U b])) 61)):=(u.out.alloc q _).alloc (by simp;omega) _;refine(t.out _ l).mono ?_;rintro e F ⟨rfl,v⟩
  go_wp2_with fail
  go_ret2
  exact⟨rfl,l.trans (v.mono (by simp;omega))⟩
 ·simp[S,X,P,ab]at y
end Go.Proofs.YtbikgdhbiebhcaaGreatDoor
namespace Tp
open Ln (right plainB)
def insK(x:Sc):List Sc->List Sc
 | []=>[x]
 |y::r=>if scLt x y then x::y::r else y::insK x r
def sortK(l:List Sc):List Sc:=l.foldl (λa x=>insK x a) []
theorem ir(p:Sc × Nat):∀l,(insert p l).length=l.length+1
 | []=>rfl
 |q::r=>by
  rw[insert];split
  ·rfl
  ·rw[zO,ir p r,zO]
theorem iq(p:Sc × Nat):∀l x,x∈insert p l↔x=p\/x∈l
 | [],x=>by simp[insert]
 |q::r,x=>by
  rw[insert];split
  ·simp
  ·rw[List.mem_cons,iq p r,List.mem_cons]
   constructor
   ·rintro (a|a|a)
    ·exact .inr (.inl a)
    ·exact .inl a
    ·exact .inr (.inr a)
   ·rintro (a|a|a)
    ·exact .inr (.inl a)
    ·exact .inl a
    ·exact .inr (.inr a)
theorem cW(l:List (Sc × Nat)):(sort l).length=l.length/\∀x,x∈sort l↔x∈l:=by
 have:∀(l a:List (Sc × Nat)),(l.foldl (λa p=>insert p a) a).length=l.length+a.length/\∀x,x∈l.foldl (λa p=>insert p a) a↔x∈l\/x∈a:=by
  intro l;induction l with
  |nil=>intro a;simp
  |cons p l ih=>
   intro a;rw[List.foldl_cons];obtain⟨d,c⟩:=ih (insert p a);refine⟨by rw[d,ir,zO];omega,λx=>?_⟩;rw[c,iq,List.mem_cons];constructor
   ·rintro (b|b|b)
    ·exact .inl (.inr b)
    ·exact .inl (.inl b)
    ·exact .inr b
   ·rintro ((b|b)|b)
    ·exact .inr (.inl b)
    ·exact .inl b
    ·exact .inr (.inr b)
 obtain⟨d,c⟩:=this l [];exact⟨by simpa [sort]using d,λx=>by simpa [sort]using c x⟩
theorem bg:∀(a b:B),(bLt a b=true/\bLt b a=false)\/(bLt a b=false/\bLt b a=true)\/(a=b/\bLt a b=false)
 | [],[]=>by simp[bLt]
 | [],_::_=>by simp[bLt]
 |_::_,[]=>by simp[bLt]
 |a::r,b::s=>by
  have d:=bg r s;simp only[bLt];rcases Nat.lt_trichotomy a.toNat b.toNat with c|c|c
  ·left;simp[c,show ¬b.toNat < a.toNat by omega,show ¬b.toNat=a.toNat by omega]
  ·have e:a=b:=UInt8.toNat_inj.1 c
   subst e
   simpa using d
  ·right;left;simp[c,show ¬a.toNat < b.toNat by omega,show ¬a.toNat=b.toNat by omega]
theorem lh:∀(a d e:B),bLt a d=true->bLt d e=true->bLt a e=true
 |_,_,[],_,h=>by cases ‹B›<;>simp[bLt]at h
 |_,[],_::_,h,_=>by simp[bLt]at h
 | [],_::_,_::_,_,_=>by simp[bLt]
 |a::r,d::s,e::t,c,b=>by
  simp only[bLt,Bool.or_eq_true,zQ,decide_eq_true_eq,beq_iff_eq]at c b ⊢;rcases c with c|⟨c,g⟩<;>rcases b with b|⟨b,f⟩
  ·left;omega
  ·left;omega
  ·left;omega
  ·exact .inr ⟨by omega,lh r s t g f⟩
theorem ec(a d e:Sc)(c:scLt a d=true)(b:scLt d e=true):scLt a e=true:=by
 simp only[scLt,Bool.or_eq_true,zQ,decide_eq_true_eq,beq_iff_eq]at c b ⊢;rcases c with c|⟨c,i|⟨i,g⟩⟩<;>rcases b with b|⟨b,f|⟨f,j⟩⟩
 ·left;omega
 ·left;omega
 ·left;omega
 ·left;omega
 ·right;exact⟨by omega,.inl (by omega)⟩
 ·right;exact⟨by omega,.inl (by omega)⟩
 ·left;omega
 ·right;exact⟨by omega,.inl (by omega)⟩
 ·right;exact⟨by omega,.inr ⟨by omega,lh _ _ _ g j⟩⟩
theorem gW(a d:Sc)(b:scLt a d=true):scLt d a=false:=by
 cases f:scLt d a with
 |false=>rfl
 |true=>
  have:=ec a d a b f;simp only[scLt,Bool.or_eq_true,zQ,decide_eq_true_eq,beq_iff_eq]at this;rcases this with b|⟨_,b|⟨_,b⟩⟩
  ·omega
  ·omega
  ·rcases bg a.s a.s with ⟨c,e⟩|⟨c,e⟩|⟨_,c⟩
   ·rw[b]at e;exact absurd e (by simp)
   ·rw[b]at c;exact absurd c (by simp)
   ·rw[b]at c;exact absurd c (by simp)
def risen(l:List Sc):Prop:=l.Pairwise λa b=>scLt b a=false
theorem nH(x:Sc):∀l b,b∈insK x l↔b=x\/b∈l
 | [],b=>by simp[insK]
 |q::r,b=>by
  rw[insK];split
  ·simp
  ·rw[List.mem_cons,nH x r,List.mem_cons]
   constructor
   ·rintro (a|a|a)
    ·exact .inr (.inl a)
    ·exact .inl a
    ·exact .inr (.inr a)
   ·rintro (a|a|a)
    ·exact .inr (.inl a)
    ·exact .inl a
    ·exact .inr (.inr a)
theorem iu(x:Sc):∀l,risen l->risen (insK x l)
 | [],_=>by simp[insK,risen]
 |y::r,h=>by
  obtain⟨b,c⟩:=List.pairwise_cons.1 h;rw[insK];split
  ·rename_i hx
   refine List.pairwise_cons.2 ⟨λz a=>?_,h⟩;rcases List.mem_cons.1 a with rfl|a
   ·exact gW _ _ hx
   ·cases d:scLt z x with
    |false=>rfl
    |true=>have:=ec z x y d hx;rw[b z a]at this;exact absurd this (by simp)
  ·rename_i hx
   refine List.pairwise_cons.2 ⟨λz a=>?_,iu x r c⟩;rcases (nH x r z).1 a with rfl|a
   ·simpa using hx
   ·exact b z a
theorem lS(l:List Sc):risen (sortK l):=by
 have:∀(l a:List Sc),risen a->risen (l.foldl (λa x=>insK x a) a):=by
  intro l;induction l with
  |nil=>intro a b;exact b
  |cons x l ih=>intro a b;exact ih _ (iu x a b)
 exact this l [] List.Pairwise.nil
end Tp
namespace Go.Proofs.YtbikgdhbiebhcaaGreatDoor
open Go.RowKit Tryz
theorem xM(s:ByteArray)(w:World):Calls π 68 #[U s] w λe w'=>e=ρ (β false)/\w'=w:=by
 go_enter func68,ntmps68
 go_wp2
 go_ret
 exact⟨by simp,rfl⟩
theorem dY:∀x c:List UInt8,Op.bytesLess x c=Tp.bLt x c
 | [],[]=>by simp[Op.bytesLess,Tp.bLt]
 |_::_,[]=>by simp[Op.bytesLess,Tp.bLt]
 | [],_::_=>by simp[Op.bytesLess,Tp.bLt]
 |a::x,b::c=>by
  rw[Op.bytesLess,Tp.bLt,dY x c];have e:decide (a < b)=decide (a.toNat < b.toNat):=by rw[Bool.eq_iff_iff];simp[UInt8.lt_iff_toNat_lt]
  have d:(a==b)=(a.toNat==b.toNat):=by rw[Bool.eq_iff_iff];simp[<-UInt8.toNat_inj]
  rw[e,d]
theorem up(a c:ByteArray)(w:World):Calls π 47 #[U a,U c] w λe w'=>e=ρ (V I (if Tp.bLt a.data.toList c.data.toList then -1 else if Tp.bLt c.data.toList a.data.toList then 1 else 0))/\w'=w:=by
 have j:Op.bytesLess a.toList c.toList=Tp.bLt a.data.toList c.data.toList:=by rw[dY,ByteArray.toList_eq,ByteArray.toList_eq]
 have i:(a.toList==c.toList)=(!Tp.bLt a.data.toList c.data.toList&&!Tp.bLt c.data.toList a.data.toList):=by
  rw[ByteArray.toList_eq,ByteArray.toList_eq];rcases Tp.bg a.data.toList c.data.toList with ⟨d,b⟩|⟨d,b⟩|⟨d,b⟩
  ·rw[d,b]
   rw[beq_eq_false_iff_ne.2 (λe=>by rw[e]at d b;rw[d]at b;cases b)];rfl
  ·rw[d,b]
   rw[beq_eq_false_iff_ne.2 (λe=>by rw[e]at d b;rw[d]at b;cases b)];rfl
  ·rw[d]at b ⊢
   rw[b];simp
 generalize Tp.bLt a.data.toList c.data.toList=f at *;generalize Tp.bLt c.data.toList a.data.toList=B at *
 go_enter func47,ntmps47
 cases f<;>cases B
 all_goals go_wp2_with (go_at_call 68;refine(xM _ _).mono ?_;rintro e g ⟨rfl,rfl⟩)
 all_goals go_ret
 all_goals exact⟨rfl,rfl⟩
theorem wC(xs:List Int)(g:Nat)(n:Nat)(m:xs.length=n)(z:n<=100)(w:World)(o:∀i x,xs[i]? =W x->w.cell? ⟨g,i,O⟩=W (V I x)):
 Calls π 45 #[Y (W ⟨g,0,O⟩) n n] w λe w'=>e=ρ (V I ((xs.find? (·≠0)).getD 0))/\w'=w:=by
 obtain⟨c,j⟩:∃c,(xs.find? (·≠0)).getD 0=c:=⟨_,rfl⟩;rw[j];obtain⟨r,s,l⟩:=zx3 j o m;clear j o m
 go_enter func45,ntmps45
 go_wp2_with fail
 go_loopw [2,5,8] (λ_ _ a wr=>∃i:Nat,a=V I (i:Int)/\wr=w/\i<=n/\((xs.drop i).find? (·≠0)).getD 0=c) (λ_ _ a _=>n - (Lib.intOf a).toNat)
 case atStart=>exact⟨0,rfl,rfl,z_ _,by rw[List.drop_zero];exact r.out⟩
 case round=>
  obtain⟨i,rfl,rfl,y,b⟩:=hrel;by_cases t:i < n
  ·have q:(i:Int) < (n:Int):=by omega
   obtain⟨d,f⟩:=fk xs i (by rw[l.out];exact t);have v:=s.out i _ f;rw[aE xs i d f,List.find?_cons]at b;have u:IntKind.i64.wrap ((i:Int)+1)=(i:Int)+1:=zU _ (by omega);clear f;by_cases k:d=0
   ·subst k
    simp only[ne_eq,not_true_eq_false,decide_false]at b
    go_wp2_with fail
    go_roundw
    case rel=>exact⟨i+1,by simp,trivial,by omega,by simpa using b⟩
    case measure=>simp[Lib.intOf];omega
   ·rw[show decide (d≠0)=true by simpa using k]at b
    obtain rfl:d=c:=by simpa using b
    go_wp2_with fail
    go_ret
    exact⟨rfl,rfl⟩
  ·have q:¬(i:Int) < (n:Int):=by omega
   have p:c=0:=by
    rw[<-b,List.drop_eq_nil_of_le (by rw[l.out];omega)];rfl
   subst p
   go_wp2_with fail
   go_ret
   exact⟨rfl,rfl⟩
def za(a b:Tp.Sc):Int:=if Tp.scLt a b then -1 else if Tp.scLt b a then 1 else 0
theorem xp(a b:Tp.Sc):eqL a.k a.n ⟨a.s.toArray⟩ b.k b.n ⟨b.s.toArray⟩=decide (a=b):=by
 rw[jp];obtain⟨k,n,s⟩:=a;obtain⟨e,c,d⟩:=b;rw[Bool.eq_iff_iff];simp[and_assoc]
theorem sD(a c:Tp.Sc)(l:a≠c):(([Lib.compareInt a.k c.k,Lib.compareInt a.n c.n,if Tp.bLt a.s c.s then -1 else if Tp.bLt c.s a.s then 1 else 0]:List Int).find? (·≠0)).getD 0=za a c:=by
 obtain⟨k,n,s⟩:=a;obtain⟨i,g,j⟩:=c;simp only;unfold za Tp.scLt Lib.compareInt;simp only;rcases Int.lt_trichotomy k i with d|d|d
 ·simp[d]
 ·subst d
  rcases Int.lt_trichotomy n g with f|f|f
  ·simp[f]
  ·subst f
   rcases Tp.bg s j with ⟨e,b⟩|⟨e,b⟩|⟨e,b⟩
   ·simp[e,b]
   ·simp[e,b]
   ·subst e;exact absurd rfl l
  ·have:¬n < g:=by omega
   have b:¬n=g:=by omega
   have m:¬g=n:=by omega
   simp[f,this,b]
 ·have:¬k < i:=by omega
  have b:¬k=i:=by omega
  simp[d,this,b]
theorem mQ(a b:Tp.Sc)(w:World):Calls π 28 #[scV a,scV b] w λe w'=>e=ρ (V I (za a b))/\Below w.heap.size w w':=by
 have y:=xp a b;have f:=sD a b;have m:a=b->za a b=0:=by
  intro e;subst e;unfold za;have:Tp.scLt a a=false:=by
   cases F:Tp.scLt a a with
   |false=>rfl
   |true=>have:=Tp.gW a a F;rw[F]at this;cases this
  rw[this];rfl
 have t:=up ⟨a.s.toArray⟩ ⟨b.s.toArray⟩;rw[eR,eR]at t;unfold scV xR;obtain⟨E,G⟩:∃E,za a b=E:=⟨_,rfl⟩;rw[G]at f m ⊢;generalize (if Tp.bLt a.s b.s then (-1:Int)else if Tp.bLt b.s a.s then 1 else 0)=c3 at *;obtain⟨k,n,s⟩:=a;obtain⟨d,c,z⟩:=b;simp only at f t y ⊢;generalize (⟨s.toArray⟩:ByteArray)=g at *;generalize (⟨z.toArray⟩:ByteArray)=o at *;clear G;have u:Below w.heap.size w ((w.alloc (J #[V I k,V I n,U g] 30)).alloc (J #[V I d,V I c,U o] 30)):=((ζ _ _).alloc (η _) _).alloc (by simp) _;by_cases j:(⟨k,n,s⟩:Tp.Sc)=⟨d,c,z⟩
 ·have m:=m j
  rw[decide_eq_true j]at y;subst m
  go_enter func28,ntmps28
  go_wp2_with fail
  go_ret
  exact⟨rfl,u⟩
 ·have f:=f j
  rw[decide_eq_false j]at y;obtain⟨T,M,A⟩:=zx3 t f u;have p:((w.alloc (J #[V I k,V I n,U g] 30)).alloc (J #[V I d,V I c,U o] 30)).heap[w.heap.size]? =_:=aa _ (af w _);have r:((w.alloc (J #[V I k,V I n,U g] 30)).alloc (J #[V I d,V I c,U o] 30)).heap[w.heap.size+1]? =_:=ah _ _ (w.heap.size+1) (by simp);clear t f m j u
  go_enter func28,ntmps28
  go_wp2_with fail
  generalize (w.alloc (J #[V I k,V I n,U g] 30)).alloc (J #[V I d,V I c,U o] 30)=l at *;have X:=zF p 0 rfl;have ab:=zF p 1 rfl;have ac:=zF p 2 rfl;have P:=zF r 0 rfl;have L:=zF r 1 rfl;have S:=zF r 2 rfl;have v:=wC [Lib.compareInt k d,Lib.compareInt n c,c3] l.heap.size 3 rfl (by omega) (l.alloc (J #[V I (Lib.compareInt k d),V I (Lib.compareInt n c),V I c3] 3)).drew (by
   intro i x q;show (l.alloc _).cell? _=_;rw[ae (af l _) i];rcases i with _|_|_|i
   ·simpa using q
   ·simpa using q
   ·simpa using q
   ·simp at q)
  rw[M.out]at v;have H:=zD v;have N:=A.out.size;have C:Below w.heap.size w (l.alloc (J #[V I (Lib.compareInt k d),V I (Lib.compareInt n c),V I c3] 3)).drew:=(A.out.alloc N _).drew;have R:=zD C;clear p r v C
  go_region_held3 (λw'=>w'.cell? ⟨w.heap.size,0,O⟩=W (V I k)/\w'.cell? ⟨w.heap.size,1,O⟩=W (V I n)/\w'.cell? ⟨w.heap.size,2,O⟩=W (U g)/\w'.cell? ⟨w.heap.size+1,0,O⟩=W (V I d)/\w'.cell? ⟨w.heap.size+1,1,O⟩=W (V I c)/\w'.cell? ⟨w.heap.size+1,2,O⟩=W (U o)) (first|(with_reducible exact⟨X,ab,ac,P,L,S⟩)|go_keep) (first
   |(go_at_call 47;refine(T.out _).mono ?_;rintro e D ⟨rfl,rfl⟩)
   |(go_at_call 46;refine(cmp_Compare_int _ _ _).mono ?_;rintro e D ⟨rfl,rfl⟩)
   |(go_at_call 45;refine H.out.mono ?_;rintro e D ⟨rfl,rfl⟩))
  go_wp2_with fail
  go_ret
  exact⟨rfl,R.out⟩
section
section
variable {α:Type} (f:α->Tp.Sc)
def zg(p:α):List α->List α
 | []=>[p]
 |q::r=>if Tp.scLt (f p) (f q)then p::q::r else q::zg p r
def yq(l:List α):List α:=l.foldl (λa p=>zg f p a) []
theorem nJ(p:α):∀l,(zg f p l).map f=Tp.insK (f p) (l.map f)
 | []=>rfl
 |q::r=>by
  rw[zg,List.map_cons,Tp.insK];split
  ·rfl
  ·rw[List.map_cons,nJ p r]
theorem p9(l:List α):(yq f l).map f=Tp.sortK (l.map f):=by
 have:∀(l a:List α),(l.foldl (λa p=>zg f p a) a).map f=(l.map f).foldl (λa x=>Tp.insK x a) (a.map f):=by
  intro l;induction l with
  |nil=>intro a;rfl
  |cons x l ih=>intro a;rw[List.foldl_cons,ih,List.map_cons,List.foldl_cons,nJ]
 exact this l []
theorem nI(p:α):∀b B:List α,(∀a∈b,Tp.scLt (f p) (f a)=false)->(∀c,B.head? =W c->Tp.scLt (f p) (f c)=true)->zg f p (b++B)=b++p::B
 | [],[],_,_=>rfl
 | [],c::B,_,h=>by rw[List.nil_append,zg,if_pos (h c rfl)];rfl
 |a::b,B,h,h'=>by
  rw[List.cons_append,zg,if_neg (by rw[h a (by simp)];simp),nI p b B (λx d=>h x (by simp[d])) h'];rfl
theorem tf(p l a:Tp.Sc)(e:Tp.scLt p l=false)(g:Tp.scLt l a=false):Tp.scLt p a=false:=by
 cases i:Tp.scLt p a with
 |false=>rfl
 |true=>
  have j:Tp.scLt a l=true\/a=l:=by
   simp only[Tp.scLt,Bool.or_eq_false_iff,Bool.and_eq_false_iff,decide_eq_false_iff_not,beq_eq_false_iff_ne]at g;by_cases m:a.k < l.k
   ·left;simp[Tp.scLt,m]
   ·by_cases d:a.k=l.k
    ·rcases g.2 with b|b
     ·exact absurd d.symm b
     ·by_cases o:a.n < l.n
      ·left;simp[Tp.scLt,d,o]
      ·by_cases f:a.n=l.n
       ·rcases b.2 with b|b
        ·exact absurd f.symm b
        ·rcases Tp.bg a.s l.s with c|c|c
         ·left;simp[Tp.scLt,d,f,c.1]
         ·rw[c.2]at b;cases b
         ·right
          obtain⟨k,n,s⟩:=a;obtain⟨t,q,r⟩:=l;simp only at d f c;rw[d,f,c.1]
       ·omega
    ·omega
  rcases j with b|rfl
  ·rw[Tp.ec p a l i b]at e;cases e
  ·rw[i]at e;cases e
theorem rq(p:α)(e c B:List α)(m:c++B=e)(d:Tp.risen (e.map f))(j:∀a,c.getLast? =W a->Tp.scLt (f p) (f a)=false)(n:∀i,B.head? =W i->Tp.scLt (f p) (f i)=true):zg f p e=c++p::B:=by
 subst m;refine nI f p c B (λa b=>?_) n;rcases List.eq_nil_or_concat c with rfl|⟨o,l,rfl⟩
 ·simp at b
 ·rw[List.concat_eq_append]at b j d
  have g:=j l (by simp);rcases List.mem_append.1 b with b|b
  ·refine tf _ _ _ g ?_
   unfold Tp.risen at d;simp only[List.map_append,List.append_assoc]at d;have k:=(List.pairwise_append.1 d).2.2 (f a) (List.mem_map.2 ⟨a,b,rfl⟩) (f l) (by simp);exact k
  ·simp at b
   rw[b];exact g
theorem lT(l:List α):Tp.risen ((yq f l).map f):=by rw[p9];exact Tp.lS _
theorem od(l:List α)(i:Nat)(p:α)(a:l[i]? =W p):yq f (l.take (i+1))=zg f p (yq f (l.take i)):=by
 unfold yq;rw[zG,a,List.foldl_append];rfl
theorem nK(p:α):∀l,(zg f p l).length=l.length+1
 | []=>rfl
 |q::r=>by
  rw[zg];split
  ·rfl
  ·rw[zO,nK p r,zO]
theorem cg(l:List α):(yq f l).length=l.length:=by
 have:∀(l a:List α),(l.foldl (λa p=>zg f p a) a).length=a.length+l.length:=by
  intro l;induction l with
  |nil=>intro a;rfl
  |cons x l ih=>intro a;rw[List.foldl_cons,ih,nK,zO];omega
 have b:=this l [];rw[List.length_nil,Nat.zero_add]at b;exact b
end
theorem kL(p:Tp.Sc × Nat):∀l,zg Prod.fst p l=Tp.insert p l
 | []=>rfl
 |q::r=>by rw[zg,Tp.insert,kL p r]
theorem ce(l:List (Tp.Sc × Nat)):yq Prod.fst l=Tp.sort l:=by
 unfold yq Tp.sort;congr 1
 funext a p
 exact kL p a
def PR(w:World)(g:Nat)(c:List Value):Prop:=∃a T,w.heap[g]? =W (J a T (0,0))/\∀(i:Nat) (b:Value),c[i]? =W b->a[i]? =W b
theorem aQ{w:World}{g:Nat}{d:List Value}(f:PR w g d)(i:Nat)(b:Value):PR (w.setCell ⟨g,i,O⟩ b) g (d.set i b):=by
 obtain⟨m,T,k,c⟩:=f;refine⟨_,T,ai k i b,λj v a=>?_⟩;rw[List.getElem?_set]at a;split at a
 ·rename_i e
  subst e;split at a
  ·rename_i hl
   have:=c i _ (zE hl);have l:=(Array.getElem?_eq_some_iff.1 this).1;simp[Array.getElem?_setIfInBounds,l]
   simpa using a
  ·cases a
 ·rename_i e
  rw[Array.getElem?_setIfInBounds_ne e];exact c j v a
theorem PR.cell{w:World}{g:Nat}{b:List Value}(c:PR w g b){i:Nat}{a:Value}(f:b[i]? =W a):w.cell? ⟨g,i,O⟩=W a:=by
 obtain⟨j,T,e,d⟩:=c;exact(ae e i).trans (d i a f)
theorem PR.frozen{w:World}{g:Nat}{b:List Value}(a:PR w g b)(i:Nat):w.frozen? ⟨g,i,O⟩=false:=by
 obtain⟨d,T,c,e⟩:=a;exact ag c i
theorem PR.far{D:NS}{w w':World}{g:Nat}{a:List Value}(d:PR w g a)(c:Far D w w')(i:¬D g):PR w' g a:=by
 obtain⟨b,T,f,e⟩:=d;exact⟨b,T,c.heap f i,e⟩
theorem PR.lt{w:World}{g:Nat}{b:List Value}(a:PR w g b):g < w.heap.size:=by
 obtain⟨d,T,c,e⟩:=a;exact lt_of_heap c
theorem xf{w:World}{g m k:Nat}{X l:List Value}{a d e i c b f j:Value}(n:PR w g (X++[a,d,e,i,c,b,f,j]++l))(o:X.length=m)(q:m+4=k):
 (PR ((((((((w.setCell ⟨g,m,O⟩ c).setCell ⟨g,m+1,O⟩ b).setCell ⟨g,m+2,O⟩ f).setCell ⟨g,m+3,O⟩ j).setCell ⟨g,k,O⟩ a).setCell ⟨g,k+1,O⟩ d).setCell ⟨g,k+2,O⟩ e).setCell ⟨g,k+3,O⟩ i) g (X++[c,b,f,j,a,d,e,i]++l)/\Far (·=g) w ((((((((w.setCell ⟨g,m,O⟩ c).setCell ⟨g,m+1,O⟩ b).setCell ⟨g,m+2,O⟩ f).setCell ⟨g,m+3,O⟩ j).setCell ⟨g,k,O⟩ a).setCell ⟨g,k+1,O⟩ d).setCell ⟨g,k+2,O⟩ e).setCell ⟨g,k+3,O⟩ i))/\(PR ((((((((w.setCell ⟨g,k,O⟩ a).setCell ⟨g,k+1,O⟩ d).setCell ⟨g,k+2,O⟩ e).setCell ⟨g,k+3,O⟩ i).setCell ⟨g,m,O⟩ c).setCell ⟨g,m+1,O⟩ b).setCell ⟨g,m+2,O⟩ f).setCell ⟨g,m+3,O⟩ j) g (X++[c,b,f,j,a,d,e,i]++l)/\Far (·=g) w ((((((((w.setCell ⟨g,k,O⟩ a).setCell ⟨g,k+1,O⟩ d).setCell ⟨g,k+2,O⟩ e).setCell ⟨g,k+3,O⟩ i).setCell ⟨g,m,O⟩ c).setCell ⟨g,m+1,O⟩ b).setCell ⟨g,m+2,O⟩ f).setCell ⟨g,m+3,O⟩ j)):=by
 subst o q;refine⟨⟨?_,(((((((((ξ (·=g) w).setCell (p:=⟨g,_,O⟩) (λ_=>rfl) c).setCell (p:=⟨g,_,O⟩) (λ_=>rfl) b).setCell (p:=⟨g,_,O⟩) (λ_=>rfl) f).setCell (p:=⟨g,_,O⟩) (λ_=>rfl) j).setCell (p:=⟨g,_,O⟩) (λ_=>rfl) a).setCell (p:=⟨g,_,O⟩) (λ_=>rfl) d).setCell (p:=⟨g,_,O⟩) (λ_=>rfl) e).setCell (p:=⟨g,_,O⟩) (λ_=>rfl) i)⟩,⟨?_,(((((((((ξ (·=g) w).setCell (p:=⟨g,_,O⟩) (λ_=>rfl) a).setCell (p:=⟨g,_,O⟩) (λ_=>rfl) d).setCell (p:=⟨g,_,O⟩) (λ_=>rfl) e).setCell (p:=⟨g,_,O⟩) (λ_=>rfl) i).setCell (p:=⟨g,_,O⟩) (λ_=>rfl) c).setCell (p:=⟨g,_,O⟩) (λ_=>rfl) b).setCell (p:=⟨g,_,O⟩) (λ_=>rfl) f).setCell (p:=⟨g,_,O⟩) (λ_=>rfl) j)⟩⟩
 ·have:=(aQ (aQ (aQ (aQ (aQ (aQ (aQ (aQ n (X.length) c) (X.length+1) b) (X.length+2) f) (X.length+3) j) ((X.length+4)) a) ((X.length+4)+1) d) ((X.length+4)+2) e) ((X.length+4)+3) i)
  simpa [List.set_append_right,Nat.add_assoc]using this
 ·have:=(aQ (aQ (aQ (aQ (aQ (aQ (aQ (aQ n ((X.length+4)) a) ((X.length+4)+1) d) ((X.length+4)+2) e) ((X.length+4)+3) i) (X.length) c) (X.length+1) b) (X.length+2) f) (X.length+3) j)
  simpa [List.set_append_right,Nat.add_assoc]using this
end
end Go.Proofs.YtbikgdhbiebhcaaGreatDoor
